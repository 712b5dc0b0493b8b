/- Package print: inst; contract; the contracts of ops.Makes, Takes, Word at any operation. -/
import Derived.Test.YtjllbchfojonhaaGreatDoorShape
import Derived.Test.YtjllbchfojonhaaGreatDoorB3
import Derived.Deep.RegionHeld3
set_option linter.unusedVariables false
set_option linter.unusedSimpArgs false
set_option maxRecDepth 100000
set_option maxHeartbeats 200000000
namespace Go.Proofs.YtjllbchfojonhaaGreatDoor
open Go.RowKit
theorem qz:∀k:Nat,k<27→(dh k).size≤100∧(dh k).data.toList.all (fun c=>decide (c.toNat<128))=true:=by decide+kernel
theorem takes_ascii (k:Nat) (hk:k<27) (j:Nat) (hj:j<(dh k).size):((dh k)[j]'hj).toNat<128:=by
 have h:=(qz k hk).2;rw[List.all_eq_true]at h;have h':j<(dh k).data.toList.length:=(by rw[Array.length_toList];exact hj);have:=h _ (List.getElem_mem h');exact of_decide_eq_true this
theorem takes_in (k:Nat) (hk:k<27) (w:World):Calls Tryz.prog 74 #[.int .i64 k] w fun e w'=>∃v,e= .returned v∧w'.ownsRow w.heap.size 81 1 v (dh k).size (tcells (dh k) (dh k).size)∧ai w w' []:=
 takes_any k (jb k) (jq k) (dh k) (qz k hk).1 (takes_ascii k hk) (of_yes k hk) w
theorem takes_len (k:Nat) (hk:k<27) (w:World):Calls Tryz.prog 74 #[.int .i64 k] w fun e w'=>∃va vc,e= .returned (.slice va (dh k).size vc)∧ai w w' []:=by
 refine(takes_in k hk w).mono ?_;rintro e w' ⟨v,rfl,ho,k1⟩;obtain⟨va,vc,rfl,_⟩:=cr ho;exact⟨va,vc,rfl,k1⟩
theorem kmakes_form:∀k:Nat,k<27→jq k=⟨#[]⟩∨∃c:UInt8,jq k=⟨#[c]⟩∧c.toNat<128:=by
 intro k hk
 match k,hk with
 |0,_=>exact .inr ⟨_,rfl,by decide⟩
 |1,_=>exact .inr ⟨_,rfl,by decide⟩
 |2,_=>exact .inr ⟨_,rfl,by decide⟩
 |3,_=>exact .inr ⟨_,rfl,by decide⟩
 |4,_=>exact .inr ⟨_,rfl,by decide⟩
 |5,_=>exact .inr ⟨_,rfl,by decide⟩
 |6,_=>exact .inr ⟨_,rfl,by decide⟩
 |7,_=>exact .inr ⟨_,rfl,by decide⟩
 |8,_=>exact .inr ⟨_,rfl,by decide⟩
 |9,_=>exact .inr ⟨_,rfl,by decide⟩
 |10,_=>exact .inr ⟨_,rfl,by decide⟩
 |11,_=>exact .inr ⟨_,rfl,by decide⟩
 |12,_=>exact .inr ⟨_,rfl,by decide⟩
 |13,_=>exact .inr ⟨_,rfl,by decide⟩
 |14,_=>exact .inl rfl
 |15,_=>exact .inr ⟨_,rfl,by decide⟩
 |16,_=>exact .inr ⟨_,rfl,by decide⟩
 |17,_=>exact .inl rfl
 |18,_=>exact .inl rfl
 |19,_=>exact .inl rfl
 |20,_=>exact .inl rfl
 |21,_=>exact .inl rfl
 |22,_=>exact .inl rfl
 |23,_=>exact .inl rfl
 |24,_=>exact .inl rfl
 |25,_=>exact .inr ⟨_,rfl,by decide⟩
 |26,_=>exact .inr ⟨_,rfl,by decide⟩
 |n+27,h=>exact absurd h (by omega)
theorem makes_in (k:Nat) (hk:k<27) (w:World):Calls Tryz.prog 97 #[.int .i64 k] w fun e w'=>e= .returned (.tuple #[.int .i64 (if mk1 k=true then mkT k else 0),.bool (mk1 k)])∧ai w w' []:=by
 rcases kmakes_form k hk with h|⟨c,h,hc⟩
 ·have C:=makes_none k (jb k) (dh k) (by rw[←h];exact of_yes k hk) w;have e1:mk1 (k:Int)=false:=(by show(!((jq ((k:Int).toNat)).size==0))=false;rw[show(k:Int).toNat=k from rfl,h];rfl);rw[e1];exact C
 ·have C:=makes_some k (jb k) (dh k) c hc (by rw[←h];exact of_yes k hk) w;have e1:mk1 (k:Int)=true:=(by show(!((jq ((k:Int).toNat)).size==0))=true;rw[show(k:Int).toNat=k from rfl,h];rfl);have e2:mkT (k:Int)=Af c.toNat:=(by show Af ((jq ((k:Int).toNat)).data.toList[0]!).toNat=_;rw[show(k:Int).toNat=k from rfl,h];rfl);rw[e1,if_pos rfl,e2];exact C
theorem makes_out (op:Int) (h:op<0∨27≤op) (w:World):Calls Tryz.prog 97 #[.int .i64 op] w fun e w'=>e= .returned (.tuple #[.int .i64 0,.bool false])∧ai w w' []:=
 makes_none op ⟨#[]⟩ ⟨#[]⟩ (of_no op h) w
theorem kword_ne (k:Nat) (hk:k<27):(jb k).toList.isEmpty=false:=by
 match k,hk with
 |0,_=>exact by rw[ByteArray.toList_eq];rfl
 |1,_=>exact by rw[ByteArray.toList_eq];rfl
 |2,_=>exact by rw[ByteArray.toList_eq];rfl
 |3,_=>exact by rw[ByteArray.toList_eq];rfl
 |4,_=>exact by rw[ByteArray.toList_eq];rfl
 |5,_=>exact by rw[ByteArray.toList_eq];rfl
 |6,_=>exact by rw[ByteArray.toList_eq];rfl
 |7,_=>exact by rw[ByteArray.toList_eq];rfl
 |8,_=>exact by rw[ByteArray.toList_eq];rfl
 |9,_=>exact by rw[ByteArray.toList_eq];rfl
 |10,_=>exact by rw[ByteArray.toList_eq];rfl
 |11,_=>exact by rw[ByteArray.toList_eq];rfl
 |12,_=>exact by rw[ByteArray.toList_eq];rfl
 |13,_=>exact by rw[ByteArray.toList_eq];rfl
 |14,_=>exact by rw[ByteArray.toList_eq];rfl
 |15,_=>exact by rw[ByteArray.toList_eq];rfl
 |16,_=>exact by rw[ByteArray.toList_eq];rfl
 |17,_=>exact by rw[ByteArray.toList_eq];rfl
 |18,_=>exact by rw[ByteArray.toList_eq];rfl
 |19,_=>exact by rw[ByteArray.toList_eq];rfl
 |20,_=>exact by rw[ByteArray.toList_eq];rfl
 |21,_=>exact by rw[ByteArray.toList_eq];rfl
 |22,_=>exact by rw[ByteArray.toList_eq];rfl
 |23,_=>exact by rw[ByteArray.toList_eq];rfl
 |24,_=>exact by rw[ByteArray.toList_eq];rfl
 |25,_=>exact by rw[ByteArray.toList_eq];rfl
 |26,_=>exact by rw[ByteArray.toList_eq];rfl
 |n+27,h=>exact absurd h (by omega)
theorem inst_out (f:ax) (x:cu) (w:World) (hf:cz w f) (hp:uu w x) (h:x.op<0∨27≤x.op):Calls Tryz.prog 91 #[f.val,.agg #[.int .i64 x.op,.int .i64 x.dst,x.args.1,.int .i64 x.num]] w fun e w'=>e= .returned (.bool (lg f x))∧ai w w' []:=by
 have CW:=ag (fun w=>word_no x.op h w);have CM:=ag (fun w=>makes_out x.op h w)
 have HX:Hid (lg f x=false):=by
  show _=_;unfold lg;rcases h with h|h
  ·rw[decide_eq_false (by omega)];simp
  ·rw[decide_eq_false (show ¬x.op<27 by omega)];simp
 obtain⟨a0,c0,a1,c1,a2,c2,e0,e1,e2⟩:=hf.shape2;obtain⟨s1,d1,e3,_⟩:=bu.open_ hp;have hval:f.val= .agg #[.slice a0 f.nv c0,.slice a1 f.np c1,.slice a2 f.nb c2]:=(by unfold ax.val;rw[e0,e1,e2]);rw[hval,e3];clear hf hp e0 e1 e2 e3 hval h;generalize lg f x=IB at*;generalize f.nv=nv at*;generalize f.np=np at*;generalize f.nb=nb at*;generalize x.args.2.length=na at*;generalize x.op=op at*;generalize x.dst=dst at*;generalize x.num=num at*;have hk0:ai w (w.alloc (.cells #[.slice a0 nv c0,.slice a1 np c1,.slice a2 nb c2] 26)) []:=(ai.refl _ []).alloc _;have bb0:=Blk.new w 26 #[.slice a0 nv c0,.slice a1 np c1,.slice a2 nb c2];have hk1:ai (w.alloc (.cells #[.slice a0 nv c0,.slice a1 np c1,.slice a2 nb c2] 26)) ((w.alloc (.cells #[.slice a0 nv c0,.slice a1 np c1,.slice a2 nb c2] 26)).alloc (.cells #[.int .i64 op,.int .i64 dst,.slice s1 na d1,.int .i64 num] 43)) []:=(ai.refl _ []).alloc _;have bb1:=Blk.new (w.alloc (.cells #[.slice a0 nv c0,.slice a1 np c1,.slice a2 nb c2] 26)) 43 #[.int .i64 op,.int .i64 dst,.slice s1 na d1,.int .i64 num];rw[show(w.alloc (.cells #[.slice a0 nv c0,.slice a1 np c1,.slice a2 nb c2] 26)).heap.size=w.heap.size+1 by show(Array.push _ _).size=_;simp[Array.size_push]]at bb1;have Bl:=ag (bb0.keep hk1 (by simp));have Bm:=ag bb1;have HK:=ag (hk0.ak hk1);obtain⟨l0,l1,l2⟩:=Bl.o.c3;obtain⟨m0,m1,m2,m3⟩:=Bm.o.c4;simp at l0 l1 l2 m0 m1 m2 m3;clear hk0 hk1 bb0 bb1;go_enter Tryz.func91,Tryz.ntmps91;go_wp2_with (go_at_call 97;refine(CM.o _).mono ?_;rintro e w3 ⟨rfl,k3⟩;clear l0 l1 l2 m0 m1 m2 m3;replace Bl:=Bl.kb k3;replace Bm:=Bm.kb k3;replace HK:=HK.kt k3;obtain⟨l0,l1,l2⟩:=Bl.o.c3;obtain⟨m0,m1,m2,m3⟩:=Bm.o.c4;simp at l0 l1 l2 m0 m1 m2 m3;clear k3)
 refine wp_region_held_drew (S:=(fun w'=>w'.cell? ⟨w.heap.size,0,none⟩=some (.slice a0 nv c0)∧w'.cell? ⟨w.heap.size,1,none⟩=some (.slice a1 np c1)∧w'.cell? ⟨w.heap.size,2,none⟩=some (.slice a2 nb c2)∧w'.cell? ⟨w.heap.size+1,0,none⟩=some (.int .i64 op)∧w'.cell? ⟨w.heap.size+1,1,none⟩=some (.int .i64 dst)∧w'.cell? ⟨w.heap.size+1,2,none⟩=some (.slice s1 na d1)∧w'.cell? ⟨w.heap.size+1,3,none⟩=some (.int .i64 num))) (by kernel_rfl) ?ahSs (fun ah=> ?_)
 case ahSs=>exact⟨l0,l1,l2,m0,m1,m2,m3⟩
 clear l0 l1 l2 m0 m1 m2 m3;replace Bl:=ag (Bl.o.keep ((ai.refl _ []).drew) (by simp));replace Bm:=ag (Bm.o.keep ((ai.refl _ []).drew) (by simp));replace HK:=ag (HK.o.drew);generalize World.drew _=X0 at*;obtain⟨l0,l1,l2⟩:=Bl.o.c3;obtain⟨m0,m1,m2,m3⟩:=Bm.o.c4;simp at l0 l1 l2 m0 m1 m2 m3;refine tp 0 14 rfl ah ?_;refine tp 1 15 rfl ah ?_;refine t1 2 fun K hK=> ?_;go_simp
 (with_reducible refine(CW.o _).mono ?_)
 rintro e wx ⟨rfl,k3⟩;show K _ _;clear ah;clear l0 l1 l2 m0 m1 m2 m3;replace Bl:=Bl.kb k3;replace Bm:=Bm.kb k3;replace HK:=HK.kt k3;obtain⟨l0,l1,l2⟩:=Bl.o.c3;obtain⟨m0,m1,m2,m3⟩:=Bm.o.c4;simp at l0 l1 l2 m0 m1 m2 m3;clear k3;refine hK.out _ _ (by exact⟨l0,l1,l2,m0,m1,m2,m3⟩) fun ah=> ?_;clear hK K;try simp only[Act.put,sA,sB,sC]
 refine tp 3 17 rfl ah ?_;refine tp 4 18 rfl ah ?_;refine tu 5 ⟨some 19,.fieldAddr 43 (.tmp 3) 2,_,_,_,_⟩ rfl ah ?_;refine tu 6 ⟨some 20,.load 23 (.tmp 19),_,_,_,_⟩ rfl ah ?_;refine tu 7 ⟨some 21,.call ⟨.builtin .len,#[.tmp 20],#[23]⟩,_,_,_,_⟩ rfl ah ?_;refine tu 8 ⟨some 22,.fieldAddr 43 (.tmp 3) 0,_,_,_,_⟩ rfl ah ?_;refine tu 9 ⟨some 23,.load 41 (.tmp 22),_,_,_,_⟩ rfl ah ?_;refine tu 10 ⟨some 24,.call ⟨.value (.func 74),#[.tmp 23],#[41]⟩,_,_,_,_⟩ rfl ah ?_;refine tu 11 ⟨some 25,.call ⟨.builtin .len,#[.tmp 24],#[133]⟩,_,_,_,_⟩ rfl ah ?_;refine tu 12 ⟨some 26,.binOp BinOp.neq 3 (.tmp 21) (.tmp 25) 3,_,_,_,_⟩ rfl ah ?_;refine tp 13 27 rfl ah ?_;refine tp 14 28 rfl ah ?_;refine tu 15 ⟨some 29,.load 26 (.tmp 2),_,_,_,_⟩ rfl ah ?_;refine tu 16 ⟨some 30,.fieldAddr 43 (.tmp 3) 2,_,_,_,_⟩ rfl ah ?_;refine tu 17 ⟨some 31,.load 23 (.tmp 30),_,_,_,_⟩ rfl ah ?_;refine tu 18 ⟨some 32,.call ⟨.value (.func 118),#[.tmp 29,.tmp 31],#[26,23]⟩,_,_,_,_⟩ rfl ah ?_;refine tu 19 ⟨some 33,.unOp UnOp.not 4 (.tmp 32),_,_,_,_⟩ rfl ah ?_;refine tp 20 34 rfl ah ?_;refine tp 21 13 rfl ah ?_;refine wpAnyH_done (by kernel_rfl) ?_ _;clear ah;go_wp2;go_ret;exact⟨ay (by rw[HX.o]),HK.o⟩
theorem inst_in (f:ax) (x:cu) (k:Nat) (hk:k<27) (ho:x.op=k) (w:World) (hf:cz w f) (hp:uu w x):Calls Tryz.prog 91 #[f.val,.agg #[.int .i64 x.op,.int .i64 x.dst,x.args.1,.int .i64 x.num]] w fun e w'=>e= .returned (.bool (lg f x))∧ai w w' []:=by
 have CW:=ag (fun w=>word_yes k hk w);have CM:=ag (fun w=>makes_in k hk w);have CT:=ag (fun w=>takes_len k hk w);have CN:=ag (fun w=>numbered_any (k:Int) w);have CH:=ag (fun w h=>has_any f x.dst w h);have CV:=ag (fun w h1 (h2:Row w 1 x.args.1 (x.args.2.map intCells))=>vars_any f x.args w h1 h2);have hwn:=kword_ne k hk
 have HX:Hid (lg f x=((x.args.2.length==(dh k).size)&&x.args.2.all (inB · f.nv)&&(if mk1 k=true then inB x.dst f.nv else x.dst== -1)&&(x.num==0||((k:Int)==0||(k:Int)==25)))):=by
  show _=_;unfold lg ntk;rw[ho,decide_eq_true (show(0:Int)≤k by omega),decide_eq_true (show(k:Int)<27 by omega)];simp only[Bool.true_and];rfl
 obtain⟨a0,c0,a1,c1,a2,c2,e0,e1,e2⟩:=hf.shape2;obtain⟨s1,d1,e3,_⟩:=bu.open_ hp;have HF:=ag hf;have HP:=ag (show Row w 1 x.args.1 (x.args.2.map intCells)from hp);have hval:f.val= .agg #[.slice a0 f.nv c0,.slice a1 f.np c1,.slice a2 f.nb c2]:=(by unfold ax.val;rw[e0,e1,e2]);rw[hval]at CH CV ⊢;rw[e3]at CV HP ⊢;rw[ho];clear hf hp e0 e1 e2 e3 hval ho;generalize lg f x=IB at*;generalize jb k=sw at*;generalize(if mk1 k=true then mkT k else 0)=mt at*;generalize mk1 k=mb at*;generalize((k:Int)==0||(k:Int)==25)=NU at*;generalize hop:(k:Int)=op at*;generalize(dh k).size=nt at*;clear hop hk;generalize x.args.2.all (inB · f.nv)=V at*;generalize inB x.dst f.nv=D at*;generalize f.nv=nv at*;generalize f.np=np at*;generalize f.nb=nb at*;generalize hna:x.args.2.length=na at*;clear hna;generalize x.dst=dst at*;generalize x.num=num at*;have hk0:ai w (w.alloc (.cells #[.slice a0 nv c0,.slice a1 np c1,.slice a2 nb c2] 26)) []:=(ai.refl _ []).alloc _;have bb0:=Blk.new w 26 #[.slice a0 nv c0,.slice a1 np c1,.slice a2 nb c2];have hk1:ai (w.alloc (.cells #[.slice a0 nv c0,.slice a1 np c1,.slice a2 nb c2] 26)) ((w.alloc (.cells #[.slice a0 nv c0,.slice a1 np c1,.slice a2 nb c2] 26)).alloc (.cells #[.int .i64 op,.int .i64 dst,.slice s1 na d1,.int .i64 num] 43)) []:=(ai.refl _ []).alloc _;have bb1:=Blk.new (w.alloc (.cells #[.slice a0 nv c0,.slice a1 np c1,.slice a2 nb c2] 26)) 43 #[.int .i64 op,.int .i64 dst,.slice s1 na d1,.int .i64 num];rw[show(w.alloc (.cells #[.slice a0 nv c0,.slice a1 np c1,.slice a2 nb c2] 26)).heap.size=w.heap.size+1 by show(Array.push _ _).size=_;simp[Array.size_push]]at bb1;have Bl:=ag (bb0.keep hk1 (by simp));have Bm:=ag bb1;have HK:=ag (hk0.ak hk1);obtain⟨l0,l1,l2⟩:=Bl.o.c3;obtain⟨m0,m1,m2,m3⟩:=Bm.o.c4;simp at l0 l1 l2 m0 m1 m2 m3;clear hk0 hk1 bb0 bb1;by_cases hl:na=nt
 ·subst hl;have n1:((na:Int) !=(na:Int))=false:=(by simp);cases V with
  |false=>
   go_enter Tryz.func91,Tryz.ntmps91;go_wp2_with (go_at_call 97;refine(CM.o _).mono ?_;rintro e w3 ⟨rfl,k3⟩;clear l0 l1 l2 m0 m1 m2 m3;replace Bl:=Bl.kb k3;replace Bm:=Bm.kb k3;replace HK:=HK.kt k3;obtain⟨l0,l1,l2⟩:=Bl.o.c3;obtain⟨m0,m1,m2,m3⟩:=Bm.o.c4;simp at l0 l1 l2 m0 m1 m2 m3;clear k3)
   refine wp_region_held_drew (S:=(fun w'=>w'.cell? ⟨w.heap.size,0,none⟩=some (.slice a0 nv c0)∧w'.cell? ⟨w.heap.size,1,none⟩=some (.slice a1 np c1)∧w'.cell? ⟨w.heap.size,2,none⟩=some (.slice a2 nb c2)∧w'.cell? ⟨w.heap.size+1,0,none⟩=some (.int .i64 op)∧w'.cell? ⟨w.heap.size+1,1,none⟩=some (.int .i64 dst)∧w'.cell? ⟨w.heap.size+1,2,none⟩=some (.slice s1 na d1)∧w'.cell? ⟨w.heap.size+1,3,none⟩=some (.int .i64 num))) (by kernel_rfl) ?bhSs (fun ah=> ?_)
   case bhSs=>exact⟨l0,l1,l2,m0,m1,m2,m3⟩
   clear l0 l1 l2 m0 m1 m2 m3;replace Bl:=ag (Bl.o.keep ((ai.refl _ []).drew) (by simp));replace Bm:=ag (Bm.o.keep ((ai.refl _ []).drew) (by simp));replace HK:=ag (HK.o.drew);generalize World.drew _=X0 at*;obtain⟨l0,l1,l2⟩:=Bl.o.c3;obtain⟨m0,m1,m2,m3⟩:=Bm.o.c4;simp at l0 l1 l2 m0 m1 m2 m3;refine tp 0 14 rfl ah ?_;refine tp 1 15 rfl ah ?_;refine t1 2 fun K hK=> ?_;go_simp
   (with_reducible refine(CW.o _).mono ?_)
   rintro e wx ⟨rfl,k3⟩;show K _ _;clear ah;clear l0 l1 l2 m0 m1 m2 m3;replace Bl:=Bl.kb k3;replace Bm:=Bm.kb k3;replace HK:=HK.kt k3;obtain⟨l0,l1,l2⟩:=Bl.o.c3;obtain⟨m0,m1,m2,m3⟩:=Bm.o.c4;simp at l0 l1 l2 m0 m1 m2 m3;clear k3;refine hK.out _ _ (by exact⟨l0,l1,l2,m0,m1,m2,m3⟩) fun ah=> ?_;clear hK K;try simp only[Act.put,sA,sB,sC]
   refine tp 3 17 rfl ah ?_;refine tp 4 18 rfl ah ?_;refine tp 5 19 rfl ah ?_;refine tp 6 20 rfl ah ?_;refine tp 7 21 rfl ah ?_;refine tp 8 22 rfl ah ?_;refine tp 9 23 rfl ah ?_;refine t1 10 fun K hK=> ?_;go_simp
   (with_reducible refine(CT.o _).mono ?_)
   rintro e wx ⟨va5,vc5,rfl,k3⟩;show K _ _;clear ah;clear l0 l1 l2 m0 m1 m2 m3;replace Bl:=Bl.kb k3;replace Bm:=Bm.kb k3;replace HK:=HK.kt k3;obtain⟨l0,l1,l2⟩:=Bl.o.c3;obtain⟨m0,m1,m2,m3⟩:=Bm.o.c4;simp at l0 l1 l2 m0 m1 m2 m3;clear k3;refine hK.out _ _ (by exact⟨l0,l1,l2,m0,m1,m2,m3⟩) fun ah=> ?_;clear hK K;try simp only[Act.put,sA,sB,sC]
   refine tp 11 25 rfl ah ?_;refine tp 12 26 rfl ah ?_;refine tp 13 27 rfl ah ?_;refine tp 14 28 rfl ah ?_;refine tp 15 29 rfl ah ?_;refine tp 16 30 rfl ah ?_;refine tp 17 31 rfl ah ?_;refine t1 18 fun K hK=> ?_;go_simp
   (with_reducible refine(CV.o _ (HF.o.keep HK.o) (Row.keep HP.o HK.o)).mono ?_)
   rintro e wx ⟨rfl,k3⟩;show K _ _;clear ah;clear l0 l1 l2 m0 m1 m2 m3;replace Bl:=Bl.kb k3;replace Bm:=Bm.kb k3;replace HK:=HK.kt k3;obtain⟨l0,l1,l2⟩:=Bl.o.c3;obtain⟨m0,m1,m2,m3⟩:=Bm.o.c4;simp at l0 l1 l2 m0 m1 m2 m3;clear k3;refine hK.out _ _ (by exact⟨l0,l1,l2,m0,m1,m2,m3⟩) fun ah=> ?_;clear hK K;try simp only[Act.put,sA,sB,sC]
   refine tp 19 33 rfl ah ?_;refine tp 20 34 rfl ah ?_;refine tp 21 13 rfl ah ?_;refine wpAnyH_done (by kernel_rfl) ?_ _;clear ah;go_wp2;go_ret;exact⟨ay (by rw[HX.o];simp),HK.o⟩
  |true=>
   go_enter Tryz.func91,Tryz.ntmps91;go_wp2_with (go_at_call 97;refine(CM.o _).mono ?_;rintro e w3 ⟨rfl,k3⟩;clear l0 l1 l2 m0 m1 m2 m3;replace Bl:=Bl.kb k3;replace Bm:=Bm.kb k3;replace HK:=HK.kt k3;obtain⟨l0,l1,l2⟩:=Bl.o.c3;obtain⟨m0,m1,m2,m3⟩:=Bm.o.c4;simp at l0 l1 l2 m0 m1 m2 m3;clear k3)
   refine wp_region_held_drew (S:=(fun w'=>w'.cell? ⟨w.heap.size,0,none⟩=some (.slice a0 nv c0)∧w'.cell? ⟨w.heap.size,1,none⟩=some (.slice a1 np c1)∧w'.cell? ⟨w.heap.size,2,none⟩=some (.slice a2 nb c2)∧w'.cell? ⟨w.heap.size+1,0,none⟩=some (.int .i64 op)∧w'.cell? ⟨w.heap.size+1,1,none⟩=some (.int .i64 dst)∧w'.cell? ⟨w.heap.size+1,2,none⟩=some (.slice s1 na d1)∧w'.cell? ⟨w.heap.size+1,3,none⟩=some (.int .i64 num))) (by kernel_rfl) ?chSs (fun ah=> ?_)
   case chSs=>exact⟨l0,l1,l2,m0,m1,m2,m3⟩
   clear l0 l1 l2 m0 m1 m2 m3;replace Bl:=ag (Bl.o.keep ((ai.refl _ []).drew) (by simp));replace Bm:=ag (Bm.o.keep ((ai.refl _ []).drew) (by simp));replace HK:=ag (HK.o.drew);generalize World.drew _=X0 at*;obtain⟨l0,l1,l2⟩:=Bl.o.c3;obtain⟨m0,m1,m2,m3⟩:=Bm.o.c4;simp at l0 l1 l2 m0 m1 m2 m3;refine tp 0 14 rfl ah ?_;refine tp 1 15 rfl ah ?_;refine t1 2 fun K hK=> ?_;go_simp
   (with_reducible refine(CW.o _).mono ?_)
   rintro e wx ⟨rfl,k3⟩;show K _ _;clear ah;clear l0 l1 l2 m0 m1 m2 m3;replace Bl:=Bl.kb k3;replace Bm:=Bm.kb k3;replace HK:=HK.kt k3;obtain⟨l0,l1,l2⟩:=Bl.o.c3;obtain⟨m0,m1,m2,m3⟩:=Bm.o.c4;simp at l0 l1 l2 m0 m1 m2 m3;clear k3;refine hK.out _ _ (by exact⟨l0,l1,l2,m0,m1,m2,m3⟩) fun ah=> ?_;clear hK K;try simp only[Act.put,sA,sB,sC]
   refine tp 3 17 rfl ah ?_;refine tp 4 18 rfl ah ?_;refine tp 5 19 rfl ah ?_;refine tp 6 20 rfl ah ?_;refine tp 7 21 rfl ah ?_;refine tp 8 22 rfl ah ?_;refine tp 9 23 rfl ah ?_;refine t1 10 fun K hK=> ?_;go_simp
   (with_reducible refine(CT.o _).mono ?_)
   rintro e wx ⟨va5,vc5,rfl,k3⟩;show K _ _;clear ah;clear l0 l1 l2 m0 m1 m2 m3;replace Bl:=Bl.kb k3;replace Bm:=Bm.kb k3;replace HK:=HK.kt k3;obtain⟨l0,l1,l2⟩:=Bl.o.c3;obtain⟨m0,m1,m2,m3⟩:=Bm.o.c4;simp at l0 l1 l2 m0 m1 m2 m3;clear k3;refine hK.out _ _ (by exact⟨l0,l1,l2,m0,m1,m2,m3⟩) fun ah=> ?_;clear hK K;try simp only[Act.put,sA,sB,sC]
   refine tp 11 25 rfl ah ?_;refine tp 12 26 rfl ah ?_;refine tp 13 27 rfl ah ?_;refine tp 14 28 rfl ah ?_;refine tp 15 29 rfl ah ?_;refine tp 16 30 rfl ah ?_;refine tp 17 31 rfl ah ?_;refine t1 18 fun K hK=> ?_;go_simp
   (with_reducible refine(CV.o _ (HF.o.keep HK.o) (Row.keep HP.o HK.o)).mono ?_)
   rintro e wx ⟨rfl,k3⟩;show K _ _;clear ah;clear l0 l1 l2 m0 m1 m2 m3;replace Bl:=Bl.kb k3;replace Bm:=Bm.kb k3;replace HK:=HK.kt k3;obtain⟨l0,l1,l2⟩:=Bl.o.c3;obtain⟨m0,m1,m2,m3⟩:=Bm.o.c4;simp at l0 l1 l2 m0 m1 m2 m3;clear k3;refine hK.out _ _ (by exact⟨l0,l1,l2,m0,m1,m2,m3⟩) fun ah=> ?_;clear hK K;try simp only[Act.put,sA,sB,sC]
   refine tp 19 33 rfl ah ?_;refine tp 20 34 rfl ah ?_;refine tp 21 13 rfl ah ?_;refine wpAnyH_done (by kernel_rfl) ?_ _;clear ah;cases mb with
   |true=>
    cases D with
    |false=>
     go_wp2_with (first |(go_at_call 117;refine(CH.o _ (HF.o.keep HK.o)).mono ?_;rintro e w3 ⟨rfl,k3⟩;clear l0 l1 l2 m0 m1 m2 m3;replace Bl:=Bl.kb k3;replace Bm:=Bm.kb k3;replace HK:=HK.kt k3;obtain⟨l0,l1,l2⟩:=Bl.o.c3;obtain⟨m0,m1,m2,m3⟩:=Bm.o.c4;simp at l0 l1 l2 m0 m1 m2 m3;clear k3)|(go_at_call 123;refine(CN.o _).mono ?_;rintro e w7 ⟨rfl,rfl⟩))
     go_ret;exact⟨ay (by rw[HX.o];simp),HK.o⟩
    |true=>
     rcases yw num with rfl|hz
     ·go_wp2_with (first |(go_at_call 117;refine(CH.o _ (HF.o.keep HK.o)).mono ?_;rintro e w3 ⟨rfl,k3⟩;clear l0 l1 l2 m0 m1 m2 m3;replace Bl:=Bl.kb k3;replace Bm:=Bm.kb k3;replace HK:=HK.kt k3;obtain⟨l0,l1,l2⟩:=Bl.o.c3;obtain⟨m0,m1,m2,m3⟩:=Bm.o.c4;simp at l0 l1 l2 m0 m1 m2 m3;clear k3)|(go_at_call 123;refine(CN.o _).mono ?_;rintro e w7 ⟨rfl,rfl⟩))
      go_ret;exact⟨ay (by rw[HX.o];simp),HK.o⟩
     ·cases NU
      all_goals
       go_wp2_with (first |(go_at_call 117;refine(CH.o _ (HF.o.keep HK.o)).mono ?_;rintro e w3 ⟨rfl,k3⟩;clear l0 l1 l2 m0 m1 m2 m3;replace Bl:=Bl.kb k3;replace Bm:=Bm.kb k3;replace HK:=HK.kt k3;obtain⟨l0,l1,l2⟩:=Bl.o.c3;obtain⟨m0,m1,m2,m3⟩:=Bm.o.c4;simp at l0 l1 l2 m0 m1 m2 m3;clear k3)|(go_at_call 123;refine(CN.o _).mono ?_;rintro e w7 ⟨rfl,rfl⟩))
       go_ret;exact⟨ay (by rw[HX.o];simp[hz]),HK.o⟩
   |false=>
    by_cases hd:dst= -1
    ·subst hd;rcases yw num with rfl|hz
     ·go_wp2_with (first |(go_at_call 117;refine(CH.o _ (HF.o.keep HK.o)).mono ?_;rintro e w3 ⟨rfl,k3⟩;clear l0 l1 l2 m0 m1 m2 m3;replace Bl:=Bl.kb k3;replace Bm:=Bm.kb k3;replace HK:=HK.kt k3;obtain⟨l0,l1,l2⟩:=Bl.o.c3;obtain⟨m0,m1,m2,m3⟩:=Bm.o.c4;simp at l0 l1 l2 m0 m1 m2 m3;clear k3)|(go_at_call 123;refine(CN.o _).mono ?_;rintro e w7 ⟨rfl,rfl⟩))
      go_ret;exact⟨ay (by rw[HX.o];simp),HK.o⟩
     ·cases NU
      all_goals
       go_wp2_with (first |(go_at_call 117;refine(CH.o _ (HF.o.keep HK.o)).mono ?_;rintro e w3 ⟨rfl,k3⟩;clear l0 l1 l2 m0 m1 m2 m3;replace Bl:=Bl.kb k3;replace Bm:=Bm.kb k3;replace HK:=HK.kt k3;obtain⟨l0,l1,l2⟩:=Bl.o.c3;obtain⟨m0,m1,m2,m3⟩:=Bm.o.c4;simp at l0 l1 l2 m0 m1 m2 m3;clear k3)|(go_at_call 123;refine(CN.o _).mono ?_;rintro e w7 ⟨rfl,rfl⟩))
       go_ret;exact⟨ay (by rw[HX.o];simp[hz]),HK.o⟩
    ·have hd1:(dst== -1)=false:=(by simpa using hd);have hd2:(dst != -1)=true:=(by simpa using hd);clear hd;go_wp2_with (first |(go_at_call 117;refine(CH.o _ (HF.o.keep HK.o)).mono ?_;rintro e w3 ⟨rfl,k3⟩;clear l0 l1 l2 m0 m1 m2 m3;replace Bl:=Bl.kb k3;replace Bm:=Bm.kb k3;replace HK:=HK.kt k3;obtain⟨l0,l1,l2⟩:=Bl.o.c3;obtain⟨m0,m1,m2,m3⟩:=Bm.o.c4;simp at l0 l1 l2 m0 m1 m2 m3;clear k3)|(go_at_call 123;refine(CN.o _).mono ?_;rintro e w7 ⟨rfl,rfl⟩))
     go_ret;exact⟨ay (by rw[HX.o];simp[hd1]),HK.o⟩
 ·have n1:((na:Int) !=(nt:Int))=true:=(by simp;omega);have n2:(na==nt)=false:=(by simpa using hl);clear hl;go_enter Tryz.func91,Tryz.ntmps91;go_wp2_with (go_at_call 97;refine(CM.o _).mono ?_;rintro e w3 ⟨rfl,k3⟩;clear l0 l1 l2 m0 m1 m2 m3;replace Bl:=Bl.kb k3;replace Bm:=Bm.kb k3;replace HK:=HK.kt k3;obtain⟨l0,l1,l2⟩:=Bl.o.c3;obtain⟨m0,m1,m2,m3⟩:=Bm.o.c4;simp at l0 l1 l2 m0 m1 m2 m3;clear k3)
  refine wp_region_held_drew (S:=(fun w'=>w'.cell? ⟨w.heap.size,0,none⟩=some (.slice a0 nv c0)∧w'.cell? ⟨w.heap.size,1,none⟩=some (.slice a1 np c1)∧w'.cell? ⟨w.heap.size,2,none⟩=some (.slice a2 nb c2)∧w'.cell? ⟨w.heap.size+1,0,none⟩=some (.int .i64 op)∧w'.cell? ⟨w.heap.size+1,1,none⟩=some (.int .i64 dst)∧w'.cell? ⟨w.heap.size+1,2,none⟩=some (.slice s1 na d1)∧w'.cell? ⟨w.heap.size+1,3,none⟩=some (.int .i64 num))) (by kernel_rfl) ?dhSs (fun ah=> ?_)
  case dhSs=>exact⟨l0,l1,l2,m0,m1,m2,m3⟩
  clear l0 l1 l2 m0 m1 m2 m3;replace Bl:=ag (Bl.o.keep ((ai.refl _ []).drew) (by simp));replace Bm:=ag (Bm.o.keep ((ai.refl _ []).drew) (by simp));replace HK:=ag (HK.o.drew);generalize World.drew _=X0 at*;obtain⟨l0,l1,l2⟩:=Bl.o.c3;obtain⟨m0,m1,m2,m3⟩:=Bm.o.c4;simp at l0 l1 l2 m0 m1 m2 m3;refine tp 0 14 rfl ah ?_;refine tp 1 15 rfl ah ?_;refine t1 2 fun K hK=> ?_;go_simp
  (with_reducible refine(CW.o _).mono ?_)
  rintro e wx ⟨rfl,k3⟩;show K _ _;clear ah;clear l0 l1 l2 m0 m1 m2 m3;replace Bl:=Bl.kb k3;replace Bm:=Bm.kb k3;replace HK:=HK.kt k3;obtain⟨l0,l1,l2⟩:=Bl.o.c3;obtain⟨m0,m1,m2,m3⟩:=Bm.o.c4;simp at l0 l1 l2 m0 m1 m2 m3;clear k3;refine hK.out _ _ (by exact⟨l0,l1,l2,m0,m1,m2,m3⟩) fun ah=> ?_;clear hK K;try simp only[Act.put,sA,sB,sC]
  refine tp 3 17 rfl ah ?_;refine tp 4 18 rfl ah ?_;refine tp 5 19 rfl ah ?_;refine tp 6 20 rfl ah ?_;refine tp 7 21 rfl ah ?_;refine tp 8 22 rfl ah ?_;refine tp 9 23 rfl ah ?_;refine t1 10 fun K hK=> ?_;go_simp
  (with_reducible refine(CT.o _).mono ?_)
  rintro e wx ⟨va5,vc5,rfl,k3⟩;show K _ _;clear ah;clear l0 l1 l2 m0 m1 m2 m3;replace Bl:=Bl.kb k3;replace Bm:=Bm.kb k3;replace HK:=HK.kt k3;obtain⟨l0,l1,l2⟩:=Bl.o.c3;obtain⟨m0,m1,m2,m3⟩:=Bm.o.c4;simp at l0 l1 l2 m0 m1 m2 m3;clear k3;refine hK.out _ _ (by exact⟨l0,l1,l2,m0,m1,m2,m3⟩) fun ah=> ?_;clear hK K;try simp only[Act.put,sA,sB,sC]
  refine tp 11 25 rfl ah ?_;refine tp 12 26 rfl ah ?_;refine tp 13 27 rfl ah ?_;refine tp 14 28 rfl ah ?_;refine tu 15 ⟨some 29,.load 26 (.tmp 2),_,_,_,_⟩ rfl ah ?_;refine tu 16 ⟨some 30,.fieldAddr 43 (.tmp 3) 2,_,_,_,_⟩ rfl ah ?_;refine tu 17 ⟨some 31,.load 23 (.tmp 30),_,_,_,_⟩ rfl ah ?_;refine tu 18 ⟨some 32,.call ⟨.value (.func 118),#[.tmp 29,.tmp 31],#[26,23]⟩,_,_,_,_⟩ rfl ah ?_;refine tu 19 ⟨some 33,.unOp UnOp.not 4 (.tmp 32),_,_,_,_⟩ rfl ah ?_;refine tp 20 34 rfl ah ?_;refine tp 21 13 rfl ah ?_;refine wpAnyH_done (by kernel_rfl) ?_ _;clear ah;go_wp2;go_ret;exact⟨ay (by rw[HX.o,n2];simp),HK.o⟩
theorem inst_any (f:ax) (x:cu) (w:World) (hf:cz w f) (hp:uu w x):Calls Tryz.prog 91 #[f.val,.agg #[.int .i64 x.op,.int .i64 x.dst,x.args.1,.int .i64 x.num]] w fun e w'=>e= .returned (.bool (lg f x))∧ai w w' []:=by
 by_cases h:x.op<0∨27≤x.op
 ·exact inst_out f x w hf hp h
 ·exact inst_in f x x.op.toNat (by omega) (by omega) w hf hp
end Go.Proofs.YtjllbchfojonhaaGreatDoor
