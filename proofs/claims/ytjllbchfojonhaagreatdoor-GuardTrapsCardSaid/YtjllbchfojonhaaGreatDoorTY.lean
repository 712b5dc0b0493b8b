/- Package typing: inst; contract. ; Package typing: term, Typed, Slot; contracts. ; A little program; contract. -/
import Derived.Test.YtjllbchfojonhaaGreatDoorSH
set_option linter.unusedVariables false
set_option linter.unusedSimpArgs false
set_option maxRecDepth 100000
set_option maxHeartbeats 200000000
namespace Go.Proofs.YtjllbchfojonhaaGreatDoor
open Go.RowKit
theorem tcells_bang (s:ByteArray) (j:Nat) (hj:j<s.size):(tcells s s.size)[j]? =some (.int .i64 (Af (s.data.toList[j]!).toNat)):=by
 have h':j<s.data.toList.length:=(by rw[Array.length_toList];exact hj);unfold tcells;rw[List.getElem?_map,List.getElem?_take,if_pos hj,List.getElem?_eq_getElem h',getElem!_pos s.data.toList j h'];rfl
theorem takes_open (k:Nat) (hk:k<27) (w:World):Calls Tryz.prog 74 #[.int .i64 k] w fun e w'=>∃va vc,e= .returned (.slice va (dh k).size vc)∧ai w w' []∧∀j,j<(dh k).size→∃g,va=some ⟨g,0,none⟩∧w'.cell? ⟨g,j,none⟩=some (.int .i64 (tkT k j)):=by
 refine(takes_in k hk w).mono ?_;rintro e w' ⟨v,rfl,ho,k1⟩;rcases ho.2 with⟨rfl,h0⟩|⟨g,cap,cur,rfl,h1,h2,h3,h4,h5,h6⟩
 ·exact⟨none,0,by rw[h0],k1,fun j hj=>absurd hj (by omega)⟩
 ·refine⟨_,_,rfl,k1,fun j hj=>⟨g,rfl, ?_⟩⟩;rw[Blk.cell h2 j,←Array.getElem?_toList];have:=tcells_bang (dh k) j hj;rw[←h6,List.getElem?_take]at this;split at this
  ·exact this
  ·cases this
theorem tinst_copy (f:ax) (x:cu) (w:World) (hf:cz w f) (hp:uu w x) (ho:x.op=1) (hl:x.args.2.length=1) (ha:inB x.args.2[0]! f.nv=true) (hd:inB x.dst f.nv=true):
  Calls Tryz.prog 56 #[f.val,.agg #[.int .i64 x.op,.int .i64 x.dst,x.args.1,.int .i64 x.num]] w fun e w'=>e= .returned (.bool (lh f x))∧ai w w' []:=by
 have CA:=ag (fun w=>any_any 1 w);have CD:=ag (fun w h=>kindI f x.dst w h hd);have C0:=ag (fun w h=>kindI f x.args.2[0]! w h ha);have HX:=ag (show lh f x=(f.tyI x.dst==f.tyI x.args.2[0]!) by unfold lh;rw[if_pos ho]);obtain⟨a0,c0,a1,c1,a2,c2,hval,h1⟩:=hf.opened;obtain⟨s1,d1,e3,hl1,hl2,hc⟩:=bu.open_ hp;have HF:=ag hf;rcases hc with hc|⟨rb,ro,rfl,hrb,hc⟩
 ·omega
 have N0:=ag (hc 0 (by omega));rw[Nat.add_zero]at N0;rw[hval]at CD C0 ⊢;rw[e3,hl,ho,HX.o];clear hf hp ho hl ha hd HX hval h1 e3 hl1 hl2 hc;generalize f.tyI x.dst=zd at*;generalize f.tyI x.args.2[0]! =za at*;generalize x.args.2[0]! =z0 at*;generalize f.nv=nv at*;generalize f.np=np at*;generalize f.nb=nb at*;generalize x.dst=dst at*;generalize x.num=num at*;have hk0:ai w (w.alloc (.cells #[.slice a0 nv c0,.slice a1 np c1,.slice a2 nb c2] 26)) []:=(ai.refl _ []).alloc _;have bb0:=Blk.new w 26 #[.slice a0 nv c0,.slice a1 np c1,.slice a2 nb c2];have hk1:ai (w.alloc (.cells #[.slice a0 nv c0,.slice a1 np c1,.slice a2 nb c2] 26)) ((w.alloc (.cells #[.slice a0 nv c0,.slice a1 np c1,.slice a2 nb c2] 26)).alloc (.cells #[.int .i64 1,.int .i64 dst,.slice (some ⟨rb,ro,none⟩) 1 d1,.int .i64 num] 43)) []:=(ai.refl _ []).alloc _;have bb1:=Blk.new (w.alloc (.cells #[.slice a0 nv c0,.slice a1 np c1,.slice a2 nb c2] 26)) 43 #[.int .i64 1,.int .i64 dst,.slice (some ⟨rb,ro,none⟩) 1 d1,.int .i64 num];rw[show(w.alloc (.cells #[.slice a0 nv c0,.slice a1 np c1,.slice a2 nb c2] 26)).heap.size=w.heap.size+1 by show(Array.push _ _).size=_;simp[Array.size_push]]at bb1;have Bl:=ag (bb0.keep hk1 (by simp));have Bm:=ag bb1;have HK:=ag (hk0.ak hk1);obtain⟨l0,l1,l2⟩:=Bl.o.c3;obtain⟨m0,m1,m2,m3⟩:=Bm.o.c4;simp at l0 l1 l2 m0 m1 m2 m3;have n0:=HK.o.cellOf N0.o;clear hk0 hk1 bb0 bb1;go_enter Tryz.func56,Tryz.ntmps56;go_wp2_with (go_at_call 96;refine(CA.o _).mono ?_;rintro e w3 ⟨rfl,rfl⟩)
 clear l0 l1 l2 m0 m1 m2 m3 n0;generalize((w.alloc (.cells #[.slice a0 nv c0,.slice a1 np c1,.slice a2 nb c2] 26)).alloc (.cells #[.int .i64 1,.int .i64 dst,.slice (some ⟨rb,ro,none⟩) 1 d1,.int .i64 num] 43))=W0 at*;obtain⟨l0,l1,l2⟩:=Bl.o.c3;obtain⟨m0,m1,m2,m3⟩:=Bm.o.c4;simp at l0 l1 l2 m0 m1 m2 m3;have n0:=HK.o.cellOf N0.o;refine wp_region_held_drew (S:=(fun w'=>w'.cell? ⟨w.heap.size,0,none⟩=some (.slice a0 nv c0)∧w'.cell? ⟨w.heap.size,1,none⟩=some (.slice a1 np c1)∧w'.cell? ⟨w.heap.size,2,none⟩=some (.slice a2 nb c2)∧w'.cell? ⟨w.heap.size+1,0,none⟩=some (.int .i64 1)∧w'.cell? ⟨w.heap.size+1,1,none⟩=some (.int .i64 dst)∧w'.cell? ⟨w.heap.size+1,2,none⟩=some (.slice (some ⟨rb,ro,none⟩) 1 d1)∧w'.cell? ⟨w.heap.size+1,3,none⟩=some (.int .i64 num)∧w'.cell? ⟨rb,ro,none⟩=some (.int .i64 z0))) (by kernel_rfl) ?ahSs (fun ah=> ?_)
 case ahSs=>exact⟨l0,l1,l2,m0,m1,m2,m3,n0⟩
 clear l0 l1 l2 m0 m1 m2 m3 n0;replace Bl:=ag (Bl.o.keep ((ai.refl _ []).drew) (by simp));replace Bm:=ag (Bm.o.keep ((ai.refl _ []).drew) (by simp));replace HK:=ag (HK.o.drew);generalize World.drew _=X0 at*;obtain⟨l0,l1,l2⟩:=Bl.o.c3;obtain⟨m0,m1,m2,m3⟩:=Bm.o.c4;simp at l0 l1 l2 m0 m1 m2 m3;have n0:=HK.o.cellOf N0.o;refine tp 0 12 rfl ah ?_;refine tp 1 13 rfl ah ?_;refine tp 2 14 rfl ah ?_;refine tp 4 16 rfl ah ?_;refine tp 5 17 rfl ah ?_;refine tp 6 18 rfl ah ?_;refine tp 7 19 rfl ah ?_;refine tp 8 20 rfl ah ?_;refine t1 3 fun K hK=> ?_;go_simp
 (with_reducible refine(CD.o _ (HF.o.keep HK.o)).mono ?_)
 rintro e wx ⟨rfl,k3⟩;show K _ _;clear ah;clear l0 l1 l2 m0 m1 m2 m3 n0;replace Bl:=Bl.kb k3;replace Bm:=Bm.kb k3;replace HK:=HK.kt k3;obtain⟨l0,l1,l2⟩:=Bl.o.c3;obtain⟨m0,m1,m2,m3⟩:=Bm.o.c4;simp at l0 l1 l2 m0 m1 m2 m3;have n0:=HK.o.cellOf N0.o;clear k3;refine hK.out _ _ (by exact⟨l0,l1,l2,m0,m1,m2,m3,n0⟩) fun ah=> ?_;clear hK K;try simp only[Act.put,sA,sB,sC]
 refine t1 9 fun K hK=> ?_;go_simp
 (with_reducible refine(C0.o _ (HF.o.keep HK.o)).mono ?_)
 rintro e wx ⟨rfl,k3⟩;show K _ _;clear ah;clear l0 l1 l2 m0 m1 m2 m3 n0;replace Bl:=Bl.kb k3;replace Bm:=Bm.kb k3;replace HK:=HK.kt k3;obtain⟨l0,l1,l2⟩:=Bl.o.c3;obtain⟨m0,m1,m2,m3⟩:=Bm.o.c4;simp at l0 l1 l2 m0 m1 m2 m3;have n0:=HK.o.cellOf N0.o;clear k3;refine hK.out _ _ (by exact⟨l0,l1,l2,m0,m1,m2,m3,n0⟩) fun ah=> ?_;clear hK K;try simp only[Act.put,sA,sB,sC]
 refine tp 10 22 rfl ah ?_;refine tp 11 4 rfl ah ?_;refine wpAnyH_done (by kernel_rfl) ?_ _;clear ah;go_wp2;go_ret;exact⟨rfl,HK.o⟩
theorem tinst_more (f:ax) (x:cu) (k:Nat) (hk:k<27) (ho:x.op=k) (h1n:((k:Int)==1)=false) (w:World) (hf:cz w f) (hp:uu w x) (hl:x.args.2.length=(dh k).size) (ha:∀a∈x.args.2,inB a f.nv=true) (hd:mk1 k=true→inB x.dst f.nv=true):
  Calls Tryz.prog 56 #[f.val,.agg #[.int .i64 x.op,.int .i64 x.dst,x.args.1,.int .i64 x.num]] w fun e w'=>e= .returned (.bool (lh f x))∧ai w w' []:=by
 have CA:=ag (fun w=>any_any (k:Int) w);have CT:=ag (fun w=>takes_open k hk w);have CM:=ag (fun w=>makes_in k hk w);have CD:=ag (fun w h h2=>kindI f x.dst w h (hd h2));have CAr:=ag (fun j (hj:j<(dh k).size) w h=>kindI f x.args.2[j]! w h (ha _ (az (by rw[hl];exact hj))))
 have HX := ag (show lh f x = ((Cx (dh k).size fun i => f.tyI x.args.2[i]! == tkT k i) && (!(mk1 k) || f.tyI x.dst == mkT k)) by
  unfold lh;rw[if_neg (by rw[ho];simpa using h1n),ho]
  rfl)
 obtain⟨a0,c0,a1,c1,a2,c2,hval,h1⟩:=hf.opened;obtain⟨s1,d1,e3,hl1,hl2,hc⟩:=bu.open_ hp;have HF:=ag hf;rw[hval]at CD CAr ⊢;have hnaB:(dh k).size≤100:=(qz k hk).1;rw[hl]at hc;have HC:=ag hc;rw[e3,hl,ho];clear hf hp ha hd hval h1 e3 hl1 hl2 hc hl ho hk;generalize lh f x=TB at*;generalize(dh k).size=na at*;generalize mkT (k:Int)=mt at*;generalize mk1 (k:Int)=mb at*;generalize htk:tkT (k:Int)=tk at*;clear htk;generalize hop:(k:Int)=op at*;clear hop;generalize f.nv=nv at*;generalize f.np=np at*;generalize f.nb=nb at*;generalize hzd:f.tyI x.dst=zd at*;clear hzd;generalize x.dst=dst at*;generalize x.num=num at*;have hk0:ai w (w.alloc (.cells #[.slice a0 nv c0,.slice a1 np c1,.slice a2 nb c2] 26)) []:=(ai.refl _ []).alloc _;have bb0:=Blk.new w 26 #[.slice a0 nv c0,.slice a1 np c1,.slice a2 nb c2];have hk1:ai (w.alloc (.cells #[.slice a0 nv c0,.slice a1 np c1,.slice a2 nb c2] 26)) ((w.alloc (.cells #[.slice a0 nv c0,.slice a1 np c1,.slice a2 nb c2] 26)).alloc (.cells #[.int .i64 op,.int .i64 dst,.slice s1 na d1,.int .i64 num] 43)) []:=(ai.refl _ []).alloc _;have bb1:=Blk.new (w.alloc (.cells #[.slice a0 nv c0,.slice a1 np c1,.slice a2 nb c2] 26)) 43 #[.int .i64 op,.int .i64 dst,.slice s1 na d1,.int .i64 num];rw[show(w.alloc (.cells #[.slice a0 nv c0,.slice a1 np c1,.slice a2 nb c2] 26)).heap.size=w.heap.size+1 by show(Array.push _ _).size=_;simp[Array.size_push]]at bb1;have Bl:=ag (bb0.keep hk1 (by simp));have Bm:=ag bb1;have HK:=ag (hk0.ak hk1);obtain⟨l0,l1,l2⟩:=Bl.o.c3;obtain⟨m0,m1,m2,m3⟩:=Bm.o.c4;simp at l0 l1 l2 m0 m1 m2 m3;clear hk0 hk1 bb0 bb1;go_enter Tryz.func56,Tryz.ntmps56;go_wp2_with (first |(go_at_call 96;refine(CA.o _).mono ?_;rintro e w3 ⟨rfl,rfl⟩)|(go_at_call 74;refine(CT.o _).mono ?_;rintro e w3 ⟨va,vc,rfl,k3,hv3⟩;have HV:=ag hv3;clear hv3;clear l0 l1 l2 m0 m1 m2 m3;replace Bl:=Bl.kb k3;replace Bm:=Bm.kb k3;replace HK:=HK.kt k3;obtain⟨l0,l1,l2⟩:=Bl.o.c3;obtain⟨m0,m1,m2,m3⟩:=Bm.o.c4;simp at l0 l1 l2 m0 m1 m2 m3;clear k3))
 clear CA CT;have HKA:=HK;have HF3:=ag (HF.o.keep HK.o);clear HK;have HK:=ag (ai.refl w3 []);go_loopw [27] (fun i wr=>∃kk:Nat,kk≤na∧i= .int .i64 kk∧ai w3 wr []∧Hid (∀j,j<kk→(f.tyI x.args.2[j]! ==tk j)=true)) (fun i _=>na -(intOf i).toNat)
 case atStart=>exact⟨0,Nat.zero_le _,rfl,ai.refl _ _,fun j hj=>absurd hj (Nat.not_lt_zero _)⟩
 case round=>
  obtain⟨kk,hkk,rfl,hr,A⟩:=hrel;have HR:=ag hr;clear hr;by_cases hlt:kk<na
  ·have hltz:(kk:Int)<(na:Int):=(by omega);have k3:=HR.o;clear l0 l1 l2 m0 m1 m2 m3;replace Bl:=Bl.kb k3;replace Bm:=Bm.kb k3;replace HK:=HK.kt k3;obtain⟨l0,l1,l2⟩:=Bl.o.c3;obtain⟨m0,m1,m2,m3⟩:=Bm.o.c4;simp at l0 l1 l2 m0 m1 m2 m3;clear k3;obtain⟨g,rfl,hgc⟩:=HV.o kk hlt;have g0:=HR.o.cellOf hgc;rcases HC.o with hc|⟨rb,ro,rfl,hrb,hc⟩
   ·omega
   have N0:=ag (HKA.o.cellOf (hc kk hlt));have C0:=fun w h=>CAr.o kk hlt w h;clear hc hgc;have HT:=ag (show f.tyI x.args.2[kk]! =f.tyI x.args.2[kk]! from rfl);generalize htq:tk kk=tq at*;have HTQ:=ag htq;clear htq;generalize hzq:f.tyI x.args.2[kk]! =zq at*;have HZQ:=ag hzq;clear hzq HT;generalize hzk:x.args.2[kk]! =zk at*;have HZK:=ag hzk;clear hzk;have n0:=HK.o.cellOf N0.o;have hbq:(zq !=tq)= !(zq==tq):=rfl;cases hq:(zq==tq)with
   |false=>
    rw[hq]at hbq;go_wp2_with fail
    refine wp_region_held_drew (S:=(fun w'=>w'.cell? ⟨w.heap.size,0,none⟩=some (.slice a0 nv c0)∧w'.cell? ⟨w.heap.size,1,none⟩=some (.slice a1 np c1)∧w'.cell? ⟨w.heap.size,2,none⟩=some (.slice a2 nb c2)∧w'.cell? ⟨w.heap.size+1,0,none⟩=some (.int .i64 op)∧w'.cell? ⟨w.heap.size+1,1,none⟩=some (.int .i64 dst)∧w'.cell? ⟨w.heap.size+1,2,none⟩=some (.slice (some ⟨rb,ro,none⟩) na d1)∧w'.cell? ⟨w.heap.size+1,3,none⟩=some (.int .i64 num)∧w'.cell? ⟨rb,ro+kk,none⟩=some (.int .i64 zk))) (by kernel_rfl) ?bhSs (fun ah=> ?_)
    case bhSs=>exact⟨l0,l1,l2,m0,m1,m2,m3,n0⟩
    clear l0 l1 l2 m0 m1 m2 m3 n0;replace Bl:=ag (Bl.o.keep ((ai.refl _ []).drew) (by simp));replace Bm:=ag (Bm.o.keep ((ai.refl _ []).drew) (by simp));replace HK:=ag (HK.o.drew);generalize World.drew _=X0 at*;obtain⟨l0,l1,l2⟩:=Bl.o.c3;obtain⟨m0,m1,m2,m3⟩:=Bm.o.c4;simp at l0 l1 l2 m0 m1 m2 m3;have n0:=HK.o.cellOf N0.o;refine tp 0 32 rfl ah ?_;refine tp 1 33 rfl ah ?_;refine tp 2 34 rfl ah ?_;refine tp 3 35 rfl ah ?_;refine tp 4 36 rfl ah ?_;refine tp 5 37 rfl ah ?_;refine tp 7 39 rfl ah ?_;refine t1 6 fun K hK=> ?_;go_simp
    (with_reducible refine(C0 _ (HF3.o.keep HK.o)).mono ?_)
    rintro e wx ⟨rfl,k3⟩;show K _ _;clear ah;clear l0 l1 l2 m0 m1 m2 m3 n0;replace Bl:=Bl.kb k3;replace Bm:=Bm.kb k3;replace HK:=HK.kt k3;obtain⟨l0,l1,l2⟩:=Bl.o.c3;obtain⟨m0,m1,m2,m3⟩:=Bm.o.c4;simp at l0 l1 l2 m0 m1 m2 m3;have n0:=HK.o.cellOf N0.o;clear k3;refine hK.out _ _ (by exact⟨l0,l1,l2,m0,m1,m2,m3,n0⟩) fun ah=> ?_;clear hK K;try simp only[Act.put,sA,sB,sC]
    refine tp 8 40 rfl ah ?_;refine wpAnyH_done (by kernel_rfl) ?_ _;clear ah;go_wp2;go_ret;exact⟨ay (by rw[HX.o,wh hlt (by rw[HZK.o,HZQ.o,HTQ.o];exact hq)];rfl),HKA.o.ak HK.o⟩
   |true=>
    rw[hq]at hbq;go_wp2_with fail
    refine wp_region_held_drew (S:=(fun w'=>w'.cell? ⟨w.heap.size,0,none⟩=some (.slice a0 nv c0)∧w'.cell? ⟨w.heap.size,1,none⟩=some (.slice a1 np c1)∧w'.cell? ⟨w.heap.size,2,none⟩=some (.slice a2 nb c2)∧w'.cell? ⟨w.heap.size+1,0,none⟩=some (.int .i64 op)∧w'.cell? ⟨w.heap.size+1,1,none⟩=some (.int .i64 dst)∧w'.cell? ⟨w.heap.size+1,2,none⟩=some (.slice (some ⟨rb,ro,none⟩) na d1)∧w'.cell? ⟨w.heap.size+1,3,none⟩=some (.int .i64 num)∧w'.cell? ⟨rb,ro+kk,none⟩=some (.int .i64 zk))) (by kernel_rfl) ?chSs (fun ah=> ?_)
    case chSs=>exact⟨l0,l1,l2,m0,m1,m2,m3,n0⟩
    clear l0 l1 l2 m0 m1 m2 m3 n0;replace Bl:=ag (Bl.o.keep ((ai.refl _ []).drew) (by simp));replace Bm:=ag (Bm.o.keep ((ai.refl _ []).drew) (by simp));replace HK:=ag (HK.o.drew);generalize World.drew _=X0 at*;obtain⟨l0,l1,l2⟩:=Bl.o.c3;obtain⟨m0,m1,m2,m3⟩:=Bm.o.c4;simp at l0 l1 l2 m0 m1 m2 m3;have n0:=HK.o.cellOf N0.o;refine tp 0 32 rfl ah ?_;refine tp 1 33 rfl ah ?_;refine tp 2 34 rfl ah ?_;refine tp 3 35 rfl ah ?_;refine tp 4 36 rfl ah ?_;refine tp 5 37 rfl ah ?_;refine tp 7 39 rfl ah ?_;refine t1 6 fun K hK=> ?_;go_simp
    (with_reducible refine(C0 _ (HF3.o.keep HK.o)).mono ?_)
    rintro e wx ⟨rfl,k3⟩;show K _ _;clear ah;clear l0 l1 l2 m0 m1 m2 m3 n0;replace Bl:=Bl.kb k3;replace Bm:=Bm.kb k3;replace HK:=HK.kt k3;obtain⟨l0,l1,l2⟩:=Bl.o.c3;obtain⟨m0,m1,m2,m3⟩:=Bm.o.c4;simp at l0 l1 l2 m0 m1 m2 m3;have n0:=HK.o.cellOf N0.o;clear k3;refine hK.out _ _ (by exact⟨l0,l1,l2,m0,m1,m2,m3,n0⟩) fun ah=> ?_;clear hK K;try simp only[Act.put,sA,sB,sC]
    refine tp 8 40 rfl ah ?_;refine wpAnyH_done (by kernel_rfl) ?_ _;clear ah;go_wp2;go_roundw
    case rel=>
     refine⟨kk+1,by omega,by go_num,HK.o,(show Hid _ from fun j hj=> ?_)⟩;by_cases e:j=kk
     ·subst e;rw[HZK.o,HZQ.o,HTQ.o];exact hq
     ·exact A.o j (by omega)
    case measure=>simp[intOf];omega
  ·have hltz:¬(kk:Int)<(na:Int):=(by omega);obtain rfl:na=kk:=by omega
   have k3:=HR.o;clear l0 l1 l2 m0 m1 m2 m3;replace Bl:=Bl.kb k3;replace Bm:=Bm.kb k3;replace HK:=HK.kt k3;obtain⟨l0,l1,l2⟩:=Bl.o.c3;obtain⟨m0,m1,m2,m3⟩:=Bm.o.c4;simp at l0 l1 l2 m0 m1 m2 m3;clear k3;have HXX:=ag (show TB=(!mb||zd==mt) by rw[HX.o,qh A.o];rfl);clear HX A HC HV CAr;cases mb with
   |false=>
    clear CD;go_wp2_with (go_at_call 97;refine(CM.o _).mono ?_;rintro e w4 ⟨rfl,k3⟩;clear l0 l1 l2 m0 m1 m2 m3;replace Bl:=Bl.kb k3;replace Bm:=Bm.kb k3;replace HK:=HK.kt k3;obtain⟨l0,l1,l2⟩:=Bl.o.c3;obtain⟨m0,m1,m2,m3⟩:=Bm.o.c4;simp at l0 l1 l2 m0 m1 m2 m3;clear k3)
    go_ret;exact⟨ay (by rw[HXX.o];rfl),HKA.o.ak HK.o⟩
   |true=>
    have CD2:=ag (fun w h=>CD.o w h rfl);clear CD;go_wp2_with (first |(go_at_call 97;refine(CM.o _).mono ?_;rintro e w4 ⟨rfl,k3⟩;clear l0 l1 l2 m0 m1 m2 m3;replace Bl:=Bl.kb k3;replace Bm:=Bm.kb k3;replace HK:=HK.kt k3;obtain⟨l0,l1,l2⟩:=Bl.o.c3;obtain⟨m0,m1,m2,m3⟩:=Bm.o.c4;simp at l0 l1 l2 m0 m1 m2 m3;clear k3)|(go_at_call 95;refine(CD2.o _ (HF3.o.keep HK.o)).mono ?_;rintro e w4 ⟨rfl,k3⟩;clear l0 l1 l2 m0 m1 m2 m3;replace Bl:=Bl.kb k3;replace Bm:=Bm.kb k3;replace HK:=HK.kt k3;obtain⟨l0,l1,l2⟩:=Bl.o.c3;obtain⟨m0,m1,m2,m3⟩:=Bm.o.c4;simp at l0 l1 l2 m0 m1 m2 m3;clear k3))
    go_ret;exact⟨ay (by rw[HXX.o];simp),HKA.o.ak HK.o⟩
theorem tinst_any (f:ax) (x:cu) (w:World) (hf:cz w f) (hp:uu w x) (hi:lg f x=true):
  Calls Tryz.prog 56 #[f.val,.agg #[.int .i64 x.op,.int .i64 x.dst,x.args.1,.int .i64 x.num]] w fun e w'=>e= .returned (.bool (lh f x))∧ai w w' []:=by
 unfold lg at hi;simp only[Bool.and_eq_true,decide_eq_true_eq,beq_iff_eq,List.all_eq_true]at hi;obtain⟨⟨⟨⟨⟨h0,h27⟩,hl⟩,ha⟩,hd⟩,_⟩:=hi;have ek:x.op=((x.op.toNat:Nat):Int):=(by omega);have hl':x.args.2.length=(dh x.op.toNat).size:=hl;by_cases h1:x.op=1
 ·have hm:mk1 x.op=true:=(by rw[h1];decide+kernel);rw[if_pos hm]at hd;have hl1:x.args.2.length=1:=(by rw[hl',h1];decide+kernel);exact tinst_copy f x w hf hp h1 hl1 (ha _ (az (by omega))) hd
 ·exact tinst_more f x x.op.toNat (by omega) ek (by rw[←ek];simpa using h1) w hf hp hl' ha (fun hm=>by rw[←ek]at hm;rw[if_pos hm]at hd;exact hd)
theorem tterm_jump (f:ax) (var to0 to1:Int) (w:World) (hf:cz w f):Calls Tryz.prog 57 #[f.val,.agg #[.int .i64 0,.int .i64 var,.int .i64 to0,.int .i64 to1]] w fun e w'=>e= .returned (.bool (!(to0==0)))∧ai w w' []:=by
 obtain⟨a0,c0,a1,c1,a2,c2,hval,h1⟩:=hf.opened;rw[hval];clear hf hval h1;generalize f.nv=nv at*;generalize f.np=np at*;generalize f.nb=nb at*;have hn0:(to0 !=0)= !(to0==0):=rfl;have hk0:ai w (w.alloc (.cells #[.slice a0 nv c0,.slice a1 np c1,.slice a2 nb c2] 26)) []:=(ai.refl _ []).alloc _;have bb0:=Blk.new w 26 #[.slice a0 nv c0,.slice a1 np c1,.slice a2 nb c2];have hk1:ai (w.alloc (.cells #[.slice a0 nv c0,.slice a1 np c1,.slice a2 nb c2] 26)) ((w.alloc (.cells #[.slice a0 nv c0,.slice a1 np c1,.slice a2 nb c2] 26)).alloc (.cells #[.int .i64 0,.int .i64 var,.int .i64 to0,.int .i64 to1] 36)) []:=(ai.refl _ []).alloc _;have bb1:=Blk.new (w.alloc (.cells #[.slice a0 nv c0,.slice a1 np c1,.slice a2 nb c2] 26)) 36 #[.int .i64 0,.int .i64 var,.int .i64 to0,.int .i64 to1];rw[show(w.alloc (.cells #[.slice a0 nv c0,.slice a1 np c1,.slice a2 nb c2] 26)).heap.size=w.heap.size+1 by show(Array.push _ _).size=_;simp[Array.size_push]]at bb1;have Bl:=ag (bb0.keep hk1 (by simp));have Bm:=ag bb1;have HK:=ag (hk0.ak hk1);obtain⟨l0,l1,l2⟩:=Bl.o.c3;obtain⟨m0,m1,m2,m3⟩:=Bm.o.c4;simp at l0 l1 l2 m0 m1 m2 m3;clear hk0 hk1 bb0 bb1;go_enter Tryz.func57,Tryz.ntmps57;go_wp2;go_ret;exact⟨rfl,HK.o⟩
theorem tterm_any (f:ax) (b:df) (w:World) (hf:cz w f) (ht:qi f b.kind b.var b.to0 b.to1=true):Calls Tryz.prog 57 #[f.val,.agg #[.int .i64 b.kind,.int .i64 b.var,.int .i64 b.to0,.int .i64 b.to1]] w fun e w'=>e= .returned (.bool (Ai f b))∧ai w w' []:=by
 by_cases h0:b.kind=0
 ·have e:Ai f b= !(b.to0==0):=(by unfold Ai wu;rw[if_pos h0]);rw[e,h0];exact tterm_jump f b.var b.to0 b.to1 w hf
 ·have hv:inB b.var f.nv=true:=by
   unfold qi at ht;rw[if_neg h0]at ht;split at ht
   ·simp only[Bool.and_eq_true]at ht;first |exact ht.1.1|exact ht.1
   ·split at ht
    ·simp only[Bool.and_eq_true]at ht;first |exact ht.1.1|exact ht.1
    ·cases ht
  have hv2:=inB_iff.1 hv;have h:=typedTerm_any f b.kind b.var.toNat b.to0 b.to1 w hf (by omega);rw[show((b.var.toNat:Nat):Int)=b.var by omega]at h;exact h
def jf (f:ax):Int:=if(fw f&&qm f)=true then 0 else 3
theorem ru {f:ax} (h:fw f=true):∀b∈f.blocks.2,(∀p∈b.phis.2,xz f p=true)∧(∀x∈b.insts.2,lg f x=true)∧qi f b.kind b.var b.to0 b.to1=true:=by
 unfold fw at h;simp only[Bool.and_eq_true,List.all_eq_true]at h;intro b hb;have:=h.2.1 b hb;unfold ow at this;simp only[Bool.and_eq_true,List.all_eq_true]at this;exact⟨this.1.1,this.1.2,this.2⟩
theorem phiB_args {f:ax} {p:jk} (h:xz f p=true):(∀a∈p.args.2,inB a f.nv=true)∧inB p.dst f.nv=true:=by
 unfold xz at h;simp only[Bool.and_eq_true,List.all_eq_true]at h;exact⟨h.1.2,h.1.1.2⟩
theorem Ah (f:ax) (w:World) (ht:Tabs w) (hf:cz w f) (hfew:yu f):Calls Tryz.prog 33 #[f.val] w fun e w'=>e= .returned (.int .i64 (jf f))∧ai w w' []:=by
 have hk0:ai w (w.alloc (.cells #[f.vars.1,f.params.1,f.blocks.1] 26)) []:=(ai.refl w []).alloc _;have CS:=ag (shaped_any f _ (ht.keep hk0) (hf.keep hk0) hfew);have hbx:=Boxed.new w f;have HF:=ag (hf.keep hk0);obtain⟨a0,c0,e0,-,-,-⟩:=hf.vars.open_;obtain⟨a1,c1,e1,-,-,-⟩:=(show Row w 1 f.params.1 (f.params.2.map intCells)from hf.params).open_;obtain⟨a2,c2,e2,-,-,hc2⟩:=(hf.keep hk0).blocks.open_;have hval:f.val= .agg #[.slice a0 f.nv c0,.slice a1 f.np c1,.slice a2 f.nb c2]:=by unfold ax.val ax.nv ax.np ax.nb;rw[e0,e1,e2]
 have h1:#[f.vars.1,f.params.1,f.blocks.1]=#[.slice a0 f.nv c0,.slice a1 f.np c1,.slice a2 f.nb c2]:=by
  unfold ax.val at hval
  injection hval
 unfold Boxed at hbx;have CP:=ag (fun(p:jk) W h1 h2 h3 h4=>tphi_any f p W h1 h2 h3 h4);have CI:=ag (fun(x:cu) W h1 h2 h3=>tinst_any f x W h1 h2 h3);have CT:=ag (fun(y:df) W h1 h2=>tterm_any f y W h1 h2);rw[hval]at CS CP CI CT ⊢;rw[h1]at hbx CS HF hc2 hk0;have HC2:=ag hc2;have HW:=ag hk0;have Bl:=ag hbx;have HX:=ag (show jf f=if(fw f&&f.blocks.2.all (ng f))=true then 0 else 3 from rfl);have hnb:=hfew.nb;have HFB:=ag hfew.block;have HNB:=ag (show f.blocks.2.length=f.nb from rfl);obtain⟨l0,l1,l2⟩:=Bl.o.c3;simp at l0 l1 l2;generalize jf f=TE at*;clear e0 e1 e2 hval h1 hbx hf ht hfew hc2 hk0;cases hN:fw f with
 |false=>
  rw[hN]at CS HX;go_enter Tryz.func33,Tryz.ntmps33;go_wp2_with (go_at_call 54;refine(CS.o).mono ?_;rintro e w3 ⟨rfl,k3⟩;have K3:=ag k3;clear k3)
  go_ret;exact⟨by rw[HX.o];rfl,HW.o.ak K3.o⟩
 |true=>
  rw[hN]at CS HX;have HSh:=ag (ru hN);clear hN;have HK:=ag (ai.refl (w.alloc (.cells #[.slice a0 f.nv c0,.slice a1 f.np c1,.slice a2 f.nb c2] 26)) []);go_enter Tryz.func33,Tryz.ntmps33;go_wp2_with (go_at_call 54;refine(CS.o).mono ?_;rintro e w3 ⟨rfl,k3⟩;clear l0 l1 l2;replace Bl:=Bl.kb k3;replace HK:=HK.kt k3;obtain⟨l0,l1,l2⟩:=Bl.o.c3;simp at l0 l1 l2;clear k3)
  clear CS;have HKa:=HK;have Blo:=Bl;go_loopw [15] (fun i wr=>∃k:Nat,k≤f.nb∧i= .int .i64 k∧ai w3 wr []∧Hid (∀j,j<k→ng f f.blocks.2[j]! =true)) (fun i _=>f.nb -(intOf i).toNat)
  case atStart=>exact⟨0,Nat.zero_le _,rfl,ai.refl _ _,fun j hj=>absurd hj (Nat.not_lt_zero _)⟩
  case round=>
   obtain⟨k,hk,rfl,hr,A⟩:=hrel;obtain⟨wo,hwo⟩:∃wo:World,wo=wr:=⟨_,rfl⟩;subst hwo;clear l0 l1 l2 Bl HK;have HKo:=ag hr;have Bl:=ag (Blo.o.keep hr (by simp));clear hr;obtain⟨l0,l1,l2⟩:=Bl.o.c3;simp at l0 l1 l2;by_cases hlt:k<f.nb
   ·have hltz:(k:Int)<(f.nb:Int):=(by omega);obtain⟨bb,off,rfl,hbl,hcell⟩:=HC2.o k (by rw[HNB.o];exact hlt);have n0:=(HKa.o.ak HKo.o).cellOf (hcell 0 _ rfl);have n1:=(HKa.o.ak HKo.o).cellOf (hcell 1 _ rfl);have n2:=(HKa.o.ak HKo.o).cellOf (hcell 2 _ rfl);have n3:=(HKa.o.ak HKo.o).cellOf (hcell 3 _ rfl);have n4:=(HKa.o.ak HKo.o).cellOf (hcell 4 _ rfl);have n5:=(HKa.o.ak HKo.o).cellOf (hcell 5 _ rfl);have n6:=(HKa.o.ak HKo.o).cellOf (hcell 6 _ rfl);simp only[Nat.add_zero]at n0;clear hcell HC2;have hy2:=HFB.o _ (az (l:=f.blocks.2) (k:=k) (by rw[HNB.o];exact hlt));have hyb:=(HF.o.keep (HKa.o.ak HKo.o)).block _ (az (l:=f.blocks.2) (k:=k) (by rw[HNB.o];exact hlt));have hsh:=HSh.o _ (az (l:=f.blocks.2) (k:=k) (by rw[HNB.o];exact hlt));have HAll:=ag (fun h:ng f f.blocks.2[k]! =false=>Ac (p:=ng f) (k:=k) (show k<f.blocks.2.length by rw[HNB.o];exact hlt) h);generalize hy:f.blocks.2[k]! =y at*;have HY:=ag hy;clear hy;have HFo:=ag (HF.o.keep (HKa.o.ak HKo.o));have HYB:=ag hyb;have HSP:=ag hsh.1;have HSI:=ag hsh.2.1;have HST:=ag hsh.2.2;clear hsh;obtain⟨pa,pc,pe,-,-,hpc⟩:=hyb.phis.open_;obtain⟨qa,qc,qe,-,-,hqc⟩:=hyb.insts.open_;rw[pe]at n1;rw[qe]at n2;have HPC:=ag hpc;have HQC:=ag hqc;have hp4:=hy2.1;have hi4:=hy2.2;clear hyb pe qe hpc hqc hy2;have C3:=ag (fun W (kW:ai wo W [])=>CT.o y W (HFo.o.keep kW) HST.o);have HA:=ag (show ng f y=(y.phis.2.all (zt f)&&y.insts.2.all (lh f)&&Ai f y)from rfl);generalize hNP:y.phis.2.length=np' at*;generalize hNI:y.insts.2.length=ni' at*;have HNP:=ag hNP;have HNI:=ag hNI;clear hNP hNI;generalize Ai f y=A3 at*;generalize y.name=yn at*;generalize y.kind=yk at*;generalize y.var=yv at*;generalize y.to0=y0 at*;generalize y.to1=y1 at*;have bm:=Blk.new wo 38 #[.string yn,.slice pa np' pc,.slice qa ni' qc,.int .i64 yk,.int .i64 yv,.int .i64 y0,.int .i64 y1];have k3:ai wo (wo.alloc (.cells #[.string yn,.slice pa np' pc,.slice qa ni' qc,.int .i64 yk,.int .i64 yv,.int .i64 y0,.int .i64 y1] 38)) []:=(ai.refl wo []).alloc _;have HKb:=ag k3;clear l0 l1 l2;replace Bl:=Bl.kb k3;clear k3;have Bm:=ag bm;clear bm;obtain⟨l0,l1,l2⟩:=Bl.o.c3;obtain⟨m0,m1,m2,m3,m4,m5,m6⟩:=Bm.o.c7;simp at l0 l1 l2 m0 m1 m2 m3 m4 m5 m6;go_wp2;clear l0 l1 l2 m0 m1 m2 m3 m4 m5 m6 n0 n1 n2 n3 n4 n5 n6;generalize wo.alloc (.cells #[.string yn,.slice pa np' pc,.slice qa ni' qc,.int .i64 yk,.int .i64 yv,.int .i64 y0,.int .i64 y1] 38)=WB at*;have BlW:=Bl;have BmW:=Bm;have HK:=ag (ai.refl WB []);obtain⟨l0,l1,l2⟩:=Bl.o.c3;obtain⟨m0,m1,m2,m3,m4,m5,m6⟩:=Bm.o.c7;simp at l0 l1 l2 m0 m1 m2 m3 m4 m5 m6;go_loopw [22] (fun i wr=>∃j:Nat,j≤np'∧i= .int .i64 j∧ai WB wr []∧Hid (∀q,q<j→zt f y.phis.2[q]! =true)) (fun i _=>np' -(intOf i).toNat)
    case atStart=>exact⟨0,Nat.zero_le _,rfl,HK.o,fun j hj=>absurd hj (Nat.not_lt_zero _)⟩
    case round=>
     clear l0 l1 l2 m0 m1 m2 m3 m4 m5 m6;obtain⟨j,hj,rfl,hr,A1⟩:=hrel;clear Bl Bm HK;have HK:=ag hr;have Bl:=ag (BlW.o.keep hr (by simp));have Bm:=ag (BmW.o.keep hr (by simp));clear hr;obtain⟨l0,l1,l2⟩:=Bl.o.c3;obtain⟨m0,m1,m2,m3,m4,m5,m6⟩:=Bm.o.c7;simp at l0 l1 l2 m0 m1 m2 m3 m4 m5 m6;by_cases hltj:j<np'
     ·have hltjz:(j:Int)<(np':Int):=(by omega);obtain⟨pb,po,rfl,hpb,hpcell⟩:=HPC.o j hltj;have n0:=(HKb.o.ak HK.o).cellOf (hpcell 0 _ rfl);have n1:=(HKb.o.ak HK.o).cellOf (hpcell 1 _ rfl);have n2:=(HKb.o.ak HK.o).cellOf (hpcell 2 _ rfl);simp only[Nat.add_zero]at n0;clear hpcell HPC;have hmem:=az (l:=y.phis.2) (k:=j) (by rw[HNP.o];exact hltj);have hpa:=HYB.o.phi _ hmem;have hps:=HSP.o _ hmem;have HAllP:=ag (fun h:zt f y.phis.2[j]! =false=>Ac (p:=zt f) (k:=j) (show j<y.phis.2.length by rw[HNP.o];exact hltj) h);generalize hpy:y.phis.2[j]! =p at*;have HPY:=ag hpy;clear hpy hmem;have hkp:ai wr (wr.alloc (.cells p.cells.toArray 95)) []:=(ai.refl wr []).alloc _;obtain⟨hv1,hd1⟩:=phiB_args hps;have C1:=ag (CP.o p _ ((HFo.o.keep HKb.o).keep (HK.o.ak hkp)) ((hpa.keep HKb.o).keep (HK.o.ak hkp)) hv1 hd1);have bq:=Blk.new wr 95 p.cells.toArray;obtain⟨u1,v1,e1,-⟩:=bu.open_ hpa.1;obtain⟨u2,v2,e2,-⟩:=bu.open_ hpa.2;simp only[jk.cells,e1,e2]at C1 bq hkp;rw[e1]at n1;rw[e2]at n2;clear e1 e2 hv1 hd1;clear hpa hps;have q0:=bq.cell 0;have q1:=bq.cell 1;have q2:=bq.cell 2;simp at q0 q1 q2;have HKp:=ag hkp;clear bq hkp;have Blx:=ag (Bl.o.keep HKp.o (by simp));clear l0 l1 l2;obtain⟨l0,l1,l2⟩:=Blx.o.c3;simp at l0 l1 l2;generalize hap:zt f p=ap at*;have HAP:=ag hap;clear hap;generalize p.args.2.length=pna at*;generalize p.froms.2.length=pnf at*;generalize p.dst=pdst at*;cases ap with
      |false=>
       go_wp2_with (go_at_call 55;refine(C1.o).mono ?_;rintro e w5 ⟨rfl,k5⟩;have K5:=ag k5;clear k5)
       go_ret;exact⟨by rw[HX.o,HAll.o (by rw[HA.o,HAllP.o (by simp)];simp)];rfl,HW.o.ak (HKa.o.ak (HKo.o.ak (HKb.o.ak (HK.o.ak (HKp.o.ak K5.o)))))⟩
      |true=>
       go_wp2_with (go_at_call 55;refine(C1.o).mono ?_;rintro e w5 ⟨rfl,k5⟩;have K5:=ag k5;clear k5)
       go_roundw
       case rel=>
        refine⟨j+1,by omega,by go_num,HK.o.ak (HKp.o.ak K5.o),(show Hid _ from fun q hq=> ?_)⟩;by_cases e:q=j
        ·subst e;rw[HPY.o];exact HAP.o
        ·exact A1.o q (by omega)
       case measure=>simp[intOf];omega
     ·have hltjz:¬(j:Int)<(np':Int):=(by omega);obtain rfl:np'=j:=by omega
      have AP:=ag (show y.phis.2.all (zt f)=true from nu (p:=zt f) (fun q hq=>A1.o q (by rw[←HNP.o];exact hq)));clear A1 HPC;go_wp2;go_loopw [34] (fun i wr=>∃j:Nat,j≤ni'∧i= .int .i64 j∧ai WB wr []∧Hid (∀q,q<j→lh f y.insts.2[q]! =true)) (fun i _=>ni' -(intOf i).toNat)
      case atStart=>exact⟨0,Nat.zero_le _,rfl,HK.o,fun j hj=>absurd hj (Nat.not_lt_zero _)⟩
      case round=>
       clear l0 l1 l2 m0 m1 m2 m3 m4 m5 m6;obtain⟨j,hj,rfl,hr,A1⟩:=hrel;clear Bl Bm HK;have HK:=ag hr;have Bl:=ag (BlW.o.keep hr (by simp));have Bm:=ag (BmW.o.keep hr (by simp));clear hr;obtain⟨l0,l1,l2⟩:=Bl.o.c3;obtain⟨m0,m1,m2,m3,m4,m5,m6⟩:=Bm.o.c7;simp at l0 l1 l2 m0 m1 m2 m3 m4 m5 m6;by_cases hltj:j<ni'
       ·have hltjz:(j:Int)<(ni':Int):=(by omega);obtain⟨pb,po,rfl,hpb,hpcell⟩:=HQC.o j hltj;have n0:=(HKb.o.ak HK.o).cellOf (hpcell 0 _ rfl);have n1:=(HKb.o.ak HK.o).cellOf (hpcell 1 _ rfl);have n2:=(HKb.o.ak HK.o).cellOf (hpcell 2 _ rfl);have n3:=(HKb.o.ak HK.o).cellOf (hpcell 3 _ rfl);simp only[Nat.add_zero]at n0;clear hpcell HQC;have hmem:=az (l:=y.insts.2) (k:=j) (by rw[HNI.o];exact hltj);have hpa:=HYB.o.inst _ hmem;have hps:=HSI.o _ hmem;have HAllP:=ag (fun h:lh f y.insts.2[j]! =false=>Ac (p:=lh f) (k:=j) (show j<y.insts.2.length by rw[HNI.o];exact hltj) h);generalize hpy:y.insts.2[j]! =p at*;have HPY:=ag hpy;clear hpy hmem;have hkp:ai wr (wr.alloc (.cells p.cells.toArray 43)) []:=(ai.refl wr []).alloc _;have C1:=ag (CI.o p _ ((HFo.o.keep HKb.o).keep (HK.o.ak hkp)) ((Row.keep hpa HKb.o).keep (HK.o.ak hkp)) hps);have bq:=Blk.new wr 43 p.cells.toArray;obtain⟨u1,v1,e1,-⟩:=bu.open_ hpa;simp only[cu.cells,e1]at C1 bq hkp;rw[e1]at n2;clear e1;clear hpa hps;have q0:=bq.cell 0;have q1:=bq.cell 1;have q2:=bq.cell 2;have q3:=bq.cell 3;simp at q0 q1 q2 q3;have HKp:=ag hkp;clear bq hkp;have Blx:=ag (Bl.o.keep HKp.o (by simp));clear l0 l1 l2;obtain⟨l0,l1,l2⟩:=Blx.o.c3;simp at l0 l1 l2;generalize hap:lh f p=ap at*;have HAP:=ag hap;clear hap;generalize p.args.2.length=pna at*;generalize p.op=pop at*;generalize p.dst=pdst at*;generalize p.num=pnum at*;cases ap with
        |false=>
         go_wp2_with (go_at_call 56;refine(C1.o).mono ?_;rintro e w5 ⟨rfl,k5⟩;have K5:=ag k5;clear k5)
         go_ret;exact⟨by rw[HX.o,HAll.o (by rw[HA.o,HAllP.o (by simp)];simp)];rfl,HW.o.ak (HKa.o.ak (HKo.o.ak (HKb.o.ak (HK.o.ak (HKp.o.ak K5.o)))))⟩
        |true=>
         go_wp2_with (go_at_call 56;refine(C1.o).mono ?_;rintro e w5 ⟨rfl,k5⟩;have K5:=ag k5;clear k5)
         go_roundw
         case rel=>
          refine⟨j+1,by omega,by go_num,HK.o.ak (HKp.o.ak K5.o),(show Hid _ from fun q hq=> ?_)⟩;by_cases e:q=j
          ·subst e;rw[HPY.o];exact HAP.o
          ·exact A1.o q (by omega)
         case measure=>simp[intOf];omega
       ·have hltjz:¬(j:Int)<(ni':Int):=(by omega);obtain rfl:ni'=j:=by omega
        have AI:=ag (show y.insts.2.all (lh f)=true from nu (p:=lh f) (fun q hq=>A1.o q (by rw[←HNI.o];exact hq)));clear A1 HQC;cases hA3:A3 with
        |false=>
         rw[hA3]at C3 HA;go_wp2_with (go_at_call 57;refine(C3.o _ (HKb.o.ak HK.o)).mono ?_;rintro e w5 ⟨rfl,k3⟩;clear l0 l1 l2 m0 m1 m2 m3 m4 m5 m6;replace Bl:=Bl.kb k3;replace Bm:=Bm.kb k3;replace HK:=HK.kt k3;obtain⟨l0,l1,l2⟩:=Bl.o.c3;obtain⟨m0,m1,m2,m3,m4,m5,m6⟩:=Bm.o.c7;simp at l0 l1 l2 m0 m1 m2 m3 m4 m5 m6;clear k3)
         go_ret;exact⟨by rw[HX.o,HAll.o (by rw[HA.o];simp)];rfl,HW.o.ak (HKa.o.ak (HKo.o.ak (HKb.o.ak HK.o)))⟩
        |true=>
         rw[hA3]at C3 HA;go_wp2_with (go_at_call 57;refine(C3.o _ (HKb.o.ak HK.o)).mono ?_;rintro e w5 ⟨rfl,k3⟩;clear l0 l1 l2 m0 m1 m2 m3 m4 m5 m6;replace Bl:=Bl.kb k3;replace Bm:=Bm.kb k3;replace HK:=HK.kt k3;obtain⟨l0,l1,l2⟩:=Bl.o.c3;obtain⟨m0,m1,m2,m3,m4,m5,m6⟩:=Bm.o.c7;simp at l0 l1 l2 m0 m1 m2 m3 m4 m5 m6;clear k3)
         go_roundw
         case rel=>
          refine⟨k+1,by omega,by go_num,HKo.o.ak (HKb.o.ak HK.o),(show Hid _ from fun q hq=> ?_)⟩;by_cases e:q=k
          ·subst e;rw[HY.o,HA.o,AP.o,AI.o];rfl
          ·exact A.o q (by omega)
         case measure=>simp[intOf];omega
   ·have hltz:¬(k:Int)<(f.nb:Int):=(by omega);obtain rfl:f.nb=k:=by omega
    go_wp2;go_ret;exact⟨by rw[HX.o,nu (p:=ng f) (fun j hj=>A.o j (by rw[←HNB.o];exact hj))];rfl,HW.o.ak (HKa.o.ak HKo.o)⟩
end Go.Proofs.YtjllbchfojonhaaGreatDoor
