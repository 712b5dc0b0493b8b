/- Of a typed program: graph.Order, Preds, Reach; slices.Repeat of one bool; contracts. ; What is good at the beginning of a block: what is good at the ends of all that lead there (guard.meet); the walk. ; The field of a program under way: what look does to it; plain. -/
import Derived.Test.YtjllbchfojonhaaGreatDoorGT
import Derived.Test.YtjllbchfojonhaaGreatDoorTY
import Derived.Laws.CopyOwn
import Derived.Deep.RegionLaw
import Derived.Deep.CutBlock
import Derived.Deep.Cut
set_option linter.unusedVariables false
set_option linter.unusedSimpArgs false
set_option maxRecDepth 100000
set_option maxHeartbeats 200000000
namespace Go.Proofs.YtjllbchfojonhaaGreatDoor
open Go.RowKit Go.Shelf Go.Lib
theorem typed_shaped {f:ax} (h:jf f=0):fw f=true∧qm f=true:=by
 unfold jf at h;by_cases e:(fw f&&qm f)=true
 ·rw[Bool.and_eq_true]at e;exact e
 ·rw[if_neg e]at h;omega
theorem ends_ok {f:ax} (h:jf f=0) (hfew:yu f):vw f:=by
 obtain⟨hS,_⟩:=typed_shaped h;have hb:=ru hS
 have hnb:1≤f.nb:=by
  unfold fw yf at hS;simp only[Bool.and_eq_true,decide_eq_true_eq]at hS;omega
 exact⟨by omega,by have:=hfew.nb;omega,fun c hc=>(hb _ (az hc)).2.2⟩
theorem right_any (f:ax) (w:World) (ht:Tabs w) (hf:cz w f) (hfew:yu f) (hT:jf f=0):Calls Tryz.prog 100 #[f.val] w fun e w'=>e= .returned (.bool true)∧ai w w' []:=by
 have CT:=ag (fun W h1 (h2:cz W f)=>Ah f W h1 h2 hfew);rw[hT]at CT;have HTB:=ag ht;obtain⟨a0,c0,a1,c1,a2,c2,e0,e1,e2,hval,h1,HF,HC0,HC1,HC2,HNV,HNP,HNB⟩:=qj hf;rw[hval]at CT ⊢;clear hval h1 e0 e1 e2 hf HC0 HC1 HC2 ht hT;obtain⟨HK,Bl⟩:=Cc w 26 #[.slice a0 f.nv c0,.slice a1 f.np c1,.slice a2 f.nb c2];obtain⟨l0,l1,l2⟩:=Bl.o.c3;simp at l0 l1 l2;go_enter Tryz.func100,Tryz.ntmps100;go_wp2_with (first |(go_at_call 33;refine(CT.o _ (HTB.o.keep HK.o) (HF.o.keep HK.o)).mono ?_;rintro e w3 ⟨rfl,k3⟩;clear l0 l1 l2;replace Bl:=Bl.kb k3;replace HK:=HK.kt k3;obtain⟨l0,l1,l2⟩:=Bl.o.c3;simp at l0 l1 l2;clear k3))
 go_ret;exact⟨rfl,HK.o⟩
theorem orderT_any (f:ax) (w:World) (ht:Tabs w) (hf:cz w f) (hfew:yu f) (hT:jf f=0):Calls Tryz.prog 61 #[f.val] w fun e w'=>(∃v,e= .returned v∧∃ord,w'.ownsRow w.heap.size 3 1 v ord.length (Cw ord)∧OrdOK f ord)∧ai w w' []:=by
 have CR:=ag (fun W h1 (h2:cz W f)=>right_any f W h1 h2 hfew hT);have CI:=ag (fun W (h2:cz W f)=>order_any f W h2 (ends_ok hT hfew));have HTB:=ag ht;obtain⟨a0,c0,a1,c1,a2,c2,e0,e1,e2,hval,h1,HF,HC0,HC1,HC2,HNV,HNP,HNB⟩:=qj hf;rw[hval]at CR CI ⊢;clear hval h1 e0 e1 e2 hf HC0 HC1 HC2 ht hT;obtain⟨HK,Bl⟩:=Cc w 26 #[.slice a0 f.nv c0,.slice a1 f.np c1,.slice a2 f.nb c2];obtain⟨l0,l1,l2⟩:=Bl.o.c3;simp at l0 l1 l2;go_enter Tryz.func61,Tryz.ntmps61;go_upto_region 3 with(first |(go_at_call 100;refine(CR.o _ (HTB.o.keep HK.o) (HF.o.keep HK.o)).mono ?_;rintro e w3 ⟨rfl,k3⟩;clear l0 l1 l2;replace Bl:=Bl.kb k3;replace HK:=HK.kt k3;obtain⟨l0,l1,l2⟩:=Bl.o.c3;simp at l0 l1 l2;clear k3))
 have hz:=HK.o.size;go_wp2_with (first |(go_at_call 103;refine(CI.o _ (HF.o.keep HK.o)).mono ?_;rintro e w3 ⟨⟨ov,ord,rfl,hown,hord⟩,k3⟩;have OO:=ag hown;have HO:=ag hord;clear hown hord;clear l0 l1 l2;replace Bl:=Bl.kb k3;replace HK:=HK.kt k3;obtain⟨l0,l1,l2⟩:=Bl.o.c3;simp at l0 l1 l2;clear k3))
 go_ret;exact⟨⟨_,rfl,_,dm OO.o hz,HO.o⟩,HK.o⟩
theorem reachT_any (f:ax) (w:World) (ht:Tabs w) (hf:cz w f) (hfew:yu f) (hT:jf f=0):Calls Tryz.prog 59 #[f.val] w fun e w'=>(∃v,e= .returned v∧∃th,w'.ownsRow w.heap.size 4 1 v f.nb (wm th)∧Bb f th)∧ai w w' []:=by
 have CR:=ag (fun W h1 (h2:cz W f)=>right_any f W h1 h2 hfew hT);have CI:=ag (fun W (h2:cz W f)=>reach_any f W h2 (ends_ok hT hfew));have HTB:=ag ht;obtain⟨a0,c0,a1,c1,a2,c2,e0,e1,e2,hval,h1,HF,HC0,HC1,HC2,HNV,HNP,HNB⟩:=qj hf;rw[hval]at CR CI ⊢;clear hval h1 e0 e1 e2 hf HC0 HC1 HC2 ht hT;obtain⟨HK,Bl⟩:=Cc w 26 #[.slice a0 f.nv c0,.slice a1 f.np c1,.slice a2 f.nb c2];obtain⟨l0,l1,l2⟩:=Bl.o.c3;simp at l0 l1 l2;go_enter Tryz.func59,Tryz.ntmps59;go_upto_region 3 with(first |(go_at_call 100;refine(CR.o _ (HTB.o.keep HK.o) (HF.o.keep HK.o)).mono ?_;rintro e w3 ⟨rfl,k3⟩;clear l0 l1 l2;replace Bl:=Bl.kb k3;replace HK:=HK.kt k3;obtain⟨l0,l1,l2⟩:=Bl.o.c3;simp at l0 l1 l2;clear k3))
 have hz:=HK.o.size;go_wp2_with (first |(go_at_call 101;refine(CI.o _ (HF.o.keep HK.o)).mono ?_;rintro e w3 ⟨⟨ov,rfl,th,hown,hord⟩,k3⟩;have OO:=ag hown;have HO:=ag hord;clear hown hord;clear l0 l1 l2;replace Bl:=Bl.kb k3;replace HK:=HK.kt k3;obtain⟨l0,l1,l2⟩:=Bl.o.c3;simp at l0 l1 l2;clear k3))
 go_ret;exact⟨⟨_,rfl,_,dm OO.o hz,HO.o⟩,HK.o⟩
theorem predsT_any (f:ax) (w:World) (ht:Tabs w) (hf:cz w f) (hfew:yu f) (hT:jf f=0):Calls Tryz.prog 60 #[f.val] w fun e w'=>(∃g,e= .returned (.slice (some ⟨g,0,none⟩) f.nb f.nb)∧∃vs P,uk w' w.heap.size g f.nb vs P∧Df f P)∧ai w w' []:=by
 have CR:=ag (fun W h1 (h2:cz W f)=>right_any f W h1 h2 hfew hT);have CI:=ag (fun W (h2:cz W f)=>preds_any f W h2 (ends_ok hT hfew));have HTB:=ag ht;obtain⟨a0,c0,a1,c1,a2,c2,e0,e1,e2,hval,h1,HF,HC0,HC1,HC2,HNV,HNP,HNB⟩:=qj hf;rw[hval]at CR CI ⊢;clear hval h1 e0 e1 e2 hf HC0 HC1 HC2 ht hT;obtain⟨HK,Bl⟩:=Cc w 26 #[.slice a0 f.nv c0,.slice a1 f.np c1,.slice a2 f.nb c2];obtain⟨l0,l1,l2⟩:=Bl.o.c3;simp at l0 l1 l2;go_enter Tryz.func60,Tryz.ntmps60;go_upto_region 3 with(first |(go_at_call 100;refine(CR.o _ (HTB.o.keep HK.o) (HF.o.keep HK.o)).mono ?_;rintro e w3 ⟨rfl,k3⟩;clear l0 l1 l2;replace Bl:=Bl.kb k3;replace HK:=HK.kt k3;obtain⟨l0,l1,l2⟩:=Bl.o.c3;simp at l0 l1 l2;clear k3))
 have hz:=HK.o.size;go_wp2_with (first |(go_at_call 102;refine(CI.o _ (HF.o.keep HK.o)).mono ?_;rintro e w3 ⟨⟨g,rfl,vs,P,hP,hord⟩,k3⟩;have OO:=ag hP;have HO:=ag hord;clear hP hord;clear l0 l1 l2;replace Bl:=Bl.kb k3;replace HK:=HK.kt k3;obtain⟨l0,l1,l2⟩:=Bl.o.c3;simp at l0 l1 l2;clear k3))
 go_ret;exact⟨⟨_,rfl,_,_,⟨OO.o.lv,OO.o.lp,OO.o.g,fun b hb=>dm (OO.o.r b hb) hz,OO.o.ap⟩,HO.o⟩,HK.o⟩
def Cv (m n:Nat):List Value:=List.replicate m (.bool true)++List.replicate (n -m) (.bool false)
theorem repC_len (m n:Nat) (h:m≤n):(Cv m n).length=n:=by simp[Cv];omega
theorem repC_at {m n j:Nat} (h:j<m):(Cv m n)[j]? =some (.bool true):=by
 unfold Cv;rw[List.getElem?_append_left (by simpa using h)];simp[h]
theorem repC_splice {m n k:Nat} (hm:m+k≤n):splice (Cv m n) m (List.replicate k (.bool true))=Cv (m+k) n:=by
 unfold splice Cv;have e1:(List.replicate m (Value.bool true)++List.replicate (n -m) (Value.bool false)).take m=List.replicate m (Value.bool true):=List.take_left' (by simp)
 have e2:(List.replicate m (Value.bool true)++List.replicate (n -m) (Value.bool false)).drop (m+k)=List.replicate (n -(m+k)) (Value.bool false):=by
  rw[List.drop_append,List.drop_of_length_le (by simp),List.nil_append,List.length_replicate,List.drop_replicate]
  congr 1;omega
 rw[e1,List.length_replicate,e2,←List.append_assoc,List.replicate_append_replicate]
theorem repC_zero (n:Nat):oz (List.replicate n false)=(Cv 0 n).toArray:=by simp[oz,Cv]
theorem keeps_of_below {w w':World} (h:Below w.heap.size w w'):ai w w' []:=by
 obtain⟨h1,h2,h3,h4,h5⟩:=h;exact⟨h1,h2,h3,h4,fun k hk _=>h5 k hk⟩
theorem repC_full (n:Nat):Cv n n=wm (List.replicate n true):=by simp[Cv,wm]
theorem make_boolsB (q:Nat) (hq:q≤100000) (w:World):(Instr.makeSlice 39 (.int .i64 (q:Int)) (.int .i64 (q:Int))).run Tryz.prog w= .ok (.slice (some ⟨w.heap.size,0,none⟩) q q) (w.alloc (.cells (oz (List.replicate q false)) 4)):=by
 obtain⟨i,hi,he⟩:=Option.map_eq_some_iff.1 info4r;simp only[Prod.mk.injEq]at he;obtain⟨hz,hsz,hby⟩:=he;have hr:=Go.run_makeSlice (P:=Tryz.prog) (w:=w) 39 4 i (.bool false) (by kernel_rfl) hi hz .i64 .i64 (q:Int) (q:Int) (by omega) (Int.le_refl _) (by rw[hsz];omega) (by rw[hby];omega) (by omega);rw[hsz,Int.toNat_natCast,Nat.mul_one,made_bits]at hr;exact hr
theorem mul_any (n:Nat) (hn:n≤100000) (w:World):Calls Tryz.prog 104 #[.int .u64 1,.int .u64 (n:Nat)] w fun e w'=>e= .returned (.tuple #[.int .u64 0,.int .u64 (n:Nat)])∧w=w':=
 (show Calls Tryz.prog 104 #[.int .u64 ((1:Nat):Int),.int .u64 (n:Nat)] w fun e w'=>e= .returned (.tuple #[.int .u64 ((1*n / 18446744073709551616:Nat):Int),.int .u64 ((1*n % 18446744073709551616:Nat):Int)])∧w'=w from Any.bits_Mul Tryz.laysMul 1 n (by omega) (by omega) w).mono fun _ _ h=>⟨by rw[h.1,Nat.one_mul,Nat.div_eq_of_lt (by omega),Nat.mod_eq_of_lt (by omega)];rfl,h.2.symm⟩
theorem uo (n b:Nat) (w:World) (hn:n≤100000) (hs:Blk w b 4 #[.bool true]):Calls Tryz.prog 62 #[.slice (some ⟨b,0,none⟩) 1 1,.int .i64 (n:Nat)] w fun e w'=>(∃v,e= .returned v∧w'.ownsRow w.heap.size 4 1 v n (wm (List.replicate n true)))∧ai w w' []:=by
 have hmk:=make_boolsB n hn;have h0:¬(n:Int)<0:=(by omega);have hw:IntKind.u64.wrap (n:Int)=(n:Int):=(by rw[IntKind.wrap_u64];omega);have hw2:IntKind.i64.wrap (n:Int)=(n:Int):=IntWalk.i64_in _ (by omega);have hbig:¬(9223372036854775807:Int)<(n:Int):=(by omega);have HS:=ag hs;clear hs;go_enter Tryz.func62,Tryz.ntmps62;go_upto_region 7 with(first |(go_at_call 104;refine(mul_any n hn _).mono ?_;rintro e w3 ⟨rfl,rfl⟩))
 have k1:ai w (w.alloc (.cells (oz (List.replicate n false)) 4)) []:=(ai.refl _ []).alloc _;have b1:=Blk.new w 4 (oz (List.replicate n false));rw[repC_zero]at k1 b1 ⊢;have HS1:=ag (HS.o.keep k1 (by simp));have HK:=ag k1;have HB:=ag b1;clear k1 b1 hmk hw hw2
 skip
 generalize w.alloc (.cells (Cv 0 n).toArray 4)=W1 at*;obtain⟨g,hg⟩:∃g,g=w.heap.size:=⟨_,rfl⟩;rw[←hg]at HB;simp only[←hg];have HG:=ag (show w.heap.size≤g by omega);clear hg;obtain⟨m0,hm0⟩:∃m0,min 1 n=m0:=⟨_,rfl⟩;have hm1:m0≤1∧m0≤n∧(n=0∨0<m0):=(by omega);go_wp2_with (first |(show wpList _ _ _ (⟨some 33,_,_,_,_,_⟩::_) _ _;go_must(refine wpList_copy_splice rfl (.tmp 31) (.tmp 32) 39 39 rfl 4 Tryz.underlying39 (by kernel_rfl) (some ⟨g,0,none⟩) (some ⟨b,0,none⟩) n n 1 1 rfl rfl g 0 (Cv 0 n) 4 HB.o (List.replicate m0 (.bool true)) (by rw[List.length_replicate];exact hm0.symm) (fun _=>⟨rfl,_,rfl,fun j v hj=>by have hj1:=(List.getElem?_eq_some_iff.1 hj).1;rw[List.length_replicate]at hj1;obtain rfl:j=0:=(by omega);have ev:v= .bool true:=(List.mem_replicate.1 (List.mem_of_getElem? hj)).2;rw[ev];exact HS1.o.cell 0⟩) (by rw[repC_len _ _ (Nat.zero_le _),List.length_replicate];omega) (fun v hv=>by rw[(List.mem_replicate.1 hv).2];rfl) w.heap.size w (ai.below HK.o (Nat.le_refl _) (by simp)) HG.o ?_);go_must(intro w4 hg4 hb4;have HB4:Hid (Blk w4 g 4 (Cv m0 n).toArray):=(by have h9:=hg4.out;rw[repC_splice (by omega),Nat.zero_add]at h9;exact h9);have HK4:=ag (keeps_of_below hb4);clear hg4 hb4;rw[List.length_replicate])))
 have HR4:=ag (show m0≤n∧(n=0∨0<m0)from⟨hm1.2.1,hm1.2.2⟩);clear hm0 HB HK HS1;go_loopw [8] (fun a' wx=>∃m:Nat,m≤n∧(n=0∨0<m)∧a'= .int .i64 m∧Hid (Blk wx g 4 (Cv m n).toArray)∧ai w wx []) (fun a' _=>n -(intOf a').toNat)
 case atStart=>exact⟨m0,HR4.o.1,HR4.o.2,rfl,HB4.o,HK4.o⟩
 case round=>
  obtain⟨m,hm,hm0,rfl,hB,hr⟩:=hrel;have HB:=ag hB.out;have HK:=ag hr;clear hB hr HB4 HK4;by_cases hlm:m<n
  ·have hlmz:(m:Int)<(n:Int):=(by omega);have hmz:(m:Int)≤(n:Int):=(by omega);obtain⟨k,hk⟩:∃k,min m (n -m)=k:=⟨_,rfl⟩;have hk1:0<k∧m+k≤n:=(by omega);have hadd:(if n=m then(some ⟨g,0,none⟩:Option Addr)else Option.map (fun(x:Addr)=>x.add m) (some (⟨g,0,none⟩:Addr)))=some ⟨g,m,none⟩:=(by rw[if_neg (by omega),Option.map_some,add_plain,Nat.zero_add]);have HBh:wr.heap[g]? =some (.cells (Cv m n).toArray 4 (0,0)):=HB.o
   have hsrc:∀j v,(List.replicate k (Value.bool true))[j]? =some v→wr.cell? ((⟨g,0,none⟩:Addr).add j)=some v:=fun j v hj=>by
    have hj1:=(List.getElem?_eq_some_iff.1 hj).1;rw[List.length_replicate]at hj1;have ev:v= .bool true:=(List.mem_replicate.1 (List.mem_of_getElem? hj)).2;rw[ev,add_plain,Nat.zero_add,HB.o.cell j,List.getElem?_toArray];exact repC_at (by omega)
   have hbel:Below w.heap.size w wr:=ai.below HK.o (Nat.le_refl _) (by simp);go_upto_region 9 with(fail)
   refine wp_region_held_drew (S:=fun _=>True) (by kernel_rfl) trivial (fun ah=> ?_);have HB0:=ag (show wr.drew.heap[g]? =some (.cells (Cv m n).toArray 4 (0,0))from HBh);have hsrc0:∀j v,(List.replicate k (Value.bool true))[j]? =some v→wr.drew.cell? ((⟨g,0,none⟩:Addr).add j)=some v:=hsrc;have HK0:=ag (show ai w wr.drew []from HK.o.drew);have hbel0:Below w.heap.size w wr.drew:=ai.below HK0.o (Nat.le_refl _) (by simp);clear HBh hsrc hbel HK HB;generalize wr.drew=X0 at*;refine tp 0 38 rfl ah ?_;refine tp 1 39 rfl ah ?_;refine tp 2 40 rfl ah ?_;refine tp 3 41 rfl ah ?_;refine tp 4 42 rfl ah ?_;refine tp 5 43 rfl ah ?_;refine tp 6 44 rfl ah ?_;rw[if_neg (show ¬n=m by omega)];refine t2 [7] ?_;refine AllReadyH.cons (o:=⟨some 45,.call ⟨.builtin .copy,#[.tmp 41,.tmp 44],#[39,39]⟩,_,_,_,_⟩) rfl (fun K hK=> ?_) AllReadyH.nil;refine step_copy_splice rfl (.tmp 41) (.tmp 44) 39 39 rfl 4 Tryz.underlying39 (by kernel_rfl) (some ⟨g,m,none⟩) (some ⟨g,0,none⟩) (n -m) (n -m) m n rfl rfl g m (Cv m n) 4 HB0.o (List.replicate k (.bool true)) (by rw[List.length_replicate];exact hk.symm) (fun _=>⟨rfl,_,rfl,hsrc0⟩) (by rw[repC_len _ _ hm,List.length_replicate];omega) (fun v hv=>by rw[(List.mem_replicate.1 hv).2];rfl) w.heap.size w hbel0 HG.o ?_;intro w5 hg5 hb5;have HB5:Hid (Blk w5 g 4 (Cv (m+k) n).toArray):=(by have h9:=hg5.out;rw[repC_splice hk1.2]at h9;exact h9);have HK5:=ag (keeps_of_below hb5);clear hg5 hb5 ah;rw[List.length_replicate];show K _ _;refine hK.out _ _ trivial (fun ah=> ?_);clear hK K;try simp only[Act.put,sA,sB,sC]
   refine tp 8 46 rfl ah ?_;refine tp 9 8 rfl ah ?_;refine wpAnyH_done (by kernel_rfl) ?_ _;clear ah;have hwm:IntKind.i64.wrap ((m:Int)+(k:Int))=((m+k:Nat):Int):=(by rw[IntWalk.i64_in _ (by omega)];omega);go_wp2;try rw[hwm]
   go_roundw
   case rel=>exact⟨m+k,hk1.2,.inr (by omega),by go_num,HB5.o,HK5.o⟩
   case measure=>simp[intOf];omega
  ·have hlmz:¬(m:Int)<(n:Int):=(by omega);obtain rfl:m=n:=by omega
   go_wp2;go_ret;exact⟨⟨_,rfl,by rw[←repC_full];exact⟨by rw[repC_len _ _ (Nat.le_refl _),Nat.mul_one],.inr ⟨g,m,(Cv m m).toArray,rfl,HG.o,HB.o,Nat.le_refl _,by unfold maxLen;omega,by simp[Cv],by simp[Cv]⟩⟩⟩,HK.o⟩
def thrB (f:ax) (cs:List dn) (i p:Nat) (g:Bool):Bool:=lm f.blocks.2[p]! cs[i]!.op cs[i]!.args.2 f.blocks.2[p]!.insts.2.length g
def ut (f:ax) (cs:List dn) (th:List Bool) (I:List (List Bool)) (P:List Nat) (k:Nat):List Bool:=(List.range cs.length).map fun i=>((P.take k).filter fun p=>th[p]!).all fun p=>thrB f cs i p (I[p]![i]!)
def zipTo (a r:List Bool) (n j:Nat):List Bool:=(List.range n).map fun i=>if i<j then(a[i]! &&r[i]!)else a[i]!
theorem zipTo_len (a r:List Bool) (n j:Nat):(zipTo a r n j).length=n:=by simp[zipTo]
theorem zipTo_zero {a r:List Bool} {n:Nat} (h:a.length=n):zipTo a r n 0=a:=(oq fun i hi=>if_neg (Nat.not_lt_zero _)).trans (Dt h).symm
theorem zipTo_at {a r:List Bool} {n j:Nat} (hj:j<n):(zipTo a r n j)[j]! =a[j]! :=by unfold zipTo;rw[pu _ hj,if_neg (Nat.lt_irrefl _)]
theorem zipTo_step {a r:List Bool} {n j:Nat} (hj:j<n):zipTo a r n (j+1)=(zipTo a r n j).set j (a[j]! &&r[j]!):=by
 unfold zipTo;rw[set_range _ _ hj];refine oq fun i hi=> ?_;by_cases e:i=j
 ·subst e;rw[if_pos (Nat.lt_succ_self _),if_pos rfl]
 ·rw[if_neg e];by_cases h2:i<j
  ·rw[if_pos h2,if_pos (by omega)]
  ·rw[if_neg h2,if_neg (by omega)]
section
variable {f:ax} {cs:List dn} {th:List Bool} {I:List (List Bool)} {P:List Nat} {k:Nat}
theorem meetTo_len:(ut f cs th I P k).length=cs.length:=by simp[ut]
theorem meetTo_zero:ut f cs th I P 0=List.replicate cs.length true:=by
 unfold ut;refine List.ext_getElem (by simp) fun i h1 h2=>by simp
theorem meetTo_no (hk:k<P.length) (h:th[P[k]!]! =false):ut f cs th I P (k+1)=ut f cs th I P k:=by
 unfold ut;refine oq fun i hi=> ?_;rw[List.take_succ_eq_append_getElem hk,List.filter_append,←getElem!_pos P k hk,List.filter_cons_of_neg (by rw[h];simp),List.filter_nil,List.append_nil]
theorem meetTo_yes (hk:k<P.length) (h:th[P[k]!]! =true):ut f cs th I P (k+1)=zipTo (ut f cs th I P k) (pm cs f.blocks.2[P[k]!]! f.blocks.2[P[k]!]!.insts.2.length I[P[k]!]!) cs.length cs.length:=by
 unfold zipTo
 conv=>lhs;unfold ut
 refine oq fun i hi=> ?_;rw[if_pos hi,List.take_succ_eq_append_getElem hk,List.filter_append,←getElem!_pos P k hk,List.filter_cons_of_pos (by rw[h]),List.filter_nil,List.all_append];unfold ut pm;rw[pu _ hi,pu _ hi];simp[thrB]
end
structure FieldOK (f:ax) (cs:List dn) (th:List Bool) (I:List (List Bool)):Prop where
 nb:f.nb≤1000
 nc:cs.length≤100000
 lt:th.length=f.nb
 li:I.length=f.nb
 lw:∀b,b<f.nb→I[b]!.length=cs.length
 ok:∀b,b<f.nb→Dx cs f.blocks.2[b]!
 bd:∀b,b<f.nb→f.blocks.2[b]!.phis.2.length≤100000∧f.blocks.2[b]!.insts.2.length≤100000
theorem getElem?_pos_bang {α:Type} [Inhabited α] {l:List α} {i:Nat} (h:i<l.length):l[i]? =some l[i]! :=by rw[List.getElem?_eq_getElem h,getElem!_pos l i h]
theorem ww {w:World} {base n:Nat} {e:TypeId} {v:Value} {xs:List Value} (h:w.ownsRow base e 1 v n xs) (hn:0<n):∃g cap,v= .slice (some ⟨g,0,none⟩) n cap∧base≤g∧v.ownBlock=some g∧∀j,j<n→w.cell? ⟨g,j,none⟩=xs[j]? :=by
 obtain⟨g,cap,h1,h2,h3,-,-,-,hc,-⟩:=zl h hn;exact⟨g,cap,h1,h2,h3,fun j hj=>hc j (by omega)⟩
theorem meet_any (f:ax) (cs:List dn) (th:List Bool) (I:List (List Bool)) (lv tv iv:Value) (vs:List Value) (L:Nat) (q:jl) (P:List Nat) (w:World) (hF:ny w L f cs th I lv tv iv vs) (hO:FieldOK f cs th I) (hq:bu w q) (hP:q.2=P.map Int.ofNat) (hPn:∀p∈P,p<f.nb) (hPl:P.length≤100000):
  Calls Tryz.prog 63 #[.pointer (some ⟨L,0,none⟩),q.1] w fun e w'=>(∃v,e= .returned v∧w'.ownsRow w.heap.size 4 1 v cs.length (wm (ut f cs th I P P.length)))∧ai w w' []:=by
 have HFA:=ag hF;have HFO:=ag hO;have hnc:=hO.nc;have hnb:=hO.nb;obtain⟨qa,qc,e1,-,hqm,hqc⟩:=Row.open_ (M:=Int) (cells:=intCells) hq;have HQC:=ag (fun k (hk:k<P.length)=>by have h9:=hqc k (by rw[hP,List.length_map];exact hk);rwa [show q.2[k]! =((P[k]! :Nat):Int) by rw[hP,getElem!_pos _ k (by simpa using hk),List.getElem_map,getElem!_pos P k hk];rfl]at h9);rw[e1];rw[show q.2.length=P.length by rw[hP,List.length_map]];have HPN:=ag hPn;clear hq hP e1 hqc hqm hPn hF hO;obtain⟨la,lc,rfl,-,-⟩:=cr HFA.o.l;obtain⟨a2,c2,e2,-,-,hc2⟩:=HFA.o.fn.blocks.open_;have CTh:=ag (fun p (hp:p<f.nb) (W:World) (hW:ai w W [])=>through_any cs f.blocks.2[p]! f.blocks.2[p]!.insts.2.length L (.slice la cs.length lc) tv iv f.vars.1 f.params.1 f.blocks.1 vs[p]! I[p]! W (HFA.o.box.keep hW (by simp)) (HFA.o.keep hW).row (HFA.o.keep hW).la (Bj ((HFA.o.keep hW).ir p (by rw[HFO.o.li];exact hp))) (HFO.o.lw p hp) hnc ((HFA.o.keep hW).fn.block _ (az hp)) (Nat.le_refl _) (HFO.o.bd p hp) (HFO.o.ok p hp));have HB0:=HFA.o.box;rw[e2]at HB0;have HBX:=ag HB0;have HC2:=ag hc2;clear HB0 hc2 e2;have HL2:Hid (w.cell? ⟨L,2,none⟩=some (.slice a2 f.blocks.2.length c2)):=ag (by have h9:=HBX.o.cell 2;simpa using h9);have HL3:Hid (w.cell? ⟨L,3,none⟩=some (.slice la cs.length lc)):=ag (by have h9:=HBX.o.cell 3;simpa using h9);have HL4:Hid (w.cell? ⟨L,4,none⟩=some (tv)):=ag (by have h9:=HBX.o.cell 4;simpa using h9);have HL5:Hid (w.cell? ⟨L,5,none⟩=some (iv)):=ag (by have h9:=HBX.o.cell 5;simpa using h9);have M0:=ag (meetTo_zero (f:=f) (cs:=cs) (th:=th) (I:=I) (P:=P));have MN:=ag (fun k (hk:k<P.length)=>meetTo_no (f:=f) (cs:=cs) (th:=th) (I:=I) hk);have MY:=ag (fun k (hk:k<P.length)=>meetTo_yes (f:=f) (cs:=cs) (th:=th) (I:=I) hk);have ML:=ag (fun k=>meetTo_len (f:=f) (cs:=cs) (th:=th) (I:=I) (P:=P) (k:=k));have f3:=((ai.refl w []).alloc (.cells #[.bool true] 4)).cellOf HL3.o;go_enter Tryz.func63,Tryz.ntmps63;go_wp2_with (first |(go_at_call 62;refine(uo cs.length _ _ hnc (Blk.new w 4 #[.bool true])).mono ?_;rintro e w3 ⟨⟨ov,rfl,hown⟩,k3⟩;obtain⟨oa,oc,rfl,-,-⟩:=cr hown;have hsz:=k3.size;have OO:=ag (dm (b:=w.heap.size) hown (by rw[jh];omega));have HK:=ag (((ai.refl w []).alloc (.cells #[.bool true] 4)).ak k3);clear hown k3 hsz))
 clear f3;go_loopw [20] (fun i' wx=>∃k:Nat,k≤P.length∧i'= .int .i64 k∧wx.ownsRow w.heap.size 4 1 (.slice oa cs.length oc) cs.length (wm (ut f cs th I P k))∧ai w wx []) (fun i' _=>P.length -(intOf i').toNat)
 case atStart=>exact⟨0,Nat.zero_le _,rfl,by rw[M0.o];exact OO.o,HK.o⟩
 case round=>
  obtain⟨k,hk,rfl,hO,hr⟩:=hrel;clear OO HK;have OO:=ag hO;have HK:=ag hr;clear hO hr;by_cases hlk:k<P.length
  ·have hlkz:(k:Int)<(P.length:Int):=(by omega);obtain⟨qb,qo,e8,hqb,hqc⟩:=HQC.o k hlk;obtain rfl:=e8;have q0:=HK.o.cellOf (hqc 0 _ rfl);simp only[Nat.mul_one,Nat.add_zero]at q0;have hpn:=HPN.o _ (az hlk);have MNk:=ag (MN.o k hlk);have MYk:=ag (MY.o k hlk);generalize P[k]! =p at*;clear MN MY hqc HQC HPN;have hpz:(p:Int)<(f.nb:Int):=(by omega);obtain⟨tg,tc,e9,-,-,htc⟩:=ww HFA.o.t (by rw[HFO.o.lt];omega);have HT4:=ag (HL4.o);rw[e9,HFO.o.lt]at HT4;have f4:=HK.o.cellOf HT4.o;have t0:=HK.o.cellOf ((htc p (by rw[HFO.o.lt];exact hpn)).trans (Ce (by rw[HFO.o.lt];exact hpn)));clear htc e9;have HTP:=ag (show th[p]! =th[p]! from rfl);generalize htp:th[p]! =tp at t0;replace HTP:=ag htp;clear htp;cases tp
   ·go_wp2;go_roundw
    case rel=>exact⟨k+1,by omega,by go_num,by rw[MNk.o HTP.o];exact OO.o,HK.o⟩
    case measure=>simp[intOf];omega
   ·obtain⟨yb,yo,e8,hyb,hbc⟩:=HC2.o p hpn;obtain rfl:=e8;have f2:=HK.o.cellOf HL2.o;obtain⟨ia,ic,e7,-,hic,hii⟩:=ww HFA.o.i (by rw[HFO.o.li];omega);have HI5:=ag HL5.o;rw[e7,HFO.o.li]at HI5;have HIC:=ag ((hii p (by rw[HFO.o.li];exact hpn)).trans (getElem?_pos_bang (by have h9:=HFA.o.i.1;rw[HFO.o.li]at h9;omega)));clear hii e7;have y0:=HK.o.cellOf (hbc 0 _ rfl);have y1:=HK.o.cellOf (hbc 1 _ rfl);have y2:=HK.o.cellOf (hbc 2 _ rfl);have y3:=HK.o.cellOf (hbc 3 _ rfl);have y4:=HK.o.cellOf (hbc 4 _ rfl);have y5:=HK.o.cellOf (hbc 5 _ rfl);have y6:=HK.o.cellOf (hbc 6 _ rfl);simp only[Nat.add_zero]at y0;clear hbc HC2;obtain⟨ja,jc,e6,-,-,-⟩:=(HFA.o.fn.block _ (az (l:=f.blocks.2) (k:=p) hpn)).insts.open_;obtain⟨pa,pc,e5,-,-,-⟩:=(HFA.o.fn.block _ (az (l:=f.blocks.2) (k:=p) hpn)).phis.open_;have CTp:=ag (fun W h=>CTh.o p hpn W h);have HYC:=ag (show(f.blocks.2[p]!).cells.toArray=#[.string (f.blocks.2[p]!).name,.slice pa (f.blocks.2[p]!).phis.2.length pc,.slice ja (f.blocks.2[p]!).insts.2.length jc,.int .i64 (f.blocks.2[p]!).kind,.int .i64 (f.blocks.2[p]!).var,.int .i64 (f.blocks.2[p]!).to0,.int .i64 (f.blocks.2[p]!).to1] by unfold df.cells;rw[e5,e6]);rw[HYC.o]at CTp;rw[e5]at y1;rw[e6]at y2;clear HYC e5 e6 CTh;have hil:f.blocks.2[p]!.insts.2.length≤100000:=(HFO.o.bd p hpn).2;generalize pm cs f.blocks.2[p]! f.blocks.2[p]!.insts.2.length I[p]! =R at*;generalize(f.blocks.2[p]!).name=yn at*;generalize(f.blocks.2[p]!).phis.2.length=pn at*;generalize(f.blocks.2[p]!).insts.2.length=yil at*;generalize(f.blocks.2[p]!).kind=yk at*;generalize(f.blocks.2[p]!).var=yv at*;generalize(f.blocks.2[p]!).to0=yt0 at*;generalize(f.blocks.2[p]!).to1=yt1 at*;generalize vs[p]! =vp at*;go_upto_region 7 with(fail)
    clear y0 y1 y2 y3 y4 y5 y6 f2 f4 t0 q0;have kx:ai wr (wr.alloc (.cells #[.string yn,.slice pa pn pc,.slice ja yil jc,.int .i64 yk,.int .i64 yv,.int .i64 yt0,.int .i64 yt1] 38)) []:=(ai.refl wr []).alloc _;have bb:=Blk.new wr 38 #[.string yn,.slice pa pn pc,.slice ja yil jc,.int .i64 yk,.int .i64 yv,.int .i64 yt0,.int .i64 yt1];have hOx:=au OO.o kx (by simp);have hKx:=HK.o.ak kx;clear kx OO HK;generalize(wr.alloc (.cells #[.string yn,.slice pa pn pc,.slice ja yil jc,.int .i64 yk,.int .i64 yv,.int .i64 yt0,.int .i64 yt1] 38))=W4 at*;generalize wr.heap.size=bx at*;have OO:=ag hOx;have Bx:=ag bb;have HKw:=ag hKx;have HK:=ag (ai.refl W4 []);clear hOx hKx bb;obtain⟨x0,x1,x2,x3,x4,x5,x6⟩:=Bx.o.c7;simp at x0 x1 x2 x3 x4 x5 x6;have f5:=(HKw.o.ak HK.o).cellOf HI5.o;have ip:=(HKw.o.ak HK.o).cellOf HIC.o;refine wp_region_held_drew (S:=(fun w'=>w'.cell? ⟨bx,0,none⟩=some (.string yn)∧w'.cell? ⟨bx,1,none⟩=some (.slice pa pn pc)∧w'.cell? ⟨bx,2,none⟩=some (.slice ja yil jc)∧w'.cell? ⟨bx,3,none⟩=some (.int .i64 yk)∧w'.cell? ⟨bx,4,none⟩=some (.int .i64 yv)∧w'.cell? ⟨bx,5,none⟩=some (.int .i64 yt0)∧w'.cell? ⟨bx,6,none⟩=some (.int .i64 yt1)∧w'.cell? ⟨L,5,none⟩=some (.slice (some ⟨ia,0,none⟩) f.nb ic)∧w'.cell? ⟨ia,p,none⟩=some (vp))) (by kernel_rfl) ?bhSs (fun ah=> ?_)
    case bhSs=>exact⟨x0,x1,x2,x3,x4,x5,x6,f5,ip⟩
    clear x0 x1 x2 x3 x4 x5 x6 f5 ip;replace Bx:=ag (Bx.o.keep ((ai.refl _ []).drew) (by simp));replace HK:=ag (HK.o.drew);generalize World.drew _=X0 at*;obtain⟨x0,x1,x2,x3,x4,x5,x6⟩:=Bx.o.c7;simp at x0 x1 x2 x3 x4 x5 x6;have f5:=(HKw.o.ak HK.o).cellOf HI5.o;have ip:=(HKw.o.ak HK.o).cellOf HIC.o;refine tl 0 ⟨some 40,_,_,_,_,_⟩ rfl ah ?_;refine tl 1 ⟨some 41,_,_,_,_,_⟩ rfl ah ?_;refine tl 2 ⟨some 42,_,_,_,_,_⟩ rfl ah ?_;refine tl 3 ⟨some 43,_,_,_,_,_⟩ rfl ah ?_;refine tl 4 ⟨some 44,_,_,_,_,_⟩ rfl ah ?_;refine tl 5 ⟨some 45,_,_,_,_,_⟩ rfl ah ?_;refine tl 6 ⟨some 46,_,_,_,_,_⟩ rfl ah ?_;refine tl 7 ⟨some 47,_,_,_,_,_⟩ rfl ah ?_;refine tl 8 ⟨some 48,_,_,_,_,_⟩ rfl ah ?_;refine tl 9 ⟨some 49,_,_,_,_,_⟩ rfl ah ?_;refine tl 10 ⟨some 50,_,_,_,_,_⟩ rfl ah ?_;refine tl 11 ⟨some 51,_,_,_,_,_⟩ rfl ah ?_;refine tl 14 ⟨some 54,_,_,_,_,_⟩ rfl ah ?_;refine t1 12 fun K hK=> ?_;go_simp
    (with_reducible refine(CTp.o _ (HKw.o.ak HK.o)).mono ?_)
    rintro e wx ⟨⟨rv,rfl,hown⟩,k3⟩;obtain⟨ra,rc,rfl,-,-⟩:=cr hown;have OR:=ag (dm (b:=W4.heap.size) hown HK.o.size);clear hown;show K _ _;clear ah;clear x0 x1 x2 x3 x4 x5 x6 f5 ip;replace Bx:=Bx.kb k3;replace HK:=HK.kt k3;obtain⟨x0,x1,x2,x3,x4,x5,x6⟩:=Bx.o.c7;simp at x0 x1 x2 x3 x4 x5 x6;have f5:=(HKw.o.ak HK.o).cellOf HI5.o;have ip:=(HKw.o.ak HK.o).cellOf HIC.o;clear k3;refine hK.out _ _ (by exact⟨x0,x1,x2,x3,x4,x5,x6,f5,ip⟩) fun ah=> ?_;clear hK K;try simp only[Act.put,sA,sB,sC]
    refine tl 13 ⟨some 53,_,_,_,_,_⟩ rfl ah ?_;refine wpAnyH_done (by kernel_rfl) ?_ _;clear ah;have OO2:=ag (au OO.o HK.o (by simp));have HKT:=ag (HKw.o.ak HK.o);have HAP:=ag (show ∀z,(Value.slice oa cs.length oc).ownBlock=some z→(Value.slice ra cs.length rc).ownBlock≠some z from fun z hz e=>by have h8:=(ig OO.o hz).1;have h9:=(ig OR.o e).2;omega);clear OO HKw HK Bx x0 x1 x2 x3 x4 x5 x6 f5 ip;have OO:=OO2;have HK:=HKT;clear OO2 HKT;go_wp2;go_loopw [54] (fun i' wx=>∃j:Nat,j≤cs.length∧i'= .int .i64 j∧wx.ownsRow w.heap.size 4 1 (.slice oa cs.length oc) cs.length (wm (zipTo (ut f cs th I P k) R cs.length j))∧wx.ownsRow W4.heap.size 4 1 (.slice ra cs.length rc) cs.length (wm R)∧ai w wx []) (fun i' _=>cs.length -(intOf i').toNat)
    case atStart=>exact⟨0,Nat.zero_le _,rfl,by rw[zipTo_zero (ML.o k)];exact OO.o,OR.o,HK.o⟩
    case round=>
     obtain⟨j,hj,rfl,hO,hR,hr⟩:=hrel;clear OO HK OR;have OO:=ag hO;have OR:=ag hR;have HK:=ag hr;clear hO hR hr;by_cases hlj:j<cs.length
     ·have hljz:(j:Int)<(cs.length:Int):=(by omega);obtain⟨og,oc2,e1,hog,hogo,hoc⟩:=ww OO.o (by omega);simp only[Value.slice.injEq]at e1;obtain⟨rfl,-,rfl⟩:=e1;obtain⟨rg,rc2,e1,hrg,hrgo,hrc⟩:=ww OR.o (by omega);simp only[Value.slice.injEq]at e1;obtain⟨rfl,-,rfl⟩:=e1;have HRL:=ag (show R.length=cs.length by have h9:=OR.o.1;rw[bitV_len]at h9;omega);have o0:=(hoc j hlj).trans (Ce (by rw[zipTo_len];exact hlj));have o1:=(jw OO.o hogo (i:=j) (by omega)).2;have r0:=(hrc j hlj).trans (Ce (by rw[HRL.o];exact hlj));rw[zipTo_at hlj]at o0;have HZS:=ag (zipTo_step (a:=ut f cs th I P k) (r:=R) hlj);have HG:=ag hog;have HGO:=ag hogo;have HRGO:=ag hrgo;clear hoc hrc hog hogo hrg hrgo;generalize(ut f cs th I P k)[j]! =aj at o0 HZS;generalize R[j]! =rj at r0 HZS;cases aj
      ·cases rj
       ·go_wp2;go_roundw
        case rel=>exact⟨j+1,by omega,by go_num,by rw[HZS.o,←Dw];exact yh OO.o HGO.o j _,au OR.o ((ai.refl wr [og]).setCell (.inl (by simp)) _) (fun z hz hm=>by simp at hm;subst hm;exact HAP.o _ HGO.o hz),HK.o.setCell (.inr HG.o) _⟩
        case measure=>simp[intOf];omega
       ·go_wp2;go_roundw
        case rel=>exact⟨j+1,by omega,by go_num,by rw[HZS.o,←Dw];exact yh OO.o HGO.o j _,au OR.o ((ai.refl wr [og]).setCell (.inl (by simp)) _) (fun z hz hm=>by simp at hm;subst hm;exact HAP.o _ HGO.o hz),HK.o.setCell (.inr HG.o) _⟩
        case measure=>simp[intOf];omega
      ·cases rj
       ·go_wp2;go_roundw
        case rel=>exact⟨j+1,by omega,by go_num,by rw[HZS.o,←Dw];exact yh OO.o HGO.o j _,au OR.o ((ai.refl wr [og]).setCell (.inl (by simp)) _) (fun z hz hm=>by simp at hm;subst hm;exact HAP.o _ HGO.o hz),HK.o.setCell (.inr HG.o) _⟩
        case measure=>simp[intOf];omega
       ·go_wp2;go_roundw
        case rel=>exact⟨j+1,by omega,by go_num,by rw[HZS.o,←Dw];exact yh OO.o HGO.o j _,au OR.o ((ai.refl wr [og]).setCell (.inl (by simp)) _) (fun z hz hm=>by simp at hm;subst hm;exact HAP.o _ HGO.o hz),HK.o.setCell (.inr HG.o) _⟩
        case measure=>simp[intOf];omega
     ·have hljz:¬(j:Int)<(cs.length:Int):=(by omega);obtain rfl:j=cs.length:=by omega
      go_wp2;go_roundw
      case rel=>exact⟨k+1,by omega,by go_num,by rw[MYk.o HTP.o];exact OO.o,HK.o⟩
      case measure=>simp[intOf];omega
  ·have hlkz:¬(k:Int)<(P.length:Int):=(by omega);obtain rfl:k=P.length:=by omega
   go_wp2;go_ret;exact⟨⟨_,rfl,OO.o⟩,HK.o⟩
theorem pq {ops:Array Oper} {o:Oper} {a:Act} {w:World} {K:Act→World→Prop} {Q:Exit→Act→World→Prop} {E:Prop} (hgd:o.guard=none) (s x:Operand) (t:TypeId) (hop:o.op=Op.call {callee:=Callee.builtin Builtin.append,args:=#[s,x],argTypes:=#[t,t]}) (base:Nat)
  (e:TypeId) (i:TypeInfo) (z:Value) (size bytes:Nat) (h1:Tryz.prog.underlying t=some (.slice e)) (h2:Tryz.prog.info? e=some i) (h3:i.zero=some z) (h4:i.size=size) (h5:i.bytes=bytes) (h6:z.cells.size=size) (h7:0<size)
  (v:Value) (n:Nat) (xs:List Value) (hs:a.eval s=v) (hown:w.ownsRow base e size v n xs) (vx:Value) (es:List (List Value)) (hx:a.eval x=vx) (hrow:Row w size vx es) (hsz:∀l∈es,l.length=size) (h1c:∀l∈es,∀u∈l,u.oneCell'=true)
  (b1:n+es.length≤maxLen) (b2:(n+es.length)*bytes≤140737488355328) (hb:base≤w.heap.size)
  (hK:∀v' w',w'.ownsRow base e size v' (n+es.length) (xs++es.flatten)→w.grownBy w' v.ownBlock→K (a.put o.dst v') w'):
  if Region.wanted o (yielded ops a.tmps)=true then Oper.wp Tryz.prog o a w K Q else E:=by
 have hw:Region.wanted o (yielded ops a.tmps)=true:=(by simp[Region.wanted,hgd]);rw[if_pos hw];exact wp_append_row s x t hop base e i z size bytes h1 h2 h3 h4 h5 h6 h7 v n xs hs hown vx es hx hrow hsz h1c b1 b2 hb hK
section
variable {w w':World} {L:Nat} {f:ax} {cs:List dn} {th:List Bool} {I:List (List Bool)} {lv tv iv:Value} {vs:List Value}
theorem own_grown0 {W W3:World} {b1 b2 s1 s2 n1 n2:Nat} {e1 e2:TypeId} {v1 v2:Value} {x1 x2:List Value} (h:W.ownsRow b1 e1 s1 v1 n1 x1) (hr:W.ownsRow b2 e2 s2 v2 n2 x2) (hne:e1≠e2) (hg:W.grownBy W3 v2.ownBlock):W3.ownsRow b1 e1 s1 v1 n1 x1:=by
 refine World.ownsRow.kept h hg ?_;cases e:v1.ownBlock with
 |none=>exact .inl rfl
 |some k=>exact .inr (fun e2=>xx h hr hne e e2.symm)
theorem fq {W W3:World} {b2 s2 n2 g:Nat} {e2 t:TypeId} {v2:Value} {x2:List Value} {cs:Array Value} (h:Blk W g t cs) (hr:W.ownsRow b2 e2 s2 v2 n2 x2) (hne:e2≠t) (hg:W.grownBy W3 v2.ownBlock):Blk W3 g t cs:=by
 have k:ai W W3 v2.ownBlock.toList:=(ai.refl W _).grown hg (fun k hk=> .inl (by rw[hk];simp));exact h.keep k (fun hm=>by rw[Option.mem_toList]at hm;exact own_ne hr h hne hm)
theorem field_snocK {W3:World} {v:Value} (h:ny w L f cs th I lv tv iv vs) (hg:w.grownBy W3 iv.ownBlock):ai w (W3.setCell ⟨L,5,none⟩ v) (iv.ownBlock.toList++[L]):=
 ((ai.refl w _).grown hg (fun k hk=> .inl (by rw[hk];simp))).setCell (.inl (by simp)) _
theorem pz {W3:World} {v:Value} {base n size:Nat} {e:TypeId} {v1:Value} {xs:List Value} (h:ny w L f cs th I lv tv iv vs) (hg:w.grownBy W3 iv.ownBlock) (ho:w.ownsRow base e size v1 n xs) (h39:e≠39) (h89:e≠89):(W3.setCell ⟨L,5,none⟩ v).ownsRow base e size v1 n xs:=
 au ho (field_snocK h hg) (fun k hk hm => by
  rcases List.mem_append.1 hm with hm|hm
  ·rw[Option.mem_toList]at hm;exact xx ho h.i h39 hk hm
  ·simp at hm;subst hm;exact own_ne ho h.box h89 hk)
theorem Ay {W3:World} {v:Value} {base G nb:Nat} {ws:List Value} {P:List (List Nat)} (h:ny w L f cs th I lv tv iv vs) (hg:w.grownBy W3 iv.ownBlock) (hP:uk w base G nb ws P):uk (W3.setCell ⟨L,5,none⟩ v) base G nb ws P:=
 ⟨hP.lv, hP.lp, hP.g.keep (field_snocK h hg) (fun hm => by
  rcases List.mem_append.1 hm with hm|hm
  ·rw[Option.mem_toList]at hm;exact own_ne h.i hP.g (by decide) hm
  ·simp at hm;subst hm;have h1:=hP.g;have h2:=h.box;unfold Blk at h1 h2;rw[h1]at h2
   simp at h2),fun b hb=>pz h hg (hP.r b hb) (by decide) (by decide),hP.ap⟩
theorem ny.snoc {W3:World} {s iv':Value} {S:List Bool} (h:ny w L f cs th I lv tv iv vs) (hs:w.ownsRow 0 4 1 s cs.length (wm S)) (hg:w.grownBy W3 iv.ownBlock) (hown:W3.ownsRow 0 39 1 iv' (I.length+1) (vs++[s]))
  (hf:cz (W3.setCell ⟨L,5,none⟩ iv') f) (hla:∀c∈cs,bu (W3.setCell ⟨L,5,none⟩ iv') c.args):ny (W3.setCell ⟨L,5,none⟩ iv') L f cs th (I++[S]) lv tv iv' (vs++[s]):=by
 have hB3:Blk W3 L 89 #[f.vars.1,f.params.1,f.blocks.1,lv,tv,iv]:=fq h.box h.i (by decide) hg;have k:ai W3 (W3.setCell ⟨L,5,none⟩ iv') [L]:=(ai.refl W3 _).setCell (.inl (by simp)) _;have ap:∀{e:TypeId} {size n base:Nat} {v:Value} {xs:List Value},W3.ownsRow base e size v n xs→e≠89→(W3.setCell ⟨L,5,none⟩ iv').ownsRow base e size v n xs:=fun hr he=>au hr k (fun b hb hm=>by simp at hm;subst hm;exact own_ne hr hB3 he hb);have hlen:vs.length=I.length:=(by have:=h.i.1;omega);refine⟨?_,hf,pz h hg h.l (by decide) (by decide),hla,pz h hg h.t (by decide) (by decide), ?_,fun b hb=> ?_⟩
 ·have:=hB3.gu 5 iv'
  simpa using this
 ·rw[List.length_append,List.length_singleton];exact ap hown (by decide)
 ·rw[List.length_append,List.length_singleton]at hb;by_cases e:b<I.length
  ·rw[show(vs++[s])[b]! =vs[b]! by rw[getElem!_pos _ b (by simp;omega),List.getElem_append_left (by omega),getElem!_pos vs b (by omega)],show(I++[S])[b]! =I[b]! by rw[getElem!_pos _ b (by simp;omega),List.getElem_append_left e,getElem!_pos I b e]];exact pz h hg (h.ir b e) (by decide) (by decide)
  ·obtain rfl:b=I.length:=by omega
   rw[show(vs++[s])[I.length]! =s by rw[getElem!_pos _ _ (by simp;omega),List.getElem_append_right (by omega)];simp[hlen],show(I++[S])[I.length]! =S by rw[getElem!_pos _ _ (by simp),List.getElem_append_right (by omega)];simp];exact pz h hg hs (by decide) (by decide)
theorem ry {w:World} {b base n size:Nat} {e:TypeId} {v:Value} {xs:List Value} (h:w.ownsRow b e size v n xs) (hz:∀z,v.ownBlock=some z→base≤z):w.ownsRow base e size v n xs:=by
 obtain⟨h1,h2|⟨g,cap,cur,rfl,h3,h4⟩⟩:=h
 ·exact⟨h1,.inl h2⟩
 ·exact⟨h1,.inr ⟨g,cap,cur,rfl,hz g rfl,h4⟩⟩
theorem own_capB {w:World} {b size n cap:Nat} {e:TypeId} {a:Option Addr} {xs:List Value} (h:w.ownsRow b e size (.slice a n cap) n xs):n≤cap∧cap≤maxLen:=by
 obtain⟨h1,⟨h2,h3⟩|⟨g,c,cur,h2,h3,h4,h5,h6,h7⟩⟩:=h
 ·simp only[Value.slice.injEq]at h2;exact⟨by omega,by rw[h2.2.2];exact Nat.zero_le _⟩
 ·simp only[Value.slice.injEq]at h2;rw[h2.2.2];exact⟨h5,h6⟩
theorem field_start (hb:Blk w L 89 #[f.vars.1,f.params.1,f.blocks.1,lv,tv,.slice none 0 0]) (hf:cz w f) (hl:w.ownsRow 0 49 2 lv cs.length (yg cs)) (hla:∀c∈cs,bu w c.args) (ht:w.ownsRow 0 4 1 tv th.length (wm th)):ny w L f cs th [] lv tv (.slice none 0 0) []:=
 ⟨hb,hf,hl,hla,ht,World.ownsRow_nil _ _ _ _,fun b hb=>absurd hb (Nat.not_lt_zero _)⟩
end
theorem uk.put39 {w:World} {base G nb:Nat} {vs:List Value} {P:List (List Nat)} (h:uk w base G nb vs P) {b2 n2 G2 b:Nat} {v2 s:Value} {x2:List Value} (hi:w.ownsRow b2 39 1 v2 n2 x2) (hG:v2.ownBlock=some G2):uk (w.setCell ⟨G2,b,none⟩ s) base G nb vs P:=by
 have k:ai w (w.setCell ⟨G2,b,none⟩ s) [G2]:=(ai.refl w _).setCell (.inl (by simp)) _;exact⟨h.lv,h.lp,h.g.keep k (by simp;rintro rfl;exact own_ne hi h.g (by decide) hG),fun c hc=>au (h.r c hc) k (fun z hz hm=>by simp at hm;subst hm;exact xx (h.r c hc) hi (by decide) hz hG),h.ap⟩
theorem own_put39 {w:World} {base n:Nat} {e:TypeId} {v:Value} {xs:List Value} (h:w.ownsRow base e 1 v n xs) (he:e≠39) {b2 n2 G2 b:Nat} {v2 s:Value} {x2:List Value} (hi:w.ownsRow b2 39 1 v2 n2 x2) (hG:v2.ownBlock=some G2):(w.setCell ⟨G2,b,none⟩ s).ownsRow base e 1 v n xs:=
 au h ((ai.refl w [G2]).setCell (.inl (by simp)) _) (fun z hz hm=>by simp at hm;subst hm;exact xx h hi he hz hG)
abbrev GF (f:ax) (th:List Bool) (P:List (List Nat)) (I:List (List Bool)):Prop:=GFlow (oo f) (fun i p g=>thrB f (dx f) i p g) (fun b=>P[b]!) (fun b=>th[b]!) f.nb (dx f).length I
def mtL (f:ax) (th:List Bool) (P:List (List Nat)) (I:List (List Bool)) (b:Nat):List Bool:=ut f (dx f) th I P[b]! P[b]!.length
theorem gframe {f:ax} {th:List Bool} {P:List (List Nat)} (hE:vw f) (hR:Bb f th) (hP:Df f P):GFrame (oo f) (fun i p g=>thrB f (dx f) i p g) (fun b=>P[b]!) (fun b=>th[b]!) f.nb:=
 ⟨fun i a=>through_mono _ _ _ _,fun c hc d hd=>(succF_mem.1 hd).1,hP.mem,hR.mem,hE.pos⟩
theorem mtL_eq (f:ax) (th:List Bool) (P:List (List Nat)) (I:List (List Bool)) (b:Nat):mtL f th P I b=meetL (fun i p g=>thrB f (dx f) i p g) (fun b=>P[b]!) (fun b=>th[b]!) (dx f).length I b:=by
 unfold mtL ut meetL meetB;rw[List.take_length]
def StillF (f:ax) (th:List Bool) (P:List (List Nat)) (I:List (List Bool)):Prop:=∀b,uh (oo f) b→b≠0→mtL f th P I b=I[b]!
def GoodI (f:ax) (I:List (List Bool)):Prop:=∀b i,i<(dx f).length→uh (oo f) b→∀s:Bool→Bool,Mono s→(s (I[b]![i]!)=true↔∀g,Di (oo f) (thrB f (dx f) i) b g→s g=true)
theorem good_of {f:ax} {th:List Bool} {P:List (List Nat)} {I:List (List Bool)} (hE:vw f) (hR:Bb f th) (hP:Df f P) (hI:GF f th P I) (hS:StillF f th P I):GoodI f I:=fun b i hi hr s hs=>
 gflow_done (gframe hE hR hP) hI (fun b hr hb=>by rw[←mtL_eq];exact hS b hr hb) hi hr s hs
def LookRet (f:ax) (w:World) (L:Nat):Prop:=∃th I lv tv iv vs,ny w L f (dx f) th I lv tv iv vs∧FieldOK f (dx f) th I∧Bb f th∧GoodI f I
structure PassM (f:ax) (th:List Bool) (P:List (List Nat)) (ord:List Nat) (I0 I:List (List Bool)) (g:Bool) (j:Nat):Prop where
 i:GF f th P I
 no:g=false→I=I0∧∀k,k<j→mtL f th P I ord[k+1]! =I[ord[k+1]!]!
 yes:g=true→sumT I<sumT I0
section
variable {f:ax} {th:List Bool} {P:List (List Nat)} {ord:List Nat} {I0 I:List (List Bool)} {g:Bool} {j:Nat}
theorem pm_start (h:GF f th P I):PassM f th P ord I I false 0:=⟨h,fun _=>⟨rfl,fun k hk=>absurd hk (Nat.not_lt_zero _)⟩,fun e=>by cases e⟩
theorem pm_same (h:PassM f th P ord I0 I g j) (he:mtL f th P I ord[j+1]! =I[ord[j+1]!]!):PassM f th P ord I0 I g (j+1):=
 ⟨h.i, fun e => ⟨(h.no e).1, fun k hk => by
  rcases Nat.lt_succ_iff_lt_or_eq.1 hk with h1|rfl
  ·exact(h.no e).2 k h1
  ·exact he⟩,h.yes⟩
theorem pm_put (hE:vw f) (hR:Bb f th) (hP:Df f P) (h:PassM f th P ord I0 I g j) (hr:uh (oo f) ord[j+1]!) (h0:ord[j+1]! ≠0) (he:¬mtL f th P I ord[j+1]! =I[ord[j+1]!]!):PassM f th P ord I0 (I.set ord[j+1]! (mtL f th P I ord[j+1]!)) true (j+1):=by
 have h1:=gflow_step (gframe hE hR hP) h.i hr h0;have h2:=gflow_less (gframe hE hR hP) h.i hr h0 (by rw[←mtL_eq];exact he);rw[←mtL_eq]at h1 h2;refine⟨h1,fun e=>(by cases e),fun _=> ?_⟩;cases g with
 |true=>have:=h.yes rfl;omega
 |false=>have:=(h.no rfl).1;subst this;exact h2
theorem ord_ne {f:ax} (h:OrdOK f ord) (hj:j+1<ord.length):ord[j+1]! ≠0∧uh (oo f) ord[j+1]! :=by
 refine⟨fun e=> ?_,(h.mem _).1 (az hj)⟩;have h0:=h.hd;cases ord with
 |nil=>simp at hj
 |cons c l=>
  simp at h0;subst h0;have hnd:=List.nodup_cons.1 h.nd;have hj2:j<l.length:=(by simpa using hj);have e2:l[j]=0:=(by rw[getElem!_pos (0::l) (j+1) hj]at e;simpa using e);exact hnd.1 (e2▸List.getElem_mem hj2)
theorem pm_still {f:ax} {th:List Bool} {P:List (List Nat)} {I0 I:List (List Bool)} {ord:List Nat} (hO:OrdOK f ord) (h:PassM f th P ord I0 I false (ord.length -1)):StillF f th P I:=fun b hr hb=>by
 obtain⟨i,hi,rfl⟩:=List.mem_iff_getElem.1 ((hO.mem b).2 hr);cases i with
 |zero=>
  exfalso
  have h0:=hO.hd;cases ord with
  |nil=>simp at hi
  |cons c l=>simp at h0;exact hb (by simpa using h0)
 |succ i=>
  have:=(h.no rfl).2 i (by omega);rw[getElem!_pos ord _ hi]at this;exact this
end
theorem sum_start (n m:Nat):sumT ((List.replicate n (List.replicate m true)).set 0 (List.replicate m false))≤n*m:=by
 have key:∀l:List (List Bool),(∀r∈l,cntT r≤m)→sumT l≤l.length*m:=fun l=>by
  induction l with
  |nil=>intro _;simp[sumT]
  |cons r l ih=>
   intro h;have h1:=h r (List.mem_cons_self ..);have h2:=ih (fun r hr=>h r (List.mem_cons_of_mem _ hr));unfold sumT at*;simp only[List.map_cons,List.sum_cons,List.length_cons,Nat.succ_mul];omega
 have := key ((List.replicate n (List.replicate m true)).set 0 (List.replicate m false)) (fun r hr => by
  rcases List.mem_or_eq_of_mem_set hr with h|h
  ·rw[(List.mem_replicate.1 h).2];unfold cntT;simp
  ·rw[h];unfold cntT;simp)
 simpa using this
theorem gf_start {f:ax} {th:List Bool} {P:List (List Nat)} (hE:vw f) (hR:Bb f th) (hP:Df f P):GF f th P ((List.replicate f.nb (List.replicate (dx f).length true)).set 0 (List.replicate (dx f).length false)):=gflow_start (gframe hE hR hP)
end Go.Proofs.YtjllbchfojonhaaGreatDoor
