/- An input of a run: little, right; contracts. ; A joined program: the plain law. -/
import Derived.Test.YtjllbchfojonhaaGreatDoorRM
import Derived.Test.YtjllbchfojonhaaGreatDoorGK
set_option linter.unusedVariables false
set_option linter.unusedSimpArgs false
set_option maxRecDepth 100000
set_option maxHeartbeats 200000000
namespace Go.Proofs.YtjllbchfojonhaaGreatDoor
open Go.RowKit
structure ku where
 args:Value×List ArgM
 arrays:Value×List jl
def ArgM.cells (a:ArgM):List Value:=[.int .i64 a.int,.bool a.bool,.int .i64 a.arr]
def rowCells (p:jl):List Value:=[p.1]
structure Ad (w:World) (i:ku):Prop where
 args:Row w 3 i.args.1 (i.args.2.map ArgM.cells)
 arrays:Row w 1 i.arrays.1 (i.arrays.2.map rowCells)
 arr:∀p∈i.arrays.2,bu w p
def ku.val (i:ku):Value:= .agg #[i.args.1,i.arrays.1]
theorem Ad.keep {w w':World} {i:ku} (h:Ad w i) (k:ai w w' []):Ad w' i:=⟨h.args.keep k,h.arrays.keep k,fun p hp=>Row.keep (h.arr p hp) k⟩
instance:Inhabited (Value×List Int):=⟨(.slice none 0 0,[])⟩
def smallB (i:ku):Bool:=decide (i.args.2.length≤20)&&(decide (i.arrays.2.length≤40)&&Cx i.arrays.2.length fun k=>decide (i.arrays.2[k]!.2.length≤100))
theorem smallB_no {i:ku} {k:Nat} (h:k<i.arrays.2.length) (h2:¬i.arrays.2[k]!.2.length≤100):smallB i=false:=by
 unfold smallB;rw[wh h (decide_eq_false h2),Bool.and_false,Bool.and_false]
theorem smallB_yes {i:ku} (h1:i.args.2.length≤20) (h2:i.arrays.2.length≤40) (h3:∀k,k<i.arrays.2.length→i.arrays.2[k]!.2.length≤100):smallB i=true:=by
 unfold smallB;rw[decide_eq_true h1,decide_eq_true h2,qh (fun k hk=>decide_eq_true (h3 k hk))];rfl
def qp (f:ax) (i:ku):Int:=
 if ¬i.args.2.length=f.np then 1
 else if(Cx i.args.2.length fun k=> !(f.ty k==2)||(decide (-1≤i.args.2[k]!.arr)&&decide (i.args.2[k]!.arr<(i.arrays.2.length:Int))))=false then 1
 else if 32<i.arrays.2.length then 4
 else if(Cx i.arrays.2.length fun k=>decide (i.arrays.2[k]!.2.length≤64))=false then 4
 else 0
theorem small_any (i:ku) (w:World) (hi:Ad w i):Calls Tryz.prog 21 #[i.val] w fun e w'=>e= .returned (.bool (smallB i))∧ai w w' []:=by
 obtain⟨a0,c0,e0,-,-,hc0⟩:=hi.args.open_;obtain⟨a1,c1,e1,-,-,hc1⟩:=hi.arrays.open_;have HI:=ag hi;have HC0:=ag hc0;have HC1:=ag hc1;generalize hna:i.args.2.length=na at*;generalize hnr:i.arrays.2.length=nr at*;have HNA:=ag hna;have HNR:=ag hnr;rw[show i.val= .agg #[.slice a0 na c0,.slice a1 nr c1] by unfold ku.val;rw[e0,e1]];clear e0 e1 hc0 hc1 hi hna hnr;obtain⟨HK,Bl⟩:=Cc w 57 #[.slice a0 na c0,.slice a1 nr c1];obtain⟨l0,l1⟩:=Bl.o.c2;simp at l0 l1;by_cases h1:(20:Int)<(na:Int)
 ·go_enter Tryz.func21,Tryz.ntmps21;go_wp2;go_ret;exact⟨ay (by unfold smallB;rw[HNA.o,show decide (na≤20)=false from decide_eq_false (by omega)];rfl),HK.o⟩
 by_cases h2:(40:Int)<(nr:Int)
 ·go_enter Tryz.func21,Tryz.ntmps21;go_wp2;go_ret;exact⟨ay (by unfold smallB;rw[HNR.o,show decide (nr≤40)=false from decide_eq_false (by omega),Bool.false_and,Bool.and_false]),HK.o⟩
 go_enter Tryz.func21,Tryz.ntmps21;go_wp2;clear l0 l1;generalize(w.alloc (.cells #[.slice a0 na c0,.slice a1 nr c1] 57))=W0 at*;have Bl_W0:=Bl;have TW0:=HK;clear HK;have HK:=ag (ai.refl W0 []);obtain⟨l0,l1⟩:=Bl.o.c2;simp at l0 l1;go_loopw [18] (fun i' wr=>∃k:Nat,k≤nr∧i'= .int .i64 k∧ai W0 wr []∧Hid (∀j,j<k→i.arrays.2[j]!.2.length≤100)) (fun i' _=>nr -(intOf i').toNat)
 case atStart=>exact⟨0,Nat.zero_le _,rfl,HK.o,fun j hj=>absurd hj (Nat.not_lt_zero _)⟩
 case round=>
  obtain⟨k,hk,rfl,hr,HV⟩:=hrel;clear l0 l1;clear Bl HK;have HK:=ag hr;have Bl:=ag (Bl_W0.o.keep hr (by simp));clear hr;obtain⟨l0,l1⟩:=Bl.o.c2;simp at l0 l1;by_cases hlt:k<nr
  ·have hltz:(k:Int)<(nr:Int):=(by omega);obtain⟨bb,off,rfl,hbl,hcell⟩:=HC1.o k hlt;obtain⟨va,vc,ve,_⟩:=(show Row _ 1 _ _ from HI.o.arr _ (az (l:=i.arrays.2) (k:=k) (by rw[HNR.o];exact hlt)));rw[List.length_map]at ve;have n0:wr.cell? ⟨bb,off+k*1,none⟩=some i.arrays.2[k]!.1:=(TW0.o.ak HK.o).cellOf (hcell 0 _ rfl);rw[ve,Nat.mul_one]at n0;clear hcell HC1 ve;have HNB:=ag (fun h=>smallB_no (i:=i) (k:=k) (by rw[HNR.o];exact hlt) h);generalize hql:i.arrays.2[k]!.2.length=ql at*;by_cases hs:(100:Int)<(ql:Int)
   ·go_wp2;go_ret;exact⟨ay ((HNB.o (by omega)).symm),(TW0.o.ak HK.o)⟩
   ·go_wp2;go_roundw
    case rel => exact ⟨k + 1, by omega, by go_num, HK.o, (show Hid _ from fun j hj => by
    by_cases e:j=k
    ·subst e;omega
    ·exact HV.o j (by omega))⟩
    case measure=>simp[intOf];omega
  ·have hltz:¬(k:Int)<(nr:Int):=(by omega);obtain rfl:k=nr:=by omega
   go_wp2;go_ret;exact⟨ay ((smallB_yes (by rw[HNA.o];omega) (by rw[HNR.o];omega) (by rw[HNR.o];exact HV.o)).symm),(TW0.o.ak HK.o)⟩
def Dr (f:ax) (i:ku) (k:Nat):Bool:= !(f.ty k==2)||(decide (-1≤i.args.2[k]!.arr)&&decide (i.args.2[k]!.arr<(i.arrays.2.length:Int)))
theorem right_1 {f:ax} {i:ku} (h:¬i.args.2.length=f.np):qp f i=1:=by unfold qp;rw[if_pos h]
theorem right_2 {f:ax} {i:ku} {k:Nat} (h:i.args.2.length=f.np) (hk:k<i.args.2.length) (hb:Dr f i k=false):qp f i=1:=by
 unfold qp;rw[if_neg (by simpa using h),if_pos (wh (P:=fun k=> !(f.ty k==2)||(decide (-1≤i.args.2[k]!.arr)&&decide (i.args.2[k]!.arr<(i.arrays.2.length:Int)))) hk hb)]
theorem right_3 {f:ax} {i:ku} (h:i.args.2.length=f.np) (hg:∀k,k<i.args.2.length→Dr f i k=true) (h3:32<i.arrays.2.length):qp f i=4:=by
 unfold qp;rw[if_neg (by simpa using h),if_neg (by rw[qh (P:=fun k=> !(f.ty k==2)||(decide (-1≤i.args.2[k]!.arr)&&decide (i.args.2[k]!.arr<(i.arrays.2.length:Int)))) hg];decide),if_pos h3]
theorem right_4 {f:ax} {i:ku} {k:Nat} (h:i.args.2.length=f.np) (hg:∀k,k<i.args.2.length→Dr f i k=true) (h3:¬32<i.arrays.2.length) (hk:k<i.arrays.2.length) (h4:¬i.arrays.2[k]!.2.length≤64):qp f i=4:=by
 unfold qp;rw[if_neg (by simpa using h),if_neg (by rw[qh (P:=fun k=> !(f.ty k==2)||(decide (-1≤i.args.2[k]!.arr)&&decide (i.args.2[k]!.arr<(i.arrays.2.length:Int)))) hg];decide),if_neg h3,if_pos (wh hk (decide_eq_false h4))]
theorem right_0 {f:ax} {i:ku} (h:i.args.2.length=f.np) (hg:∀k,k<i.args.2.length→Dr f i k=true) (h3:¬32<i.arrays.2.length) (h4:∀k,k<i.arrays.2.length→i.arrays.2[k]!.2.length≤64):qp f i=0:=by
 unfold qp;rw[if_neg (by simpa using h),if_neg (by rw[qh (P:=fun k=> !(f.ty k==2)||(decide (-1≤i.args.2[k]!.arr)&&decide (i.args.2[k]!.arr<(i.arrays.2.length:Int)))) hg];decide),if_neg h3,if_neg (by rw[qh (fun k hk=>decide_eq_true (h4 k hk))];decide)]
theorem right_yes {f:ax} {i:ku} (h:qp f i=0):i.args.2.length=f.np∧(∀k,k<i.args.2.length→Dr f i k=true)∧i.arrays.2.length≤32∧∀k,k<i.arrays.2.length→i.arrays.2[k]!.2.length≤64:=by
 unfold qp at h;split at h
 ·cases h
 split at h
 ·cases h
 split at h
 ·cases h
 split at h
 ·cases h
 ·rename_i h1 h2 h3 h4;refine⟨Classical.byContradiction h1, ?_,by omega, ?_⟩
  ·have:=(Bool.not_eq_false _).mp h2;exact uz.1 this
  ·have:=(Bool.not_eq_false _).mp h4;exact fun k hk=>of_decide_eq_true (uz.1 this k hk)
theorem rightR_any (f:ax) (i:ku) (w:World) (hf:cz w f) (hi:Ad w i) (hp:f.np≤f.nv) (hb1:i.args.2.length≤1000) (hb2:i.arrays.2.length≤1000):Calls Tryz.prog 22 #[f.val,i.val] w fun e w'=>e= .returned (.int .i64 (qp f i))∧ai w w' []:=by
 obtain⟨a0,c0,a1,c1,a2,c2,e0,e1,e2,hval,h1,HF,HC0,HC1,HC2,HNV,HNP,HNB⟩:=qj hf;rw[hval];clear e0 e1 e2 hval h1 hf;obtain⟨b0,d0,g0,-,-,hd0⟩:=hi.args.open_;obtain⟨b1,d1,g1,-,-,hd1⟩:=hi.arrays.open_;have HI:=ag hi;have HD0:=ag hd0;have HD1:=ag hd1;generalize hna:i.args.2.length=na at*;generalize hnr:i.arrays.2.length=nr at*;have HNA:=ag hna;have HNR:=ag hnr;rw[show i.val= .agg #[.slice b0 na d0,.slice b1 nr d1] by unfold ku.val;rw[g0,g1]];clear g0 g1 hd0 hd1 hi hna hnr;have H1:=ag (fun h=>right_1 (f:=f) (i:=i) h);rw[HNA.o]at H1;have hk0:ai w (w.alloc (.cells #[.slice a0 f.nv c0,.slice a1 f.np c1,.slice a2 f.nb c2] 26)) []:=(ai.refl _ []).alloc _;have bb0:=Blk.new w 26 #[.slice a0 f.nv c0,.slice a1 f.np c1,.slice a2 f.nb c2];have hk1:ai (w.alloc (.cells #[.slice a0 f.nv c0,.slice a1 f.np c1,.slice a2 f.nb c2] 26)) ((w.alloc (.cells #[.slice a0 f.nv c0,.slice a1 f.np c1,.slice a2 f.nb c2] 26)).alloc (.cells #[.slice b0 na d0,.slice b1 nr d1] 57)) []:=(ai.refl _ []).alloc _;have bb1:=Blk.new (w.alloc (.cells #[.slice a0 f.nv c0,.slice a1 f.np c1,.slice a2 f.nb c2] 26)) 57 #[.slice b0 na d0,.slice b1 nr d1];rw[show(w.alloc (.cells #[.slice a0 f.nv c0,.slice a1 f.np c1,.slice a2 f.nb c2] 26)).heap.size=w.heap.size+1 by show(Array.push _ _).size=_;simp[Array.size_push]]at bb1;have Bl:=ag (bb0.keep hk1 (by simp));have Bm:=ag bb1;have HK:=ag (hk0.ak hk1);obtain⟨l0,l1,l2⟩:=Bl.o.c3;obtain⟨m0,m1⟩:=Bm.o.c2;simp at l0 l1 l2 m0 m1;clear hk0 hk1 bb0 bb1;by_cases hnn:na=f.np
 ·have HEQ:=ag (show i.args.2.length=f.np by rw[HNA.o];exact hnn);clear H1;have hnpv:(na:Int)≤(f.nv:Int):=(by omega);have hneq:((na:Int)==(f.np:Int))=true:=(by rw[hnn];simp);have HNN:=ag hnn;clear hnn;go_enter Tryz.func22,Tryz.ntmps22;go_wp2;clear l0 l1 l2 m0 m1;generalize((w.alloc (.cells #[.slice a0 f.nv c0,.slice a1 f.np c1,.slice a2 f.nb c2] 26)).alloc (.cells #[.slice b0 na d0,.slice b1 nr d1] 57))=W0 at*;have Bl_W0:=Bl;have Bm_W0:=Bm;have TW0:=HK;clear HK;have HK:=ag (ai.refl W0 []);obtain⟨l0,l1,l2⟩:=Bl.o.c3;obtain⟨m0,m1⟩:=Bm.o.c2;simp at l0 l1 l2 m0 m1;go_loopw [19] (fun i' wr=>∃k:Nat,k≤na∧i'= .int .i64 k∧ai W0 wr []∧Hid (∀j,j<k→Dr f i j=true)) (fun i' _=>na -(intOf i').toNat)
  case atStart=>exact⟨0,Nat.zero_le _,rfl,HK.o,fun j hj=>absurd hj (Nat.not_lt_zero _)⟩
  case round=>
   obtain⟨k,hk,rfl,hr,HV⟩:=hrel;clear l0 l1 l2 m0 m1;clear Bl Bm HK;have HK:=ag hr;have Bl:=ag (Bl_W0.o.keep hr (by simp));have Bm:=ag (Bm_W0.o.keep hr (by simp));clear hr;obtain⟨l0,l1,l2⟩:=Bl.o.c3;obtain⟨m0,m1⟩:=Bm.o.c2;simp at l0 l1 l2 m0 m1;by_cases hlt:k<na
   ·have hltz:(k:Int)<(na:Int):=(by omega);have hkv:k<f.nv:=(by omega);have hkvz:(k:Int)<(f.nv:Int):=(by omega);obtain⟨bb,off,rfl,hbl,hcell⟩:=HD0.o k hlt;obtain⟨vb,vo,rfl,hvl,hvc⟩:=HC0.o k (by rw[HNV.o];exact hkv);have n0:=(TW0.o.ak HK.o).cellOf (hcell 0 _ rfl);have n1:=(TW0.o.ak HK.o).cellOf (hcell 1 _ rfl);have n2:=(TW0.o.ak HK.o).cellOf (hcell 2 _ rfl);simp only[Nat.add_zero]at n0;have hty:f.ty k=f.vars.2[k]!.type:=(by unfold ax.ty;rw[List.getElem?_eq_getElem (by rw[HNV.o];exact hkv),getElem!_pos f.vars.2 k (by rw[HNV.o];exact hkv)];rfl);have q1:wr.cell? ⟨vb,vo+k*2+1,none⟩=some (.int .i64 f.vars.2[k]!.type):=(TW0.o.ak HK.o).cellOf (hvc 1 _ rfl);rw[←hty]at q1;clear hty;have HBD:=ag (fun h=>right_2 (f:=f) (i:=i) (k:=k) HEQ.o (by rw[HNA.o];exact hlt) h);have HGA:=ag (show Dr f i k=(!(f.ty k==2)||(decide (-1≤i.args.2[k]!.arr)&&decide (i.args.2[k]!.arr<(nr:Int)))) by unfold Dr;rw[HNR.o]);clear hcell hvc HD0 HC0;generalize i.args.2[k]! =y at*;generalize y.int=yi at*;generalize y.bool=yb at*;generalize y.arr=ya at*;generalize f.ty k=ft at*;clear l0 l1 l2 m0 m1;have bmx:=Blk.new wr 98 #[.int .i64 yi,.bool yb,.int .i64 ya];have k3:ai wr (wr.alloc (.cells #[.int .i64 yi,.bool yb,.int .i64 ya] 98)) []:=(ai.refl wr []).alloc _;replace Bl:=Bl.kb k3;replace Bm:=Bm.kb k3;replace HK:=HK.kt k3;clear k3;have Bp:=ag bmx;clear bmx;obtain⟨l0,l1,l2⟩:=Bl.o.c3;obtain⟨m0,m1⟩:=Bm.o.c2;obtain⟨p0,p1,p2⟩:=Bp.o.c3;simp at l0 l1 l2 m0 m1 p0 p1 p2;have q1:=((ai.refl wr []).alloc (.cells #[.int .i64 yi,.bool yb,.int .i64 ya] 98)).cellOf q1;by_cases h2:ft=2
    ·subst h2;by_cases h3:ya< -1
     ·have HBADk:=ag (show Dr f i k=false by rw[HGA.o,show decide (-1≤ya)=false from decide_eq_false (by omega)];rfl);go_wp2;go_ret;exact⟨zw (HBD.o HBADk.o).symm,(TW0.o.ak HK.o)⟩
     by_cases h4:(nr:Int)≤ya
     ·have HBADk:=ag (show Dr f i k=false by rw[HGA.o,show decide (ya<(nr:Int))=false from decide_eq_false (by omega),Bool.and_false];rfl);go_wp2;go_ret;exact⟨zw (HBD.o HBADk.o).symm,(TW0.o.ak HK.o)⟩
     have HOKk:=ag (show Dr f i k=true by rw[HGA.o,show decide (ya<(nr:Int))=true from decide_eq_true (by omega),show decide (-1≤ya)=true from decide_eq_true (by omega)];rfl);go_wp2;go_roundw
     case rel => exact ⟨k + 1, by omega, by go_num, HK.o, (show Hid _ from fun j hj => by
      by_cases e:j=k
      ·subst e;exact HOKk.o
      ·exact HV.o j (by omega))⟩
     case measure=>simp[intOf];omega
    have h2b:(ft==2)=false:=(by simpa using h2);have HOKk:=ag (show Dr f i k=true by rw[HGA.o,h2b];rfl);go_wp2;go_roundw
    case rel => exact ⟨k + 1, by omega, by go_num, HK.o, (show Hid _ from fun j hj => by
      by_cases e:j=k
      ·subst e;exact HOKk.o
      ·exact HV.o j (by omega))⟩
    case measure=>simp[intOf];omega
   ·have hltz:¬(k:Int)<(na:Int):=(by omega);obtain rfl:na=k:=by omega
    have HGD:=ag (fun j (h:j<i.args.2.length)=>HV.o j (by rw[HNA.o]at h;exact h));by_cases h5:(32:Int)<(nr:Int)
    ·go_wp2;go_ret;exact⟨zw (right_3 HEQ.o HGD.o (by rw[HNR.o];omega)).symm,(TW0.o.ak HK.o)⟩
    go_wp2;go_loopw [52] (fun i' wx=>∃k:Nat,k≤nr∧i'= .int .i64 k∧wx=wr∧Hid (∀j,j<k→i.arrays.2[j]!.2.length≤64)) (fun i' _=>nr -(intOf i').toNat)
    case atStart=>exact⟨0,Nat.zero_le _,rfl,rfl,fun j hj=>absurd hj (Nat.not_lt_zero _)⟩
    case round=>
     obtain⟨q,hq,rfl,rfl,HV2⟩:=hrel;by_cases hlq:q<nr
     ·have hlqz:(q:Int)<(nr:Int):=(by omega);obtain⟨bb,off,rfl,hbl,hcell⟩:=HD1.o q hlq;obtain⟨va,vc,ve,_⟩:=(show Row _ 1 _ _ from HI.o.arr _ (az (l:=i.arrays.2) (k:=q) (by rw[HNR.o];exact hlq)));rw[List.length_map]at ve;have n0:wr.cell? ⟨bb,off+q*1,none⟩=some i.arrays.2[q]!.1:=(TW0.o.ak HK.o).cellOf (hcell 0 _ rfl);rw[ve,Nat.mul_one]at n0;clear hcell HD1 ve;have HNB:=ag (fun h=>right_4 (f:=f) (i:=i) (k:=q) HEQ.o HGD.o (by rw[HNR.o];omega) (by rw[HNR.o];exact hlq) h);generalize hql:i.arrays.2[q]!.2.length=ql at*;by_cases hs:(64:Int)<(ql:Int)
      ·go_wp2;go_ret;exact⟨zw (HNB.o (by omega)).symm,(TW0.o.ak HK.o)⟩
      go_wp2;go_roundw
      case rel => exact ⟨q + 1, by omega, by go_num, (by first | rfl | trivial), (show Hid _ from fun j hj => by
      by_cases e:j=q
      ·subst e;omega
      ·exact HV2.o j (by omega))⟩
      case measure=>simp[intOf];omega
     ·have hlqz:¬(q:Int)<(nr:Int):=(by omega);obtain rfl:nr=q:=by omega
      go_wp2;go_ret;exact⟨zw (right_0 HEQ.o HGD.o (by rw[HNR.o];omega) (by rw[HNR.o];exact HV2.o)).symm,(TW0.o.ak HK.o)⟩
 ·have hne:((na:Int)==(f.np:Int))=false:=(by simp;omega);go_enter Tryz.func22,Tryz.ntmps22;go_wp2;go_ret;exact⟨zw (H1.o hnn).symm,HK.o⟩
end Go.Proofs.YtjllbchfojonhaaGreatDoor
namespace Go.Proofs.YtjllbchfojonhaaGreatDoor
structure PhiOK (n:Nat) (p:jk):Prop where
 dst:0≤p.dst∧p.dst<(n:Int)
 len:p.args.2.length=p.froms.2.length
 arg:∀a∈p.args.2,0≤a∧a<(n:Int)
def JoinP (f:ax):Prop:=∀i,i<f.nb→∀p∈f.blocks.2[i]!.phis.2,∀a,a<f.nb→kw f.blocks.2[a]! (i:Int)=true→(a:Int)∈p.froms.2
theorem sub_of_len:∀{l1 l2:List Int},l1.Nodup→(∀x∈l1,x∈l2)→l2.length≤l1.length→∀y∈l2,y∈l1
 |[],l2,_,_,hl,y,hy=>by
  have:l2=[]:=List.eq_nil_of_length_eq_zero (by simpa using hl);rw[this]at hy;cases hy
 |x::t,l2,hn,hs,hl,y,hy=>by
  rw[List.nodup_cons]at hn;have hx:x∈l2:=hs x (List.mem_cons_self ..);by_cases e:y=x
  ·rw[e];exact List.mem_cons_self ..
  ·refine List.mem_cons_of_mem _ (sub_of_len (l2:=l2.erase x) hn.2 (fun z hz=> ?_) ?_ y ?_)
   ·exact(List.mem_erase_of_ne (fun(q:z=x)=>hn.1 (q▸hz))).2 (hs z (List.mem_cons_of_mem _ hz))
   ·rw[List.length_erase_of_mem hx];simp at hl;omega
   ·exact(List.mem_erase_of_ne e).2 hy
theorem phi_some {p:jk} {b:Nat} (h:(b:Int)∈p.froms.2):∃i,i<p.froms.2.length∧p.froms.2[i]! =(b:Int)∧uq p b=some p.args.2[i]! :=by
 unfold uq;cases e:(List.range p.froms.2.length).find? fun i=>p.froms.2[i]! ==(b:Int)with
 |none=>
  exfalso
  rw[List.find?_eq_none]at e;obtain⟨i,hi,hx⟩:=List.mem_iff_getElem.1 h;have:=e i (List.mem_range.2 hi);rw[getElem!_pos p.froms.2 i hi,hx]at this;simp at this
 |some i=>
  have h1:=List.find?_some e;have h2:=List.mem_range.1 (List.mem_of_find?_eq_some e);exact⟨i,h2,by simpa using h1,rfl⟩
def cntL (f:ax) (i a:Nat):Nat:=((List.range a).filter fun c=>kw f.blocks.2[c]! (i:Int)).length
theorem cntL_yes {f:ax} {i a:Nat} (h:kw f.blocks.2[a]! (i:Int)=true):cntL f i (a+1)=cntL f i a+1:=by
 unfold cntL;rw[List.range_succ,List.filter_append,List.length_append];simp only[List.filter_cons,h,List.filter_nil,if_true, ↓reduceIte,List.length_cons,List.length_nil,Nat.zero_add,Nat.add_zero,Bool.false_eq_true,if_false]
theorem cntL_no {f:ax} {i a:Nat} (h:kw f.blocks.2[a]! (i:Int)=false):cntL f i (a+1)=cntL f i a:=by
 unfold cntL;rw[List.range_succ,List.filter_append,List.length_append];simp only[List.filter_cons,h,List.filter_nil,if_true, ↓reduceIte,List.length_cons,List.length_nil,Nat.zero_add,Nat.add_zero,Bool.false_eq_true,if_false]
theorem cntL_le (f:ax) (i a:Nat):cntL f i a≤a:=by
 unfold cntL;have:=List.length_filter_le (fun c=>kw f.blocks.2[c]! (i:Int)) (List.range a);rw[List.length_range]at this;exact this
def JoinK (f:ax) (i:Nat) (p:jk) (k:Nat):Prop:=kw f.blocks.2[(p.froms.2[k]!).toNat]! (i:Int)=true∧∀j,j<k→p.froms.2[j]! ≠p.froms.2[k]!
structure JoinQ (f:ax) (i:Nat) (p:jk):Prop where
 cnt:cntL f i f.nb=p.froms.2.length
 all:∀k,k<p.froms.2.length→JoinK f i p k
def JoinF (f:ax) (i m:Nat):Prop:=(∀b,b<i→∀p∈f.blocks.2[b]!.phis.2,JoinQ f b p)∧∀k,k<m→JoinQ f i f.blocks.2[i]!.phis.2[k]!
theorem joinF_zero (f:ax):JoinF f 0 0:=⟨fun b hb=>by omega,fun k hk=>by omega⟩
theorem joinF_snoc {f : ax} {i m : Nat} (h : JoinF f i m) (hq : JoinQ f i f.blocks.2[i]!.phis.2[m]!) : JoinF f i (m + 1) := ⟨h.1, fun k hk => by
 by_cases e:k=m
 ·rw[e];exact hq
 ·exact h.2 k (by omega)⟩
theorem joinF_next {f : ax} {i : Nat} (h : JoinF f i f.blocks.2[i]!.phis.2.length) : JoinF f (i + 1) 0 := ⟨fun b hb p hp => by
 by_cases e:b=i
 ·subst e;obtain⟨k,hk,rfl⟩:=List.mem_iff_getElem.1 hp;have:=h.2 k hk
  rwa [getElem!_pos _ k hk]at this
 ·exact h.1 b (by omega) p hp,fun k hk=>by omega⟩
theorem join_all {f:ax} (hr:∀i,i<f.nb→∀p∈f.blocks.2[i]!.phis.2,∀a∈p.froms.2,0≤a∧a<(f.nb:Int)) (h:JoinF f f.nb 0):JoinP f:=by
 intro i hi p hp a ha hl;obtain⟨h1,h2⟩:=h.1 i hi p hp;have hin:=hr i hi p hp;refine sub_of_len (l2:=((List.range f.nb).filter fun c=>kw f.blocks.2[c]! (i:Int)).map (fun c:Nat=>(c:Int))) ?_ (fun x hx=> ?_) ?_ (a:Int) (List.mem_map.2 ⟨a,List.mem_filter.2 ⟨List.mem_range.2 ha,hl⟩,rfl⟩)
 ·show List.Pairwise _ _;rw[List.pairwise_iff_getElem];intro j k hj hk hjk;have:=(h2 k hk).2 j hjk
  rwa [getElem!_pos _ j hj,getElem!_pos _ k hk]at this
 ·obtain⟨k,hk,rfl⟩:=List.mem_iff_getElem.1 hx;have h3:=(h2 k hk).1;have h4:=hin _ (List.getElem_mem hk);rw[getElem!_pos _ k hk]at h3;exact List.mem_map.2 ⟨(p.froms.2[k]).toNat,List.mem_filter.2 ⟨List.mem_range.2 (by omega),h3⟩,by omega⟩
 ·rw[List.length_map];exact Nat.le_of_eq h1
end Go.Proofs.YtjllbchfojonhaaGreatDoor
