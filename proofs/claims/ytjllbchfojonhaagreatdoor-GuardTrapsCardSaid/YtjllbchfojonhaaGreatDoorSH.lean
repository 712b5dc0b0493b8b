/- slices.IndexFunc, ContainsFunc over instructions and phis, with a predicate that may lay memory of its own; contracts. ; Package print: Shaped; contract. ; Package print: Shaped; contract. ; slices.IndexFunc, ContainsFunc over numbers, with a predicate whose contract holds at the list's members; contracts. ; Package typing: kind at any variable that there is, phi, and its closure; contracts. -/
import Derived.Test.YtjllbchfojonhaaGreatDoorB2
import Derived.Test.YtjllbchfojonhaaGreatDoorInst
import Derived.Test.YtjllbchfojonhaaGreatDoorUN
set_option linter.unusedVariables false
set_option linter.unusedSimpArgs false
set_option maxRecDepth 100000
set_option maxHeartbeats 200000000
namespace Go.Proofs.YtjllbchfojonhaaGreatDoor
open Go.RowKit
def Predinsts (g:Nat) (lb:Array Value) (p:cu→Bool) (l:List cu) (w:World):Prop:=
 ∀(W:World) (k:Nat),k<l.length→ai w W []→Calls Tryz.prog g (#[.agg (l[k]!).cells.toArray]++lb) W fun e w'=>e= .returned (.bool (p l[k]!))∧ai W w' []
theorem index_insts (g:Nat) (lb:Array Value) (p:cu→Bool) (v:Value) (l:List cu) (w:World) (hq:Row w 4 v (l.map cu.cells)) (hp:Predinsts g lb p l w) (eg:∀args w,(callFunc g args).run Tryz.prog w= .ok (.enter g args) w):
  Calls Tryz.prog 121 #[v,.func (.func g) #[] lb] w fun e w'=>e= .returned (.int .i64 (Lib.idxBy (fun _ y=>p y) l default))∧ai w w' []:=by
 obtain⟨a,cap,rfl,hl,hm,hc0⟩:=hq.open_;obtain⟨n,hn⟩:∃n,l.length=n:=⟨_,rfl⟩;have HC:=ag hc0;rw[hn]at hl ⊢;have HN:=ag hn;have HP:=ag hp;have hnI:(n:Int)≤9223372036854775807:=(by unfold maxLen at hm;omega);clear hp hq hc0 hn;go_enter Tryz.func121,Tryz.ntmps121;go_wp2;go_loopw [5,8] (fun _ s8 wr=>∃kk:Nat,kk≤n∧s8= .int .i64 kk∧ai w wr []∧Hid (∀j,j<kk→p l[j]! =false)) (fun _ s8 _=>n -(intOf s8).toNat)
 case atStart=>exact⟨0,Nat.zero_le _,rfl,ai.refl w _,fun j hj=>absurd hj (Nat.not_lt_zero _)⟩
 case round=>
  obtain⟨kk,hkk,rfl,hk,A⟩:=hrel;have HK:=ag hk;clear hk;by_cases hlt:kk<n
  ·have hltz:(kk:Int)<(n:Int):=(by omega);have hlt':kk<l.length:=(by rw[HN.o];exact hlt);obtain⟨b,off,rfl,hb,hc⟩:=HC.o kk hlt';have hcall:=HP.o wr kk hlt' HK.o;clear HC HP;generalize hy:l[kk]! =y at hc hcall;have B:=ag hy;clear hy;have l0:=HK.o.cellOf (hc 0 _ rfl);have l1:=HK.o.cellOf (hc 1 _ rfl);have l2:=HK.o.cellOf (hc 2 _ rfl);have l3:=HK.o.cellOf (hc 3 _ rfl);simp only[Nat.add_zero]at l0;simp only[cu.cells]at hcall;cases hq:p y with
   |true=>
    rw[hq]at hcall;have CC:=ag hcall;clear hcall hc;go_wp2_with (go_at_fn g;refine(CC.o).mono ?_;rintro e w' ⟨rfl,hb'⟩)
    go_ret;refine⟨?_,HK.o.ak hb'⟩;have h9:=Lib.idxBy_hit (fun _ y=>p y) l n kk default hlt (by rw[HN.o];omega) (by show p l[kk]! =true;rw[B.o];exact hq) A.o;rw[←HN.o,List.take_length]at h9;rw[h9];rfl
   |false=>
    rw[hq]at hcall;have CC:=ag hcall;clear hcall hc;go_wp2_with (go_at_fn g;refine(CC.o).mono ?_;rintro e w' ⟨rfl,hb'⟩)
    have HB:=ag hb';clear hb';go_roundw
    case rel=>
     refine⟨kk+1,by omega,by go_num,HK.o.ak HB.o,(show Hid _ from fun j hj=> ?_)⟩;by_cases e:j=kk
     ·subst e;rw[B.o];exact hq
     ·exact A.o j (by omega)
    case measure=>simp[intOf];omega
  ·have hltz:¬(kk:Int)<(n:Int):=(by omega);have:kk=n:=(by omega);subst this;go_wp2;go_ret;refine⟨?_,HK.o⟩;have h9:=Lib.idxBy_miss (fun _ y=>p y) l kk default A.o;rw[←HN.o,List.take_length]at h9;exact congrArg (fun z:Int=>Ending.returned (Value.int .i64 z)) h9.symm
theorem any_insts (g:Nat) (lb:Array Value) (p:cu→Bool) (v:Value) (l:List cu) (w:World) (hq:Row w 4 v (l.map cu.cells)) (hp:Predinsts g lb p l w) (eg:∀args w,(callFunc g args).run Tryz.prog w= .ok (.enter g args) w):
  Calls Tryz.prog 89 #[v,.func (.func g) #[] lb] w fun e w'=>e= .returned (.bool (l.any p))∧ai w w' []:=by
 have C:=ag (index_insts g lb p v l w hq hp eg);obtain⟨a,cap,rfl,_,_,_⟩:=hq.open_;have hx:=Lib.idxBy_nonneg_iff (fun _ y=>p y) l default;rw[←hx];generalize Lib.idxBy (fun _ y=>p y) l default=z at*;generalize l.length=n at*;clear hx hq hp;by_cases h0:0≤z
 all_goals
  go_enter Tryz.func89,Tryz.ntmps89;go_wp2_with (refine(C.o).mono ?_;rintro e w' ⟨rfl,k⟩;have K:=ag k;clear k)
  go_ret;exact⟨ay (by simp[h0]),K.o⟩
def Predphis (g:Nat) (lb:Array Value) (p:jk→Bool) (l:List jk) (w:World):Prop:=
 ∀(W:World) (k:Nat),k<l.length→ai w W []→Calls Tryz.prog g (#[.agg (l[k]!).cells.toArray]++lb) W fun e w'=>e= .returned (.bool (p l[k]!))∧ai W w' []
theorem index_phis (g:Nat) (lb:Array Value) (p:jk→Bool) (v:Value) (l:List jk) (w:World) (hq:Row w 3 v (l.map jk.cells)) (hp:Predphis g lb p l w) (eg:∀args w,(callFunc g args).run Tryz.prog w= .ok (.enter g args) w):
  Calls Tryz.prog 116 #[v,.func (.func g) #[] lb] w fun e w'=>e= .returned (.int .i64 (Lib.idxBy (fun _ y=>p y) l default))∧ai w w' []:=by
 obtain⟨a,cap,rfl,hl,hm,hc0⟩:=hq.open_;obtain⟨n,hn⟩:∃n,l.length=n:=⟨_,rfl⟩;have HC:=ag hc0;rw[hn]at hl ⊢;have HN:=ag hn;have HP:=ag hp;have hnI:(n:Int)≤9223372036854775807:=(by unfold maxLen at hm;omega);clear hp hq hc0 hn;go_enter Tryz.func116,Tryz.ntmps116;go_wp2;go_loopw [5,8] (fun _ s8 wr=>∃kk:Nat,kk≤n∧s8= .int .i64 kk∧ai w wr []∧Hid (∀j,j<kk→p l[j]! =false)) (fun _ s8 _=>n -(intOf s8).toNat)
 case atStart=>exact⟨0,Nat.zero_le _,rfl,ai.refl w _,fun j hj=>absurd hj (Nat.not_lt_zero _)⟩
 case round=>
  obtain⟨kk,hkk,rfl,hk,A⟩:=hrel;have HK:=ag hk;clear hk;by_cases hlt:kk<n
  ·have hltz:(kk:Int)<(n:Int):=(by omega);have hlt':kk<l.length:=(by rw[HN.o];exact hlt);obtain⟨b,off,rfl,hb,hc⟩:=HC.o kk hlt';have hcall:=HP.o wr kk hlt' HK.o;clear HC HP;generalize hy:l[kk]! =y at hc hcall;have B:=ag hy;clear hy;have l0:=HK.o.cellOf (hc 0 _ rfl);have l1:=HK.o.cellOf (hc 1 _ rfl);have l2:=HK.o.cellOf (hc 2 _ rfl);simp only[Nat.add_zero]at l0;simp only[jk.cells]at hcall;cases hq:p y with
   |true=>
    rw[hq]at hcall;have CC:=ag hcall;clear hcall hc;go_wp2_with (go_at_fn g;refine(CC.o).mono ?_;rintro e w' ⟨rfl,hb'⟩)
    go_ret;refine⟨?_,HK.o.ak hb'⟩;have h9:=Lib.idxBy_hit (fun _ y=>p y) l n kk default hlt (by rw[HN.o];omega) (by show p l[kk]! =true;rw[B.o];exact hq) A.o;rw[←HN.o,List.take_length]at h9;rw[h9];rfl
   |false=>
    rw[hq]at hcall;have CC:=ag hcall;clear hcall hc;go_wp2_with (go_at_fn g;refine(CC.o).mono ?_;rintro e w' ⟨rfl,hb'⟩)
    have HB:=ag hb';clear hb';go_roundw
    case rel=>
     refine⟨kk+1,by omega,by go_num,HK.o.ak HB.o,(show Hid _ from fun j hj=> ?_)⟩;by_cases e:j=kk
     ·subst e;rw[B.o];exact hq
     ·exact A.o j (by omega)
    case measure=>simp[intOf];omega
  ·have hltz:¬(kk:Int)<(n:Int):=(by omega);have:kk=n:=(by omega);subst this;go_wp2;go_ret;refine⟨?_,HK.o⟩;have h9:=Lib.idxBy_miss (fun _ y=>p y) l kk default A.o;rw[←HN.o,List.take_length]at h9;exact congrArg (fun z:Int=>Ending.returned (Value.int .i64 z)) h9.symm
theorem any_phis (g:Nat) (lb:Array Value) (p:jk→Bool) (v:Value) (l:List jk) (w:World) (hq:Row w 3 v (l.map jk.cells)) (hp:Predphis g lb p l w) (eg:∀args w,(callFunc g args).run Tryz.prog w= .ok (.enter g args) w):
  Calls Tryz.prog 86 #[v,.func (.func g) #[] lb] w fun e w'=>e= .returned (.bool (l.any p))∧ai w w' []:=by
 have C:=ag (index_phis g lb p v l w hq hp eg);obtain⟨a,cap,rfl,_,_,_⟩:=hq.open_;have hx:=Lib.idxBy_nonneg_iff (fun _ y=>p y) l default;rw[←hx];generalize Lib.idxBy (fun _ y=>p y) l default=z at*;generalize l.length=n at*;clear hx hq hp;by_cases h0:0≤z
 all_goals
  go_enter Tryz.func86,Tryz.ntmps86;go_wp2_with (refine(C.o).mono ?_;rintro e w' ⟨rfl,k⟩;have K:=ag k;clear k)
  go_ret;exact⟨ay (by simp[h0]),K.o⟩
end Go.Proofs.YtjllbchfojonhaaGreatDoor
namespace Go.Proofs.YtjllbchfojonhaaGreatDoor
open Go.RowKit
theorem phiS_any (f:ax) (p:jk) (L:Nat) (w:World) (hf:cz w f) (hp:PhiAt w p) (hb:Boxed w L f):Calls Tryz.prog 87 (#[.agg p.cells.toArray]++#[.pointer (some ⟨L,0,none⟩)]) w fun e w'=>e= .returned (.bool (!xz f p))∧ai w w' []:=by
 have hk:ai w (w.alloc (.cells p.cells.toArray 95)) []:=(ai.refl w []).alloc _;have C:=ag (phi_any f p _ (hf.keep hk) (hp.keep hk));have hb1:=hb.keep hk;have hx:=Blk.new w 95 p.cells.toArray;have HK:=ag hk;clear hk;obtain⟨a0,c0,a1,c1,a2,c2,hv⟩:=hf.shape
 have h1:#[f.vars.1,f.params.1,f.blocks.1]=#[.slice a0 f.nv c0,.slice a1 f.np c1,.slice a2 f.nb c2]:=by
  unfold ax.val at hv
  injection hv
 unfold Boxed at hb1;rw[h1]at hb1;rw[hv]at C;obtain⟨s1,d1,e3,_⟩:=bu.open_ hp.1;obtain⟨s2,d2,e4,_⟩:=bu.open_ hp.2;simp only[jk.cells,e3,e4]at C hx HK hb1 ⊢;clear e3 e4;have l0:=hb1.cell 0;have l1:=hb1.cell 1;have l2:=hb1.cell 2;have m0:=hx.cell 0;have m1:=hx.cell 1;have m2:=hx.cell 2;simp at l0 l1 l2 m0 m1 m2;generalize xz f p=B at*;generalize f.nv=nv at*;generalize f.np=np at*;generalize f.nb=nb at*;clear hf hv hb hb1 hp h1 hx;cases B
 all_goals
  go_enter Tryz.func87,Tryz.ntmps87;go_wp2_with (refine(C.o).mono ?_;rintro e w' ⟨rfl,k⟩;have K:=ag k;clear k)
  go_ret;exact⟨rfl,HK.o.ak K.o⟩
theorem instS_any (f:ax) (p:cu) (L:Nat) (w:World) (hf:cz w f) (hp:uu w p) (hb:Boxed w L f):Calls Tryz.prog 90 (#[.agg p.cells.toArray]++#[.pointer (some ⟨L,0,none⟩)]) w fun e w'=>e= .returned (.bool (!lg f p))∧ai w w' []:=by
 have hk:ai w (w.alloc (.cells p.cells.toArray 43)) []:=(ai.refl w []).alloc _;have C:=ag (inst_any f p _ (hf.keep hk) (Row.keep hp hk));have hb1:=hb.keep hk;have hx:=Blk.new w 43 p.cells.toArray;have HK:=ag hk;clear hk;obtain⟨a0,c0,a1,c1,a2,c2,hv⟩:=hf.shape
 have h1:#[f.vars.1,f.params.1,f.blocks.1]=#[.slice a0 f.nv c0,.slice a1 f.np c1,.slice a2 f.nb c2]:=by
  unfold ax.val at hv
  injection hv
 unfold Boxed at hb1;rw[h1]at hb1;rw[hv]at C;obtain⟨s1,d1,e3,_⟩:=bu.open_ hp;simp only[cu.cells,e3]at C hx HK hb1 ⊢;clear e3;have l0:=hb1.cell 0;have l1:=hb1.cell 1;have l2:=hb1.cell 2;have m0:=hx.cell 0;have m1:=hx.cell 1;have m2:=hx.cell 2;have m3:=hx.cell 3;simp at l0 l1 l2 m0 m1 m2 m3;generalize lg f p=B at*;generalize f.nv=nv at*;generalize f.np=np at*;generalize f.nb=nb at*;clear hf hv hb hb1 hp h1 hx;cases B
 all_goals
  go_enter Tryz.func90,Tryz.ntmps90;go_wp2_with (refine(C.o).mono ?_;rintro e w' ⟨rfl,k⟩;have K:=ag k;clear k)
  go_ret;exact⟨rfl,HK.o.ak K.o⟩
theorem phisBad (f:ax) (y:df) (L:Nat) (W:World) (hf:cz W f) (hy:Cf W y) (hb:Boxed W L f):Calls Tryz.prog 86 #[y.phis.1,.func (.func 87) #[] #[.pointer (some ⟨L,0,none⟩)]] W fun e w'=>e= .returned (.bool (!(y.phis.2.all (xz f))))∧ai W w' []:=by
 have e:(!(y.phis.2.all (xz f)))=y.phis.2.any fun p=> !xz f p:=(by rw[List.all_eq_not_any_not,Bool.not_not]);rw[e];exact any_phis 87 #[.pointer (some ⟨L,0,none⟩)] (fun p=> !xz f p) y.phis.1 y.phis.2 W hy.phis (fun W' j hj hW=>phiS_any f y.phis.2[j]! L W' (hf.keep hW) ((hy.phi _ (az hj)).keep hW) (hb.keep hW)) (enters_of Tryz.func87 (by kernel_rfl) rfl)
theorem instsBad (f:ax) (y:df) (L:Nat) (W:World) (hf:cz W f) (hy:Cf W y) (hb:Boxed W L f):Calls Tryz.prog 89 #[y.insts.1,.func (.func 90) #[] #[.pointer (some ⟨L,0,none⟩)]] W fun e w'=>e= .returned (.bool (!(y.insts.2.all (lg f))))∧ai W w' []:=by
 have e:(!(y.insts.2.all (lg f)))=y.insts.2.any fun p=> !lg f p:=(by rw[List.all_eq_not_any_not,Bool.not_not]);rw[e];exact any_insts 90 #[.pointer (some ⟨L,0,none⟩)] (fun p=> !lg f p) y.insts.1 y.insts.2 W hy.insts (fun W' j hj hW=>instS_any f y.insts.2[j]! L W' (hf.keep hW) (Row.keep (hy.inst _ (az hj)) hW) (hb.keep hW)) (enters_of Tryz.func90 (by kernel_rfl) rfl)
theorem shaped_any (f:ax) (w:World) (ht:Tabs w) (hf:cz w f) (hfew:yu f):Calls Tryz.prog 54 #[f.val] w fun e w'=>e= .returned (.bool (fw f))∧ai w w' []:=by
 have hk0:ai w (w.alloc (.cells #[f.vars.1,f.params.1,f.blocks.1] 26)) []:=(ai.refl w []).alloc _;have CN:=ag (names_any f _ (ht.keep hk0) (hf.keep hk0) hfew);have hbx:=Boxed.new w f;have HF:=ag (hf.keep hk0);obtain⟨a0,c0,e0,-,-,-⟩:=hf.vars.open_;obtain⟨a1,c1,e1,-,-,-⟩:=(show Row w 1 f.params.1 (f.params.2.map intCells)from hf.params).open_;obtain⟨a2,c2,e2,-,-,hc2⟩:=(hf.keep hk0).blocks.open_;have hval:f.val= .agg #[.slice a0 f.nv c0,.slice a1 f.np c1,.slice a2 f.nb c2]:=by unfold ax.val ax.nv ax.np ax.nb;rw[e0,e1,e2]
 have h1:#[f.vars.1,f.params.1,f.blocks.1]=#[.slice a0 f.nv c0,.slice a1 f.np c1,.slice a2 f.nb c2]:=by
  unfold ax.val at hval
  injection hval
 have HB:=ag hbx;unfold Boxed at hbx;have CT:=ag (fun(y:df) W hf=>term_any f y.kind y.var y.to0 y.to1 W hf);rw[hval]at CN CT ⊢;rw[h1]at hbx CN HF HB hc2 hk0;have HC2:=ag hc2;have HW:=ag hk0;have Bl:=ag hbx;have HX:=ag (show fw f=(yf f&&(f.blocks.2.all (ow f)&&decide (Ct f.blocks.2≤1024)))from rfl);have hnb:=hfew.nb;have HFB:=ag hfew.block;have HNB:=ag (show f.blocks.2.length=f.nb from rfl);obtain⟨l0,l1,l2⟩:=Bl.o.c3;simp at l0 l1 l2;generalize f.nv=nv at*;generalize f.np=np at*;generalize f.nb=nb at*;generalize fw f=SB at*;clear e0 e1 e2 hval h1 hbx hf ht hfew hc2 hk0;cases hN:yf f with
 |false=>
  rw[hN]at CN HX;go_enter Tryz.func54,Tryz.ntmps54;go_wp2_with (go_at_call 85;refine(CN.o).mono ?_;rintro e w3 ⟨rfl,k3⟩;have K3:=ag k3;clear k3)
  go_ret;exact⟨ay (by rw[HX.o];rfl),HW.o.ak K3.o⟩
 |true=>
  rw[hN]at CN HX;clear hN;go_enter Tryz.func54,Tryz.ntmps54;go_wp2_with (go_at_call 85;refine(CN.o).mono ?_;rintro e w3 ⟨rfl,k3⟩;have K3:=ag k3;clear k3;clear l0 l1 l2;have Blx:=ag (Bl.o.keep K3.o (by simp));obtain⟨l0,l1,l2⟩:=Blx.o.c3;simp at l0 l1 l2)
  clear l0 l1 l2 Blx CN;have HKw:=ag K3.o;go_loopw [3,13] (fun s i wr=>∃k:Nat,k≤nb∧i= .int .i64 k∧s= .int .i64 (Ct (f.blocks.2.take k))∧ai (w.alloc (.cells #[.slice a0 nv c0,.slice a1 np c1,.slice a2 nb c2] 26)) wr []∧Ct (f.blocks.2.take k)≤2000*k∧Hid (∀j,j<k→ow f f.blocks.2[j]! =true)) (fun _ i _=>nb -(intOf i).toNat)
  case atStart=>exact⟨0,Nat.zero_le _,rfl,rfl,K3.o,Nat.le_refl _,fun j hj=>absurd hj (Nat.not_lt_zero _)⟩
  case round=>
   clear HKw K3;obtain⟨k,hk,rfl,rfl,hK,hS,A⟩:=hrel;have HK:=ag hK;clear hK;by_cases hlt:k<nb
   ·have hltz:(k:Int)<(nb:Int):=(by omega);obtain⟨bb,off,rfl,hbl,hcell⟩:=HC2.o k (by rw[HNB.o];exact hlt);have n0:=HK.o.cellOf (hcell 0 _ rfl);have n1:=HK.o.cellOf (hcell 1 _ rfl);have n2:=HK.o.cellOf (hcell 2 _ rfl);have n3:=HK.o.cellOf (hcell 3 _ rfl);have n4:=HK.o.cellOf (hcell 4 _ rfl);have n5:=HK.o.cellOf (hcell 5 _ rfl);have n6:=HK.o.cellOf (hcell 6 _ rfl);simp only[Nat.add_zero]at n0;clear hcell HC2;have hy2:=HFB.o _ (az (l:=f.blocks.2) (k:=k) (by rw[HNB.o];exact hlt));have hsn:=bsum_snoc f.blocks.2 k (by rw[HNB.o];exact hlt);have hyb:=(HF.o.keep HK.o).block _ (az (l:=f.blocks.2) (k:=k) (by rw[HNB.o];exact hlt));have HA:=ag (show ow f f.blocks.2[k]! =((f.blocks.2[k]!).phis.2.all (xz f)&&(f.blocks.2[k]!).insts.2.all (lg f)&&qi f (f.blocks.2[k]!).kind (f.blocks.2[k]!).var (f.blocks.2[k]!).to0 (f.blocks.2[k]!).to1)from rfl);have HAll:=ag (fun h:ow f f.blocks.2[k]! =false=>Ac (p:=ow f) (k:=k) (show k<f.blocks.2.length by rw[HNB.o];exact hlt) h);generalize hy:f.blocks.2[k]! =y at*;have HY:=ag hy;clear hy;have C1:=ag (fun W (kW:ai wr W [])=>phisBad f y w.heap.size W ((HF.o.keep HK.o).keep kW) (hyb.keep kW) ((HB.o.keep HK.o).keep kW));have C2:=ag (fun W (kW:ai wr W [])=>instsBad f y w.heap.size W ((HF.o.keep HK.o).keep kW) (hyb.keep kW) ((HB.o.keep HK.o).keep kW));have C3:=ag (fun W (kW:ai wr W [])=>CT.o y W ((HF.o.keep HK.o).keep kW));obtain⟨pa,pc,pe,-,-,-⟩:=hyb.phis.open_;obtain⟨qa,qc,qe,-,-,-⟩:=hyb.insts.open_;rw[pe]at n1 C1;rw[qe]at n2 C2;obtain⟨hp4,hi4⟩:=hy2;clear hyb pe qe CT;generalize y.phis.2.all (xz f)=A1 at*;generalize y.insts.2.all (lg f)=A2 at*;generalize qi f y.kind y.var y.to0 y.to1=A3 at*;generalize y.phis.2.length=np' at*;generalize y.insts.2.length=ni' at*;generalize y.name=yn at*;generalize y.kind=yk at*;generalize y.var=yv at*;generalize y.to0=y0 at*;generalize y.to1=y1 at*;have HSn:=ag hsn;clear hsn;generalize Ct (f.blocks.2.take k)=S at*;have Bm:=ag (Blk.new wr 38 #[.string yn,.slice pa np' pc,.slice qa ni' qc,.int .i64 yk,.int .i64 yv,.int .i64 y0,.int .i64 y1]);have HKy:=ag (show ai wr (wr.alloc (.cells #[.string yn,.slice pa np' pc,.slice qa ni' qc,.int .i64 yk,.int .i64 yv,.int .i64 y0,.int .i64 y1] 38)) []from(ai.refl wr []).alloc _);replace Bl:=ag (Bl.o.keep (HK.o.ak HKy.o) (by simp));obtain⟨l0,l1,l2⟩:=Bl.o.c3;obtain⟨m0,m1,m2,m3,m4,m5,m6⟩:=Bm.o.c7;simp at l0 l1 l2 m0 m1 m2 m3 m4 m5 m6;cases A1
    ·go_wp2_with (first |(go_at_call 86;refine(C1.o _ HKy.o).mono ?_;rintro e w3 ⟨rfl,k3⟩;clear l0 l1 l2 m0 m1 m2 m3 m4 m5 m6;replace Bl:=Bl.kb k3;replace Bm:=Bm.kb k3;replace HKy:=ag (HKy.o.ak k3);obtain⟨l0,l1,l2⟩:=Bl.o.c3;obtain⟨m0,m1,m2,m3,m4,m5,m6⟩:=Bm.o.c7;simp at l0 l1 l2 m0 m1 m2 m3 m4 m5 m6;clear k3)|(go_at_call 89;refine(C2.o _ HKy.o).mono ?_;rintro e w3 ⟨rfl,k3⟩;clear l0 l1 l2 m0 m1 m2 m3 m4 m5 m6;replace Bl:=Bl.kb k3;replace Bm:=Bm.kb k3;replace HKy:=ag (HKy.o.ak k3);obtain⟨l0,l1,l2⟩:=Bl.o.c3;obtain⟨m0,m1,m2,m3,m4,m5,m6⟩:=Bm.o.c7;simp at l0 l1 l2 m0 m1 m2 m3 m4 m5 m6;clear k3)|(go_at_call 92;refine(C3.o _ HKy.o).mono ?_;rintro e w3 ⟨rfl,k3⟩;clear l0 l1 l2 m0 m1 m2 m3 m4 m5 m6;replace Bl:=Bl.kb k3;replace Bm:=Bm.kb k3;replace HKy:=ag (HKy.o.ak k3);obtain⟨l0,l1,l2⟩:=Bl.o.c3;obtain⟨m0,m1,m2,m3,m4,m5,m6⟩:=Bm.o.c7;simp at l0 l1 l2 m0 m1 m2 m3 m4 m5 m6;clear k3))
     go_ret;exact⟨ay (by rw[HX.o,HAll.o (by rw[HA.o];simp)];simp),(HW.o.ak HK.o).ak HKy.o⟩
    ·cases A2
     ·go_wp2_with (first |(go_at_call 86;refine(C1.o _ HKy.o).mono ?_;rintro e w3 ⟨rfl,k3⟩;clear l0 l1 l2 m0 m1 m2 m3 m4 m5 m6;replace Bl:=Bl.kb k3;replace Bm:=Bm.kb k3;replace HKy:=ag (HKy.o.ak k3);obtain⟨l0,l1,l2⟩:=Bl.o.c3;obtain⟨m0,m1,m2,m3,m4,m5,m6⟩:=Bm.o.c7;simp at l0 l1 l2 m0 m1 m2 m3 m4 m5 m6;clear k3)|(go_at_call 89;refine(C2.o _ HKy.o).mono ?_;rintro e w3 ⟨rfl,k3⟩;clear l0 l1 l2 m0 m1 m2 m3 m4 m5 m6;replace Bl:=Bl.kb k3;replace Bm:=Bm.kb k3;replace HKy:=ag (HKy.o.ak k3);obtain⟨l0,l1,l2⟩:=Bl.o.c3;obtain⟨m0,m1,m2,m3,m4,m5,m6⟩:=Bm.o.c7;simp at l0 l1 l2 m0 m1 m2 m3 m4 m5 m6;clear k3)|(go_at_call 92;refine(C3.o _ HKy.o).mono ?_;rintro e w3 ⟨rfl,k3⟩;clear l0 l1 l2 m0 m1 m2 m3 m4 m5 m6;replace Bl:=Bl.kb k3;replace Bm:=Bm.kb k3;replace HKy:=ag (HKy.o.ak k3);obtain⟨l0,l1,l2⟩:=Bl.o.c3;obtain⟨m0,m1,m2,m3,m4,m5,m6⟩:=Bm.o.c7;simp at l0 l1 l2 m0 m1 m2 m3 m4 m5 m6;clear k3))
      go_ret;exact⟨ay (by rw[HX.o,HAll.o (by rw[HA.o];simp)];simp),(HW.o.ak HK.o).ak HKy.o⟩
     ·cases A3
      ·go_wp2_with (first |(go_at_call 86;refine(C1.o _ HKy.o).mono ?_;rintro e w3 ⟨rfl,k3⟩;clear l0 l1 l2 m0 m1 m2 m3 m4 m5 m6;replace Bl:=Bl.kb k3;replace Bm:=Bm.kb k3;replace HKy:=ag (HKy.o.ak k3);obtain⟨l0,l1,l2⟩:=Bl.o.c3;obtain⟨m0,m1,m2,m3,m4,m5,m6⟩:=Bm.o.c7;simp at l0 l1 l2 m0 m1 m2 m3 m4 m5 m6;clear k3)|(go_at_call 89;refine(C2.o _ HKy.o).mono ?_;rintro e w3 ⟨rfl,k3⟩;clear l0 l1 l2 m0 m1 m2 m3 m4 m5 m6;replace Bl:=Bl.kb k3;replace Bm:=Bm.kb k3;replace HKy:=ag (HKy.o.ak k3);obtain⟨l0,l1,l2⟩:=Bl.o.c3;obtain⟨m0,m1,m2,m3,m4,m5,m6⟩:=Bm.o.c7;simp at l0 l1 l2 m0 m1 m2 m3 m4 m5 m6;clear k3)|(go_at_call 92;refine(C3.o _ HKy.o).mono ?_;rintro e w3 ⟨rfl,k3⟩;clear l0 l1 l2 m0 m1 m2 m3 m4 m5 m6;replace Bl:=Bl.kb k3;replace Bm:=Bm.kb k3;replace HKy:=ag (HKy.o.ak k3);obtain⟨l0,l1,l2⟩:=Bl.o.c3;obtain⟨m0,m1,m2,m3,m4,m5,m6⟩:=Bm.o.c7;simp at l0 l1 l2 m0 m1 m2 m3 m4 m5 m6;clear k3))
       go_ret;exact⟨ay (by rw[HX.o,HAll.o (by rw[HA.o];simp)];simp),(HW.o.ak HK.o).ak HKy.o⟩
      ·go_wp2_with (first |(go_at_call 86;refine(C1.o _ HKy.o).mono ?_;rintro e w3 ⟨rfl,k3⟩;clear l0 l1 l2 m0 m1 m2 m3 m4 m5 m6;replace Bl:=Bl.kb k3;replace Bm:=Bm.kb k3;replace HKy:=ag (HKy.o.ak k3);obtain⟨l0,l1,l2⟩:=Bl.o.c3;obtain⟨m0,m1,m2,m3,m4,m5,m6⟩:=Bm.o.c7;simp at l0 l1 l2 m0 m1 m2 m3 m4 m5 m6;clear k3)|(go_at_call 89;refine(C2.o _ HKy.o).mono ?_;rintro e w3 ⟨rfl,k3⟩;clear l0 l1 l2 m0 m1 m2 m3 m4 m5 m6;replace Bl:=Bl.kb k3;replace Bm:=Bm.kb k3;replace HKy:=ag (HKy.o.ak k3);obtain⟨l0,l1,l2⟩:=Bl.o.c3;obtain⟨m0,m1,m2,m3,m4,m5,m6⟩:=Bm.o.c7;simp at l0 l1 l2 m0 m1 m2 m3 m4 m5 m6;clear k3)|(go_at_call 92;refine(C3.o _ HKy.o).mono ?_;rintro e w3 ⟨rfl,k3⟩;clear l0 l1 l2 m0 m1 m2 m3 m4 m5 m6;replace Bl:=Bl.kb k3;replace Bm:=Bm.kb k3;replace HKy:=ag (HKy.o.ak k3);obtain⟨l0,l1,l2⟩:=Bl.o.c3;obtain⟨m0,m1,m2,m3,m4,m5,m6⟩:=Bm.o.c7;simp at l0 l1 l2 m0 m1 m2 m3 m4 m5 m6;clear k3))
       go_roundw
       case rel=>
        refine⟨k+1,by omega,by go_num, ?_,HK.o.ak HKy.o, ?_,(show Hid _ from fun j hj=> ?_)⟩
        ·rw[HSn.o];go_num
        ·rw[HSn.o];omega
        ·by_cases e:j=k
         ·subst e;rw[HY.o,HA.o];rfl
         ·exact A.o j (by omega)
       case measure=>simp[intOf];omega
   ·have hltz:¬(k:Int)<(nb:Int):=(by omega);obtain rfl:nb=k:=by omega
    have HXX := ag (show SB = decide (Ct f.blocks.2 ≤ 1024) by
     rw[HX.o,nu (p:=ow f) (fun j hj=>A.o j (by rw[←HNB.o];exact hj))];simp only[Bool.true_and])
    have he:f.blocks.2.take nb=f.blocks.2:=(by rw[←HNB.o];exact List.take_length);rw[he];generalize Ct f.blocks.2=S at*;clear he HC2 HX A HFB HF HB CT hS;go_wp2;go_ret;exact⟨ay (by rw[HXX.o,decide_eq_decide];omega),HW.o.ak HK.o⟩
end Go.Proofs.YtjllbchfojonhaaGreatDoor
namespace Go.Proofs.YtjllbchfojonhaaGreatDoor
open Go.RowKit
def PredIntL (g:Nat) (lb:Array Value) (p:Int→Bool) (l:List Int) (w:World):Prop:=
 ∀(W:World) (k:Nat),k<l.length→ai w W []→Calls Tryz.prog g (#[.int .i64 l[k]!]++lb) W fun e w'=>e= .returned (.bool (p l[k]!))∧ai W w' []
theorem index_intsL (g:Nat) (lb:Array Value) (p:Int→Bool) (q:jl) (w:World) (hq:bu w q) (hp:PredIntL g lb p q.2 w) (eg:∀args w,(callFunc g args).run Tryz.prog w= .ok (.enter g args) w):
  Calls Tryz.prog 124 #[q.1,.func (.func g) #[] lb] w fun e w'=>e= .returned (.int .i64 (Lib.idxBy (fun _ y=>p y) q.2 default))∧ai w w' []:=by
 obtain⟨a,cap,e1,hl,hm,hc⟩:=hq.open_;rw[e1];obtain⟨v,l⟩:=q;simp only at hl hc ⊢;obtain⟨n,hn⟩:∃n,l.length=n:=⟨_,rfl⟩;rw[hn]at hl hc ⊢;have HN:=ag hn;clear e1 hq;have HP:=ag hp;have hnI:(n:Int)≤9223372036854775807:=(by unfold maxLen at hm;omega);clear hp;go_enter Tryz.func124,Tryz.ntmps124;go_wp2;go_loopw [5,8] (fun _ s8 wr=>∃kk:Nat,kk≤n∧s8= .int .i64 kk∧ai w wr []∧Hid (∀j,j<kk→p l[j]! =false)) (fun _ s8 _=>n -(intOf s8).toNat)
 case atStart=>exact⟨0,Nat.zero_le _,rfl,ai.refl w _,fun j hj=>absurd hj (Nat.not_lt_zero _)⟩
 case round=>
  obtain⟨kk,hkk,rfl,hk,A⟩:=hrel;have HK:=ag hk;clear hk;by_cases hlt:kk<n
  ·have hltz:(kk:Int)<(n:Int):=(by omega);rcases hc with hc|⟨b,off,rfl,hb,hc⟩
   ·omega
   have l2:=HK.o.cellOf (hc kk hlt);have hcall:=HP.o wr kk (by rw[HN.o];exact hlt) HK.o;generalize hy:l[kk]! =y at l2 hcall;have B:=ag hy;clear hy hc;cases hq:p y with
   |true=>
    rw[hq]at hcall;have CC:=ag hcall;clear hcall;go_wp2_with (go_at_fn g;refine(CC.o).mono ?_;rintro e w' ⟨rfl,hb'⟩)
    go_ret;refine⟨?_,HK.o.ak hb'⟩;have h9:=Lib.idxBy_hit (fun _ y=>p y) l n kk default hlt (by omega) (by show p l[kk]! =true;rw[B.o];exact hq) A.o;rw[←hn,List.take_length]at h9;rw[h9];rfl
   |false=>
    rw[hq]at hcall;have CC:=ag hcall;clear hcall;go_wp2_with (go_at_fn g;refine(CC.o).mono ?_;rintro e w' ⟨rfl,hb'⟩)
    have HB:=ag hb';clear hb';go_roundw
    case rel=>
     refine⟨kk+1,by omega,by go_num,HK.o.ak HB.o,(show Hid _ from fun j hj=> ?_)⟩;by_cases e:j=kk
     ·subst e;rw[B.o];exact hq
     ·exact A.o j (by omega)
    case measure=>simp[intOf];omega
  ·have hltz:¬(kk:Int)<(n:Int):=(by omega);have:kk=n:=(by omega);subst this;go_wp2;go_ret;refine⟨?_,HK.o⟩;have h9:=Lib.idxBy_miss (fun _ y=>p y) l kk default A.o;rw[←hn,List.take_length]at h9;exact congrArg (fun z:Int=>Ending.returned (Value.int .i64 z)) h9.symm
theorem any_intsL (g:Nat) (lb:Array Value) (p:Int→Bool) (q:jl) (w:World) (hq:bu w q) (hp:PredIntL g lb p q.2 w) (eg:∀args w,(callFunc g args).run Tryz.prog w= .ok (.enter g args) w):
  Calls Tryz.prog 93 #[q.1,.func (.func g) #[] lb] w fun e w'=>e= .returned (.bool (q.2.any p))∧ai w w' []:=by
 have C:=ag (index_intsL g lb p q w hq hp eg);have hx:=Lib.idxBy_nonneg_iff (fun _ y=>p y) q.2 default;rw[←hx];generalize Lib.idxBy (fun _ y=>p y) q.2 default=z at*;clear hx hq hp;obtain⟨v,l⟩:=q;simp only at C ⊢;by_cases h0:0≤z
 all_goals
  go_enter Tryz.func93,Tryz.ntmps93;go_wp2_with (refine(C.o).mono ?_;rintro e w' ⟨rfl,k⟩;have K:=ag k;clear k)
  go_ret;exact⟨ay (by simp[h0]),K.o⟩
end Go.Proofs.YtjllbchfojonhaaGreatDoor
namespace Go.Proofs.YtjllbchfojonhaaGreatDoor
open Go.RowKit
theorem inB_iff {v:Int} {n:Nat}:inB v n=true↔0≤v∧v<(n:Int):=by unfold inB;rw[Bool.and_eq_true,decide_eq_true_eq,decide_eq_true_eq]
theorem kindI (f:ax) (v:Int) (w:World) (hf:cz w f) (hv:inB v f.nv=true):Calls Tryz.prog 95 #[f.val,.int .i64 v] w fun e w'=>e= .returned (.int .i64 (f.tyI v))∧ai w w' []:=by
 rw[inB_iff]at hv;have h:=kind_any f v.toNat w hf (by omega);rw[show((v.toNat:Nat):Int)=v by omega]at h;exact h
theorem cz.opened {w:World} {f:ax} (h:cz w f):∃a0 c0 a1 c1 a2 c2,f.val= .agg #[.slice a0 f.nv c0,.slice a1 f.np c1,.slice a2 f.nb c2]∧#[f.vars.1,f.params.1,f.blocks.1]=#[.slice a0 f.nv c0,.slice a1 f.np c1,.slice a2 f.nb c2]:=by
 obtain⟨a0,c0,a1,c1,a2,c2,e0,e1,e2⟩:=h.shape2;exact⟨a0,c0,a1,c1,a2,c2,by unfold ax.val;rw[e0,e1,e2],by rw[e0,e1,e2]⟩
theorem tphiC_any (f:ax) (p:jk) (v:Int) (L M:Nat) (w:World) (hf:cz w f) (hp:PhiAt w p) (hb:Boxed w L f) (hm:Blk w M 95 p.cells.toArray) (hv:inB v f.nv=true) (hd:inB p.dst f.nv=true):
  Calls Tryz.prog 94 (#[.int .i64 v]++#[.pointer (some ⟨L,0,none⟩),.pointer (some ⟨M,0,none⟩)]) w fun e w'=>e= .returned (.bool (!(f.tyI v==f.tyI p.dst)))∧ai w w' []:=by
 have CV:=ag (fun w h=>kindI f v w h hv);have CD:=ag (fun w h=>kindI f p.dst w h hd);have HF:=ag hf;obtain⟨a0,c0,a1,c1,a2,c2,hval,h1⟩:=hf.opened;obtain⟨s1,d1,e3,_⟩:=bu.open_ hp.1;obtain⟨s2,d2,e4,_⟩:=bu.open_ hp.2;unfold Boxed at hb;rw[h1]at hb;rw[hval]at CV CD;simp only[jk.cells,e3,e4]at hm;have Bl:=ag hb;have Bm:=ag (show Blk w M 95 #[.int .i64 p.dst,.slice s1 p.args.2.length d1,.slice s2 p.froms.2.length d2]from hm);have HK:=ag (ai.refl w []);have HX:=ag (show(!(f.tyI v==f.tyI p.dst))=(f.tyI v !=f.tyI p.dst)from rfl);rw[HX.o];clear hf hp hb hm e3 e4 h1 hval HX hv hd;generalize f.tyI v=z1 at*;generalize f.tyI p.dst=z2 at*;generalize f.nv=nv at*;generalize f.np=np at*;generalize f.nb=nb at*;generalize p.args.2.length=na at*;generalize p.froms.2.length=nf at*;generalize p.dst=dst at*;obtain⟨l0,l1,l2⟩:=Bl.o.c3;obtain⟨m0,m1,m2⟩:=Bm.o.c3;simp at l0 l1 l2 m0 m1 m2;go_enter Tryz.func94,Tryz.ntmps94;go_wp2_with fail
 refine wp_region_held_drew (S:=(fun w'=>w'.cell? ⟨L,0,none⟩=some (.slice a0 nv c0)∧w'.cell? ⟨L,1,none⟩=some (.slice a1 np c1)∧w'.cell? ⟨L,2,none⟩=some (.slice a2 nb c2)∧w'.cell? ⟨M,0,none⟩=some (.int .i64 dst)∧w'.cell? ⟨M,1,none⟩=some (.slice s1 na d1)∧w'.cell? ⟨M,2,none⟩=some (.slice s2 nf d2))) (by kernel_rfl) ?ahSs (fun ah=> ?_)
 case ahSs=>exact⟨l0,l1,l2,m0,m1,m2⟩
 clear l0 l1 l2 m0 m1 m2;replace Bl:=ag (Bl.o.keep ((ai.refl _ []).drew) (by simp));replace Bm:=ag (Bm.o.keep ((ai.refl _ []).drew) (by simp));replace HK:=ag (HK.o.drew);generalize World.drew _=X0 at*;obtain⟨l0,l1,l2⟩:=Bl.o.c3;obtain⟨m0,m1,m2⟩:=Bm.o.c3;simp at l0 l1 l2 m0 m1 m2;refine tp 0 5 rfl ah ?_;refine tp 1 6 rfl ah ?_;refine tp 3 8 rfl ah ?_;refine tp 4 9 rfl ah ?_;refine tp 5 10 rfl ah ?_;refine t1 2 fun K hK=> ?_;go_simp
 (with_reducible refine(CV.o _ (HF.o.keep HK.o)).mono ?_)
 rintro e wx ⟨rfl,k3⟩;show K _ _;clear ah;clear l0 l1 l2 m0 m1 m2;replace Bl:=Bl.kb k3;replace Bm:=Bm.kb k3;replace HK:=HK.kt k3;obtain⟨l0,l1,l2⟩:=Bl.o.c3;obtain⟨m0,m1,m2⟩:=Bm.o.c3;simp at l0 l1 l2 m0 m1 m2;clear k3;refine hK.out _ _ (by exact⟨l0,l1,l2,m0,m1,m2⟩) fun ah=> ?_;clear hK K;try simp only[Act.put,sA,sB,sC]
 refine t1 6 fun K hK=> ?_;go_simp
 (with_reducible refine(CD.o _ (HF.o.keep HK.o)).mono ?_)
 rintro e wx ⟨rfl,k3⟩;show K _ _;clear ah;clear l0 l1 l2 m0 m1 m2;replace Bl:=Bl.kb k3;replace Bm:=Bm.kb k3;replace HK:=HK.kt k3;obtain⟨l0,l1,l2⟩:=Bl.o.c3;obtain⟨m0,m1,m2⟩:=Bm.o.c3;simp at l0 l1 l2 m0 m1 m2;clear k3;refine hK.out _ _ (by exact⟨l0,l1,l2,m0,m1,m2⟩) fun ah=> ?_;clear hK K;try simp only[Act.put,sA,sB,sC]
 refine tp 7 12 rfl ah ?_;refine tp 8 4 rfl ah ?_;refine wpAnyH_done (by kernel_rfl) ?_ _;clear ah;go_wp2;go_ret;exact⟨rfl,HK.o⟩
theorem tphi_any (f:ax) (p:jk) (w:World) (hf:cz w f) (hp:PhiAt w p) (hv:∀a∈p.args.2,inB a f.nv=true) (hd:inB p.dst f.nv=true):
  Calls Tryz.prog 55 #[f.val,.agg #[.int .i64 p.dst,p.args.1,p.froms.1]] w fun e w'=>e= .returned (.bool (zt f p))∧ai w w' []:=by
 have hk1:ai w (w.alloc (.cells #[f.vars.1,f.params.1,f.blocks.1] 26)) []:=(ai.refl w []).alloc _;have hk2:ai (w.alloc (.cells #[f.vars.1,f.params.1,f.blocks.1] 26)) ((w.alloc (.cells #[f.vars.1,f.params.1,f.blocks.1] 26)).alloc (.cells p.cells.toArray 95)) []:=(ai.refl _ []).alloc _;have b1:=(Boxed.new w f).keep hk2;have b2:=Blk.new (w.alloc (.cells #[f.vars.1,f.params.1,f.blocks.1] 26)) 95 p.cells.toArray;rw[show(w.alloc (.cells #[f.vars.1,f.params.1,f.blocks.1] 26)).heap.size=w.heap.size+1 by show(Array.push _ _).size=_;rw[Array.size_push]]at b2;have hk:=hk1.ak hk2
 have C := ag (any_intsL 94 #[.pointer (some ⟨w.heap.size, 0, none⟩), .pointer (some ⟨w.heap.size + 1, 0, none⟩)] (fun v => !(f.tyI v == f.tyI p.dst)) p.args _ (Row.keep hp.1 hk)
  (fun W k hlt hW=>tphiC_any f p _ w.heap.size (w.heap.size+1) W ((hf.keep hk).keep hW) ((hp.keep hk).keep hW) (b1.keep hW) (b2.keep hW (by simp)) (hv _ (az hlt)) hd) (enters_of Tryz.func94 (by kernel_rfl) rfl))
 have HX:=ag (show zt f p= !(p.args.2.any fun v=> !(f.tyI v==f.tyI p.dst)) by unfold zt;rw[List.all_eq_not_any_not]);obtain⟨a0,c0,a1,c1,a2,c2,hval,h1⟩:=hf.opened;obtain⟨s1,d1,e3,_⟩:=bu.open_ hp.1;obtain⟨s2,d2,e4,_⟩:=bu.open_ hp.2;unfold Boxed at b1;simp only[jk.cells,h1,e3,e4]at C b1 b2 hk;rw[hval,e3,e4,HX.o];have Bl:=ag b1;have Bm:=ag (show Blk _ (w.heap.size+1) 95 #[.int .i64 p.dst,.slice s1 p.args.2.length d1,.slice s2 p.froms.2.length d2]from b2);have HK:=ag (show ai w ((w.alloc (.cells #[.slice a0 f.nv c0,.slice a1 f.np c1,.slice a2 f.nb c2] 26)).alloc (.cells #[.int .i64 p.dst,.slice s1 p.args.2.length d1,.slice s2 p.froms.2.length d2] 95)) []from hk);clear hk hk1 hk2 b1 b2 hf hp hv hd HX hval h1 e3 e4;generalize(p.args.2.any fun v=> !(f.tyI v==f.tyI p.dst))=X at*;generalize f.nv=nv at*;generalize f.np=np at*;generalize f.nb=nb at*;generalize p.args.2.length=na at*;generalize p.froms.2.length=nf at*;generalize p.dst=dst at*;obtain⟨l0,l1,l2⟩:=Bl.o.c3;obtain⟨m0,m1,m2⟩:=Bm.o.c3;simp at l0 l1 l2 m0 m1 m2;go_enter Tryz.func55,Tryz.ntmps55;go_wp2_with (refine(C.o).mono ?_;rintro e w3 ⟨rfl,k3⟩;have K3:=ag k3;clear k3)
 go_ret;exact⟨rfl,HK.o.ak K3.o⟩
end Go.Proofs.YtjllbchfojonhaaGreatDoor
