/- The check that matches an instruction: what the row of its arguments is made of; contracts. -/
import Derived.Test.YtjllbchfojonhaaGreatDoorHX
import Derived.Deep.CutBlock
import Derived.Deep.Cut
import Derived.Deep.CutRange
import Derived.OwnWalk
import Derived.BigQuiet
set_option linter.unusedVariables false
set_option linter.unusedSimpArgs false
set_option maxRecDepth 100000
set_option maxHeartbeats 200000000
namespace Go.Proofs.YtjllbchfojonhaaGreatDoor
open Go.RowKit
section
variable {ends:Nat→List Nat} {nb:Nat} {seen:List Bool} {out:List Nat} {pre:List (Nat×Nat)} {c k:Nat}
end
section
variable (ends:Nat→List Nat) (T:Nat→Nat→Bool→Bool) (pr:Nat→List Nat) (there:Nat→Bool) (nb nc:Nat)
end
section
variable {ends:Nat→List Nat} {T:Nat→Nat→Bool→Bool} {pr:Nat→List Nat} {there:Nat→Bool} {nb nc:Nat} {I:List (List Bool)}
end
def R1 (f:ax) (y:Nat):Prop:=∃x,x<f.nb∧uh (oo f) x∧y∈oo f x
section
variable {w w':World} {L:Nat} {f:ax} {cs:List dn} {th:List Bool} {I:List (List Bool)} {lv tv iv:Value} {vs:List Value}
end
section
variable {succ:Nat→List Nat} {t:Nat→Bool→Bool} {nb:Nat} {bd0 fn0 bd fn:List Bool} {g:Bool} {a k y:Nat}
end
section
variable {f:ax} {b j:Nat}
end
section
variable (g0 g1 g2 g3 g4 g5 g6 g7:Nat)
end
end Go.Proofs.YtjllbchfojonhaaGreatDoor
namespace Go.Proofs.YtjllbchfojonhaaGreatDoor
open Go.RowKit
theorem kwordN:∀k:Nat,k<27→((jb k).toList==[100,105,118])=decide (k=5)∧((jb k).toList==[114,101,109])=decide (k=6)∧((jb k).toList==[108,111,97,100])=decide (k=13)∧((jb k).toList==[115,116,111,114,101])=decide (k=14)∧((jb k).toList==[108,101,110])=decide (k=12)∧((jb k).toList==[110,101,119])=decide (k=15):=by
 intro k hk;rw[ByteArray.toList_eq]
 revert hk k
 decide+kernel
theorem needs29_any (x:cu) (k:Nat) (w:World) (hx:uu w x) (hk:k<27) (ho:x.op=k) (hl:x.args.2.length=(dh k).size):Calls Tryz.prog 29 #[.agg #[.int .i64 x.op,.int .i64 x.dst,x.args.1,.int .i64 x.num]] w fun e w'=>(∃v,e= .returned (.tuple #[.int .i64 (ik k).1,v,.bool (inL rf (k:Int))])∧NeedRet x k w' v)∧ai w w' []:=by
 obtain⟨xa,xc,xe,hxl,hxm,hxc⟩:=Row.open_ (M:=Int) (cells:=intCells) (show Row w 1 x.args.1 (x.args.2.map intCells)from hx);have HX:=ag (show Row w 1 x.args.1 (x.args.2.map intCells)from hx);rw[xe]at HX;have CRW:=ag (fun W=>rows_at k hk W);have HNA:=ag (show ∀W v,bu W (v,iq x k)→NeedRet x k W v from fun _ _ h=>h);have HND:=ag (show iq x k=(x.args.2.drop (ik k).2.1).take (ik k).2.2 from rfl);rw[xe,ho];obtain⟨al,hal⟩:∃al,x.args.2=al:=⟨_,rfl⟩;rw[hal]at hl hxl hxc HX HND ⊢;have HXM:=ag hxm;have htB:(dh k).size≤100:=(qz k hk).1;have HTS0:=ag (show(dh k).size=(dh k).size from rfl);obtain⟨xn,hts⟩:∃z,(dh k).size=z:=⟨_,rfl⟩;rw[hts]at hl htB;rw[hl]at hxl hxc HX ⊢;have HTS:=ag hts;have HAL:=ag hl;clear hts hl hx xe ho hal HTS0;generalize x.dst=xd at*;generalize x.num=xm at*;obtain⟨g5,g6,g13,g14,g12,g15⟩:=kwordN k hk;have HG:=ag (And.intro g5 (And.intro g6 (And.intro g13 (And.intro g14 (And.intro g12 g15)))));clear g5 g6 g13 g14 g12 g15;generalize jb k=wd at*;obtain⟨HK,Bl⟩:=Cc w 43 #[.int .i64 (k:Nat),.int .i64 xd,.slice xa xn xc,.int .i64 xm];obtain⟨l0,l1,l2,l3⟩:=Bl.o.c4;simp at l0 l1 l2 l3;go_enter Tryz.func29,Tryz.ntmps29;go_upto_region 1 with(fail)
 clear l0 l1 l2 l3;generalize(w.alloc (.cells #[.int .i64 (k:Nat),.int .i64 xd,.slice xa xn xc,.int .i64 xm] 43))=W0 at*;have Bl_W0:=Bl;have TW0:=HK;clear HK;have HK:=ag (ai.refl W0 []);obtain⟨l0,l1,l2,l3⟩:=Bl.o.c4;simp at l0 l1 l2 l3;have hkz:(k:Int)<27:=(by omega);refine wp_region_held_drew (S:=(fun w'=>w'.cell? ⟨w.heap.size,0,none⟩=some (.int .i64 (k:Nat))∧w'.cell? ⟨w.heap.size,1,none⟩=some (.int .i64 xd)∧w'.cell? ⟨w.heap.size,2,none⟩=some (.slice xa xn xc)∧w'.cell? ⟨w.heap.size,3,none⟩=some (.int .i64 xm))) (by kernel_rfl) ?ahSs (fun ah=> ?_)
 case ahSs=>exact⟨l0,l1,l2,l3⟩
 clear l0 l1 l2 l3;replace Bl:=ag (Bl.o.keep ((ai.refl _ []).drew) (by simp));replace HK:=ag (HK.o.drew);generalize World.drew _=X0 at*;obtain⟨l0,l1,l2,l3⟩:=Bl.o.c4;simp at l0 l1 l2 l3;refine tl 1 ⟨some 6,_,_,_,_,_⟩ rfl ah ?_;refine tl 2 ⟨some 7,_,_,_,_,_⟩ rfl ah ?_;refine t1 0 fun K hK=> ?_;go_simp
 (with_reducible refine(CRW.o _).mono ?_)
 rintro e wx ⟨rg,rfl,k3,hr0,-,-⟩;have RR:=ag hr0;clear hr0;show K _ _;clear ah;clear l0 l1 l2 l3;replace Bl:=Bl.kb k3;replace HK:=HK.kt k3;obtain⟨l0,l1,l2,l3⟩:=Bl.o.c4;simp at l0 l1 l2 l3;clear k3;refine hK.out _ _ (by exact⟨l0,l1,l2,l3⟩) fun ah=> ?_;clear hK K;try simp only[Act.put,sA,sB,sC]
 refine tl 3 ⟨some 8,_,_,_,_,_⟩ rfl ah ?_;refine tl 4 ⟨some 9,_,_,_,_,_⟩ rfl ah ?_;refine t1 5 fun K hK=> ?_;have r0:=RR.o;go_simp;show K _ _;refine hK.out _ _ (by exact⟨l0,l1,l2,l3⟩) fun ah=> ?_;clear hK K;try simp only[Act.put,sA,sB,sC]
 refine wpAnyH_done (by kernel_rfl) ?_ _;clear ah;obtain⟨W5,hW5⟩:∃W5:World,W5=wx:=⟨_,rfl⟩;subst hW5;clear RR CRW
 (try clear r0)
 clear l0 l1 l2 l3;have Bl_W5:=Bl;have TW5:=HK;clear HK;have HK:=ag (ai.refl W5 []);obtain⟨l0,l1,l2,l3⟩:=Bl.o.c4;simp at l0 l1 l2 l3;cases hrw:inL rf (k:Int)with
 |false=>
  have HRW:=ag hrw;have hnk:k≠5∧k≠6∧k≠12∧k≠13∧k≠14∧k≠15:=(by refine⟨?_, ?_, ?_, ?_, ?_, ?_⟩<;>(intro h;subst h;revert hrw;decide));clear hrw;have s5:(wd.toList==[100,105,118])=false:=HG.o.1.trans (decide_eq_false (by omega));have s6:(wd.toList==[114,101,109])=false:=HG.o.2.1.trans (decide_eq_false (by omega));have s13:(wd.toList==[108,111,97,100])=false:=HG.o.2.2.1.trans (decide_eq_false (by omega));have s14:(wd.toList==[115,116,111,114,101])=false:=HG.o.2.2.2.1.trans (decide_eq_false (by omega));have s12:(wd.toList==[108,101,110])=false:=HG.o.2.2.2.2.1.trans (decide_eq_false (by omega));have s15:(wd.toList==[110,101,119])=false:=HG.o.2.2.2.2.2.trans (decide_eq_false (by omega));clear HG hnk;go_wp2;go_ret3
  exact⟨⟨.slice none 0 0,by rw[Cn HRW.o,HRW.o];rfl,HNA.o _ _ (by rw[HND.o,Cn HRW.o];exact row_none)⟩,(TW0.o.ak (TW5.o.ak HK.o))⟩
 |true=>
  have HRW:=ag hrw;clear hrw;have HRC:=ag (Ak hk HRW.o);obtain⟨ab,ao,rfl,-,-⟩:=hxc 0 (by have h9:=HRC.o;have h8:=HTS.o;rcases h9 with h|h|h|h|h|h<;>(subst h;rw[←h8];decide));clear hxc;rcases HRC.o with h|h|h|h|h|h
  ·subst h;have hs:(dh 5).size=2:=(by decide);have hxn2:xn=2:=(by have h8:=HTS.o;omega);subst hxn2;have hb1:(2:Int)≤(xc:Int):=(by omega);have hb2:¬xc=1:=(by omega);have s5:(wd.toList==[100,105,118])=true:=HG.o.1.trans (decide_eq_true (by omega));clear HG HRC;go_wp2;go_quiet (fail)
   go_wp2;go_ret3
   exact⟨⟨_,rfl,HNA.o _ _ (by rw[HND.o];exact nz (Row.keep HX.o (((TW0.o.ak (TW5.o.ak HK.o))).drewN _)) 1 1 (by omega) (by omega))⟩,((TW0.o.ak (TW5.o.ak HK.o))).drewN _⟩
  ·subst h;have hs:(dh 6).size=2:=(by decide);have hxn2:xn=2:=(by have h8:=HTS.o;omega);subst hxn2;have hb1:(2:Int)≤(xc:Int):=(by omega);have hb2:¬xc=1:=(by omega);have s5:(wd.toList==[100,105,118])=false:=HG.o.1.trans (decide_eq_false (by omega));have s6:(wd.toList==[114,101,109])=true:=HG.o.2.1.trans (decide_eq_true (by omega));clear HG HRC;go_wp2;go_quiet (fail)
   go_wp2;go_ret3
   exact⟨⟨_,rfl,HNA.o _ _ (by rw[HND.o];exact nz (Row.keep HX.o (((TW0.o.ak (TW5.o.ak HK.o))).drewN _)) 1 1 (by omega) (by omega))⟩,((TW0.o.ak (TW5.o.ak HK.o))).drewN _⟩
  ·subst h;have hs:(dh 12).size=1:=(by decide);have hxn2:xn=1:=(by have h8:=HTS.o;omega);subst hxn2;have hb1:(1:Int)≤(xc:Int):=(by omega);have hb2:¬xc=0:=(by omega);have s5:(wd.toList==[100,105,118])=false:=HG.o.1.trans (decide_eq_false (by omega));have s6:(wd.toList==[114,101,109])=false:=HG.o.2.1.trans (decide_eq_false (by omega));have s13:(wd.toList==[108,111,97,100])=false:=HG.o.2.2.1.trans (decide_eq_false (by omega));have s14:(wd.toList==[115,116,111,114,101])=false:=HG.o.2.2.2.1.trans (decide_eq_false (by omega));have s12:(wd.toList==[108,101,110])=true:=HG.o.2.2.2.2.1.trans (decide_eq_true (by omega));clear HG HRC;go_wp2;go_quiet (fail)
   go_wp2;go_ret3
   exact⟨⟨_,rfl,HNA.o _ _ (by rw[HND.o];exact nz (Row.keep HX.o (((TW0.o.ak (TW5.o.ak HK.o))).drewN _)) 0 1 (by omega) (by omega))⟩,((TW0.o.ak (TW5.o.ak HK.o))).drewN _⟩
  ·subst h;have hs:(dh 13).size=2:=(by decide);have hxn2:xn=2:=(by have h8:=HTS.o;omega);subst hxn2;have hb1:(2:Int)≤(xc:Int):=(by omega);have hb2:¬xc=0:=(by omega);have s5:(wd.toList==[100,105,118])=false:=HG.o.1.trans (decide_eq_false (by omega));have s6:(wd.toList==[114,101,109])=false:=HG.o.2.1.trans (decide_eq_false (by omega));have s13:(wd.toList==[108,111,97,100])=true:=HG.o.2.2.1.trans (decide_eq_true (by omega));clear HG HRC;go_wp2;go_quiet (fail)
   go_wp2;go_ret3
   exact⟨⟨_,rfl,HNA.o _ _ (by rw[HND.o];exact nz (Row.keep HX.o (((TW0.o.ak (TW5.o.ak HK.o))).drewN _)) 0 2 (by omega) (by omega))⟩,((TW0.o.ak (TW5.o.ak HK.o))).drewN _⟩
  ·subst h;have hs:(dh 14).size=3:=(by decide);have hxn2:xn=3:=(by have h8:=HTS.o;omega);subst hxn2;have hb1:(2:Int)≤(xc:Int):=(by omega);have hb2:¬xc=0:=(by omega);have s5:(wd.toList==[100,105,118])=false:=HG.o.1.trans (decide_eq_false (by omega));have s6:(wd.toList==[114,101,109])=false:=HG.o.2.1.trans (decide_eq_false (by omega));have s13:(wd.toList==[108,111,97,100])=false:=HG.o.2.2.1.trans (decide_eq_false (by omega));have s14:(wd.toList==[115,116,111,114,101])=true:=HG.o.2.2.2.1.trans (decide_eq_true (by omega));clear HG HRC;go_wp2;go_quiet (fail)
   go_wp2;go_ret3
   exact⟨⟨_,rfl,HNA.o _ _ (by rw[HND.o];exact nz (Row.keep HX.o (((TW0.o.ak (TW5.o.ak HK.o))).drewN _)) 0 2 (by omega) (by omega))⟩,((TW0.o.ak (TW5.o.ak HK.o))).drewN _⟩
  ·subst h;have hs:(dh 15).size=1:=(by decide);have hxn2:xn=1:=(by have h8:=HTS.o;omega);subst hxn2;have hb1:(1:Int)≤(xc:Int):=(by omega);have hb2:¬xc=0:=(by omega);have s5:(wd.toList==[100,105,118])=false:=HG.o.1.trans (decide_eq_false (by omega));have s6:(wd.toList==[114,101,109])=false:=HG.o.2.1.trans (decide_eq_false (by omega));have s13:(wd.toList==[108,111,97,100])=false:=HG.o.2.2.1.trans (decide_eq_false (by omega));have s14:(wd.toList==[115,116,111,114,101])=false:=HG.o.2.2.2.1.trans (decide_eq_false (by omega));have s12:(wd.toList==[108,101,110])=false:=HG.o.2.2.2.2.1.trans (decide_eq_false (by omega));have s15:(wd.toList==[110,101,119])=true:=HG.o.2.2.2.2.2.trans (decide_eq_true (by omega));clear HG HRC;go_wp2;go_quiet (fail)
   go_wp2;go_ret3
   exact⟨⟨_,rfl,HNA.o _ _ (by rw[HND.o];exact nz (Row.keep HX.o (((TW0.o.ak (TW5.o.ak HK.o))).drewN _)) 0 1 (by omega) (by omega))⟩,((TW0.o.ak (TW5.o.ak HK.o))).drewN _⟩
end Go.Proofs.YtjllbchfojonhaaGreatDoor
namespace Go.Proofs.YtjllbchfojonhaaGreatDoor
open Go.RowKit Go.Shelf Go.Lib
def NeedO (x:cu) (k:Nat) (w w':World) (v:Value):Prop:=w'.ownsRow w.heap.size 3 1 v (iq x k).length ((iq x k).map (Value.int .i64))
theorem needs45R_any (x:cu) (k:Nat) (w:World) (hx:uu w x) (hk:k<27) (ho:x.op=k) (hl:x.args.2.length=(dh k).size):Calls Tryz.prog 45 #[.agg #[.int .i64 x.op,.int .i64 x.dst,x.args.1,.int .i64 x.num]] w fun e w'=>(∃v,e= .returned (.tuple #[.int .i64 (ik k).1,v,.bool (inL rf (k:Int))])∧NeedO x k w w' v)∧ai w w' []:=by
 obtain⟨xa,xc,xe,hxl,hxm,hxc⟩:=Row.open_ (M:=Int) (cells:=intCells) (show Row w 1 x.args.1 (x.args.2.map intCells)from hx);have HX:=ag (show Row w 1 x.args.1 (x.args.2.map intCells)from hx);rw[xe]at HX;have CR:=ag (fun W=>raw_any (k:Int) W);have CTk:=ag (fun W=>takes_len k hk W);have HNA:=ag (show ∀W v,W.ownsRow w.heap.size 3 1 v (iq x k).length ((iq x k).map (Value.int .i64))→NeedO x k w W v from fun _ _ h=>h);have HND:=ag (show iq x k=(x.args.2.drop (ik k).2.1).take (ik k).2.2 from rfl);rw[xe,ho];obtain⟨al,hal⟩:∃al,x.args.2=al:=⟨_,rfl⟩;rw[hal]at hl hxl hxc HX HND ⊢;have HXM:=ag hxm;have htB:(dh k).size≤100:=(qz k hk).1;generalize hts:(dh k).size=xn at*;rw[hl]at hxl hxc HX ⊢;have HTS:=ag hts;have HAL:=ag hl;clear hts hl hx xe ho hal;generalize x.dst=xd at*;generalize x.num=xm at*;obtain⟨HK,Bl⟩:=Cc w 43 #[.int .i64 (k:Nat),.int .i64 xd,.slice xa xn xc,.int .i64 xm];obtain⟨l0,l1,l2,l3⟩:=Bl.o.c4;simp at l0 l1 l2 l3;go_enter Tryz.func45,Tryz.ntmps45;go_upto_region 1 with(fail)
 clear l0 l1 l2 l3;generalize(w.alloc (.cells #[.int .i64 (k:Nat),.int .i64 xd,.slice xa xn xc,.int .i64 xm] 43))=W0 at*;have Bl_W0:=Bl;have TW0:=HK;clear HK;have HK:=ag (ai.refl W0 []);obtain⟨l0,l1,l2,l3⟩:=Bl.o.c4;simp at l0 l1 l2 l3;cases hrw:inL rf (k:Int)with
 |false=>
  rw[hrw]at CR;have HRW:=ag hrw;clear hrw CTk;refine wp_region_held_drew (S:=(fun w'=>w'.cell? ⟨w.heap.size,0,none⟩=some (.int .i64 (k:Nat))∧w'.cell? ⟨w.heap.size,1,none⟩=some (.int .i64 xd)∧w'.cell? ⟨w.heap.size,2,none⟩=some (.slice xa xn xc)∧w'.cell? ⟨w.heap.size,3,none⟩=some (.int .i64 xm))) (by kernel_rfl) ?ahSs (fun ah=> ?_)
  case ahSs=>exact⟨l0,l1,l2,l3⟩
  clear l0 l1 l2 l3;replace Bl:=ag (Bl.o.keep ((ai.refl _ []).drew) (by simp));replace HK:=ag (HK.o.drew);generalize World.drew _=X0 at*;obtain⟨l0,l1,l2,l3⟩:=Bl.o.c4;simp at l0 l1 l2 l3;refine tp 0 7 rfl ah ?_;refine tp 1 8 rfl ah ?_;refine t1 2 fun K hK=> ?_;go_simp
  (with_reducible refine(CR.o _).mono ?_)
  rintro e wx ⟨rfl,k3⟩;show K _ _;clear ah;clear l0 l1 l2 l3;replace Bl:=Bl.kb k3;replace HK:=HK.kt k3;obtain⟨l0,l1,l2,l3⟩:=Bl.o.c4;simp at l0 l1 l2 l3;clear k3;refine hK.out _ _ (by exact⟨l0,l1,l2,l3⟩) fun ah=> ?_;clear hK K;try simp only[Act.put,sA,sB,sC]
  refine tp 3 10 rfl ah ?_;refine tp 4 11 rfl ah ?_;refine tu 5 ⟨some 12,.fieldAddr 43 (.tmp 1) 2,_,_,_,_⟩ rfl ah ?_;refine tu 6 ⟨some 13,.load 23 (.tmp 12),_,_,_,_⟩ rfl ah ?_;refine tu 7 ⟨some 14,.call ⟨.builtin .len,#[.tmp 13],#[23]⟩,_,_,_,_⟩ rfl ah ?_;refine tu 8 ⟨some 15,.fieldAddr 43 (.tmp 1) 0,_,_,_,_⟩ rfl ah ?_;refine tu 9 ⟨some 16,.load 41 (.tmp 15),_,_,_,_⟩ rfl ah ?_;refine tu 10 ⟨some 17,.call ⟨.value (.func 74),#[.tmp 16],#[41]⟩,_,_,_,_⟩ rfl ah ?_;refine tu 11 ⟨some 18,.call ⟨.builtin .len,#[.tmp 17],#[133]⟩,_,_,_,_⟩ rfl ah ?_;refine tu 12 ⟨some 19,.binOp BinOp.lss 3 (.tmp 14) (.tmp 18) 3,_,_,_,_⟩ rfl ah ?_;refine tp 13 20 rfl ah ?_;refine wpAnyH_done (by kernel_rfl) ?_ _;clear ah;go_wp2;go_ret3
  exact⟨⟨.slice none 0 0,by rw[Cn HRW.o,HRW.o];rfl,HNA.o _ _ (by rw[HND.o,Cn HRW.o];exact World.ownsRow_nil _ _ _ _)⟩,(TW0.o.ak HK.o)⟩
 |true=>
  rw[hrw]at CR;have HRW:=ag hrw;clear hrw;refine wp_region_held_drew (S:=(fun w'=>w'.cell? ⟨w.heap.size,0,none⟩=some (.int .i64 (k:Nat))∧w'.cell? ⟨w.heap.size,1,none⟩=some (.int .i64 xd)∧w'.cell? ⟨w.heap.size,2,none⟩=some (.slice xa xn xc)∧w'.cell? ⟨w.heap.size,3,none⟩=some (.int .i64 xm))) (by kernel_rfl) ?bhSs (fun ah=> ?_)
  case bhSs=>exact⟨l0,l1,l2,l3⟩
  clear l0 l1 l2 l3;replace Bl:=ag (Bl.o.keep ((ai.refl _ []).drew) (by simp));replace HK:=ag (HK.o.drew);generalize World.drew _=X0 at*;obtain⟨l0,l1,l2,l3⟩:=Bl.o.c4;simp at l0 l1 l2 l3;refine tp 0 7 rfl ah ?_;refine tp 1 8 rfl ah ?_;refine t1 2 fun K hK=> ?_;go_simp
  (with_reducible refine(CR.o _).mono ?_)
  rintro e wx ⟨rfl,k3⟩;show K _ _;clear ah;clear l0 l1 l2 l3;replace Bl:=Bl.kb k3;replace HK:=HK.kt k3;obtain⟨l0,l1,l2,l3⟩:=Bl.o.c4;simp at l0 l1 l2 l3;clear k3;refine hK.out _ _ (by exact⟨l0,l1,l2,l3⟩) fun ah=> ?_;clear hK K;try simp only[Act.put,sA,sB,sC]
  refine tp 3 10 rfl ah ?_;refine tp 4 11 rfl ah ?_;refine tp 5 12 rfl ah ?_;refine tp 6 13 rfl ah ?_;refine tp 7 14 rfl ah ?_;refine tp 8 15 rfl ah ?_;refine tp 9 16 rfl ah ?_;refine t1 10 fun K hK=> ?_;go_simp
  (with_reducible refine(CTk.o _).mono ?_)
  rintro e wx ⟨tva,tvc,rfl,k3⟩;show K _ _;clear ah;clear l0 l1 l2 l3;replace Bl:=Bl.kb k3;replace HK:=HK.kt k3;obtain⟨l0,l1,l2,l3⟩:=Bl.o.c4;simp at l0 l1 l2 l3;clear k3;refine hK.out _ _ (by exact⟨l0,l1,l2,l3⟩) fun ah=> ?_;clear hK K;try simp only[Act.put,sA,sB,sC]
  refine tp 11 18 rfl ah ?_;refine tp 12 19 rfl ah ?_;refine tp 13 20 rfl ah ?_;refine wpAnyH_done (by kernel_rfl) ?_ _;clear ah;have hlz:¬(xn:Int)<(xn:Int):=(by omega);have HRC:=ag (Ak hk HRW.o);obtain⟨ab,ao,rfl,-,-⟩:=hxc 0 (by have h9:=HRC.o;have h8:=HTS.o;rcases h9 with h|h|h|h|h|h<;>(subst h;rw[←h8];decide));clear hxc CR CTk HRW;rcases HRC.o with h|h|h|h|h|h
  ·subst h;have hs:(dh 5).size=2:=(by decide);have hxn2:xn=2:=(by have h8:=HTS.o;omega);subst hxn2;have hb1:(2:Int)≤(xc:Int):=(by omega);have hb2:¬xc=1:=(by omega);go_wp2_with (first |(go_at_call 36;refine(mq _ ((al.drop 1).take 1) _ (nz (Row.keep HX.o (TW0.o.ak HK.o)) 1 1 (by omega) (by omega)) (by rw[List.length_take];omega)).mono ?_;rintro e w9 ⟨⟨nv,rfl,hnv⟩,k9⟩;have HNV:=ag (dm hnv (TW0.o.ak HK.o).size);have HK9:=ag k9;clear hnv k9))
   go_ret3
   exact⟨⟨_,rfl,HNA.o _ _ (by rw[HND.o];exact HNV.o)⟩,(TW0.o.ak HK.o).ak HK9.o⟩
  ·subst h;have hs:(dh 6).size=2:=(by decide);have hxn2:xn=2:=(by have h8:=HTS.o;omega);subst hxn2;have hb1:(2:Int)≤(xc:Int):=(by omega);have hb2:¬xc=1:=(by omega);go_wp2_with (first |(go_at_call 36;refine(mq _ ((al.drop 1).take 1) _ (nz (Row.keep HX.o (TW0.o.ak HK.o)) 1 1 (by omega) (by omega)) (by rw[List.length_take];omega)).mono ?_;rintro e w9 ⟨⟨nv,rfl,hnv⟩,k9⟩;have HNV:=ag (dm hnv (TW0.o.ak HK.o).size);have HK9:=ag k9;clear hnv k9))
   go_ret3
   exact⟨⟨_,rfl,HNA.o _ _ (by rw[HND.o];exact HNV.o)⟩,(TW0.o.ak HK.o).ak HK9.o⟩
  ·subst h;have hs:(dh 12).size=1:=(by decide);have hxn2:xn=1:=(by have h8:=HTS.o;omega);subst hxn2;have hb1:(1:Int)≤(xc:Int):=(by omega);have hb2:¬xc=0:=(by omega);go_wp2_with (first |(go_at_call 36;refine(mq _ ((al.drop 0).take 1) _ (nz (Row.keep HX.o (TW0.o.ak HK.o)) 0 1 (by omega) (by omega)) (by rw[List.length_take];omega)).mono ?_;rintro e w9 ⟨⟨nv,rfl,hnv⟩,k9⟩;have HNV:=ag (dm hnv (TW0.o.ak HK.o).size);have HK9:=ag k9;clear hnv k9))
   go_ret3
   exact⟨⟨_,rfl,HNA.o _ _ (by rw[HND.o];exact HNV.o)⟩,(TW0.o.ak HK.o).ak HK9.o⟩
  ·subst h;have hs:(dh 13).size=2:=(by decide);have hxn2:xn=2:=(by have h8:=HTS.o;omega);subst hxn2;have hb1:(2:Int)≤(xc:Int):=(by omega);have hb2:¬xc=0:=(by omega);go_wp2_with (first |(go_at_call 36;refine(mq _ ((al.drop 0).take 2) _ (nz (Row.keep HX.o (TW0.o.ak HK.o)) 0 2 (by omega) (by omega)) (by rw[List.length_take];omega)).mono ?_;rintro e w9 ⟨⟨nv,rfl,hnv⟩,k9⟩;have HNV:=ag (dm hnv (TW0.o.ak HK.o).size);have HK9:=ag k9;clear hnv k9))
   go_ret3
   exact⟨⟨_,rfl,HNA.o _ _ (by rw[HND.o];exact HNV.o)⟩,(TW0.o.ak HK.o).ak HK9.o⟩
  ·subst h;have hs:(dh 14).size=3:=(by decide);have hxn2:xn=3:=(by have h8:=HTS.o;omega);subst hxn2;have hb1:(2:Int)≤(xc:Int):=(by omega);have hb2:¬xc=0:=(by omega);go_wp2_with (first |(go_at_call 36;refine(mq _ ((al.drop 0).take 2) _ (nz (Row.keep HX.o (TW0.o.ak HK.o)) 0 2 (by omega) (by omega)) (by rw[List.length_take];omega)).mono ?_;rintro e w9 ⟨⟨nv,rfl,hnv⟩,k9⟩;have HNV:=ag (dm hnv (TW0.o.ak HK.o).size);have HK9:=ag k9;clear hnv k9))
   go_ret3
   exact⟨⟨_,rfl,HNA.o _ _ (by rw[HND.o];exact HNV.o)⟩,(TW0.o.ak HK.o).ak HK9.o⟩
  ·subst h;have hs:(dh 15).size=1:=(by decide);have hxn2:xn=1:=(by have h8:=HTS.o;omega);subst hxn2;have hb1:(1:Int)≤(xc:Int):=(by omega);have hb2:¬xc=0:=(by omega);go_wp2_with (first |(go_at_call 36;refine(mq _ ((al.drop 0).take 1) _ (nz (Row.keep HX.o (TW0.o.ak HK.o)) 0 1 (by omega) (by omega)) (by rw[List.length_take];omega)).mono ?_;rintro e w9 ⟨⟨nv,rfl,hnv⟩,k9⟩;have HNV:=ag (dm hnv (TW0.o.ak HK.o).size);have HK9:=ag k9;clear hnv k9))
   go_ret3
   exact⟨⟨_,rfl,HNA.o _ _ (by rw[HND.o];exact HNV.o)⟩,(TW0.o.ak HK.o).ak HK9.o⟩
end Go.Proofs.YtjllbchfojonhaaGreatDoor
