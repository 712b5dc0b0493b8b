/- Package print: has, at; contracts; slices.IndexFunc, ContainsFunc over numbers, with a predicate that may lay memory of its own; contracts; Package print: vars, and the closures over numbers; contracts; Package print: phi; contract; Two arrays of two numbers held against each other; Package print: term; contract; A variable's type, by the program and by the reference; contracts; Package typing: term; contract; Package ops: TypeWord; contract; Rows opened at a place; laws on 'all' of a list, place by place; rows of the call's own; Rows of the call's own that grow; small words. -/
import Derived.Test.YtjllbchfojonhaaGreatDoorB1
import Derived.Test.YtjllbchfojonhaaGreatDoorTN
import Derived.Shelf.SlicesQ.IndexFunc
import Derived.ChangeKeysEq
import Derived.Laws.StructEq
set_option linter.unusedVariables false
set_option linter.unusedSimpArgs false
set_option maxRecDepth 100000
set_option maxHeartbeats 200000000
namespace Go.Proofs.YtjllbchfojonhaaGreatDoor
open Go.RowKit
def ax.nv (f:ax):Nat:=f.vars.2.length
def ax.np (f:ax):Nat:=f.params.2.length
def ax.nb (f:ax):Nat:=f.blocks.2.length
def inB (v:Int) (n:Nat):Bool:=decide (0≤v)&&decide (v<(n:Int))
theorem cz.shape {w:World} {f:ax} (h:cz w f):∃a0 c0 a1 c1 a2 c2,f.val= .agg #[.slice a0 f.nv c0,.slice a1 f.np c1,.slice a2 f.nb c2]:=by
 obtain⟨a0,c0,e0,_⟩:=h.vars;obtain⟨a1,c1,e1,_⟩:=h.params;obtain⟨a2,c2,e2,_⟩:=h.blocks;refine⟨a0,c0,a1,c1,a2,c2, ?_⟩;unfold ax.val ax.nv ax.np ax.nb;rw[e0,e1,e2];simp
theorem has_any (f:ax) (v:Int) (w:World) (hf:cz w f):Calls Tryz.prog 117 #[f.val,.int .i64 v] w fun e w'=>e= .returned (.bool (inB v f.nv))∧ai w w' []:=by
 obtain⟨a0,c0,a1,c1,a2,c2,hv⟩:=hf.shape;rw[hv];generalize f.nv=nv;generalize f.np=np;generalize f.nb=nb;clear hf hv;have hL:=Blk.new w 26 #[.slice a0 nv c0,.slice a1 np c1,.slice a2 nb c2];have l0:=hL.cell 0;have l1:=hL.cell 1;have l2:=hL.cell 2;simp at l0 l1 l2;have hk:ai w (w.alloc (.cells #[.slice a0 nv c0,.slice a1 np c1,.slice a2 nb c2] 26)) []:=(ai.refl w []).alloc _;have HK:=ag hk;clear hk hL;by_cases h0:0≤v<;>by_cases h1:v<(nv:Int)
 all_goals
  go_enter Tryz.func117,Tryz.ntmps117;go_wp2;go_ret;exact⟨ay (by simp[inB,h0,h1]),HK.o⟩
theorem at_any (f:ax) (v:Int) (w:World) (hf:cz w f):Calls Tryz.prog 120 #[f.val,.int .i64 v] w fun e w'=>e= .returned (.bool (inB v f.nb))∧ai w w' []:=by
 obtain⟨a0,c0,a1,c1,a2,c2,hv⟩:=hf.shape;rw[hv];generalize f.nv=nv;generalize f.np=np;generalize f.nb=nb;clear hf hv;have hL:=Blk.new w 26 #[.slice a0 nv c0,.slice a1 np c1,.slice a2 nb c2];have l0:=hL.cell 0;have l1:=hL.cell 1;have l2:=hL.cell 2;simp at l0 l1 l2;have hk:ai w (w.alloc (.cells #[.slice a0 nv c0,.slice a1 np c1,.slice a2 nb c2] 26)) []:=(ai.refl w []).alloc _;have HK:=ag hk;clear hk hL;by_cases h0:0≤v<;>by_cases h1:v<(nb:Int)
 all_goals
  go_enter Tryz.func120,Tryz.ntmps120;go_wp2;go_ret;exact⟨ay (by simp[inB,h0,h1]),HK.o⟩
end Go.Proofs.YtjllbchfojonhaaGreatDoor
namespace Go.Proofs.YtjllbchfojonhaaGreatDoor
open Go.RowKit
def PredInt (g:Nat) (lb:Array Value) (p:Int→Bool) (w:World):Prop:=
 ∀(W:World) (x:Int),ai w W []→Calls Tryz.prog g (#[.int .i64 x]++lb) W fun e w'=>e= .returned (.bool (p x))∧ai W w' []
theorem bu.open_ {w:World} {q:jl} (h:bu w q):∃a cap,q.1= .slice a q.2.length cap∧q.2.length≤cap∧cap≤maxLen∧(q.2.length=0∨∃b off,a=some ⟨b,off,none⟩∧b<w.heap.size∧∀(j:Nat),j<q.2.length→w.cell? ⟨b,off+j,none⟩=some (.int .i64 (q.2[j]!))):=by
 obtain⟨a,cap,h1,h2,h3,h4⟩:=h;simp only[List.length_map]at h1 h2 h4;refine⟨a,cap,h1,h2,h3, ?_⟩;rcases h4 with h4|⟨b,off,h5,h6,h7⟩
 ·exact .inl h4
 ·refine .inr ⟨b,off,h5,h6,fun j hj=> ?_⟩;have:=h7 j (intCells (q.2[j]!)) (by simp[hj]) 0 (.int .i64 (q.2[j]!)) rfl
  simpa using this
theorem index_ints (g:Nat) (lb:Array Value) (p:Int→Bool) (q:jl) (w:World) (hq:bu w q) (hp:PredInt g lb p w) (eg:∀args w,(callFunc g args).run Tryz.prog w= .ok (.enter g args) w):
  Calls Tryz.prog 124 #[q.1,.func (.func g) #[] lb] w fun e w'=>e= .returned (.int .i64 (Lib.idxBy (fun _ y=>p y) q.2 default))∧ai w w' []:=by
 obtain⟨a,cap,e1,hl,hm,hc⟩:=hq.open_;rw[e1];obtain⟨v,l⟩:=q;simp only at hl hc ⊢;obtain⟨n,hn⟩:∃n,l.length=n:=⟨_,rfl⟩;rw[hn]at hl hc ⊢;clear e1 hq;have HP:=ag hp;have hnI:(n:Int)≤9223372036854775807:=(by unfold maxLen at hm;omega);clear hp;go_enter Tryz.func124,Tryz.ntmps124;go_wp2;go_loopw [5,8] (fun _ s8 wr=>∃kk:Nat,kk≤n∧s8= .int .i64 kk∧ai w wr []∧Hid (∀j,j<kk→p l[j]! =false)) (fun _ s8 _=>n -(intOf s8).toNat)
 case atStart=>exact⟨0,Nat.zero_le _,rfl,ai.refl w _,fun j hj=>absurd hj (Nat.not_lt_zero _)⟩
 case round=>
  obtain⟨kk,hkk,rfl,hk,A⟩:=hrel;have HK:=ag hk;clear hk;by_cases hlt:kk<n
  ·have hltz:(kk:Int)<(n:Int):=(by omega);rcases hc with hc|⟨b,off,rfl,hb,hc⟩
   ·omega
   have l2:=HK.o.cellOf (hc kk hlt);have hcall:=HP.o wr (l[kk]!) HK.o;generalize hy:l[kk]! =y at l2 hcall;have B:=ag hy;clear hy hc;cases hq:p y with
   |true=>
    rw[hq]at hcall;have CC:=ag hcall;clear hcall;go_wp2_with (go_at_fn g;refine(CC.o).mono ?_;rintro e w' ⟨rfl,hb'⟩)
    go_ret;refine⟨?_,HK.o.ak hb'⟩;have h9:=Lib.idxBy_hit (fun _ y=>p y) l n kk default hlt (by omega) (by show p l[kk]! =true;rw[B.o];exact hq) A.o;rw[←hn,List.take_length]at h9;rw[h9];rfl
   |false=>
    rw[hq]at hcall;have CC:=ag hcall;clear hcall;go_wp2_with (go_at_fn g;refine(CC.o).mono ?_;rintro e w' ⟨rfl,hb'⟩)
    have HB:=ag hb';clear hb';go_roundw
    case rel=>
     refine⟨kk+1,by omega,by go_num,HK.o.ak HB.o,(show Hid _ from fun j hj=> ?_)⟩;by_cases e:j=kk
     ·subst e;rw[B.o];exact hq
     ·exact A.o j (by omega)
    case measure=>simp[intOf];omega
  ·have hltz:¬(kk:Int)<(n:Int):=(by omega);have:kk=n:=(by omega);subst this;go_wp2;go_ret;refine⟨?_,HK.o⟩;have h9:=Lib.idxBy_miss (fun _ y=>p y) l kk default A.o;rw[←hn,List.take_length]at h9;exact congrArg (fun z:Int=>Ending.returned (Value.int .i64 z)) h9.symm
theorem any_ints (g:Nat) (lb:Array Value) (p:Int→Bool) (q:jl) (w:World) (hq:bu w q) (hp:PredInt g lb p w) (eg:∀args w,(callFunc g args).run Tryz.prog w= .ok (.enter g args) w):
  Calls Tryz.prog 93 #[q.1,.func (.func g) #[] lb] w fun e w'=>e= .returned (.bool (q.2.any p))∧ai w w' []:=by
 have C:=ag (index_ints g lb p q w hq hp eg);have hx:=Lib.idxBy_nonneg_iff (fun _ y=>p y) q.2 default;rw[←hx];generalize Lib.idxBy (fun _ y=>p y) q.2 default=z at*;clear hx hq hp;obtain⟨v,l⟩:=q;simp only at C ⊢;by_cases h0:0≤z
 all_goals
  go_enter Tryz.func93,Tryz.ntmps93;go_wp2_with (refine(C.o).mono ?_;rintro e w' ⟨rfl,k⟩;have K:=ag k;clear k)
  go_ret;exact⟨ay (by simp[h0]),K.o⟩
end Go.Proofs.YtjllbchfojonhaaGreatDoor
namespace Go.Proofs.YtjllbchfojonhaaGreatDoor
open Go.RowKit Go.Shelf
def Boxed (w:World) (L:Nat) (f:ax):Prop:=Blk w L 26 #[f.vars.1,f.params.1,f.blocks.1]
theorem Boxed.keep {w w':World} {L:Nat} {f:ax} (h:Boxed w L f) (k:ai w w' []):Boxed w' L f:=Blk.keep h k (by simp)
theorem Boxed.new (w:World) (f:ax):Boxed (w.alloc (.cells #[f.vars.1,f.params.1,f.blocks.1] 26)) w.heap.size f:=Blk.new w 26 _
theorem varsC_any (f:ax) (v:Int) (L:Nat) (w:World) (hf:cz w f) (hb:Boxed w L f):Calls Tryz.prog 137 (#[.int .i64 v]++#[.pointer (some ⟨L,0,none⟩)]) w fun e w'=>e= .returned (.bool (!inB v f.nv))∧ai w w' []:=by
 have C:=ag (has_any f v w hf);obtain⟨a0,c0,a1,c1,a2,c2,hv⟩:=hf.shape
 have hb':Blk w L 26 #[.slice a0 f.nv c0,.slice a1 f.np c1,.slice a2 f.nb c2]:=by
  have h1:#[f.vars.1,f.params.1,f.blocks.1]=#[.slice a0 f.nv c0,.slice a1 f.np c1,.slice a2 f.nb c2]:=by
   unfold ax.val at hv
   injection hv
  rw[←h1];exact hb
 rw[hv]at C;have l0:=hb'.cell 0;have l1:=hb'.cell 1;have l2:=hb'.cell 2;simp at l0 l1 l2;generalize inB v f.nv=B at*;generalize f.nv=nv at*;generalize f.np=np at*;generalize f.nb=nb at*;clear hf hv hb hb';cases B
 all_goals
  go_enter Tryz.func137,Tryz.ntmps137;go_wp2_with (refine(C.o).mono ?_;rintro e w' ⟨rfl,k⟩;have K:=ag k;clear k)
  go_ret;exact⟨rfl,K.o⟩
theorem phiC_any (f:ax) (v:Int) (L:Nat) (w:World) (hf:cz w f) (hb:Boxed w L f):Calls Tryz.prog 119 (#[.int .i64 v]++#[.pointer (some ⟨L,0,none⟩)]) w fun e w'=>e= .returned (.bool (!inB v f.nb))∧ai w w' []:=by
 have C:=ag (at_any f v w hf);obtain⟨a0,c0,a1,c1,a2,c2,hv⟩:=hf.shape
 have hb':Blk w L 26 #[.slice a0 f.nv c0,.slice a1 f.np c1,.slice a2 f.nb c2]:=by
  have h1:#[f.vars.1,f.params.1,f.blocks.1]=#[.slice a0 f.nv c0,.slice a1 f.np c1,.slice a2 f.nb c2]:=by
   unfold ax.val at hv
   injection hv
  rw[←h1];exact hb
 rw[hv]at C;have l0:=hb'.cell 0;have l1:=hb'.cell 1;have l2:=hb'.cell 2;simp at l0 l1 l2;generalize inB v f.nb=B at*;generalize f.nv=nv at*;generalize f.np=np at*;generalize f.nb=nb at*;clear hf hv hb hb';cases B
 all_goals
  go_enter Tryz.func119,Tryz.ntmps119;go_wp2_with (refine(C.o).mono ?_;rintro e w' ⟨rfl,k⟩;have K:=ag k;clear k)
  go_ret;exact⟨rfl,K.o⟩
theorem vars_any (f:ax) (q:jl) (w:World) (hf:cz w f) (hq:bu w q):Calls Tryz.prog 118 #[f.val,q.1] w fun e w'=>e= .returned (.bool (q.2.all (inB · f.nv)))∧ai w w' []:=by
 have hk:ai w (w.alloc (.cells #[f.vars.1,f.params.1,f.blocks.1] 26)) []:=(ai.refl w []).alloc _
 have hp:PredInt 137 #[.pointer (some ⟨w.heap.size,0,none⟩)] (fun v=> !inB v f.nv) (w.alloc (.cells #[f.vars.1,f.params.1,f.blocks.1] 26)):=
  fun W x hW=>varsC_any f x w.heap.size W ((hf.keep hk).keep hW) ((Boxed.new w f).keep hW)
 have C:=ag (any_ints 137 _ _ q _ (Row.keep hq hk) hp (enters_of Tryz.func137 (by kernel_rfl) rfl));have HX:Hid (q.2.all (inB · f.nv)= !(q.2.any fun v=> !inB v f.nv)):=(by show _=_;rw[List.all_eq_not_any_not]);obtain⟨a0,c0,a1,c1,a2,c2,hv⟩:=hf.shape
 have h1:#[f.vars.1,f.params.1,f.blocks.1]=#[.slice a0 f.nv c0,.slice a1 f.np c1,.slice a2 f.nb c2]:=by
  unfold ax.val at hv
  injection hv
 rw[h1]at C hk;rw[hv,HX.o];obtain⟨a,cap,e1,_⟩:=hq.open_;rw[e1]at C ⊢;have HK:=ag hk;generalize(q.2.any fun v=> !inB v f.nv)=B at*;generalize f.nv=nv at*;generalize f.np=np at*;generalize f.nb=nb at*;clear hf hv hp hk h1 hq e1;cases B
 all_goals
  go_enter Tryz.func118,Tryz.ntmps118;go_wp2_with (refine(C.o).mono ?_;rintro e w' ⟨rfl,k⟩;have K:=ag k;clear k)
  go_ret;exact⟨rfl,HK.o.ak K.o⟩
end Go.Proofs.YtjllbchfojonhaaGreatDoor
namespace Go.Proofs.YtjllbchfojonhaaGreatDoor
open Go.RowKit Go.Shelf
def xz (f:ax) (p:jk):Bool:= !(p.args.2.length==0)&&(p.args.2.length==p.froms.2.length)&&inB p.dst f.nv&&p.args.2.all (inB · f.nv)&&p.froms.2.all (inB · f.nb)
theorem cz.shape2 {w:World} {f:ax} (h:cz w f):∃a0 c0 a1 c1 a2 c2,f.vars.1= .slice a0 f.nv c0∧f.params.1= .slice a1 f.np c1∧f.blocks.1= .slice a2 f.nb c2:=by
 obtain⟨a0,c0,a1,c1,a2,c2,hv⟩:=h.shape;unfold ax.val at hv
 injection hv with hv
 simp at hv;exact⟨a0,c0,a1,c1,a2,c2,hv⟩
theorem phi_any (f:ax) (p:jk) (w:World) (hf:cz w f) (hp:PhiAt w p):Calls Tryz.prog 88 #[f.val,.agg #[.int .i64 p.dst,p.args.1,p.froms.1]] w fun e w'=>e= .returned (.bool (xz f p))∧ai w w' []:=by
 have CH:=ag (fun w h=>has_any f p.dst w h);have CV:=ag (fun w h1 h2=>vars_any f p.args w h1 h2)
 have CA := ag (fun L w h1 h2 h3 => any_ints 119 #[.pointer (some ⟨L, 0, none⟩)] (fun v => !inB v f.nb) p.froms w h1
  (fun W x hW=>phiC_any f x L W (cz.keep h2 hW) (Boxed.keep h3 hW)) (enters_of Tryz.func119 (by kernel_rfl) rfl))
 obtain⟨a0,c0,a1,c1,a2,c2,e0,e1,e2⟩:=hf.shape2;obtain⟨s1,d1,e3,_⟩:=hp.1.open_;obtain⟨s2,d2,e4,_⟩:=hp.2.open_;have HF:=ag hf;have HP:=ag hp
 have HX:Hid (xz f p=(!(p.args.2.length==0)&&(p.args.2.length==p.froms.2.length)&&inB p.dst f.nv&&p.args.2.all (inB · f.nv)&& !(p.froms.2.any fun v=> !inB v f.nb))):=by
  show _=_;rw[←List.all_eq_not_any_not];rfl
 have hB:∀W L,Blk W L 26 #[.slice a0 f.nv c0,.slice a1 f.np c1,.slice a2 f.nb c2]→Boxed W L f:=fun W L h=>by unfold Boxed;rw[e0,e1,e2];exact h
 have HB:=ag hB;have hval:f.val= .agg #[.slice a0 f.nv c0,.slice a1 f.np c1,.slice a2 f.nb c2]:=(by unfold ax.val;rw[e0,e1,e2]);rw[hval]at CH CV ⊢;rw[e3,e4];rw[e3]at CV;rw[e4]at CA;clear hB hf hp e0 e1 e2 e3 e4 hval;generalize(p.froms.2.any fun v=> !inB v f.nb)=X5 at*;generalize p.args.2.all (inB · f.nv)=X4 at*;generalize inB p.dst f.nv=X3 at*;generalize hX2:(p.args.2.length==p.froms.2.length)=X2 at HX;generalize hX1:(p.args.2.length==0)=X1 at HX;have n1:((p.args.2.length:Int)==0)=X1:=(by rw[←hX1,Bool.eq_iff_iff];simp);have n2:((p.args.2.length:Int)==(p.froms.2.length:Int))=X2:=(by rw[←hX2,Bool.eq_iff_iff];simp only[beq_iff_eq];omega);have n3:((p.args.2.length:Int) !=(p.froms.2.length:Int))= !X2:=(by rw[←n2];rfl);generalize f.nv=nv at*;generalize f.np=np at*;generalize f.nb=nb at*;generalize p.args.2.length=na at*;generalize p.froms.2.length=nf at*;generalize p.dst=dst at*;clear hX1 hX2;have hk1:ai w (w.alloc (.cells #[.slice a0 nv c0,.slice a1 np c1,.slice a2 nb c2] 26)) []:=(ai.refl w []).alloc _;have b1:=Blk.new w 26 #[.slice a0 nv c0,.slice a1 np c1,.slice a2 nb c2];have hk2:ai (w.alloc (.cells #[.slice a0 nv c0,.slice a1 np c1,.slice a2 nb c2] 26)) ((w.alloc (.cells #[.slice a0 nv c0,.slice a1 np c1,.slice a2 nb c2] 26)).alloc (.cells #[.int .i64 dst,.slice s1 na d1,.slice s2 nf d2] 95)) []:=(ai.refl _ []).alloc _;have b2:=Blk.new (w.alloc (.cells #[.slice a0 nv c0,.slice a1 np c1,.slice a2 nb c2] 26)) 95 #[.int .i64 dst,.slice s1 na d1,.slice s2 nf d2];have hz:(w.alloc (.cells #[.slice a0 nv c0,.slice a1 np c1,.slice a2 nb c2] 26)).heap.size=w.heap.size+1:=(by show(Array.push _ _).size=_;rw[Array.size_push]);rw[hz]at b2;have B1:=ag (b1.keep hk2 (by simp));have B2:=ag b2;have HK:=ag (hk1.ak hk2);obtain⟨l0,l1,l2⟩:=B1.o.c3;obtain⟨m0,m1,m2⟩:=B2.o.c3;simp at l0 l1 l2 m0 m1 m2;clear b1 b2 hk1 hk2 hz;cases X1 with
 |true=>
  obtain rfl:na=0:=by simp at n1;omega
  go_enter Tryz.func88,Tryz.ntmps88
  go_wp2_with (first
   |(go_at_call 117;refine(CH.o _ (HF.o.keep HK.o)).mono ?_;rintro e w3 ⟨rfl,k3⟩;clear l0 l1 l2 m0 m1 m2;replace B1:=B1.kb k3;replace B2:=B2.kb k3;replace HK:=HK.kt k3;obtain⟨l0,l1,l2⟩:=B1.o.c3;obtain⟨m0,m1,m2⟩:=B2.o.c3;simp at l0 l1 l2 m0 m1 m2;clear k3)
   |(go_at_call 118;refine(CV.o _ (HF.o.keep HK.o) (Row.keep HP.o.1 HK.o)).mono ?_;rintro e w4 ⟨rfl,k4⟩;clear l0 l1 l2 m0 m1 m2;replace B1:=B1.kb k4;replace B2:=B2.kb k4;replace HK:=HK.kt k4;obtain⟨l0,l1,l2⟩:=B1.o.c3;obtain⟨m0,m1,m2⟩:=B2.o.c3;simp at l0 l1 l2 m0 m1 m2;clear k4)
   |(go_at_call 93;refine(CA.o _ _ (Row.keep HP.o.2 HK.o) (HF.o.keep HK.o) (HB.o _ _ B1.o)).mono ?_;rintro e w5 ⟨rfl,k5⟩;clear l0 l1 l2 m0 m1 m2;replace B1:=B1.kb k5;replace B2:=B2.kb k5;replace HK:=HK.kt k5;obtain⟨l0,l1,l2⟩:=B1.o.c3;obtain⟨m0,m1,m2⟩:=B2.o.c3;simp at l0 l1 l2 m0 m1 m2;clear k5))
  go_ret;exact⟨ay (by rw[HX.o];simp),HK.o⟩
 |false=>
 cases X2 with
 |false=>
  go_enter Tryz.func88,Tryz.ntmps88
  go_wp2_with (first
   |(go_at_call 117;refine(CH.o _ (HF.o.keep HK.o)).mono ?_;rintro e w3 ⟨rfl,k3⟩;clear l0 l1 l2 m0 m1 m2;replace B1:=B1.kb k3;replace B2:=B2.kb k3;replace HK:=HK.kt k3;obtain⟨l0,l1,l2⟩:=B1.o.c3;obtain⟨m0,m1,m2⟩:=B2.o.c3;simp at l0 l1 l2 m0 m1 m2;clear k3)
   |(go_at_call 118;refine(CV.o _ (HF.o.keep HK.o) (Row.keep HP.o.1 HK.o)).mono ?_;rintro e w4 ⟨rfl,k4⟩;clear l0 l1 l2 m0 m1 m2;replace B1:=B1.kb k4;replace B2:=B2.kb k4;replace HK:=HK.kt k4;obtain⟨l0,l1,l2⟩:=B1.o.c3;obtain⟨m0,m1,m2⟩:=B2.o.c3;simp at l0 l1 l2 m0 m1 m2;clear k4)
   |(go_at_call 93;refine(CA.o _ _ (Row.keep HP.o.2 HK.o) (HF.o.keep HK.o) (HB.o _ _ B1.o)).mono ?_;rintro e w5 ⟨rfl,k5⟩;clear l0 l1 l2 m0 m1 m2;replace B1:=B1.kb k5;replace B2:=B2.kb k5;replace HK:=HK.kt k5;obtain⟨l0,l1,l2⟩:=B1.o.c3;obtain⟨m0,m1,m2⟩:=B2.o.c3;simp at l0 l1 l2 m0 m1 m2;clear k5))
  go_ret;exact⟨ay (by rw[HX.o];simp),HK.o⟩
 |true=>
 obtain rfl:na=nf:=by simp only[beq_iff_eq]at n2;omega
 have n4:¬na=0:=(by intro h;subst h;simp at n1);cases X3 with
 |false=>
  go_enter Tryz.func88,Tryz.ntmps88
  go_wp2_with (first
   |(go_at_call 117;refine(CH.o _ (HF.o.keep HK.o)).mono ?_;rintro e w3 ⟨rfl,k3⟩;clear l0 l1 l2 m0 m1 m2;replace B1:=B1.kb k3;replace B2:=B2.kb k3;replace HK:=HK.kt k3;obtain⟨l0,l1,l2⟩:=B1.o.c3;obtain⟨m0,m1,m2⟩:=B2.o.c3;simp at l0 l1 l2 m0 m1 m2;clear k3)
   |(go_at_call 118;refine(CV.o _ (HF.o.keep HK.o) (Row.keep HP.o.1 HK.o)).mono ?_;rintro e w4 ⟨rfl,k4⟩;clear l0 l1 l2 m0 m1 m2;replace B1:=B1.kb k4;replace B2:=B2.kb k4;replace HK:=HK.kt k4;obtain⟨l0,l1,l2⟩:=B1.o.c3;obtain⟨m0,m1,m2⟩:=B2.o.c3;simp at l0 l1 l2 m0 m1 m2;clear k4)
   |(go_at_call 93;refine(CA.o _ _ (Row.keep HP.o.2 HK.o) (HF.o.keep HK.o) (HB.o _ _ B1.o)).mono ?_;rintro e w5 ⟨rfl,k5⟩;clear l0 l1 l2 m0 m1 m2;replace B1:=B1.kb k5;replace B2:=B2.kb k5;replace HK:=HK.kt k5;obtain⟨l0,l1,l2⟩:=B1.o.c3;obtain⟨m0,m1,m2⟩:=B2.o.c3;simp at l0 l1 l2 m0 m1 m2;clear k5))
  go_ret;exact⟨ay (by rw[HX.o];simp),HK.o⟩
 |true=>
 cases X4 with
 |false=>
  go_enter Tryz.func88,Tryz.ntmps88
  go_wp2_with (first
   |(go_at_call 117;refine(CH.o _ (HF.o.keep HK.o)).mono ?_;rintro e w3 ⟨rfl,k3⟩;clear l0 l1 l2 m0 m1 m2;replace B1:=B1.kb k3;replace B2:=B2.kb k3;replace HK:=HK.kt k3;obtain⟨l0,l1,l2⟩:=B1.o.c3;obtain⟨m0,m1,m2⟩:=B2.o.c3;simp at l0 l1 l2 m0 m1 m2;clear k3)
   |(go_at_call 118;refine(CV.o _ (HF.o.keep HK.o) (Row.keep HP.o.1 HK.o)).mono ?_;rintro e w4 ⟨rfl,k4⟩;clear l0 l1 l2 m0 m1 m2;replace B1:=B1.kb k4;replace B2:=B2.kb k4;replace HK:=HK.kt k4;obtain⟨l0,l1,l2⟩:=B1.o.c3;obtain⟨m0,m1,m2⟩:=B2.o.c3;simp at l0 l1 l2 m0 m1 m2;clear k4)
   |(go_at_call 93;refine(CA.o _ _ (Row.keep HP.o.2 HK.o) (HF.o.keep HK.o) (HB.o _ _ B1.o)).mono ?_;rintro e w5 ⟨rfl,k5⟩;clear l0 l1 l2 m0 m1 m2;replace B1:=B1.kb k5;replace B2:=B2.kb k5;replace HK:=HK.kt k5;obtain⟨l0,l1,l2⟩:=B1.o.c3;obtain⟨m0,m1,m2⟩:=B2.o.c3;simp at l0 l1 l2 m0 m1 m2;clear k5))
  go_ret;exact⟨ay (by rw[HX.o];simp),HK.o⟩
 |true=>
  cases X5
  all_goals
   go_enter Tryz.func88,Tryz.ntmps88
   go_wp2_with (first
   |(go_at_call 117;refine(CH.o _ (HF.o.keep HK.o)).mono ?_;rintro e w3 ⟨rfl,k3⟩;clear l0 l1 l2 m0 m1 m2;replace B1:=B1.kb k3;replace B2:=B2.kb k3;replace HK:=HK.kt k3;obtain⟨l0,l1,l2⟩:=B1.o.c3;obtain⟨m0,m1,m2⟩:=B2.o.c3;simp at l0 l1 l2 m0 m1 m2;clear k3)
   |(go_at_call 118;refine(CV.o _ (HF.o.keep HK.o) (Row.keep HP.o.1 HK.o)).mono ?_;rintro e w4 ⟨rfl,k4⟩;clear l0 l1 l2 m0 m1 m2;replace B1:=B1.kb k4;replace B2:=B2.kb k4;replace HK:=HK.kt k4;obtain⟨l0,l1,l2⟩:=B1.o.c3;obtain⟨m0,m1,m2⟩:=B2.o.c3;simp at l0 l1 l2 m0 m1 m2;clear k4)
   |(go_at_call 93;refine(CA.o _ _ (Row.keep HP.o.2 HK.o) (HF.o.keep HK.o) (HB.o _ _ B1.o)).mono ?_;rintro e w5 ⟨rfl,k5⟩;clear l0 l1 l2 m0 m1 m2;replace B1:=B1.kb k5;replace B2:=B2.kb k5;replace HK:=HK.kt k5;obtain⟨l0,l1,l2⟩:=B1.o.c3;obtain⟨m0,m1,m2⟩:=B2.o.c3;simp at l0 l1 l2 m0 m1 m2;clear k5))
   go_ret;exact⟨ay (by rw[HX.o];simp),HK.o⟩
end Go.Proofs.YtjllbchfojonhaaGreatDoor
namespace Go.Proofs.YtjllbchfojonhaaGreatDoor
open Go.RowKit Go.Shelf
theorem two_eql (a b c d:Int) (w:World):(Op.equalIn 10000 34 (.agg #[.int .i64 a,.int .i64 b]) (.agg #[.int .i64 c,.int .i64 d])).run Tryz.prog w= .ok ((a==c)&&(b==d)) w:=by
 obtain⟨i,hi⟩:∃i,Tryz.prog.info? 3=some i:=Option.isSome_iff_exists.1 (by kernel_rfl);rw[show 10000=9999+1 from rfl,run_equalIn_array (P:=Tryz.prog) (w:=w) 9999 #[.int .i64 a,.int .i64 b] #[.int .i64 c,.int .i64 d] Tryz.underlying34 hi];rw[show Tryz.prog.cellsOf 3=1 by kernel_rfl,show List.range 2=[0,1]from rfl];by_cases h:a=c<;>by_cases h2:b=d<;>simp[Op.eqItems,go_sem,h,h2,run_equalIn_int _ _ _ _ _ _ _ Tryz.underlying3]
end Go.Proofs.YtjllbchfojonhaaGreatDoor
namespace Go.Proofs.YtjllbchfojonhaaGreatDoor
open Go.RowKit Go.Shelf
def qi (f:ax) (kind var to0 to1:Int):Bool:=
 if kind=0 then inB to0 f.nb&&(to1==0)&&(var==0)
 else if kind=1 then inB var f.nv&&inB to0 f.nb&&inB to1 f.nb
 else if kind=2 then inB var f.nv&&((to0==0)&&(to1==0))
 else false
theorem yw (z:Int):z=0∨(z==0)=false:=by
 by_cases h:z=0
 ·exact .inl h
 ·exact .inr (by simpa using h)
theorem term_any (f:ax) (kind var to0 to1:Int) (w:World) (hf:cz w f):Calls Tryz.prog 92 #[f.val,.agg #[.int .i64 kind,.int .i64 var,.int .i64 to0,.int .i64 to1]] w fun e w'=>e= .returned (.bool (qi f kind var to0 to1))∧ai w w' []:=by
 have CH:=ag (fun w h=>has_any f var w h);have CA:=ag (fun w h=>at_any f to0 w h);have CB:=ag (fun w h=>at_any f to1 w h);obtain⟨a0,c0,a1,c1,a2,c2,e0,e1,e2⟩:=hf.shape2;have HF:=ag hf
 have HX : Hid (qi f kind var to0 to1 = if kind = 0 then inB to0 f.nb && (to1 == 0) && (var == 0)
 else if kind=1 then inB var f.nv&&inB to0 f.nb&&inB to1 f.nb
 else if kind=2 then inB var f.nv&&((to0==0)&&(to1==0))
 else false):=rfl
 have hval:f.val= .agg #[.slice a0 f.nv c0,.slice a1 f.np c1,.slice a2 f.nb c2]:=(by unfold ax.val;rw[e0,e1,e2]);rw[hval]at CH CA CB ⊢;clear hf e0 e1 e2 hval;generalize inB to0 f.nb=X1 at*;generalize inB to1 f.nb=X2 at*;generalize inB var f.nv=X3 at*;generalize f.nv=nv at*;generalize f.np=np at*;generalize f.nb=nb at*;have hk1:ai w (w.alloc (.cells #[.slice a0 nv c0,.slice a1 np c1,.slice a2 nb c2] 26)) []:=(ai.refl w []).alloc _;have b1:=Blk.new w 26 #[.slice a0 nv c0,.slice a1 np c1,.slice a2 nb c2];have hk2:ai (w.alloc (.cells #[.slice a0 nv c0,.slice a1 np c1,.slice a2 nb c2] 26)) ((w.alloc (.cells #[.slice a0 nv c0,.slice a1 np c1,.slice a2 nb c2] 26)).alloc (.cells #[.int .i64 kind,.int .i64 var,.int .i64 to0,.int .i64 to1] 36)) []:=(ai.refl _ []).alloc _;have b2:=Blk.new (w.alloc (.cells #[.slice a0 nv c0,.slice a1 np c1,.slice a2 nb c2] 26)) 36 #[.int .i64 kind,.int .i64 var,.int .i64 to0,.int .i64 to1];have hz:(w.alloc (.cells #[.slice a0 nv c0,.slice a1 np c1,.slice a2 nb c2] 26)).heap.size=w.heap.size+1:=(by show(Array.push _ _).size=_;rw[Array.size_push]);rw[hz]at b2;have B1:=ag (b1.keep hk2 (by simp));have B2:=ag b2;have HK:=ag (hk1.ak hk2);obtain⟨l0,l1,l2⟩:=B1.o.c3;obtain⟨m0,m1,m2,m3⟩:=B2.o.c4;simp at l0 l1 l2 m0 m1 m2 m3;clear b1 b2 hk1 hk2 hz;by_cases k0:kind=0
 ·subst k0;cases X1<;>rcases yw to1 with rfl|h1<;>rcases yw var with rfl|h2
  all_goals
   go_enter Tryz.func92,Tryz.ntmps92;go_wp2_with (first |(go_at_call 117;refine(CH.o _ (HF.o.keep HK.o)).mono ?_;rintro e w3 ⟨rfl,k3⟩;clear l0 l1 l2 m0 m1 m2 m3;replace B1:=B1.kb k3;replace B2:=B2.kb k3;replace HK:=HK.kt k3;obtain⟨l0,l1,l2⟩:=B1.o.c3;obtain⟨m0,m1,m2,m3⟩:=B2.o.c4;simp at l0 l1 l2 m0 m1 m2 m3;clear k3)|(go_at_call 120;have CAx:=CA;clear CA;refine(CAx.o _ (HF.o.keep HK.o)).mono ?_;rintro e w3 ⟨rfl,k3⟩;clear l0 l1 l2 m0 m1 m2 m3;replace B1:=B1.kb k3;replace B2:=B2.kb k3;replace HK:=HK.kt k3;obtain⟨l0,l1,l2⟩:=B1.o.c3;obtain⟨m0,m1,m2,m3⟩:=B2.o.c4;simp at l0 l1 l2 m0 m1 m2 m3;clear k3)|(go_at_call 120;refine(CB.o _ (HF.o.keep HK.o)).mono ?_;rintro e w3 ⟨rfl,k3⟩;clear l0 l1 l2 m0 m1 m2 m3;replace B1:=B1.kb k3;replace B2:=B2.kb k3;replace HK:=HK.kt k3;obtain⟨l0,l1,l2⟩:=B1.o.c3;obtain⟨m0,m1,m2,m3⟩:=B2.o.c4;simp at l0 l1 l2 m0 m1 m2 m3;clear k3))
   go_ret;exact⟨ay (by rw[HX.o];simp_all),HK.o⟩
 by_cases k1:kind=1
 ·subst k1;cases X3<;>cases X1<;>cases X2
  all_goals
   go_enter Tryz.func92,Tryz.ntmps92;go_wp2_with (first |(go_at_call 117;refine(CH.o _ (HF.o.keep HK.o)).mono ?_;rintro e w3 ⟨rfl,k3⟩;clear l0 l1 l2 m0 m1 m2 m3;replace B1:=B1.kb k3;replace B2:=B2.kb k3;replace HK:=HK.kt k3;obtain⟨l0,l1,l2⟩:=B1.o.c3;obtain⟨m0,m1,m2,m3⟩:=B2.o.c4;simp at l0 l1 l2 m0 m1 m2 m3;clear k3)|(go_at_call 120;have CAx:=CA;clear CA;refine(CAx.o _ (HF.o.keep HK.o)).mono ?_;rintro e w3 ⟨rfl,k3⟩;clear l0 l1 l2 m0 m1 m2 m3;replace B1:=B1.kb k3;replace B2:=B2.kb k3;replace HK:=HK.kt k3;obtain⟨l0,l1,l2⟩:=B1.o.c3;obtain⟨m0,m1,m2,m3⟩:=B2.o.c4;simp at l0 l1 l2 m0 m1 m2 m3;clear k3)|(go_at_call 120;refine(CB.o _ (HF.o.keep HK.o)).mono ?_;rintro e w3 ⟨rfl,k3⟩;clear l0 l1 l2 m0 m1 m2 m3;replace B1:=B1.kb k3;replace B2:=B2.kb k3;replace HK:=HK.kt k3;obtain⟨l0,l1,l2⟩:=B1.o.c3;obtain⟨m0,m1,m2,m3⟩:=B2.o.c4;simp at l0 l1 l2 m0 m1 m2 m3;clear k3))
   go_ret;exact⟨ay (by rw[HX.o];simp),HK.o⟩
 by_cases k2:kind=2
 ·subst k2;have he:=fun w=>two_eql to0 to1 0 0 w;generalize((to0==0)&&(to1==0))=E at he HX;cases X3<;>cases E
  all_goals
   go_enter Tryz.func92,Tryz.ntmps92;go_wp2_with (first |(go_at_call 117;refine(CH.o _ (HF.o.keep HK.o)).mono ?_;rintro e w3 ⟨rfl,k3⟩;clear l0 l1 l2 m0 m1 m2 m3;replace B1:=B1.kb k3;replace B2:=B2.kb k3;replace HK:=HK.kt k3;obtain⟨l0,l1,l2⟩:=B1.o.c3;obtain⟨m0,m1,m2,m3⟩:=B2.o.c4;simp at l0 l1 l2 m0 m1 m2 m3;clear k3)|(go_at_call 120;have CAx:=CA;clear CA;refine(CAx.o _ (HF.o.keep HK.o)).mono ?_;rintro e w3 ⟨rfl,k3⟩;clear l0 l1 l2 m0 m1 m2 m3;replace B1:=B1.kb k3;replace B2:=B2.kb k3;replace HK:=HK.kt k3;obtain⟨l0,l1,l2⟩:=B1.o.c3;obtain⟨m0,m1,m2,m3⟩:=B2.o.c4;simp at l0 l1 l2 m0 m1 m2 m3;clear k3)|(go_at_call 120;refine(CB.o _ (HF.o.keep HK.o)).mono ?_;rintro e w3 ⟨rfl,k3⟩;clear l0 l1 l2 m0 m1 m2 m3;replace B1:=B1.kb k3;replace B2:=B2.kb k3;replace HK:=HK.kt k3;obtain⟨l0,l1,l2⟩:=B1.o.c3;obtain⟨m0,m1,m2,m3⟩:=B2.o.c4;simp at l0 l1 l2 m0 m1 m2 m3;clear k3))
   go_ret;exact⟨ay (by rw[HX.o];simp_all),HK.o⟩
 have q0:(kind==0)=false:=(by simpa using k0);have q1:(kind==1)=false:=(by simpa using k1);have q2:(kind==2)=false:=(by simpa using k2);go_enter Tryz.func92,Tryz.ntmps92;go_wp2_with (first |(go_at_call 117;refine(CH.o _ (HF.o.keep HK.o)).mono ?_;rintro e w3 ⟨rfl,k3⟩;clear l0 l1 l2 m0 m1 m2 m3;replace B1:=B1.kb k3;replace B2:=B2.kb k3;replace HK:=HK.kt k3;obtain⟨l0,l1,l2⟩:=B1.o.c3;obtain⟨m0,m1,m2,m3⟩:=B2.o.c4;simp at l0 l1 l2 m0 m1 m2 m3;clear k3)|(go_at_call 120;have CAx:=CA;clear CA;refine(CAx.o _ (HF.o.keep HK.o)).mono ?_;rintro e w3 ⟨rfl,k3⟩;clear l0 l1 l2 m0 m1 m2 m3;replace B1:=B1.kb k3;replace B2:=B2.kb k3;replace HK:=HK.kt k3;obtain⟨l0,l1,l2⟩:=B1.o.c3;obtain⟨m0,m1,m2,m3⟩:=B2.o.c4;simp at l0 l1 l2 m0 m1 m2 m3;clear k3)|(go_at_call 120;refine(CB.o _ (HF.o.keep HK.o)).mono ?_;rintro e w3 ⟨rfl,k3⟩;clear l0 l1 l2 m0 m1 m2 m3;replace B1:=B1.kb k3;replace B2:=B2.kb k3;replace HK:=HK.kt k3;obtain⟨l0,l1,l2⟩:=B1.o.c3;obtain⟨m0,m1,m2,m3⟩:=B2.o.c4;simp at l0 l1 l2 m0 m1 m2 m3;clear k3))
 go_ret;exact⟨ay (by rw[HX.o,if_neg k0,if_neg k1,if_neg k2]),HK.o⟩
end Go.Proofs.YtjllbchfojonhaaGreatDoor
namespace Go.Proofs.YtjllbchfojonhaaGreatDoor
open Go.RowKit Go.Shelf
def ax.ty (f:ax) (k:Nat):Int:=((f.vars.2[k]?).map zi.type).getD 0
theorem cz.tyCell {w:World} {f:ax} (h:cz w f) {k:Nat} (hk:k<f.nv):∃b off c,f.vars.1= .slice (some ⟨b,off,none⟩) f.nv c∧b<w.heap.size∧w.cell? ⟨b,off+k*2+1,none⟩=some (.int .i64 (f.ty k)):=by
 obtain⟨a,c,e,_,_,hv⟩:=h.vars;unfold ax.nv at hk ⊢;simp only[List.length_map]at e hv;rcases hv with hv|⟨b,off,rfl,hb,hc⟩
 ·omega
 ·refine⟨b,off,c,e,hb, ?_⟩;have:=hc k ((f.vars.2[k]).cells) (by simp[hk]) 1 (.int .i64 (f.vars.2[k]).type) rfl;rw[this];unfold ax.ty;simp[hk]
theorem kind_any (f:ax) (k:Nat) (w:World) (hf:cz w f) (hk:k<f.nv):Calls Tryz.prog 95 #[f.val,.int .i64 k] w fun e w'=>e= .returned (.int .i64 (f.ty k))∧ai w w' []:=by
 obtain⟨b,off,c,e0,hb,hc⟩:=hf.tyCell hk;obtain⟨a0,c0,a1,c1,a2,c2,_,e1,e2⟩:=hf.shape2;have hval:f.val= .agg #[.slice (some ⟨b,off,none⟩) f.nv c,.slice a1 f.np c1,.slice a2 f.nb c2]:=(by unfold ax.val;rw[e0,e1,e2]);rw[hval];clear hval e0 e1 e2 hf;generalize f.ty k=z at*;generalize f.nv=nv at*;generalize f.np=np at*;generalize f.nb=nb at*;have hkI:(k:Int)<(nv:Int):=(by omega);have hk0:(0:Int)≤(k:Int):=(by omega);have hk1:ai w (w.alloc (.cells #[.slice (some ⟨b,off,none⟩) nv c,.slice a1 np c1,.slice a2 nb c2] 26)) []:=(ai.refl w []).alloc _;have b1:=Blk.new w 26 #[.slice (some ⟨b,off,none⟩) nv c,.slice a1 np c1,.slice a2 nb c2];have l0:=b1.cell 0;simp at l0;have hc1:=hk1.cellOf hc;have HK:=ag hk1;clear hk1 b1 hc;go_enter Tryz.func95,Tryz.ntmps95;go_wp2;go_ret;exact⟨rfl,HK.o⟩
theorem of_any (f:ax) (k:Nat) (w:World) (hf:cz w f) (hk:k<f.nv):Calls Tryz.prog 77 #[f.val,.int .i64 k] w fun e w'=>e= .returned (.int .i64 (f.ty k))∧ai w w' []:=by
 obtain⟨b,off,c,e0,hb,hc⟩:=hf.tyCell hk;obtain⟨a0,c0,a1,c1,a2,c2,_,e1,e2⟩:=hf.shape2;have hval:f.val= .agg #[.slice (some ⟨b,off,none⟩) f.nv c,.slice a1 f.np c1,.slice a2 f.nb c2]:=(by unfold ax.val;rw[e0,e1,e2]);rw[hval];clear hval e0 e1 e2 hf;generalize f.ty k=z at*;generalize f.nv=nv at*;generalize f.np=np at*;generalize f.nb=nb at*;have hkI:(k:Int)<(nv:Int):=(by omega);have hk0:(0:Int)≤(k:Int):=(by omega);have hk1:ai w (w.alloc (.cells #[.slice (some ⟨b,off,none⟩) nv c,.slice a1 np c1,.slice a2 nb c2] 26)) []:=(ai.refl w []).alloc _;have b1:=Blk.new w 26 #[.slice (some ⟨b,off,none⟩) nv c,.slice a1 np c1,.slice a2 nb c2];have l0:=b1.cell 0;simp at l0;have hc1:=hk1.cellOf hc;have HK:=ag hk1;clear hk1 b1 hc;go_enter Tryz.func77,Tryz.ntmps77;go_wp2;go_ret;exact⟨rfl,HK.o⟩
end Go.Proofs.YtjllbchfojonhaaGreatDoor
namespace Go.Proofs.YtjllbchfojonhaaGreatDoor
open Go.RowKit Go.Shelf
def wu (f:ax) (kind:Int) (var:Nat) (to0 to1:Int):Bool:=
 if kind=0 then !(to0==0)
 else if kind=1 then(f.ty var==1)&& !(to0==0)&& !(to1==0)
 else f.ty var==0
theorem typedTerm_any (f:ax) (kind:Int) (var:Nat) (to0 to1:Int) (w:World) (hf:cz w f) (hv:var<f.nv):Calls Tryz.prog 57 #[f.val,.agg #[.int .i64 kind,.int .i64 var,.int .i64 to0,.int .i64 to1]] w fun e w'=>e= .returned (.bool (wu f kind var to0 to1))∧ai w w' []:=by
 have CH:=ag (fun w h=>kind_any f var w h hv);obtain⟨a0,c0,a1,c1,a2,c2,e0,e1,e2⟩:=hf.shape2;have HF:=ag hf
 have HX : Hid (wu f kind var to0 to1 = if kind = 0 then !(to0 == 0)
 else if kind=1 then(f.ty var==1)&& !(to0==0)&& !(to1==0)
 else f.ty var==0):=rfl
 have hval:f.val= .agg #[.slice a0 f.nv c0,.slice a1 f.np c1,.slice a2 f.nb c2]:=(by unfold ax.val;rw[e0,e1,e2]);rw[hval]at CH ⊢;clear hf e0 e1 e2 hval hv;generalize f.ty var=z at*;generalize hvv:(var:Int)=vi at*;clear hvv;generalize f.nv=nv at*;generalize f.np=np at*;generalize f.nb=nb at*;have hk1:ai w (w.alloc (.cells #[.slice a0 nv c0,.slice a1 np c1,.slice a2 nb c2] 26)) []:=(ai.refl w []).alloc _;have b1:=Blk.new w 26 #[.slice a0 nv c0,.slice a1 np c1,.slice a2 nb c2];have hk2:ai (w.alloc (.cells #[.slice a0 nv c0,.slice a1 np c1,.slice a2 nb c2] 26)) ((w.alloc (.cells #[.slice a0 nv c0,.slice a1 np c1,.slice a2 nb c2] 26)).alloc (.cells #[.int .i64 kind,.int .i64 vi,.int .i64 to0,.int .i64 to1] 36)) []:=(ai.refl _ []).alloc _;have b2:=Blk.new (w.alloc (.cells #[.slice a0 nv c0,.slice a1 np c1,.slice a2 nb c2] 26)) 36 #[.int .i64 kind,.int .i64 vi,.int .i64 to0,.int .i64 to1];have hz:(w.alloc (.cells #[.slice a0 nv c0,.slice a1 np c1,.slice a2 nb c2] 26)).heap.size=w.heap.size+1:=(by show(Array.push _ _).size=_;rw[Array.size_push]);rw[hz]at b2;have B1:=ag (b1.keep hk2 (by simp));have B2:=ag b2;have HK:=ag (hk1.ak hk2);obtain⟨l0,l1,l2⟩:=B1.o.c3;obtain⟨m0,m1,m2,m3⟩:=B2.o.c4;simp at l0 l1 l2 m0 m1 m2 m3;clear b1 b2 hk1 hk2 hz;have hn0:(to0 !=0)= !(to0==0):=rfl;have hn1:(to1 !=0)= !(to1==0):=rfl;rcases yw to0 with rfl|g0<;>rcases yw to1 with rfl|g1
 all_goals
  by_cases k0:kind=0
  ·subst k0;go_enter Tryz.func57,Tryz.ntmps57;go_wp2_with (first |(go_at_call 95;refine(CH.o _ (HF.o.keep HK.o)).mono ?_;rintro e w3 ⟨rfl,k3⟩;clear l0 l1 l2 m0 m1 m2 m3;replace B1:=B1.kb k3;replace B2:=B2.kb k3;replace HK:=HK.kt k3;obtain⟨l0,l1,l2⟩:=B1.o.c3;obtain⟨m0,m1,m2,m3⟩:=B2.o.c4;simp at l0 l1 l2 m0 m1 m2 m3;clear k3))
   go_ret;exact⟨ay (by rw[HX.o];simp_all),HK.o⟩
  have q0:(kind==0)=false:=(by simpa using k0);by_cases k1:kind=1
  ·subst k1;by_cases z1:z=1
   ·subst z1;go_enter Tryz.func57,Tryz.ntmps57;go_wp2_with (first |(go_at_call 95;refine(CH.o _ (HF.o.keep HK.o)).mono ?_;rintro e w3 ⟨rfl,k3⟩;clear l0 l1 l2 m0 m1 m2 m3;replace B1:=B1.kb k3;replace B2:=B2.kb k3;replace HK:=HK.kt k3;obtain⟨l0,l1,l2⟩:=B1.o.c3;obtain⟨m0,m1,m2,m3⟩:=B2.o.c4;simp at l0 l1 l2 m0 m1 m2 m3;clear k3))
    go_ret;exact⟨ay (by rw[HX.o];simp_all),HK.o⟩
   ·have z2:(z==1)=false:=(by simpa using z1);go_enter Tryz.func57,Tryz.ntmps57;go_wp2_with (first |(go_at_call 95;refine(CH.o _ (HF.o.keep HK.o)).mono ?_;rintro e w3 ⟨rfl,k3⟩;clear l0 l1 l2 m0 m1 m2 m3;replace B1:=B1.kb k3;replace B2:=B2.kb k3;replace HK:=HK.kt k3;obtain⟨l0,l1,l2⟩:=B1.o.c3;obtain⟨m0,m1,m2,m3⟩:=B2.o.c4;simp at l0 l1 l2 m0 m1 m2 m3;clear k3))
    go_ret;exact⟨ay (by rw[HX.o];simp_all),HK.o⟩
  have q1:(kind==1)=false:=(by simpa using k1);rcases yw z with rfl|z3
  all_goals
   go_enter Tryz.func57,Tryz.ntmps57;go_wp2_with (first |(go_at_call 95;refine(CH.o _ (HF.o.keep HK.o)).mono ?_;rintro e w3 ⟨rfl,k3⟩;clear l0 l1 l2 m0 m1 m2 m3;replace B1:=B1.kb k3;replace B2:=B2.kb k3;replace HK:=HK.kt k3;obtain⟨l0,l1,l2⟩:=B1.o.c3;obtain⟨m0,m1,m2,m3⟩:=B2.o.c4;simp at l0 l1 l2 m0 m1 m2 m3;clear k3))
   go_ret;exact⟨ay (by rw[HX.o];simp_all),HK.o⟩
end Go.Proofs.YtjllbchfojonhaaGreatDoor
namespace Go.Proofs.YtjllbchfojonhaaGreatDoor
open Go.RowKit
def Dk (t:Int):ByteArray:=if t=0 then⟨#[105,110,116]⟩else if t=1 then⟨#[98,111,111,108]⟩else if t=2 then⟨#[97,114,114]⟩else⟨#[]⟩
theorem typeWord_any (t:Int) (w:World):Calls Tryz.prog 114 #[.int .i64 t] w fun e w'=>e= .returned (.string (Dk t))∧w=w':=by
 by_cases k0:t=0
 ·subst k0;go_enter Tryz.func114,Tryz.ntmps114;go_wp2;go_ret;exact⟨rfl,rfl⟩
 by_cases k1:t=1
 ·subst k1;go_enter Tryz.func114,Tryz.ntmps114;go_wp2;go_ret;exact⟨rfl,rfl⟩
 by_cases k2:t=2
 ·subst k2;go_enter Tryz.func114,Tryz.ntmps114;go_wp2;go_ret;exact⟨rfl,rfl⟩
 have q0:(t==0)=false:=(by simpa using k0);have q1:(t==1)=false:=(by simpa using k1);have q2:(t==2)=false:=(by simpa using k2);have HX:Hid (Dk t=⟨#[]⟩):=(by show _=_;unfold Dk;rw[if_neg k0,if_neg k1,if_neg k2]);go_enter Tryz.func114,Tryz.ntmps114;go_wp2;go_ret;exact⟨by rw[HX.o];rfl,rfl⟩
end Go.Proofs.YtjllbchfojonhaaGreatDoor
namespace Go.Proofs.YtjllbchfojonhaaGreatDoor
open Go.RowKit
instance:Inhabited zi:=⟨⟨⟨#[]⟩,0⟩⟩
instance:Inhabited jk:=⟨⟨0,(.slice none 0 0,[]),(.slice none 0 0,[])⟩⟩
instance:Inhabited cu:=⟨⟨0,0,(.slice none 0 0,[]),0⟩⟩
instance:Inhabited df:=⟨⟨⟨#[]⟩,(.slice none 0 0,[]),(.slice none 0 0,[]),0,0,0,0⟩⟩
section
variable {α:Type} [Inhabited α]
theorem az {l:List α} {k:Nat} (h:k<l.length):l[k]! ∈l:=by
 rw[getElem!_pos l k h];exact List.getElem_mem h
theorem nu {l:List α} {p:α→Bool} (h:∀j,j<l.length→p l[j]! =true):l.all p=true:=by
 rw[List.all_eq_true];intro x hx;obtain⟨j,hj,rfl⟩:=List.mem_iff_getElem.1 hx;have:=h j hj
 rwa [getElem!_pos l j hj]at this
theorem Ac {l:List α} {p:α→Bool} {k:Nat} (hk:k<l.length) (h:p l[k]! =false):l.all p=false:=by
 rw[List.all_eq_false];exact⟨_,az hk,by rw[h];exact Bool.false_ne_true⟩
theorem all_at {l:List α} {p:α→Bool} (h:l.all p=true) {k:Nat} (hk:k<l.length):p l[k]! =true:=
 List.all_eq_true.1 h _ (az hk)
end
def Cx (n:Nat) (P:Nat→Bool):Bool:=(List.range n).all P
theorem uz {n:Nat} {P:Nat→Bool}:Cx n P=true↔∀j,j<n→P j=true:=by simp[Cx]
theorem qh {n:Nat} {P:Nat→Bool} (h:∀j,j<n→P j=true):Cx n P=true:=uz.2 h
theorem wh {n k:Nat} {P:Nat→Bool} (hk:k<n) (h:P k=false):Cx n P=false:=by
 cases e:Cx n P with
 |false=>rfl
 |true=>rw[uz.1 e k hk]at h;cases h
theorem Row.open_ {M:Type} [Inhabited M] {cells:M→List Value} {w:World} {size:Nat} {v:Value} {l:List M} (h:Row w size v (l.map cells)):
  ∃a cap,v= .slice a l.length cap∧l.length≤cap∧cap≤maxLen∧∀(k:Nat),k<l.length→∃b off,a=some ⟨b,off,none⟩∧b<w.heap.size∧∀(i:Nat) x,(cells l[k]!)[i]? =some x→w.cell? ⟨b,off+k*size+i,none⟩=some x:=by
 obtain⟨a,cap,h1,h2,h3,h4⟩:=h;simp only[List.length_map]at h1 h2 h4;refine⟨a,cap,h1,h2,h3,fun k hk=> ?_⟩;rcases h4 with h4|⟨b,off,h5,h6,h7⟩
 ·omega
 ·refine⟨b,off,h5,h6,fun i x hx=> ?_⟩;exact h7 k (cells l[k]!) (by rw[List.getElem?_map,List.getElem?_eq_getElem hk,getElem!_pos l k hk];rfl) i x hx
theorem qj {w:World} {f:ax} (hf:cz w f):∃a0 c0 a1 c1 a2 c2,f.vars.1= .slice a0 f.vars.2.length c0∧f.params.1= .slice a1 f.params.2.length c1∧f.blocks.1= .slice a2 f.blocks.2.length c2∧
  f.val= .agg #[.slice a0 f.nv c0,.slice a1 f.np c1,.slice a2 f.nb c2]∧#[f.vars.1,f.params.1,f.blocks.1]=#[.slice a0 f.nv c0,.slice a1 f.np c1,.slice a2 f.nb c2]∧Hid (cz w f)∧
  Hid (∀(k:Nat),k<f.vars.2.length→∃b off,a0=some ⟨b,off,none⟩∧b<w.heap.size∧∀(i:Nat) x,(zi.cells f.vars.2[k]!)[i]? =some x→w.cell? ⟨b,off+k*2+i,none⟩=some x)∧
  Hid (∀(k:Nat),k<f.params.2.length→∃b off,a1=some ⟨b,off,none⟩∧b<w.heap.size∧∀(i:Nat) x,(intCells f.params.2[k]!)[i]? =some x→w.cell? ⟨b,off+k*1+i,none⟩=some x)∧
  Hid (∀(k:Nat),k<f.blocks.2.length→∃b off,a2=some ⟨b,off,none⟩∧b<w.heap.size∧∀(i:Nat) x,(df.cells f.blocks.2[k]!)[i]? =some x→w.cell? ⟨b,off+k*7+i,none⟩=some x)∧
  Hid (f.vars.2.length=f.nv)∧Hid (f.params.2.length=f.np)∧Hid (f.blocks.2.length=f.nb):=by
 obtain⟨a0,c0,e0,-,-,hc0⟩:=hf.vars.open_;obtain⟨a1,c1,e1,-,-,hc1⟩:=(show Row w 1 f.params.1 (f.params.2.map intCells)from hf.params).open_;obtain⟨a2,c2,e2,-,-,hc2⟩:=hf.blocks.open_;exact⟨a0,c0,a1,c1,a2,c2,e0,e1,e2,by unfold ax.val ax.nv ax.np ax.nb;rw[e0,e1,e2],by unfold ax.nv ax.np ax.nb;rw[e0,e1,e2],ag hf,ag hc0,ag hc1,ag hc2,ag rfl,ag rfl,ag rfl⟩
theorem Cc (w:World) (t:TypeId) (cs:Array Value):Hid (ai w (w.alloc (.cells cs t)) [])∧Hid (Blk (w.alloc (.cells cs t)) w.heap.size t cs):=⟨ag ((ai.refl _ []).alloc _),ag (Blk.new w t cs)⟩
theorem om {w:World} {base n:Nat} {e:TypeId} {v:Value} {xs:List Value} (h:w.ownsRow base e 1 v n xs):Row w 1 v (xs.map fun x=>[x]):=by
 obtain⟨h0,h1|⟨g,cap,cur,h2,h3,h4,h5,h6,h7,h8⟩⟩:=h
 ·obtain⟨rfl,rfl⟩:=h1;have:xs=[]:=List.length_eq_zero_iff.1 (by omega);subst this;exact⟨none,0,rfl,by simp,by simp[maxLen],.inl rfl⟩
 ·have hn:xs.length=n:=(by omega);refine⟨some ⟨g,0,none⟩,cap,by rw[h2,List.length_map,hn],by rw[List.length_map];omega,h6,.inr ⟨g,0,rfl,Blk.lt h4,fun j e he i x hx=> ?_⟩⟩;rw[List.getElem?_map]at he;obtain⟨y,hy,rfl⟩:=Option.map_eq_some_iff.1 he
  obtain⟨rfl,rfl⟩:i=0∧y=x:=by
   rcases i with _|i
   ·exact⟨rfl,by simpa using hx⟩
   ·simp at hx
  have:=Blk.cell h4 j;simp only[Nat.zero_add,Nat.mul_one,Nat.add_zero];rw[this,←Array.getElem?_toList];rw[←h8,List.getElem?_take]at hy;split at hy
  ·exact hy
  ·cases hy
end Go.Proofs.YtjllbchfojonhaaGreatDoor
namespace Go.Proofs.YtjllbchfojonhaaGreatDoor
open Go.RowKit
theorem info9:(Tryz.prog.info? 9).map (fun i=>(i.zero,i.size,i.bytes))=some (some (.string ⟨#[]⟩),1,16):=by kernel_rfl
theorem info3:(Tryz.prog.info? 3).map (fun i=>(i.zero,i.size,i.bytes))=some (some (.int .i64 0),1,8):=by kernel_rfl
theorem own_some {w:World} {base n size:Nat} {e:TypeId} {v:Value} {xs:List Value} (h:w.ownsRow base e size v n xs) (hn:0<n):∃g cap,v= .slice (some ⟨g,0,none⟩) n cap∧base≤g∧n≤cap∧cap≤maxLen:=by
 rcases h.2 with⟨_,h0⟩|⟨g,cap,cur,h1,h2,h3,h4,h5,_⟩
 ·omega
 ·exact⟨g,cap,h1,h2,h4,h5⟩
theorem zx (W:World) (x:Value) (t:TypeId):∀(j:Nat) (u:Value),[x][j]? =some u→(W.alloc (.cells #[x] t)).cell? ((⟨W.heap.size,0,none⟩:Addr).add j)=some u:=by
 intro j u h;cases j with
 |zero=>
  have:=(Blk.new W t #[x]).cell 0;rw[add_plain];rw[this];exact h
 |succ j=>simp at h
theorem news_at (W:World) (x:Value) (t:TypeId) (g:Nat) (hg:W.heap.size=g):∀(j:Nat) (u:Value),[x][j]? =some u→(W.alloc (.cells #[x] t)).cell? ((⟨g,0,none⟩:Addr).add j)=some u:=by
 subst hg;exact zx W x t
theorem jh (w:World) (o:Obj):(w.alloc o).heap.size=w.heap.size+1:=by show(Array.push _ _).size=_;rw[Array.size_push]
theorem uy {x:Value} (h:x.oneCell'=true):∀u∈[x],u.oneCell'=true:=fun u hu=>by
 rw[List.mem_singleton.1 hu];exact h
theorem keeps_append {w0 W W3:World} {base size n:Nat} {e t:TypeId} {v x:Value} {xs:List Value} (hg:(W.alloc (.cells #[x] t)).grownBy W3 v.ownBlock) (h:W.ownsRow base e size v n xs) (hk:ai w0 W []) (hb:w0.heap.size≤base):ai w0 W3 []:=
 (hk.alloc _).grown hg (fun k hk=> .inr (by have:=(ig h hk).2;omega))
theorem blk_append {W W3:World} {g:Nat} {t t':TypeId} {v x:Value} {cs:Array Value} (hg:(W.alloc (.cells #[x] t)).grownBy W3 v.ownBlock) (hb:Blk W g t' cs) (hn:∀k,v.ownBlock=some k→k≠g):Blk W3 g t' cs:=by
 have hb2:Blk (W.alloc (.cells #[x] t)) g t' cs:=hb.keep ((ai.refl W []).alloc _) (by simp);exact(hg.block g hb2.lt (fun e=>hn g e.symm rfl)).trans hb2
theorem own_apart_ {w:World} {base n size g:Nat} {e:TypeId} {v:Value} {xs:List Value} (h:w.ownsRow base e size v n xs) (hg:w.heap.size≤g):∀k,v.ownBlock=some k→k≠g:=fun k hk=>by
 have:=(ig h hk).1;omega
end Go.Proofs.YtjllbchfojonhaaGreatDoor
