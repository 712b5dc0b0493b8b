/- The document's Shaped, plainly: what makes it false. -/
import Derived.Test.YtjllbchfojonhaaGreatDoorTY
set_option linter.unusedVariables false
set_option linter.unusedSimpArgs false
set_option maxRecDepth 100000
set_option maxHeartbeats 200000000
namespace Go.Proofs.YtjllbchfojonhaaGreatDoor
open Go.RowKit
section
variable {f:ax}
theorem ref_no0 (h:¬(f.nv≤512∧f.np≤8∧f.np≤f.nv∧1≤f.nb∧f.nb≤64)):mi f=false:=by
 cases e:mi f with
 |false=>rfl
 |true=>
  unfold mi at e;simp only[Bool.and_eq_true,decide_eq_true_eq]at e;exact absurd ⟨e.1.1.1.1.1.1.1,e.1.1.1.1.1.1.2,e.1.1.1.1.1.2,e.1.1.1.1.2,e.1.1.1.2⟩ h
theorem ref_no1 {k:Nat} (hk:k<f.np) (h:(f.params.2[k]! ==(k:Int))=false):mi f=false:=by
 unfold mi parB;rw[show Cx f.params.2.length (fun k=>f.params.2[k]! ==(k:Int))=false from wh (show k<f.params.2.length from hk) h];simp
theorem ref_no2 {k:Nat} (hk:k<f.nv) (h:xw f k=false):mi f=false:=by
 unfold mi;rw[wh hk h];simp
theorem xu {k:Nat} (hk:k<f.nb) (h:oh f k=false):mi f=false:=by
 unfold mi;rw[wh hk h];simp
theorem ref_yes (h:f.nv≤512∧f.np≤8∧f.np≤f.nv∧1≤f.nb∧f.nb≤64) (h1:∀k,k<f.np→(f.params.2[k]! ==(k:Int))=true) (h2:∀k,k<f.nv→xw f k=true) (h3:∀k,k<f.nb→oh f k=true):mi f=true:=by
 unfold mi parB;rw[qh h2,qh h3,decide_eq_true h.1,decide_eq_true h.2.1,decide_eq_true h.2.2.1,decide_eq_true h.2.2.2.1,decide_eq_true h.2.2.2.2,show Cx f.params.2.length (fun k=>f.params.2[k]! ==(k:Int))=true from qh h1];rfl
theorem var_no1 {k:Nat} {y:zi} (hy:f.vars.2[k]! =y) (h:wy y.name=false):xw f k=false:=by
 unfold xw;rw[hy,h];rfl
theorem var_no2 {k:Nat} {y:zi} (hy:f.vars.2[k]! =y) (h:Cj y=false):xw f k=false:=by
 unfold xw;rw[hy,h];simp
theorem var_no3 {k j:Nat} {y:zi} (hy:f.vars.2[k]! =y) (hj:j<k) (h:f.vars.2[j]!.name=y.name):xw f k=false:=by
 unfold xw;rw[hy,wh hj (by rw[h];simp)];simp
theorem var_yes {k:Nat} {y:zi} (hy:f.vars.2[k]! =y) (h1:wy y.name=true) (h2:Cj y=true) (h3:∀j,j<k→¬f.vars.2[j]!.name=y.name):xw f k=true:=by
 unfold xw;rw[hy,h1,h2,qh (fun j hj=>by rw[decide_eq_false (h3 j hj)];rfl)];rfl
variable {k j:Nat} {y:df}
theorem blk_no1 (hy:f.blocks.2[k]! =y) (h:wy y.name=false):oh f k=false:=by unfold oh;rw[hy,h];rfl
theorem blk_no2 (hy:f.blocks.2[k]! =y) (hj:j<k) (h:f.blocks.2[j]!.name=y.name):oh f k=false:=by
 unfold oh;rw[hy,wh hj (by rw[h];simp)];simp
theorem blk_no3 (h:¬Ct (f.blocks.2.take (k+1))≤1024):oh f k=false:=by unfold oh;rw[decide_eq_false h];simp
theorem Ba (hy:f.blocks.2[k]! =y) (h:ow f y=false):oh f k=false:=by unfold oh;rw[hy,h];simp
theorem blk_yes (hy:f.blocks.2[k]! =y) (h1:wy y.name=true) (h2:∀j,j<k→¬f.blocks.2[j]!.name=y.name) (h3:Ct (f.blocks.2.take (k+1))≤1024) (h4:ow f y=true):oh f k=true:=by
 unfold oh;rw[hy,h1,qh (fun j hj=>by rw[decide_eq_false (h2 j hj)];rfl),decide_eq_true h3,h4];rfl
theorem Dv (hj:j<y.phis.2.length) (h:xz f y.phis.2[j]! =false):ow f y=false:=by
 unfold ow;rw[Ac hj h];rfl
theorem block_no2 (hj:j<y.insts.2.length) (h:lg f y.insts.2[j]! =false):ow f y=false:=by
 unfold ow;rw[Ac hj h];simp
theorem block_no3 (h:qi f y.kind y.var y.to0 y.to1=false):ow f y=false:=by
 unfold ow;rw[h];simp
theorem block_yes (h1:∀j,j<y.phis.2.length→xz f y.phis.2[j]! =true) (h2:∀j,j<y.insts.2.length→lg f y.insts.2[j]! =true) (h3:qi f y.kind y.var y.to0 y.to1=true):ow f y=true:=by
 unfold ow;rw[nu h1,nu h2,h3];rfl
variable {p:jk}
theorem phi_no1 (h:inB p.dst f.nv=false):xz f p=false:=by unfold xz;rw[h];simp
theorem phi_no2 (h:¬p.args.2.length=p.froms.2.length):xz f p=false:=by unfold xz;rw[show(p.args.2.length==p.froms.2.length)=false by simpa using h];simp
theorem phi_no3 (h:p.args.2.length=0):xz f p=false:=by unfold xz;rw[h];rfl
theorem phi_no4 (hj:j<p.args.2.length) (h:inB p.args.2[j]! f.nv=false):xz f p=false:=by unfold xz;rw[Ac (p:=(inB · f.nv)) hj h];simp
theorem phi_no5 (hj:j<p.froms.2.length) (h:inB p.froms.2[j]! f.nb=false):xz f p=false:=by unfold xz;rw[Ac (p:=(inB · f.nb)) hj h];simp
theorem phi_yes (h1:inB p.dst f.nv=true) (h2:p.args.2.length=p.froms.2.length) (h3:¬p.args.2.length=0) (h4:∀j,j<p.args.2.length→inB p.args.2[j]! f.nv=true∧inB p.froms.2[j]! f.nb=true):xz f p=true:=by
 unfold xz;rw[h1,nu (p:=(inB · f.nv)) (fun j hj=>(h4 j hj).1),nu (p:=(inB · f.nb)) (fun j hj=>(h4 j (by omega)).2),show(p.args.2.length==p.froms.2.length)=true by simpa using h2,show(p.args.2.length==0)=false by simpa using h3];rfl
variable {x:cu}
theorem inst_no1 (h:¬(0≤x.op∧x.op<27)):lg f x=false:=by
 cases e:lg f x with
 |false=>rfl
 |true=>
  unfold lg at e;simp only[Bool.and_eq_true,decide_eq_true_eq]at e;exact absurd ⟨e.1.1.1.1.1,e.1.1.1.1.2⟩ h
end
theorem in_any (v:Int) (n:Nat) (w:World):Calls Tryz.prog 84 #[.int .i64 v,.int .i64 n] w fun e w'=>e= .returned (.bool (inB v n))∧w=w':=by
 by_cases h0:0≤v<;>by_cases h1:v<(n:Int)
 all_goals
  go_enter Tryz.func84,Tryz.ntmps84;go_wp2;go_ret;exact⟨ay (by simp[inB,h0,h1]),rfl⟩
theorem kword0:∀k:Nat,k<27→((jb k).toList==[99,111,110,115,116])=decide (k=0)∧((jb k).toList==[112,105])=decide (k=25):=by
 intro k hk;rw[ByteArray.toList_eq]
 revert hk k
 decide+kernel
theorem kmakes0:∀k:Nat,k<27→(jq k).toList.isEmpty= !(mk1 (k:Int)):=by
 intro k hk;rw[ByteArray.toList_eq]
 revert hk k
 decide+kernel
theorem inst_bd {f:ax} {x:cu} (h:0≤x.op∧x.op<27):lg f x=(!(!(x.args.2.length==ntk x.op)|| !(if mk1 x.op=true then inB x.dst f.nv else x.dst== -1)|| !(x.num==0||(x.op==0||x.op==25)))&&x.args.2.all (inB · f.nv)):=by
 unfold lg;rw[decide_eq_true h.1,decide_eq_true h.2];generalize(x.args.2.length==ntk x.op)=A;generalize(if mk1 x.op=true then inB x.dst f.nv else x.dst== -1)=B;generalize(x.num==0||(x.op==0||x.op==25))=C;generalize x.args.2.all (inB · f.nv)=D;cases A<;>cases B<;>cases C<;>cases D<;>rfl
theorem rows_at (k:Nat) (hk:k<27) (w:World):Calls Tryz.prog 51 #[] w fun e w'=>∃g,e= .returned (.slice (some ⟨g,0,none⟩) 27 27)∧ai w w' []∧w'.cell? ⟨g,k*3,none⟩=some (.string (jb k))∧w'.cell? ⟨g,k*3+1,none⟩=some (.string (dh k))∧w'.cell? ⟨g,k*3+2,none⟩=some (.string (jq k)):=by
 refine(rows_any w).mono ?_;rintro e w' ⟨rfl,rfl⟩;have h:=Blk.new w 110 jv;obtain⟨h0,h1,h2⟩:=kcell k hk;exact⟨_,rfl,(ai.refl w []).alloc _,by rw[h.cell,h0],by rw[h.cell,h1],by rw[h.cell,h2]⟩
theorem Ch {X:World} {g:Nat} {a b c x y z:Value} (h:Blk X g 110 #[x,y,z]):Blk (((X.setCell ⟨g,0,none⟩ a).setCell ⟨g,1,none⟩ b).setCell ⟨g,2,none⟩ c) g 110 #[a,b,c]:=by
 have:=((h.gu 0 a).gu 1 b).gu 2 c
 simpa using this
theorem zn {w X:World} {g:Nat} {a b c:Value} (h:ai w X []) (hg:w.heap.size≤g):ai w (((X.setCell ⟨g,0,none⟩ a).setCell ⟨g,1,none⟩ b).setCell ⟨g,2,none⟩ c) []:=
 ((h.setCell (.inr hg) a).setCell (.inr hg) b).setCell (.inr hg) c
end Go.Proofs.YtjllbchfojonhaaGreatDoor
