/- The plain shape of a program: what 'Shaped' and 'Typed' come to, of the program and of the document; that they are the same. -/
import Derived.Test.YtjllbchfojonhaaGreatDoorB2
import Derived.Test.YtjllbchfojonhaaGreatDoorB3
set_option linter.unusedVariables false
set_option linter.unusedSimpArgs false
set_option maxRecDepth 100000
set_option maxHeartbeats 200000000
namespace Go.Proofs.YtjllbchfojonhaaGreatDoor
open Go.RowKit
def ntk (op:Int):Nat:=(dh op.toNat).size
def mk1 (op:Int):Bool:= !((jq op.toNat).size==0)
def lg (f:ax) (x:cu):Bool:=
 decide (0≤x.op)&&decide (x.op<27)&&(x.args.2.length==ntk x.op)&&x.args.2.all (inB · f.nv)&&
 (if mk1 x.op=true then inB x.dst f.nv else x.dst== -1)&&(x.num==0||(x.op==0||x.op==25))
def ow (f:ax) (b:df):Bool:=b.phis.2.all (xz f)&&b.insts.2.all (lg f)&&qi f b.kind b.var b.to0 b.to1
def si (l:List ByteArray):Bool:=Cx l.length fun k=>wy l[k]! &&Cx k fun j=> !decide (l[j]! =l[k]!)
def parB (l:List Int):Bool:=Cx l.length fun k=>l[k]! ==(k:Int)
def yx (f:ax):List ByteArray:=f.vars.2.map zi.name
def xh (f:ax):List ByteArray:=f.blocks.2.map df.name
def Cj (v:zi):Bool:=decide (0≤v.type)&&decide (v.type≤2)
def yf (f:ax):Bool:=
 f.vars.2.all Cj&&parB f.params.2&&decide (f.nv≤512)&&decide (f.np≤8∧f.np≤f.nv)&&decide (1≤f.nb)&&decide (f.nb≤64)&&si (yx f)&&si (xh f)
def Ct (l:List df):Nat:=(l.map fun b=>b.phis.2.length+b.insts.2.length).sum
def fw (f:ax):Bool:=yf f&&(f.blocks.2.all (ow f)&&decide (Ct f.blocks.2≤1024))
def xw (f:ax) (k:Nat):Bool:=wy f.vars.2[k]!.name&&Cj f.vars.2[k]! &&Cx k fun j=> !decide (f.vars.2[j]!.name=f.vars.2[k]!.name)
def oh (f:ax) (k:Nat):Bool:=
 wy f.blocks.2[k]!.name&&(Cx k fun j=> !decide (f.blocks.2[j]!.name=f.blocks.2[k]!.name))&&decide (Ct (f.blocks.2.take (k+1))≤1024)&&ow f f.blocks.2[k]!
def mi (f:ax):Bool:=
 decide (f.nv≤512)&&decide (f.np≤8)&&decide (f.np≤f.nv)&&decide (1≤f.nb)&&decide (f.nb≤64)&&parB f.params.2&&Cx f.nv (xw f)&&Cx f.nb (oh f)
theorem take_mem {l:List ByteArray} {k:Nat} {s:ByteArray} (hk:k≤l.length):s∈l.take k↔∃j,j<k∧l[j]! =s:=by
 constructor
 ·intro h;obtain⟨j,hj,rfl⟩:=List.mem_iff_getElem.1 h;have hj':=hj;rw[List.length_take]at hj';refine⟨j,by omega, ?_⟩;rw[getElem!_pos l j (by omega),List.getElem_take]
 ·rintro⟨j,hj,rfl⟩;rw[getElem!_pos l j (by omega)];rw[List.mem_iff_getElem];exact⟨j,by simp;omega,by simp⟩
theorem map_bang {α β:Type} [Inhabited α] [Inhabited β] (g:α→β) {l:List α} {k:Nat} (hk:k<l.length):(l.map g)[k]! =g l[k]! :=by
 rw[getElem!_pos (l.map g) k (by simpa using hk),getElem!_pos l k hk,List.getElem_map]
theorem unlike_iff {α:Type} [Inhabited α] (g:α→ByteArray) (l:List α):si (l.map g)=true↔∀k,k<l.length→wy (g l[k]!)=true∧∀j,j<k→¬g l[j]! =g l[k]! :=by
 unfold si;rw[uz,List.length_map];refine forall_congr' fun k=>forall_congr' fun hk=> ?_;rw[Bool.and_eq_true,map_bang g hk,uz];refine and_congr Iff.rfl (forall_congr' fun j=>forall_congr' fun hj=> ?_);rw[map_bang g (by omega),Bool.not_eq_true',decide_eq_false_iff_not]
theorem bsum_take (l:List df) (k:Nat):Ct (l.take k)≤Ct l:=by
 unfold Ct
 induction l generalizing k with
 |nil=>simp
 |cons b l ih=>
  cases k with
  |zero=>simp
  |succ k=>have:=ih k;simp only[List.take_succ_cons,List.map_cons,List.sum_cons];omega
theorem bsum_snoc (l:List df) (k:Nat) (hk:k<l.length):Ct (l.take (k+1))=Ct (l.take k)+(l[k]!.phis.2.length+l[k]!.insts.2.length):=by
 unfold Ct;rw[List.take_succ_eq_append_getElem hk,getElem!_pos l k hk,List.map_append,List.sum_append];simp only[List.map_cons,List.map_nil,List.sum_cons,List.sum_nil,Nat.add_zero]
theorem all_iff {α:Type} [Inhabited α] {l:List α} {p:α→Bool}:l.all p=true↔∀j,j<l.length→p l[j]! =true:=⟨fun h j hj=>all_at h hj,nu⟩
theorem shaped_eq (f:ax):mi f=fw f:=by
 rw[Bool.eq_iff_iff];unfold mi fw yf;simp only[Bool.and_eq_true,decide_eq_true_eq,uz,all_iff];unfold yx xh;rw[unlike_iff,unlike_iff];unfold xw oh;simp only[Bool.and_eq_true,decide_eq_true_eq,uz,Bool.not_eq_true',decide_eq_false_iff_not];have hv:f.vars.2.length=f.nv:=rfl;have hb:f.blocks.2.length=f.nb:=rfl;rw[hv,hb];constructor
 ·rintro⟨⟨⟨⟨⟨⟨⟨h1,h2⟩,h3⟩,h4⟩,h5⟩,h6⟩,h7⟩,h8⟩;refine⟨⟨⟨⟨⟨⟨⟨⟨fun j hj=>(h7 j hj).1.2,h6⟩,h1⟩,h2,h3⟩,h4⟩,h5⟩,fun k hk=>⟨(h7 k hk).1.1,fun j hj=>(h7 k hk).2 j hj⟩⟩,fun k hk=>⟨(h8 k hk).1.1.1,fun j hj=>(h8 k hk).1.1.2 j hj⟩⟩,fun j hj=>(h8 j hj).2, ?_⟩;have:=(h8 (f.nb -1) (by omega)).1.2;rw[show f.nb -1+1=f.nb by omega,←hb,List.take_length]at this;exact this
 ·rintro⟨⟨⟨⟨⟨⟨⟨⟨g1,g2⟩,g3⟩,g4,g5⟩,g6⟩,g7⟩,g8⟩,g9⟩,g10,g11⟩;exact⟨⟨⟨⟨⟨⟨⟨g3,g4⟩,g5⟩,g6⟩,g7⟩,g2⟩,fun k hk=>⟨⟨(g8 k hk).1,g1 k hk⟩,(g8 k hk).2⟩⟩,fun k hk=>⟨⟨⟨(g9 k hk).1,(g9 k hk).2⟩,Nat.le_trans (bsum_take _ _) g11⟩,g10 k hk⟩⟩
def ax.tyI (f:ax) (v:Int):Int:=f.ty v.toNat
def zt (f:ax) (p:jk):Bool:=p.args.2.all fun a=>f.tyI a==f.tyI p.dst
def tkT (op:Int) (i:Nat):Int:=Af ((dh op.toNat).data.toList[i]!).toNat
def mkT (op:Int):Int:=Af ((jq op.toNat).data.toList[0]!).toNat
def lh (f:ax) (x:cu):Bool:=
 if x.op=1 then f.tyI x.dst==f.tyI x.args.2[0]!
 else(Cx (ntk x.op) fun i=>f.tyI x.args.2[i]! ==tkT x.op i)&&(!(mk1 x.op)||f.tyI x.dst==mkT x.op)
def Ai (f:ax) (b:df):Bool:=wu f b.kind b.var.toNat b.to0 b.to1
def ng (f:ax) (b:df):Bool:=b.phis.2.all (zt f)&&b.insts.2.all (lh f)&&Ai f b
def qm (f:ax):Bool:=f.blocks.2.all (ng f)
def Dn (f:ax) (x:cu):Bool:=
 (Cx x.args.2.length fun i=>f.tyI x.args.2[i]! ==if x.op=1 then f.tyI x.dst else tkT x.op i)&& !(mk1 x.op&& !(x.op==1)&& !(f.tyI x.dst==mkT x.op))
theorem tinst_eq (f:ax) (x:cu) (h:lg f x=true):Dn f x=lh f x:=by
 unfold lg at h;simp only[Bool.and_eq_true,decide_eq_true_eq,beq_iff_eq]at h;obtain⟨⟨⟨⟨⟨_,_⟩,hl⟩,_⟩,_⟩,_⟩:=h;unfold Dn lh;rw[hl];by_cases h1:x.op=1
 ·have e2:ntk x.op=1:=(by rw[h1];rfl);rw[Bool.eq_iff_iff,if_pos h1,e2];simp only[h1,if_true,Bool.and_eq_true,uz,beq_iff_eq,Bool.not_eq_true',beq_self_eq_true,Bool.not_true,Bool.and_false,Bool.false_and,and_true];exact⟨fun h=>(h 0 (by omega)).symm,fun h i hi=>by rw[show i=0 by omega];exact h.symm⟩
 ·have e1:(x.op==1)=false:=(by simpa using h1);rw[if_neg h1];simp only[if_neg h1,e1,Bool.not_false,Bool.and_true]
  congr 1
  cases mk1 x.op<;>simp
end Go.Proofs.YtjllbchfojonhaaGreatDoor
