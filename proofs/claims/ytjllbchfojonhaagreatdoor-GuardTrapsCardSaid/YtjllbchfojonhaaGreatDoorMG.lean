/- Programs of the same content; the made program: its shape, types, length (plain). -/
import Derived.Test.YtjllbchfojonhaaGreatDoorB2
import Derived.Test.YtjllbchfojonhaaGreatDoorHX
set_option linter.unusedVariables false
set_option linter.unusedSimpArgs false
set_option maxRecDepth 100000
set_option maxHeartbeats 200000000
namespace Go.Proofs.YtjllbchfojonhaaGreatDoor
def SameI (x y:cu):Prop:=x.op=y.op∧x.dst=y.dst∧x.args.2=y.args.2∧x.num=y.num
def PhiS (p q:jk):Prop:=p.dst=q.dst∧p.args.2=q.args.2∧p.froms.2=q.froms.2
structure BlkS (ys:List cu) (y z:df):Prop where
 name:z.name=y.name
 plen:z.phis.2.length=y.phis.2.length
 phi:∀k,k<y.phis.2.length→PhiS y.phis.2[k]! z.phis.2[k]!
 ilen:z.insts.2.length=ys.length
 ins:∀k,k<ys.length→SameI z.insts.2[k]! ys[k]!
 kind:z.kind=y.kind
 var:z.var=y.var
 to0:z.to0=y.to0
 to1:z.to1=y.to1
structure xk (Y:Nat→List cu) (f g:ax):Prop where
 vars:g.vars.2=f.vars.2
 params:g.params.2=f.params.2
 nb:g.nb=f.nb
 blk:∀b,b<f.nb→BlkS (Y b) f.blocks.2[b]! g.blocks.2[b]!
end Go.Proofs.YtjllbchfojonhaaGreatDoor
namespace Go.Proofs.YtjllbchfojonhaaGreatDoor
def su (x:cu):cu:=⟨(ik x.op.toNat).1,-1,(.slice none 0 0,iq x x.op.toNat),0⟩
def mkO (lk:Nat→Bool) (l:List cu) (i:Nat):List cu:=if lk i=true then[su l[i]!,l[i]!]else[l[i]!]
def mkL (lk:Nat→Bool) (l:List cu) (j:Nat):List cu:=(List.range j).flatMap (mkO lk l)
theorem yj (lk:Nat→Bool) (l:List cu) (j:Nat):mkL lk l (j+1)=mkL lk l j++mkO lk l j:=by
 unfold mkL;rw[List.range_succ,List.flatMap_append];simp
theorem mkL_len_le (lk:Nat→Bool) (l:List cu):∀{i j:Nat},i≤j→(mkL lk l i).length≤(mkL lk l j).length:=fun{i j} h=>by
 induction j with
 |zero=>rw[show i=0 by omega];exact Nat.le_refl _
 |succ j ih=>
  by_cases e:i=j+1
  ·rw[e];exact Nat.le_refl _
  ·rw[yj,List.length_append];have:=ih (by omega);omega
theorem mkL_pre (lk:Nat→Bool) (l:List cu):∀{i j:Nat},i≤j→∃r,mkL lk l j=mkL lk l i++r:=fun{i j} h=>by
 induction j with
 |zero=>exact⟨[],by rw[show i=0 by omega];simp⟩
 |succ j ih=>
  by_cases e:i=j+1
  ·exact⟨[],by rw[e];simp⟩
  ·obtain⟨r,hr⟩:=ih (by omega);exact⟨r++mkO lk l j,by rw[yj,hr,List.append_assoc]⟩
theorem mkL_at (lk:Nat→Bool) (l:List cu):∀(n k:Nat),k<(mkL lk l n).length→∃j,j<n∧
  ((lk j=false∧k=(mkL lk l j).length∧(mkL lk l n)[k]! =l[j]!)∨(lk j=true∧k=(mkL lk l j).length∧(mkL lk l n)[k]! =su l[j]!)∨(lk j=true∧k=(mkL lk l j).length+1∧(mkL lk l n)[k]! =l[j]!)):=fun n=>by
 induction n with
 |zero=>intro k hk;exact absurd hk (by simp[mkL])
 |succ n ih=>
  intro k hk;by_cases h:k<(mkL lk l n).length
  ·obtain⟨j,hj,hc⟩:=ih k h
   have e:(mkL lk l (n+1))[k]! =(mkL lk l n)[k]! :=by
    rw[yj,getElem!_pos _ k (by rw[List.length_append];omega),getElem!_pos _ k h,List.getElem_append_left h]
   exact⟨j,by omega,by rw[e];exact hc⟩
  ·refine⟨n,Nat.lt_succ_self _, ?_⟩;rw[yj,List.length_append]at hk
   have e:(mkL lk l (n+1))[k]! =(mkO lk l n)[k -(mkL lk l n).length]! :=by
    rw[yj,getElem!_pos _ k (by rw[List.length_append];omega),List.getElem_append_right (by omega),getElem!_pos (mkO lk l n) _ (by omega)]
   rw[e];cases hl:lk n with
   |false=>
    have:mkO lk l n=[l[n]!]:=(by unfold mkO;rw[if_neg (by rw[hl];decide)]);rw[this]at hk ⊢;simp at hk;have hk0:k=(mkL lk l n).length:=(by omega);exact .inl ⟨rfl,hk0,by rw[hk0,Nat.sub_self];rfl⟩
   |true=>
    have:mkO lk l n=[su l[n]!,l[n]!]:=(by unfold mkO;rw[if_pos hl]);rw[this]at hk ⊢;simp at hk;by_cases hk0:k=(mkL lk l n).length
    ·exact .inr (.inl ⟨rfl,hk0,by rw[hk0,Nat.sub_self];rfl⟩)
    ·have hk1:k=(mkL lk l n).length+1:=(by omega);exact .inr (.inr ⟨rfl,hk1,by rw[hk1,Nat.add_sub_cancel_left];rfl⟩)
end Go.Proofs.YtjllbchfojonhaaGreatDoor
namespace Go.Proofs.YtjllbchfojonhaaGreatDoor
noncomputable def rq (f:ax) (b:Nat):List cu:=mkL (fun j=> !ou f b j) f.blocks.2[b]!.insts.2 f.blocks.2[b]!.insts.2.length
theorem list_ext_bang {α β:Type} [Inhabited α] [Inhabited β] {g:α→β} {l m:List α} (h:l.length=m.length) (hk:∀k,k<l.length→g l[k]! =g m[k]!):l.map g=m.map g:=by
 refine List.ext_getElem (by simpa using h) fun k h1 h2=> ?_;rw[List.length_map]at h1 h2;have:=hk k h1;rw[getElem!_pos l k h1,getElem!_pos m k h2]at this;rw[List.getElem_map,List.getElem_map];exact this
end Go.Proofs.YtjllbchfojonhaaGreatDoor
