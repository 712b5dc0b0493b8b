/- Programs of the same content. -/
import Derived.Test.YtjllbchfojonhaaGreatDoorB2
namespace Go.Proofs.YtjllbchfojonhaaGreatDoor
set_option linter.unusedVariables false
set_option linter.unusedSimpArgs false
def SameI (x y : InstM) : Prop := x.op = y.op ∧ x.dst = y.dst ∧ x.args.2 = y.args.2 ∧ x.num = y.num
def PhiS (p q : PhiM) : Prop := p.dst = q.dst ∧ p.args.2 = q.args.2 ∧ p.froms.2 = q.froms.2
/-- z has y's name, phis and end, and the instructions ys -/
structure BlkS (ys : List InstM) (y z : BlockM) : Prop where
 name : z.name = y.name
 plen : z.phis.2.length = y.phis.2.length
 phi : ∀ k, k < y.phis.2.length → PhiS y.phis.2[k]! z.phis.2[k]!
 ilen : z.insts.2.length = ys.length
 ins : ∀ k, k < ys.length → SameI z.insts.2[k]! ys[k]!
 kind : z.kind = y.kind
 var : z.var = y.var
 to0 : z.to0 = y.to0
 to1 : z.to1 = y.to1
structure ProgS (Y : Nat → List InstM) (f g : FuncM) : Prop where
 vars : g.vars.2 = f.vars.2
 params : g.params.2 = f.params.2
 nb : g.nb = f.nb
 blk : ∀ b, b < f.nb → BlkS (Y b) f.blocks.2[b]! g.blocks.2[b]!
theorem same_refl (x : InstM) : SameI x x := ⟨rfl, rfl, rfl, rfl⟩
theorem same_symm {x y : InstM} (h : SameI x y) : SameI y x := ⟨h.1.symm, h.2.1.symm, h.2.2.1.symm, h.2.2.2.symm⟩
theorem same_trans {x y z : InstM} (h : SameI x y) (k : SameI y z) : SameI x z := ⟨h.1.trans k.1, h.2.1.trans k.2.1, h.2.2.1.trans k.2.2.1, h.2.2.2.trans k.2.2.2⟩
end Go.Proofs.YtjllbchfojonhaaGreatDoor
