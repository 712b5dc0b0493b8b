/- What every law's proof of this seat rests on: arguments read behind the call as before, where nothing that was there has turned. -/
import Derived.Test.YtppidnjhdefbiaaRows
import Derived.WalkKit
import Derived.ProofKit
import Derived.OpenShut
import Derived.ShutString
import Derived.ChangeOld
import Derived.Below
import Derived.WalkLawsBesides
import Derived.WalkSpells
import Derived.BigQuiet
import Derived.Deep.QuietTactic
namespace Go.Proofs.Ytppidnjhdefbiaa
open Go.ChangeShapes Go.WideShapes Go.ChangeAt Go.RowKit

theorem own : ownKnob Try.prog.godebug = none := by kernel_rfl
theorem laidOut : laidOutB Try.prog = true := by kernel_rfl

theorem trodAll_below {H : Type} {enc : TypeId × Value → H} {P : Program} (hl : laidOutB P = true) {W W' : World} (hb : Below W.heap.size W W') :
    ∀ {ts : List TypeId} {vs : List Value} {ds : List (DataW H)} {ps : List MemPlace}, (∀ t ∈ ts, P.readableRec t = true ∧ t < P.types.size) →
      DataW.TrodAll enc P W 0 (fun _ => true) true ts vs ds ps → DataW.TrodAll enc P W' 0 (fun b => decide (b < W.heap.size)) true ts vs ds ps := by
  intro ts
  induction ts with
  | nil =>
    intro vs ds ps _ h
    cases vs <;> cases ds <;> simp [DataW.TrodAll] at h ⊢
    exact h
  | cons t ts ih =>
    intro vs ds ps hr h
    cases vs <;> cases ds <;> simp [DataW.TrodAll] at h ⊢
    obtain ⟨p, hp, q, hq, e⟩ := h
    refine ⟨p, ?_, q, ih (fun t ht => hr t (List.mem_cons_of_mem _ ht)) hq, e⟩
    have h0 := hr t List.mem_cons_self
    refine Below.trod hl h0.1 h0.2 hp hb ?_
    obtain ⟨m, hm⟩ := hp
    exact DataW.trod_lt m _ _ _ hm

theorem below_drewN {B : Nat} {a w : World} (h : Below B a w) (n : Nat) : Below B a (w.drewN n) := ⟨h.os, h.tape, h.output, h.size, h.block⟩
end Go.Proofs.Ytppidnjhdefbiaa
