/- A region that draws its order, in a round of a loop over a function: by the law for regions elsewhere. -/
import Derived.Test.YtjllbchfojonhaaGreatDoorBWI
import Derived.OrdersIn
import Derived.Deep.RegionHeld
namespace Go.Proofs.YtjllbchfojonhaaGreatDoor
open Go.RowKit Go.Shelf
set_option linter.unusedVariables false
set_option linter.unusedSimpArgs false
def plainOp (o : Oper) : Bool := match o.op with | .defer _ => false | _ => true
theorem plain_op {o : Oper} (h : plainOp o = true) : ∀ c, o.op ≠ .defer c := fun c e => by unfold plainOp at h; rw [e] at h; cases h
theorem upon_in {P : Program} {l n : Nat} {o : Oper} {a : Act} {K : Act → World → Prop} {Q : Exit → Act → World → Prop} {r : Result Next} (h : o.upon P a K Q r) : o.uponIn (Fence.wide.inRound l) n P a K Q r := by
 cases r with
 | ok x w' =>
  cases x
  case enter f args => exact ⟨fun e => (by cases e), CallsIn.inRound l (callsIn_wide.2 h)⟩
  case row r args => exact ⟨fun e => (by cases e), fun c cs _ => let ⟨v, w', p, s⟩ := h c cs; ⟨v, w', p, stepsIn_wide.2 s⟩⟩
  all_goals first | exact h | exact h.elim
 | halt x w' => cases x <;> first | exact h | exact h.elim
theorem op_in {P : Program} {l n : Nat} {ops : Array Oper} {Q : Exit → Act → World → Prop} (hQ : ¬ LetsOut Q) (hd : ops.all plainOp = true) {i : Nat} {K : Act → World → Prop} {a : Act} {w : World} (h : wpOp P ops Q i K a w) : wpOpIn (Fence.wide.inRound l) n P ops Q i K a w := by
 unfold wpOp at h
 unfold wpOpIn
 cases ho : ops[i]? with
 | none => simp only [ho] at h; exact h
 | some o =>
  simp only [ho] at h ⊢
  have hp : ∀ c, o.op ≠ .defer c := plain_op ((Array.all_eq_true_iff_forall_mem).1 hd o (Array.mem_of_getElem? ho))
  split
  ·rename_i hw
   rw [if_pos hw] at h
   rcases h with h | ⟨_, h⟩
   ·refine ⟨fun _ _ => trivial, ?_⟩
    rw [Oper.semAt_eq _ _ _ hp]
    exact upon_in h
   ·exact absurd h hQ
  ·rename_i hw
   rw [if_neg hw] at h
   exact ⟨fun _ _ => trivial, h⟩
theorem any_in {P : Program} {l n : Nat} {ops : Array Oper} {Q : Exit → Act → World → Prop} (hQ : ¬ LetsOut Q) (hd : ops.all plainOp = true) : ∀ (fuel : Nat) (listed : Array Bool) (a : Act) (w : World), wpAny P .any ops Q fuel listed a w → wpAnyIn (Fence.wide.inRound l) n P .any ops Q fuel listed a w := by
 intro fuel
 induction fuel with
 | zero => intro _ _ _ h; exact h
 | succ fuel ih => intro listed a w h; exact ⟨h.1, fun i hi => wpOpIn_mono (fun a w => ih _ a w) (op_in hQ hd (h.2 i hi))⟩
theorem wpIn_region_heldR {P : Program} {l n id : Nat} {ops : Array Oper} {Q : Exit → Act → World → Prop} {S : World → Prop} {a : Act} {w : World} (hQ : ¬ LetsOut Q) (hd : ops.all plainOp = true) (hm : P.follows .mixedOrders = true) (hS : S w.drew)
  (h : S w.drew → wpAnyH P .any ops Q S ops.size (Array.replicate ops.size false) a w.drew) : (Code.region id ops true).wpIn (Fence.wide.inRound l) n P Q a w :=
 wpIn_region_any hm (any_in hQ hd _ _ _ _ (wpAny_of_held _ _ _ _ (h hS)))
end Go.Proofs.YtjllbchfojonhaaGreatDoor
