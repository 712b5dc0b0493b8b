/- Package ops: TypeWord; contract. -/
import Derived.Test.YtjllbchfojonhaaDoorOpened
namespace Go.Proofs.YtjllbchfojonhaaDoor
open Go.RowKit
set_option linter.unusedVariables false

def typeWord (t : Int) : ByteArray := if t = 0 then ⟨#[105, 110, 116]⟩ else if t = 1 then ⟨#[98, 111, 111, 108]⟩ else if t = 2 then ⟨#[97, 114, 114]⟩ else ⟨#[]⟩
theorem typeWord_any (t : Int) (w : World) : Calls Tryd.prog 88 #[.int .i64 t] w fun e w' => e = .returned (.string (typeWord t)) ∧ w = w' := by
  by_cases k0 : t = 0
  · subst k0
    go_enter Tryd.func88, Tryd.ntmps88
    go_wp2
    go_ret
    exact ⟨rfl, rfl⟩
  by_cases k1 : t = 1
  · subst k1
    go_enter Tryd.func88, Tryd.ntmps88
    go_wp2
    go_ret
    exact ⟨rfl, rfl⟩
  by_cases k2 : t = 2
  · subst k2
    go_enter Tryd.func88, Tryd.ntmps88
    go_wp2
    go_ret
    exact ⟨rfl, rfl⟩
  have q0 : (t == 0) = false := by simpa using k0
  have q1 : (t == 1) = false := by simpa using k1
  have q2 : (t == 2) = false := by simpa using k2
  have HX : Hid (typeWord t = ⟨#[]⟩) := by show _ = _; unfold typeWord; rw [if_neg k0, if_neg k1, if_neg k2]
  go_enter Tryd.func88, Tryd.ntmps88
  go_wp2
  go_ret
  exact ⟨by rw [HX.out]; rfl, rfl⟩
end Go.Proofs.YtjllbchfojonhaaDoor
