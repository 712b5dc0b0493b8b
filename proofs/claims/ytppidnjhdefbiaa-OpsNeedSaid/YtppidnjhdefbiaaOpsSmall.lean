/- Package ops: the contracts of TypeWord, TypeOf, Any, Numbered, Check, Pure, Trap, typed, and of the document's Type and Check. -/
import Derived.Test.YtppidnjhdefbiaaOpsOf
namespace Go.Proofs.Ytppidnjhdefbiaa
open Go.RowKit
set_option linter.unusedVariables false

def tword (t : Int) : ByteArray := if t = 0 then ⟨#[105, 110, 116]⟩ else if t = 1 then ⟨#[98, 111, 111, 108]⟩ else if t = 2 then ⟨#[97, 114, 114]⟩ else ⟨#[]⟩
theorem typeword_any (t : Int) (w : World) : Calls Try.prog 42 #[.int .i64 t] w fun e w' => e = .returned (.string (tword t)) ∧ w = w' := by
  by_cases h0 : t = 0
  · subst h0
    go_enter Try.func42, Try.ntmps42
    go_wp2
    go_ret
    exact ⟨rfl, rfl⟩
  by_cases h1 : t = 1
  · subst h1
    go_enter Try.func42, Try.ntmps42
    go_wp2
    go_ret
    exact ⟨rfl, rfl⟩
  by_cases h2 : t = 2
  · subst h2
    go_enter Try.func42, Try.ntmps42
    go_wp2
    go_ret
    exact ⟨rfl, rfl⟩
  have e0 : (t == 0) = false := by simpa using h0
  have e1 : (t == 1) = false := by simpa using h1
  have e2 : (t == 2) = false := by simpa using h2
  have e : tword t = ⟨#[]⟩ := by unfold tword; rw [if_neg h0, if_neg h1, if_neg h2]
  rw [e]
  clear e h0 h1 h2
  go_enter Try.func42, Try.ntmps42
  go_wp2
  go_ret
  exact ⟨rfl, rfl⟩

/-- a type's sign -/
def tsign (c : Int) : Int := if c = 98 then 1 else if c = 97 then 2 else 0
theorem typed_any (c : Int) (w : World) : Calls Try.prog 88 #[.int .i32 c] w fun e w' => e = .returned (.int .i64 (tsign c)) ∧ w = w' := by
  by_cases h98 : c = 98
  · subst h98
    go_enter Try.func88, Try.ntmps88
    go_wp2
    go_ret
    exact ⟨rfl, rfl⟩
  by_cases h97 : c = 97
  · subst h97
    go_enter Try.func88, Try.ntmps88
    go_wp2
    go_ret
    exact ⟨rfl, rfl⟩
  have e98 : (c == 98) = false := by simpa using h98
  have e97 : (c == 97) = false := by simpa using h97
  have e : tsign c = 0 := by unfold tsign; rw [if_neg h98, if_neg h97]
  rw [e]
  clear e h98 h97
  go_enter Try.func88, Try.ntmps88
  go_wp2
  go_ret
  exact ⟨rfl, rfl⟩

theorem reftype_any (c : Int) (w : World) : Calls Try.prog 54 #[.int .u8 c] w fun e w' => e = .returned (.int .i64 (tsign c)) ∧ w = w' := by
  by_cases h98 : c = 98
  · subst h98
    go_enter Try.func54, Try.ntmps54
    go_wp2
    go_ret
    exact ⟨rfl, rfl⟩
  by_cases h97 : c = 97
  · subst h97
    go_enter Try.func54, Try.ntmps54
    go_wp2
    go_ret
    exact ⟨rfl, rfl⟩
  have e98 : (c == 98) = false := by simpa using h98
  have e97 : (c == 97) = false := by simpa using h97
  have e : tsign c = 0 := by unfold tsign; rw [if_neg h98, if_neg h97]
  rw [e]
  clear e h98 h97
  go_enter Try.func54, Try.ntmps54
  go_wp2
  go_ret
  exact ⟨rfl, rfl⟩

def chkB (op : Int) : Bool := decide (18 ≤ op) && decide (op ≤ 24)
theorem check_any (op : Int) (w : World) : Calls Try.prog 50 #[.int .i64 op] w fun e w' => e = .returned (.bool (chkB op)) ∧ w = w' := by
  have e : chkB op = (decide (18 ≤ op) && decide (op ≤ 24)) := rfl
  rw [e]
  clear e
  rcases Bool.eq_false_or_eq_true (decide (18 ≤ op)) with h | h
  all_goals
    rw [h]
    go_enter Try.func50, Try.ntmps50
    go_wp2
    go_ret
    exact ⟨ret_bool (by simp), rfl⟩
theorem refcheck_any (op : Int) (w : World) (hop : inI op = true) : Calls Try.prog 55 #[.int .i64 op] w fun e w' => e = .returned (.int .i64 (if chkB op = true then op - 17 else 0)) ∧ w = w' := by
  rw [inI_iff] at hop
  by_cases h1 : op < 18
  · have e : chkB op = false := by simp [chkB]; omega
    rw [e, if_neg (by decide)]
    clear e
    go_enter Try.func55, Try.ntmps55
    go_wp2
    go_ret
    exact ⟨rfl, rfl⟩
  by_cases h2 : 24 < op
  · have e : chkB op = false := by simp [chkB]; omega
    rw [e, if_neg (by decide)]
    clear e
    go_enter Try.func55, Try.ntmps55
    go_wp2
    go_ret
    exact ⟨rfl, rfl⟩
  · have e : chkB op = true := by simp [chkB]; omega
    have h3 : 18 ≤ op := by omega
    have h4 : op ≤ 24 := by omega
    rw [e, if_pos rfl]
    clear e
    go_enter Try.func55, Try.ntmps55
    go_wp2
    go_ret
    exact ⟨rfl, rfl⟩
theorem trap_any (op : Int) (w : World) (hop : inI op = true) : Calls Try.prog 53 #[.int .i64 op] w fun e w' => e = .returned (.int .i64 (if chkB op = true then op - 17 else 0)) ∧ w = w' := by
  have C := kept (fun w => check_any op w)
  rcases Bool.eq_false_or_eq_true (chkB op) with h | h
  · have hb : 18 ≤ op ∧ op ≤ 24 := by simpa [chkB] using h
    obtain ⟨h3, h4⟩ := hb
    rw [h] at C ⊢
    rw [if_pos rfl]
    clear h hop
    go_enter Try.func53, Try.ntmps53
    go_wp2_with fail
    refine (C.out _).mono ?_
    rintro e w' ⟨rfl, rfl⟩
    go_wp2
    go_ret
    exact ⟨ret_int (by omega), rfl⟩
  · rw [h] at C ⊢
    rw [if_neg (by decide)]
    clear h hop
    go_enter Try.func53, Try.ntmps53
    go_wp2_with fail
    refine (C.out _).mono ?_
    rintro e w' ⟨rfl, rfl⟩
    go_wp2
    go_ret
    exact ⟨rfl, rfl⟩
theorem any_any (op : Int) (w : World) : Calls Try.prog 48 #[.int .i64 op] w fun e w' => e = .returned (.bool (op == 1)) ∧ w = w' := by
  go_enter Try.func48, Try.ntmps48
  go_wp2
  go_ret
  exact ⟨rfl, rfl⟩
theorem numbered_any (op : Int) (w : World) : Calls Try.prog 49 #[.int .i64 op] w fun e w' => e = .returned (.bool (op == 0 || op == 25)) ∧ w = w' := by
  rcases Bool.eq_false_or_eq_true (op == 0) with h | h
  · have e : op = 0 := by simpa using h
    subst e
    go_enter Try.func49, Try.ntmps49
    go_wp2
    go_ret
    exact ⟨rfl, rfl⟩
  · rw [h]
    go_enter Try.func49, Try.ntmps49
    go_wp2
    go_ret
    exact ⟨ret_bool (by simp), rfl⟩
theorem opslives (w : World) : Calls Try.prog 38 #[] w fun e w' => e = .returned (.bool true) ∧ Keeps w w' [] := by
  have C1 := kept (fun w => word_yes 2 (by omega) w)
  have C2 := kept (fun w => trap_any 20 w (by decide))
  have e2 : (if chkB 20 = true then (20 : Int) - 17 else 0) = 3 := by rfl
  rw [e2] at C2
  have e1 : kword 2 = ⟨#[97, 100, 100]⟩ := rfl
  rw [e1] at C1
  clear e1 e2
  go_enter Try.func38, Try.ntmps38
  go_wp2_with fail
  refine (C1.out _).mono ?_
  rintro e w1 ⟨rfl, k1⟩
  have K1 := kept k1
  clear k1
  go_wp2_with fail
  refine (C2.out _).mono ?_
  rintro e w2 ⟨rfl, rfl⟩
  go_wp2
  go_ret
  exact ⟨rfl, K1.out⟩
end Go.Proofs.Ytppidnjhdefbiaa
