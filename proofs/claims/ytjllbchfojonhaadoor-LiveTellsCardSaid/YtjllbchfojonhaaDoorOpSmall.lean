/- Package ops: the contracts of typed, Any, Numbered, Check, Trap, and of the document's Type, Check and Rows. -/
import Derived.Test.YtjllbchfojonhaaDoorOpOf
namespace Go.Proofs.YtjllbchfojonhaaDoor
open Go.RowKit
set_option linter.unusedVariables false

def tsign (c : Int) : Int := if c = 98 then 1 else if c = 97 then 2 else 0
theorem typed_any (c : Int) (w : World) : Calls Tryd.prog 99 #[.int .i32 c] w fun e w' => e = .returned (.int .i64 (tsign c)) ∧ w = w' := by
  by_cases h98 : c = 98
  · subst h98
    go_enter Tryd.func99, Tryd.ntmps99
    go_wp2
    go_ret
    exact ⟨rfl, rfl⟩
  by_cases h97 : c = 97
  · subst h97
    go_enter Tryd.func99, Tryd.ntmps99
    go_wp2
    go_ret
    exact ⟨rfl, rfl⟩
  have e98 : (c == 98) = false := by simpa using h98
  have e97 : (c == 97) = false := by simpa using h97
  have e : tsign c = 0 := by unfold tsign; rw [if_neg h98, if_neg h97]
  rw [e]
  clear e h98 h97
  go_enter Tryd.func99, Tryd.ntmps99
  go_wp2
  go_ret
  exact ⟨rfl, rfl⟩
theorem reftype_any (c : Int) (w : World) : Calls Tryd.prog 37 #[.int .u8 c] w fun e w' => e = .returned (.int .i64 (tsign c)) ∧ w = w' := by
  by_cases h98 : c = 98
  · subst h98
    go_enter Tryd.func37, Tryd.ntmps37
    go_wp2
    go_ret
    exact ⟨rfl, rfl⟩
  by_cases h97 : c = 97
  · subst h97
    go_enter Tryd.func37, Tryd.ntmps37
    go_wp2
    go_ret
    exact ⟨rfl, rfl⟩
  have e98 : (c == 98) = false := by simpa using h98
  have e97 : (c == 97) = false := by simpa using h97
  have e : tsign c = 0 := by unfold tsign; rw [if_neg h98, if_neg h97]
  rw [e]
  clear e h98 h97
  go_enter Tryd.func37, Tryd.ntmps37
  go_wp2
  go_ret
  exact ⟨rfl, rfl⟩
def chkB (op : Int) : Bool := decide (18 ≤ op) && decide (op ≤ 24)
theorem check_any (op : Int) (w : World) : Calls Tryd.prog 45 #[.int .i64 op] w fun e w' => e = .returned (.bool (chkB op)) ∧ w = w' := by
  have e : chkB op = (decide (18 ≤ op) && decide (op ≤ 24)) := rfl
  rw [e]
  clear e
  rcases Bool.eq_false_or_eq_true (decide (18 ≤ op)) with h | h
  all_goals
    rw [h]
    go_enter Tryd.func45, Tryd.ntmps45
    go_wp2
    go_ret
    exact ⟨ret_bool (by simp), rfl⟩
theorem refcheck_any (op : Int) (w : World) (hop : -9223372036854775808 ≤ op ∧ op ≤ 9223372036854775807) : Calls Tryd.prog 17 #[.int .i64 op] w fun e w' => e = .returned (.int .i64 (if chkB op = true then op - 17 else 0)) ∧ w = w' := by
  by_cases h1 : op < 18
  · have e : chkB op = false := by simp [chkB]; omega
    rw [e, if_neg (by decide)]
    clear e
    go_enter Tryd.func17, Tryd.ntmps17
    go_wp2
    go_ret
    exact ⟨rfl, rfl⟩
  by_cases h2 : 24 < op
  · have e : chkB op = false := by simp [chkB]; omega
    rw [e, if_neg (by decide)]
    clear e
    go_enter Tryd.func17, Tryd.ntmps17
    go_wp2
    go_ret
    exact ⟨rfl, rfl⟩
  · have e : chkB op = true := by simp [chkB]; omega
    have h3 : 18 ≤ op := by omega
    have h4 : op ≤ 24 := by omega
    rw [e, if_pos rfl]
    clear e
    go_enter Tryd.func17, Tryd.ntmps17
    go_wp2
    go_ret
    exact ⟨rfl, rfl⟩
theorem trap_any (op : Int) (w : World) (hop : -9223372036854775808 ≤ op ∧ op ≤ 9223372036854775807) : Calls Tryd.prog 46 #[.int .i64 op] w fun e w' => e = .returned (.int .i64 (if chkB op = true then op - 17 else 0)) ∧ w = w' := by
  have C := kept (fun w => check_any op w)
  rcases Bool.eq_false_or_eq_true (chkB op) with h | h
  · have hb : 18 ≤ op ∧ op ≤ 24 := by simpa [chkB] using h
    obtain ⟨h3, h4⟩ := hb
    rw [h] at C ⊢
    rw [if_pos rfl]
    clear h hop
    go_enter Tryd.func46, Tryd.ntmps46
    go_wp2_with fail
    refine (C.out _).mono ?_
    rintro e w' ⟨rfl, rfl⟩
    go_wp2
    go_ret
    exact ⟨ret_int (by omega), rfl⟩
  · rw [h] at C ⊢
    rw [if_neg (by decide)]
    clear h hop
    go_enter Tryd.func46, Tryd.ntmps46
    go_wp2_with fail
    refine (C.out _).mono ?_
    rintro e w' ⟨rfl, rfl⟩
    go_wp2
    go_ret
    exact ⟨rfl, rfl⟩
theorem any_any (op : Int) (w : World) : Calls Tryd.prog 69 #[.int .i64 op] w fun e w' => e = .returned (.bool (op == 1)) ∧ w = w' := by
  go_enter Tryd.func69, Tryd.ntmps69
  go_wp2
  go_ret
  exact ⟨rfl, rfl⟩
theorem numbered_any (op : Int) (w : World) : Calls Tryd.prog 96 #[.int .i64 op] w fun e w' => e = .returned (.bool (op == 0 || op == 25)) ∧ w = w' := by
  rcases Bool.eq_false_or_eq_true (op == 0) with h | h
  · have e : op = 0 := by simpa using h
    subst e
    go_enter Tryd.func96, Tryd.ntmps96
    go_wp2
    go_ret
    exact ⟨rfl, rfl⟩
  · rw [h]
    go_enter Tryd.func96, Tryd.ntmps96
    go_wp2
    go_ret
    exact ⟨ret_bool (by simp), rfl⟩


set_option maxRecDepth 100000 in
set_option maxHeartbeats 8000000 in
theorem rows_any (w : World) : Calls Tryd.prog 36 #[] w fun e w' => e = .returned (.slice (some ⟨w.heap.size, 0, none⟩) 27 27) ∧ w' = w.alloc (.cells kcells 82) := by
  go_enter Tryd.func36, Tryd.ntmps36
  go_wp2
  go_ret
  exact ⟨rfl, rfl⟩
theorem kcell (k : Nat) (hk : k < 27) : kcells[k * 3]? = some (.string (kword k)) ∧ kcells[k * 3 + 1]? = some (.string (ktakes k)) ∧ kcells[k * 3 + 2]? = some (.string (kmakes k)) :=
  match k, hk with
  | 0, _ => ⟨rfl, rfl, rfl⟩
  | 1, _ => ⟨rfl, rfl, rfl⟩
  | 2, _ => ⟨rfl, rfl, rfl⟩
  | 3, _ => ⟨rfl, rfl, rfl⟩
  | 4, _ => ⟨rfl, rfl, rfl⟩
  | 5, _ => ⟨rfl, rfl, rfl⟩
  | 6, _ => ⟨rfl, rfl, rfl⟩
  | 7, _ => ⟨rfl, rfl, rfl⟩
  | 8, _ => ⟨rfl, rfl, rfl⟩
  | 9, _ => ⟨rfl, rfl, rfl⟩
  | 10, _ => ⟨rfl, rfl, rfl⟩
  | 11, _ => ⟨rfl, rfl, rfl⟩
  | 12, _ => ⟨rfl, rfl, rfl⟩
  | 13, _ => ⟨rfl, rfl, rfl⟩
  | 14, _ => ⟨rfl, rfl, rfl⟩
  | 15, _ => ⟨rfl, rfl, rfl⟩
  | 16, _ => ⟨rfl, rfl, rfl⟩
  | 17, _ => ⟨rfl, rfl, rfl⟩
  | 18, _ => ⟨rfl, rfl, rfl⟩
  | 19, _ => ⟨rfl, rfl, rfl⟩
  | 20, _ => ⟨rfl, rfl, rfl⟩
  | 21, _ => ⟨rfl, rfl, rfl⟩
  | 22, _ => ⟨rfl, rfl, rfl⟩
  | 23, _ => ⟨rfl, rfl, rfl⟩
  | 24, _ => ⟨rfl, rfl, rfl⟩
  | 25, _ => ⟨rfl, rfl, rfl⟩
  | 26, _ => ⟨rfl, rfl, rfl⟩
  | n + 27, h => absurd h (by omega)
end Go.Proofs.YtjllbchfojonhaaDoor
