/- The document's guard: among, Is, Leads; contracts. -/
import Derived.Test.YtjllbchfojonhaaGreatDoorB2
namespace Go.Proofs.YtjllbchfojonhaaGreatDoor
open Go.RowKit
set_option linter.unusedVariables false
set_option linter.unusedSimpArgs false

theorem contains_no {l : List Int} {v : Int} (h : ∀ t, t < l.length → ¬ l[t]! = v) : l.contains v = false := by
  rw [Bool.eq_false_iff]
  intro hc
  obtain ⟨i, hi, e⟩ := List.mem_iff_getElem.1 (List.contains_iff_mem.1 hc)
  exact h i hi (by rw [getElem!_pos l i hi]; exact e)
theorem contains_yes {l : List Int} {v : Int} {t : Nat} (ht : t < l.length) (h : l[t]! = v) : l.contains v = true := by
  rw [List.contains_iff_mem, ← h, getElem!_pos l t ht]; exact List.getElem_mem ht
set_option maxRecDepth 100000 in
set_option maxHeartbeats 200000000 in
theorem among_any (v : Int) (q : IntsM) (w : World) (hq : IntsAt w q) : Calls Tryz.prog 69 #[.int .i64 v, q.1] w fun e w' => e = .returned (.bool (q.2.contains v)) ∧ w = w' := by
  obtain ⟨a, c, e, hl1, hl2, hc⟩ := Row.open_ (M := Int) (cells := intCells) (show Row w 1 q.1 (q.2.map intCells) from hq)
  rw [e]
  have hnb : q.2.length ≤ 9223372036854775807 := by unfold maxLen at hl2; omega
  have HC := kept hc
  have HN := kept (fun h => contains_no (l := q.2) (v := v) h)
  have HY := kept (fun t ht h => contains_yes (l := q.2) (v := v) (t := t) ht h)
  generalize q.2.contains v = R at *
  clear hc hq e hl1 hl2
  generalize hn : q.2.length = n at *
  have HNL := kept hn
  clear hn
  go_enter Tryz.func69, Tryz.ntmps69
  go_wp2
  go_loopw [9] (fun i' wx => ∃ j : Nat, j ≤ n ∧ i' = .int .i64 j ∧ w = wx ∧ Hid (∀ t, t < j → ¬ q.2[t]! = v)) (fun i' _ => n - (intOf i').toNat)
  case atStart => exact ⟨0, Nat.zero_le _, rfl, rfl, fun t ht => absurd ht (Nat.not_lt_zero _)⟩
  case round =>
    obtain ⟨j, hj, rfl, rfl, hno⟩ := hrel
    have HNO := kept hno.out
    clear hno
    by_cases hlt : j < n
    · have hltz : (j : Int) < (n : Int) := by omega
      obtain ⟨b, o, rfl, hb, hcell⟩ := HC.out j (by first | exact hlt | (rw [HNL.out]; exact hlt))
      have x0 := hcell 0 _ rfl
      simp only [Nat.mul_one, Nat.add_zero] at x0
      clear hcell HC
      have HZ := kept (show q.2[j]! = q.2[j]! from rfl)
      generalize hz : q.2[j]! = z at x0
      have HZJ := kept hz
      clear hz HZ
      by_cases hzv : z = v
      · subst hzv
        go_wp2
        go_ret
        exact ⟨ret_bool (HY.out j hlt HZJ.out).symm, rfl⟩
      · have hzb : (z == v) = false := by simpa using hzv
        go_wp2
        go_roundw
        case rel => exact ⟨j + 1, by omega, by go_num, by first | rfl | trivial, fun t ht => by rcases Nat.lt_succ_iff_lt_or_eq.1 ht with h | h; exact HNO.out t h; rw [h, HZJ.out]; exact hzv⟩
        case measure => simp [intOf]; omega
    · have hltz : ¬ (j : Int) < (n : Int) := by omega
      go_wp2
      go_ret
      exact ⟨ret_bool (HN.out (fun t ht => HNO.out t (by omega))).symm, rfl⟩
end Go.Proofs.YtjllbchfojonhaaGreatDoor
