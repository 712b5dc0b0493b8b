/- One instruction of the document's interpreter: small words. -/
import Derived.Test.YtjllbchfojonhaaDoorR8C
import Derived.Test.YtjllbchfojonhaaDoorB5
import Derived.Test.YtjllbchfojonhaaDoorB3
import Derived.Deep.RegionHeld3
namespace Go.Proofs.YtjllbchfojonhaaDoor
open Go.RowKit
set_option linter.unusedVariables false
set_option linter.unusedSimpArgs false

theorem rows_word (z : Nat) (hz : z < 27) (w : World) : Calls Tryd.prog 36 #[] w fun e w' => ∃ gb, e = .returned (.slice (some ⟨gb, 0, none⟩) 27 27) ∧ Keeps w w' [] ∧ w'.cell? ⟨gb, z * 3, none⟩ = some (.string (kword z)) :=
 (rows_any w).mono fun e w' ⟨h1, h2⟩ => ⟨_, h1, by rw [h2]; exact (Keeps.refl w []).alloc _, by rw [h2, (Blk.new w 82 kcells).cell]; exact (kcell z hz).1⟩
theorem info2 : (Tryd.prog.info? 2).map (fun i => (i.zero, i.size, i.bytes)) = some (some (.int .i64 0), 1, 8) := by kernel_rfl
theorem info61 : (Tryd.prog.info? 61).map (fun i => (i.zero, i.size, i.bytes)) = some (some (.slice none 0 0), 1, 24) := by kernel_rfl
theorem made_ints (q : Nat) : madeCells (Value.int .i64 0).cells q = i64C (List.replicate q 0) := by
 unfold i64C
 apply Array.ext
 ·rw [size_madeCells]; simp
 ·intro i h1 h2
  unfold madeCells
  simp [Value.cells, Nat.mod_one]
theorem make_ints (q : Nat) (hq : q ≤ 1000) (w : World) : (Instr.makeSlice 61 (.int .i64 (q : Int)) (.int .i64 (q : Int))).run Tryd.prog w = .ok (.slice (some ⟨w.heap.size, 0, none⟩) q q) (w.alloc (.cells (i64C (List.replicate q 0)) 2)) := by
 obtain ⟨i, hi, he⟩ := Option.map_eq_some_iff.1 info2
 simp only [Prod.mk.injEq] at he
 obtain ⟨hz, hsz, hby⟩ := he
 have hr := Go.run_makeSlice (P := Tryd.prog) (w := w) 61 2 i (.int .i64 0) (by kernel_rfl) hi hz .i64 .i64 (q : Int) (q : Int) (by omega) (Int.le_refl _) (by rw [hsz]; omega) (by rw [hby]; omega) (by omega)
 rw [hsz, Int.toNat_natCast, Nat.mul_one, made_ints] at hr
 exact hr
theorem own_made {w : World} {base g : Nat} {l : List Int} (h : Blk w g 2 (i64C l)) (hb : base ≤ g) (hl : l.length ≤ 1000) : w.ownsRow base 2 1 (.slice (some ⟨g, 0, none⟩) l.length l.length) l.length (l.map (Value.int .i64)) :=
 ⟨by simp, .inr ⟨g, l.length, i64C l, rfl, hb, h, Nat.le_refl _, by unfold maxLen; omega, by simp [i64C], by rw [Nat.mul_one, List.take_of_length_le (by simp [i64C])]; rfl⟩⟩
theorem list8 {α : Type} {l : List α} (h : l.length = 8) : ∃ a b c d e f g i, l = [a, b, c, d, e, f, g, i] := by match l, h with | [a, b, c, d, e, f, g, i], _ => exact ⟨a, b, c, d, e, f, g, i, rfl⟩
theorem stateC_chk (R : RepM) (f : FuncM) (n : Nat) (s : StM) (t c : Nat) (ht : t < 8) (h8 : s.out.checks.length = 8) : (stateC R f n s).setIfInBounds (14 + t) (.int .i64 ((c : Nat) + 1 : Int)) = stateC R f n { s with out := { s.out with checks := s.out.checks.set t (c + 1) } } := by
 obtain ⟨c0, c1, c2, c3, c4, c5, c6, c7, e⟩ := list8 h8
 rcases (show t = 0 ∨ t = 1 ∨ t = 2 ∨ t = 3 ∨ t = 4 ∨ t = 5 ∨ t = 6 ∨ t = 7 by omega) with rfl | rfl | rfl | rfl | rfl | rfl | rfl | rfl <;> simp [stateC, e]
theorem stateC_trap (R : RepM) (f : FuncM) (n : Nat) (s : StM) (z : Int) : (stateC R f n s).setIfInBounds 11 (.int .i64 z) = stateC R f n { s with out := { s.out with trap := z } } := by simp [stateC]
theorem nth_memN {l : List Nat} {i : Nat} (h : i < l.length) : l[i]! ∈ l := by rw [getElem!_pos l i h]; exact List.getElem_mem h
theorem ints_cells0 {w : World} {v : Value} (h : IntsAt w (v, [])) : ∃ a cap, v = .slice a 0 cap := by
 obtain ⟨a, cap, e, _⟩ := h
 exact ⟨a, cap, e⟩

end Go.Proofs.YtjllbchfojonhaaDoor
