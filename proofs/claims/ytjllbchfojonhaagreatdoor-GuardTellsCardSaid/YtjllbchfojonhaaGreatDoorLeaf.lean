/- Package scan: letter, digit, inner, Runes; contracts. -/
import Derived.Test.YtjllbchfojonhaaGreatDoorTabs
namespace Go.Proofs.YtjllbchfojonhaaGreatDoor
open Go.RowKit
set_option linter.unusedVariables false

theorem letter_any (r : Int) (w : World) (ht : Tabs w) (h1 : -2147483648 ≤ r) (h2 : r ≤ 2147483647) :
  Calls Tryz.prog 140 #[.int .i32 r] w fun e w' => e = .returned (.bool (letterB r)) ∧ Keeps w w' [] := by
 obtain ⟨L, hL⟩ : ∃ L, Lib.isLetterU r = L := ⟨_, rfl⟩
 have C := isLetter_any r w ht h1 h2
 rw [hL] at C
 have CC := kept C
 have HL := kept hL
 clear C hL
 by_cases h : r = 65533
 ·subst h
  cases L
  all_goals
   go_enter Tryz.func140, Tryz.ntmps140
   go_wp2_with fail
   refine (CC.out).mono ?_
   rintro e w1 ⟨rfl, k1⟩
   go_wp2
   go_ret
   exact ⟨ret_bool (by simp [letterB]), ⟨k1.os, k1.tape, k1.output, k1.size, k1.block⟩⟩
 ·have hb : (r != 65533) = true := by simpa using h
  have hb2 : (r == 65533) = false := by simpa using h
  cases L
  all_goals
   go_enter Tryz.func140, Tryz.ntmps140
   go_wp2_with fail
   refine (CC.out).mono ?_
   rintro e w1 ⟨rfl, k1⟩
   go_wp2
   go_ret
   exact ⟨ret_bool (by simp [letterB, HL.out, hb2]), ⟨k1.os, k1.tape, k1.output, k1.size, k1.block⟩⟩

theorem digit_any (r : Int) (w : World) : Calls Tryz.prog 143 #[.int .i32 r] w fun e w' => e = .returned (.bool (digitB r)) ∧ w = w' := by
 by_cases h1 : 48 ≤ r <;> by_cases h2 : r ≤ 57
 all_goals
  go_enter Tryz.func143, Tryz.ntmps143
  go_wp2
  go_ret
  exact ⟨ret_bool (by simp [digitB, h1, h2]), rfl⟩

theorem inner_any (r : Int) (w : World) (ht : Tabs w) (h1 : -2147483648 ≤ r) (h2 : r ≤ 2147483647) :
  Calls Tryz.prog 141 #[.int .i32 r] w fun e w' => e = .returned (.bool (innerB r)) ∧ Keeps w w' [] := by
 obtain ⟨L, hL⟩ : ∃ L, letterB r = L := ⟨_, rfl⟩
 obtain ⟨D, hD⟩ : ∃ L, digitB r = L := ⟨_, rfl⟩
 obtain ⟨A, hA⟩ : ∃ L, (r == 46) = L := ⟨_, rfl⟩
 obtain ⟨B, hB⟩ : ∃ L, (r == 95) = L := ⟨_, rfl⟩
 have C := letter_any r w ht h1 h2
 have E := fun w => digit_any r w
 rw [hL] at C
 rw [hD] at E
 have CC := kept C
 have EE := kept E
 have HX : Hid (innerB r = (L || D || A || B)) := by unfold innerB; rw [hL, hD, hA, hB]; exact rfl
 clear C E hL hD
 cases L <;> cases D <;> cases A <;> cases B
 all_goals
  go_enter Tryz.func141, Tryz.ntmps141
  go_wp2_with fail
  refine (CC.out).mono ?_
  rintro e w1 ⟨rfl, k1⟩
  have K1 := kept k1
  clear k1
  go_wp2_with (refine (EE.out _).mono ?_; rintro e w2 ⟨rfl, rfl⟩)
  go_ret
  exact ⟨ret_bool (by rw [HX.out]; rfl), K1.out⟩

set_option maxHeartbeats 1000000 in
theorem runes_any (s : ByteArray) (w : World) (hs : s.size ≤ 9223372036854775807) :
  Calls Tryz.prog 142 #[.string s] w fun e w' => e = .returned (.int .i64 (Lib.runeCount s)) ∧ Keeps w w' [] := by
 have hc := Lib.runeCount_le s
 go_enter Tryz.func142, Tryz.ntmps142
 go_wp2
 go_loopw [3] (fun v wr => ∃ (pos fuel n : Nat), v = .int .i64 n ∧ wr.heap[w.heap.size]? = some (.stringIter s pos) ∧ Keeps w wr [] ∧ Hid (n + Lib.runeCountFrom s fuel pos = Lib.runeCount s) ∧ n ≤ pos ∧ s.size ≤ pos + fuel) (fun _ wr => s.size - wr.iterPos w.heap.size)
 case atStart => exact ⟨0, s.size, 0, rfl, World.iter_heap w s 0, (Keeps.refl _ _).alloc _, by simp [Hid, Lib.runeCount], by omega, by omega⟩
 case round =>
  obtain ⟨pos, fuel, n, rfl, hit, hk, HS, hn, hf⟩ := hrel
  have hpos0 := iterPos_of hit
  by_cases hp : pos < s.size
  ·have hnx : ∀ ty, (Instr.next (.pointer (some ⟨w.heap.size, 0, none⟩)) true ty).run Tryz.prog wr = _ := fun ty => Lib.run_next_any_at wr w.heap.size s pos ty hit hp
   have hwd := Lib.decode_width_pos s pos hp
   obtain ⟨fuel, rfl⟩ : ∃ f', fuel = f' + 1 := ⟨fuel - 1, by omega⟩
   have hit2 := Lib.iterAt_heap wr w.heap.size s pos (pos + (Utf8.decode s pos).2) hit
   have hk2 := hk.iterAt (k := w.heap.size) (.inr (Nat.le_refl _)) s (pos + (Utf8.decode s pos).2)
   have HE := kept (runes_step (f := fuel) hp)
   have HH := kept hit2
   have HK := kept hk2
   have HP := kept hpos0
   clear hit hk hit2 hk2 hpos0
   go_wp2
   go_roundw
   case rel => exact ⟨_, fuel, n + 1, by go_num, HH.out, HK.out, (by show _ = _; rw [← HS.out, HE.out]; omega), by omega, by omega⟩
   case measure => rw [iterPos_of HH.out, HP.out]; omega
  ·have hnx : ∀ ty, (Instr.next (.pointer (some ⟨w.heap.size, 0, none⟩)) true ty).run Tryz.prog wr = _ := fun ty => Lib.run_next_end_at wr w.heap.size s pos ty hit hp
   have HK := kept hk
   have HE := kept (Lib.runeCountFrom_end s fuel pos hp)
   clear hit hk hpos0
   go_wp2
   go_ret
   exact ⟨ret_int (by have := HS.out; rw [HE.out] at this; omega), HK.out⟩
end Go.Proofs.YtjllbchfojonhaaGreatDoor
