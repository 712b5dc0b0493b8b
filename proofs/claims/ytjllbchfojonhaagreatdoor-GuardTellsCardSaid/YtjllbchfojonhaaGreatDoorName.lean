/- Package scan: Name; the document's Name; contracts. -/
import Derived.Test.YtjllbchfojonhaaGreatDoorLeaf
namespace Go.Proofs.YtjllbchfojonhaaGreatDoor
open Go.RowKit
set_option linter.unusedVariables false

theorem nameB_of {s : ByteArray} (h0 : s.size ≠ 0) (h : nameFrom s s.size 0 = true) : nameB s = decide (Lib.runeCount s ≤ 16) := by simp [nameB, h, h0]
theorem nameB_no {s : ByteArray} (h : nameFrom s s.size 0 = false) : nameB s = false := by simp [nameB, h]
theorem nameB_empty {s : ByteArray} (h : s.size = 0) : nameB s = false := by simp [nameB, h]
theorem okAt_parts (pos : Nat) (r : Int) (Z L I : Bool) (hz : (pos == 0) = Z) (hL : letterB r = L) (hI : innerB r = I) : okAt pos r = !((Z && !L) || !I) := by
  unfold okAt; rw [hz, hL, hI]

theorem name_any (s : ByteArray) (w : World) (ht : Tabs w) (hs : s.size ≤ 9223372036854775807) :
    Calls Tryz.prog 136 #[.string s] w fun e w' => e = .returned (.bool (nameB s)) ∧ Keeps w w' [] := by
  by_cases h0 : s.size = 0
  · have hss : s = ⟨#[]⟩ := ByteArray.ext (Array.eq_empty_of_size_eq_zero h0)
    subst hss
    have hrl : ∀ wr : World, wr.heap[w.heap.size]? = some (.stringIter ⟨#[]⟩ 0) → ∀ ty, (Instr.next (.pointer (some ⟨w.heap.size, 0, none⟩)) true ty).run Tryz.prog wr = _ := fun wr h ty => Lib.run_next_end_at wr w.heap.size ⟨#[]⟩ 0 ty h (by show ¬ 0 < 0; omega)
    have hnx := hrl _ (World.iter_heap w ⟨#[]⟩ 0)
    clear hrl
    go_enter Tryz.func136, Tryz.ntmps136
    go_wp2
    go_loopw [3] (fun v wr => wr = w.iter ⟨#[]⟩ 0) (fun _ wr => 0)
    case atStart => rfl
    case round =>
      subst hrel
      go_wp2
      go_ret
      exact ⟨rfl, (Keeps.refl _ _).alloc _⟩
  have hem : s.toList.isEmpty = false := by
    rw [ByteArray.toList_eq]
    cases hd : s.data.toList with
    | nil => exact absurd (by rw [← ByteArray.size_data, ← Array.length_toList, hd]; rfl) h0
    | cons a l => rfl
  obtain ⟨N, hN⟩ : ∃ N, nameFrom s s.size 0 = N := ⟨_, rfl⟩
  have HN := kept hN
  clear hN
  go_enter Tryz.func136, Tryz.ntmps136
  go_wp2
  go_loopw [3] (fun v wr => ∃ (pos fuel : Nat), wr.heap[w.heap.size]? = some (.stringIter s pos) ∧ Keeps w wr [] ∧ Hid (nameFrom s fuel pos = N) ∧ s.size ≤ pos + fuel) (fun _ wr => s.size - wr.iterPos w.heap.size)
  case atStart => exact ⟨0, s.size, World.iter_heap w s 0, (Keeps.refl _ _).alloc _, HN, by omega⟩
  case round =>
    obtain ⟨pos, fuel, hit, hk, HS, hf⟩ := hrel
    have hpos0 := iterPos_of hit
    by_cases hp : pos < s.size
    · have hnx : ∀ ty, (Instr.next (.pointer (some ⟨w.heap.size, 0, none⟩)) true ty).run Tryz.prog wr = _ := fun ty => Lib.run_next_any_at wr w.heap.size s pos ty hit hp
      have hwd := Lib.decode_width_pos s pos hp
      obtain ⟨fuel, rfl⟩ : ∃ f', fuel = f' + 1 := ⟨fuel - 1, by omega⟩
      have hit2 := Lib.iterAt_heap wr w.heap.size s pos (pos + (Utf8.decode s pos).2) hit
      have hk2 := hk.iterAt (k := w.heap.size) (.inr (Nat.le_refl _)) s (pos + (Utf8.decode s pos).2)
      obtain ⟨W1, hW1⟩ : ∃ W1, W1 = wr.iterAt w.heap.size s (pos + (Utf8.decode s pos).2) := ⟨_, rfl⟩
      rw [← hW1] at hnx hit2 hk2
      have ht1 := ht.keep hk2
      have hr1 := decode_le s pos
      have HY := kept (nameFrom_yes (f := fuel) hp)
      have HNo := kept (nameFrom_no (f := fuel) hp)
      have CL := kept (fun w h => letter_any ((Utf8.decode s pos).1 : Int) w h (by omega) (by omega))
      have CI := kept (fun w h => inner_any ((Utf8.decode s pos).1 : Int) w h (by omega) (by omega))
      obtain ⟨Z, hZ⟩ : ∃ Z, (pos == 0) = Z := ⟨_, rfl⟩
      obtain ⟨L, hL⟩ : ∃ Z, letterB ((Utf8.decode s pos).1 : Int) = Z := ⟨_, rfl⟩
      obtain ⟨I, hI⟩ : ∃ Z, innerB ((Utf8.decode s pos).1 : Int) = Z := ⟨_, rfl⟩
      have HO := kept (okAt_parts pos ((Utf8.decode s pos).1 : Int) Z L I hZ hL hI)
      rw [hL] at CL
      rw [hI] at CI
      have hZi : ((pos : Int) == 0) = Z := by rw [← hZ, Bool.eq_iff_iff]; simp
      have HT := kept ht1
      have HH := kept hit2
      have HK := kept hk2
      have HP := kept hpos0
      clear hL hI hZ hit hk hit2 hk2 hpos0 hW1 ht1 hr1
      cases Z <;> cases L <;> cases I
      all_goals
        go_wp2_with (first
          | (go_at_call 140; refine (CL.out _ HT.out).mono ?_; rintro e w1 ⟨rfl, k1⟩; have HH1 := kept (k1.iterOf HH.out); have HK1 := kept (HK.out.and_then k1); have HT1 := kept (HT.out.keep k1); clear HH HK HT k1)
          | (go_at_call 141; refine (CI.out _ (by first | exact HT.out | exact HT1.out)).mono ?_; rintro e w2 ⟨rfl, k2⟩; first | (have HH2 := kept (k2.iterOf HH.out); have HK2 := kept (HK.out.and_then k2)) | (have HH2 := kept (k2.iterOf HH1.out); have HK2 := kept (HK1.out.and_then k2)); clear k2))
        first
          | (go_roundw
             case rel => exact ⟨_, fuel, HH2.out, HK2.out, (by show _ = _; rw [← HS.out, HY.out (by rw [HO.out]; rfl)]), by omega⟩
             case measure => rw [iterPos_of HH2.out, HP.out]; omega)
          | (go_ret
             refine ⟨ret_bool (nameB_no (by rw [HN.out, ← HS.out, HNo.out (by rw [HO.out]; rfl)])).symm, ?_⟩
             first | exact HK2.out | exact HK1.out)
    · have hnx : ∀ ty, (Instr.next (.pointer (some ⟨w.heap.size, 0, none⟩)) true ty).run Tryz.prog wr = _ := fun ty => Lib.run_next_end_at wr w.heap.size s pos ty hit hp
      have HK := kept hk
      have HE := kept (nameFrom_end (s := s) (f := fuel) hp)
      have CR := kept (fun w => runes_any s w hs)
      clear hit hk hpos0
      have HB := kept (nameB_of h0)
      clear h0
      by_cases h16 : Lib.runeCount s ≤ 16
      all_goals
        go_wp2_with (refine (CR.out _).mono ?_; rintro e w1 ⟨rfl, k1⟩; have K1 := kept k1; clear k1)
        go_ret
        exact ⟨ret_bool (by rw [HB.out (by rw [HN.out, ← HS.out, HE.out])]; simp; omega), HK.out.and_then K1.out⟩
end Go.Proofs.YtjllbchfojonhaaGreatDoor
