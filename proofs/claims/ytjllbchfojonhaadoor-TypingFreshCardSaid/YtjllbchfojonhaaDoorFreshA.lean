/- Names that aren't taken: digits, Itoa, Fresh; contracts. -/
import Derived.Test.YtjllbchfojonhaaDoorLives6
import Derived.Test.YtjllbchfojonhaaDoorDec
import Derived.Test.YtjllbchfojonhaaDoorFreshLaw
import Derived.Test.YtjllbchfojonhaaDoorShelfIt
import Derived.Test.YtjllbchfojonhaaDoorMapStr
import Derived.Test.YtjllbchfojonhaaDoorUnlike
import Derived.Test.YtjllbchfojonhaaDoorOwnX
import Derived.Laws.IdiomStrings
import Derived.Lib.AppendIntMem
namespace Go.Proofs.YtjllbchfojonhaaDoor
open Go.RowKit Go.Lib Go.Shelf
set_option linter.unusedVariables false
set_option linter.unusedSimpArgs false

structure TabsF (w : World) : Prop where
  tabs : Tabs w
  pow : Lib.TabIs Tryd.prog w "internal/strconv.uint64pow10" .u64 Lib.pow10Tab
theorem TabsF.keep {w w' : World} (h : TabsF w) (k : Keeps w w' []) : TabsF w' :=
  ⟨h.tabs.keep k, TabIs_below (show Tryd.prog.globalNamed "internal/strconv.uint64pow10" = some 3 by kernel_rfl) h.pow k.below_⟩
def nm (k : Nat) : ByteArray := ⟨#[120]⟩ ++ ⟨(decDigits k).toArray⟩
theorem nm_data (k : Nat) : (nm k).data.toList = 120 :: decDigits k := by
  unfold nm
  rw [Go.Joins.data_append]
  rfl
theorem nm_inj : ∀ i j, nm i = nm j → i = j := by
  intro i j h
  have h2 := congrArg (fun b : ByteArray => b.data.toList) h
  simp only [nm_data, List.cons.injEq, true_and] at h2
  have h3 := congrArg (val 0) h2
  rwa [val_dec, val_dec] at h3
theorem nm_size (k : Nat) (hk : k ≤ 100000) : (nm k).size ≤ 30 := by
  have h := dec_len 5 k (by omega)
  have e : (nm k).size = (nm k).data.toList.length := by rw [Array.length_toList]; rfl
  rw [e, nm_data, List.length_cons]
  omega
theorem itoa_any (k : Nat) (hk : k ≤ 100000) (w : World) (ht : TabsF w) : Calls Tryd.prog 56 #[.int .i64 k] w fun e w' => e = .returned (.string ⟨(decDigits k).toArray⟩) ∧ Keeps w w' [] := by
  refine (show Calls Tryd.prog 56 #[.int .i64 k] w fun e w' => e = .returned (.string ⟨(Lib.itoa (k : Int)).toArray⟩) ∧ ∃ k os, w' = Sort.grow (w.drewN k) os from Any.strconv_Itoa Tryd.laysM171 (k : Int) (by omega) (by omega) w ht.pow).mono ?_
  rintro e w' ⟨rfl, q, os, rfl⟩
  refine ⟨?_, Keeps.of_below (below_grow _ w (Nat.le_refl _) q os)⟩
  have e : Lib.itoa (k : Int) = decDigits k := by unfold Lib.itoa; rw [if_neg (by omega)]; rfl
  rw [e]
set_option maxRecDepth 100000 in
set_option maxHeartbeats 2000000 in
theorem digits_any (k : Nat) (hk : k ≤ 100000) (w : World) : Calls Tryd.prog 33 #[.int .i64 k] w fun e w' => e = .returned (.string ⟨(decDigits k).toArray⟩) ∧ Keeps w w' [] := by
  go_enter Tryd.func33, Tryd.ntmps33
  go_wp2
  go_loopw [0, 3] (fun a s wr => ∃ (u : Nat) (r : List UInt8), a = .int .i64 u ∧ s = .string ⟨r.toArray⟩ ∧ Hid (decDigits k = decDigits u ++ r) ∧ Keeps w wr [] ∧ r.length + u ≤ 100000) (fun a _ _ => (intOf a).toNat)
  case atStart => exact ⟨k, [], rfl, rfl, by simp [Hid], Keeps.refl w [], by simpa using hk⟩
  case round =>
    obtain ⟨u, r, rfl, rfl, HE, hr, hu⟩ := hrel
    have HK := kept hr
    clear hr
    have hm10 : u % 10 < 10 := Nat.mod_lt _ (by decide)
    have hcu : (((UInt8.ofNat (48 + u % 10)).toNat : Nat) : Int) = 48 + (u : Int) % 10 := by rw [ofNat_dig hm10]; omega
    have hb := Blk.new wr 5 #[.int .u8 (48 + (u : Int) % 10)]
    have hcv := run_convert_bytes_back (P := Tryd.prog) (wr.alloc (.cells #[.int .u8 (48 + (u : Int) % 10)] 5)) 108 9 5 ⟨wr.heap.size, 0, none⟩ 1 [UInt8.ofNat (48 + u % 10)] Tryd.underlying108 Tryd.underlying5 Tryd.underlying9 (fun j hj => by
      have hj0 : j = 0 := by simp at hj; omega
      subst hj0
      rw [add_plain, hb.cell]
      simp only [List.getElem_cons_zero]
      rw [hcu]
      rfl)
    simp only [List.length_cons, List.length_nil, Nat.zero_add] at hcv
    have HK2 := kept (HK.out.alloc (.cells #[.int .u8 (48 + (u : Int) % 10)] 5))
    have hss : ¬ (9223372036854775807 : Int) < (((⟨[UInt8.ofNat (48 + u % 10)].toArray⟩ : ByteArray).size : Int) + ((⟨r.toArray⟩ : ByteArray).size : Int)) := by
      have e1 : (⟨[UInt8.ofNat (48 + u % 10)].toArray⟩ : ByteArray).size = 1 := rfl
      have e2 : (⟨r.toArray⟩ : ByteArray).size = r.length := rfl
      rw [e1, e2]; omega
    have happ : (⟨[UInt8.ofNat (48 + u % 10)].toArray⟩ : ByteArray) ++ ⟨r.toArray⟩ = ⟨(UInt8.ofNat (48 + u % 10) :: r).toArray⟩ := by
      apply ByteArray.ext
      apply Array.toList_inj.1
      rw [Go.Joins.data_append]
      rfl
    have HA := kept happ
    clear hb hcu happ
    obtain ⟨c, hc⟩ : ∃ c, UInt8.ofNat (48 + u % 10) = c := ⟨_, rfl⟩
    rw [hc] at hcv HA hss
    have HCc := kept hc
    clear hc
    by_cases h10 : (u : Int) < 10
    · have HD := kept (show decDigits k = c :: r by rw [HE.out, dec_small (by omega), ← HCc.out, Nat.mod_eq_of_lt (by omega)]; rfl)
      go_wp2
      go_ret
      exact ⟨by rw [HD.out]; rfl, HK2.out⟩
    · have HD := kept (show decDigits k = decDigits (u / 10) ++ (c :: r) by rw [HE.out, dec_big (show ¬ u < 10 by omega), ← HCc.out, List.append_assoc]; rfl)
      go_wp2
      go_roundw
      case rel => exact ⟨u / 10, c :: r, by go_num, by rw [HA.out], HD.out, HK2.out, by rw [List.length_cons]; omega⟩
      case measure => simp [intOf]; omega
end Go.Proofs.YtjllbchfojonhaaDoor
