/- The walk of the law ScanNames. -/
import Derived.Test.YthcdibpajdnjaaaDoorLives
namespace Go.Proofs.YthcdibpajdnjaaaDoor
open Go.RowKit
set_option linter.unusedVariables false

/-- the place of the first colon among the first k -/
def atI (p k : Nat) : Int := if p < k then (p : Int) else -1
theorem atI_low {p k : Nat} (h : k ≤ p) : atI p k = -1 := if_neg (by omega)
theorem atI_high {p k : Nat} (h : p < k) : atI p k = p := if_pos h
theorem extract_head (s : ByteArray) (x r : List UInt8) (h : s.data.toList = x ++ r) : s.extract 0 x.length = str x := by
  apply ByteArray.ext
  apply Array.toList_inj.1
  rw [Lib.extract_from_zero, h]
  simp [str]
theorem extract_tail (s : ByteArray) (x r : List UInt8) (c : UInt8) (h : s.data.toList = x ++ c :: r) : s.extract (x.length + 1) s.size = str r := by
  apply ByteArray.ext
  apply Array.toList_inj.1
  rw [Lib.ext_list, h]
  simp [str]
/-- a name, a colon, and the rest -/
theorem pair_cases (s : ByteArray) (w : World) (ht : Tabs w) (hs : s.size < 4294967281) : ∃ (p : Nat) (a b x : ByteArray) (ok : Bool),
    (Calls Tryd.prog 11 #[.string s] w fun e w' => e = .returned (.tuple #[.string a, .string b, .bool ok]) ∧ Keeps w w' []) ∧ p ≤ s.size ∧ (∀ k (hk : k < s.size), k < p → ((s[k]'hk).toNat : Int) ≠ 58) ∧ (∀ hk : p < s.size, ((s[p]'hk).toNat : Int) = 58) ∧
    ((p < s.size ∧ nameB x = true ∧ s.extract 0 p = x ∧ x = a ∧ s.extract (p + 1) s.size = b ∧ ok = true) ∨
     (p < s.size ∧ nameB x = false ∧ s.extract 0 p = x ∧ a = ⟨#[]⟩ ∧ b = ⟨#[]⟩ ∧ ok = false) ∨
     (p = s.size ∧ a = ⟨#[]⟩ ∧ b = ⟨#[]⟩ ∧ ok = false)) := by
  have C := pair_any s w ht hs
  have hget : ∀ k (hk : k < s.size), s.data.toList[k]? = some (s[k]'hk) := fun k hk => by
    rw [List.getElem?_eq_getElem (by rw [← Lib.size_eq]; exact hk)]
    rfl
  have hn58 : ∀ b : UInt8, b ≠ 58 → ((b.toNat : Int)) ≠ 58 := fun b hb h => hb (UInt8.toNat_inj.1 (by simpa using (by omega : b.toNat = 58)))
  rcases cut_eq 58 s.data.toList with ⟨r, h1, h2, h3⟩ | ⟨h1, h2, h3⟩
  · clear h2
    generalize before 58 s.data.toList = X at *
    have hp : X.length < s.size := by
      rw [Lib.size_eq, h1, List.length_append, List.length_cons]
      omega
    have hlow : ∀ k (hk : k < s.size), k < X.length → ((s[k]'hk).toNat : Int) ≠ 58 := fun k hk hkp => by
      have e := hget k hk
      rw [h1, List.getElem?_append_left hkp, List.getElem?_eq_getElem hkp] at e
      rw [← Option.some.inj e]
      exact hn58 _ (h3 _ (List.getElem_mem hkp))
    have hat : ∀ hk : X.length < s.size, ((s[X.length]'hk).toNat : Int) = 58 := fun hk => by
      have e := hget _ hk
      rw [h1, List.getElem?_append_right (Nat.le_refl _), Nat.sub_self] at e
      have e2 : (58 : UInt8) = s[X.length]'hk := Option.some.inj e
      rw [← e2]
      rfl
    have h58 : ¬ ∀ b ∈ s.data.toList, b ≠ 58 := fun h => h 58 (by rw [h1]; simp) rfl
    cases hN : nameB (str X) with
    | true =>
      refine ⟨X.length, str X, str r, str X, true, C.mono ?_, by omega, hlow, hat, .inl ⟨hp, hN, extract_head s X _ h1, rfl, extract_tail s X r 58 h1, rfl⟩⟩
      rintro e w' ⟨hk, ⟨r', h4, _, ⟨_, rfl⟩ | ⟨h5, _⟩⟩ | ⟨h5, _⟩⟩
      · have := List.append_cancel_left (h1.symm.trans h4)
        simp only [List.cons.injEq, true_and] at this
        rw [this]
        exact ⟨rfl, hk⟩
      · rw [hN] at h5; cases h5
      · exact absurd h5 h58
    | false =>
      refine ⟨X.length, ⟨#[]⟩, ⟨#[]⟩, str X, false, C.mono ?_, by omega, hlow, hat, .inr (.inl ⟨hp, hN, extract_head s X _ h1, rfl, rfl, rfl⟩)⟩
      rintro e w' ⟨hk, ⟨r', h4, _, ⟨h5, _⟩ | ⟨_, rfl⟩⟩ | ⟨h5, _⟩⟩
      · rw [hN] at h5; cases h5
      · exact ⟨rfl, hk⟩
      · exact absurd h5 h58
  · refine ⟨s.size, ⟨#[]⟩, ⟨#[]⟩, ⟨#[]⟩, false, C.mono ?_, Nat.le_refl _, fun k hk _ => ?_, fun hk => absurd hk (Nat.lt_irrefl _), .inr (.inr ⟨rfl, rfl, rfl, rfl⟩)⟩
    · rintro e w' ⟨hk, ⟨r', h4, _⟩ | ⟨_, rfl⟩⟩
      · exact absurd rfl (h1 58 (by rw [h4]; simp))
      · exact ⟨rfl, hk⟩
    · have e := hget k hk
      exact hn58 _ (h1 _ (List.mem_of_getElem? e))

set_option maxRecDepth 100000 in
set_option maxHeartbeats 4000000 in
theorem walkScanNames (s : ByteArray) (w : World) (ht : Tabs w) (hs : s.size ≤ 9223372036854775807) :
    Calls Tryd.prog 5 #[.string s] w fun e w' => e = .returned (.bool true) ∧ Keeps w w' [] := by
  have CL := kept (fun w h => lives_any w h)
  have HT := kept ht
  clear ht
  by_cases h2 : 200 < s.size
  · have hd : decide (200 < (s.size : Int)) = true := by simp; omega
    go_enter Tryd.func5, Tryd.ntmps5
    go_wp2_with fail
    refine (CL.out _ HT.out).mono ?_
    rintro e w1 ⟨rfl, k1⟩
    have K1 := kept k1
    clear k1
    go_wp2_with fail
    refine (CL.out _ (HT.out.keep K1.out)).mono ?_
    rintro e w2 ⟨rfl, k2⟩
    have K2 := kept (K1.out.and_then k2)
    clear k2
    go_wp2
    go_ret
    exact ⟨rfl, K2.out⟩
  have hd : decide (200 < (s.size : Int)) = false := by simp; omega
  have hc := Lib.runeCount_le s
  go_enter Tryd.func5, Tryd.ntmps5
  go_wp2_with fail
  refine (CL.out _ HT.out).mono ?_
  rintro e w1 ⟨rfl, k1⟩
  have K1 := kept k1
  clear k1 CL
  have hw1 := K1.out.size
  go_wp2
  go_loopw [3] (fun v wr => ∃ (pos fuel n : Nat), v = .int .i64 n ∧ wr.heap[w1.heap.size]? = some (.stringIter s pos) ∧ Keeps w wr [] ∧ Hid (n + Lib.runeCountFrom s fuel pos = Lib.runeCount s) ∧ n ≤ pos ∧ s.size ≤ pos + fuel) (fun _ wr => s.size - wr.iterPos w1.heap.size)
  case atStart => exact ⟨0, s.size, 0, rfl, World.iter_heap w1 s 0, K1.out.alloc _, by simp [Hid, Lib.runeCount], by omega, by omega⟩
  case round =>
    obtain ⟨pos, fuel, n, rfl, hit, hk, HS, hn, hf⟩ := hrel
    have hpos0 := iterPos_of hit
    by_cases hp : pos < s.size
    · have hnx : ∀ ty, (Instr.next (.pointer (some ⟨w1.heap.size, 0, none⟩)) true ty).run Tryd.prog wr = _ := fun ty => Lib.run_next_any_at wr w1.heap.size s pos ty hit hp
      have hwd := Lib.decode_width_pos s pos hp
      obtain ⟨fuel, rfl⟩ : ∃ f', fuel = f' + 1 := ⟨fuel - 1, by omega⟩
      have hit2 := Lib.iterAt_heap wr w1.heap.size s pos (pos + (Utf8.decode s pos).2) hit
      have hk2 := hk.iterAt (k := w1.heap.size) (.inr hw1) s (pos + (Utf8.decode s pos).2)
      have HE := kept (runes_step (f := fuel) hp)
      have HH := kept hit2
      have HK := kept hk2
      have HP := kept hpos0
      clear hit hk hit2 hk2 hpos0
      go_wp2
      go_roundw
      case rel => exact ⟨_, fuel, n + 1, by go_num, HH.out, HK.out, (by show _ = _; rw [← HS.out, HE.out]; omega), by omega, by omega⟩
      case measure => rw [iterPos_of HH.out, HP.out]; omega
    · have hnx : ∀ ty, (Instr.next (.pointer (some ⟨w1.heap.size, 0, none⟩)) true ty).run Tryd.prog wr = _ := fun ty => Lib.run_next_end_at wr w1.heap.size s pos ty hit hp
      have HK := kept hk
      have HN : Hid (Lib.runeCount s = n) := by
        have := HS.out
        rw [Lib.runeCountFrom_end s fuel pos hp] at this
        show _ = _
        omega
      clear hit hk hpos0 HS
      obtain ⟨p, a, b, x, ok, CP, hps, hlow, hat, hcase⟩ := pair_cases s wr (HT.out.keep HK.out) (by omega)
      have HCP := kept CP
      have HLow := kept hlow
      have HAt := kept hat
      have HC := kept hcase
      have hn2 : n ≤ 200 := by have := HN.out; omega
      clear CP hlow hat hcase
      go_wp2_with fail
      refine (HCP.out).mono ?_
      rintro e w2 ⟨rfl, k2⟩
      have K2 := kept (HK.out.and_then k2)
      clear k2 HCP HK
      go_wp2
      go_loop [7, 31] (fun v i => ∃ k : Nat, k ≤ s.size ∧ i = .int .i64 k ∧ v = .int .i64 (atI p k)) (fun _ i => s.size - (intOf i).toNat)
      case atStart => exact ⟨0, by omega, rfl, rfl⟩
      case round =>
        obtain ⟨k, hk, rfl, rfl⟩ := hrel
        by_cases hlt : k < s.size
        · rcases Nat.lt_trichotomy k p with h1 | h1 | h1
          · have hne : (((s[k]'hlt).toNat : Int) == 58) = false := by simpa using HLow.out k hlt h1
            have e1 := atI_low (p := p) (k := k) (by omega)
            have HE := kept (atI_low (p := p) (k := k + 1) (by omega))
            rw [e1]
            clear e1
            go_wp2
            go_round
            case rel => exact ⟨k + 1, by omega, by go_num, by rw [HE.out]⟩
            case measure => simp [intOf]; omega
          · subst h1
            have hne : (((s[k]'hlt).toNat : Int) == 58) = true := by simpa using HAt.out hlt
            have e1 := atI_low (p := k) (k := k) (by omega)
            have HE := kept (atI_high (p := k) (k := k + 1) (by omega))
            rw [e1]
            clear e1
            go_wp2
            go_round
            case rel => exact ⟨k + 1, by omega, by go_num, by rw [HE.out]⟩
            case measure => simp [intOf]; omega
          · have e1 := atI_high (p := p) (k := k) (by omega)
            have HE := kept (atI_high (p := p) (k := k + 1) (by omega))
            rw [e1]
            clear e1
            have hge : decide ((p : Int) < 0) = false := by simp
            rcases Bool.eq_false_or_eq_true (((s[k]'hlt).toNat : Int) == 58) with hne | hne
            all_goals
              go_wp2
              go_round
              case rel => exact ⟨k + 1, by omega, by go_num, by rw [HE.out]⟩
              case measure => simp [intOf]; omega
        · obtain rfl : k = s.size := by omega
          have CN := kept (fun w h => name_any s w h hs)
          have CR := kept (fun w h => refName_any s w h hs)
          have CU := kept (fun w => runes_any s w hs)
          rw [HN.out] at CU
          obtain ⟨NB, hNB⟩ : ∃ N, nameB s = N := ⟨_, rfl⟩
          rw [hNB] at CN CR
          clear hNB
          rcases HC.out with ⟨hp2, hnx, hex, rfl, hy, rfl⟩ | ⟨hp2, hnx, hex, rfl, rfl, rfl⟩ | ⟨hp2, rfl, rfl, rfl⟩
          · rw [atI_high hp2]
            have hxs : x.size ≤ 9223372036854775807 := by rw [← hex, ByteArray.size_extract]; omega
            have CX := kept (fun w h => refName_any x w h hxs)
            rw [hnx] at CX
            have hT2 := kept (HT.out.keep K2.out)
            have hge : decide ((p : Int) < 0) = false := by simp
            have hpI : (p : Int) ≤ (s.size : Int) := by omega
            have hpI2 : (p : Int) + 1 ≤ (s.size : Int) := by omega
            have hxx : (x.toList == x.toList) = true := beq_self_eq_true _
            have hyy : (b.toList == b.toList) = true := beq_self_eq_true _
            clear HC HLow HAt hnx
            cases NB
            all_goals
              go_wp2_with fail
              refine (CX.out _ hT2.out).mono ?_
              rintro e w3 ⟨rfl, k3⟩
              have K3 := kept k3
              clear k3
              go_wp2_with fail
              refine (CN.out _ (hT2.out.keep K3.out)).mono ?_
              rintro e w4 ⟨rfl, k4⟩
              have K4 := kept (K3.out.and_then k4)
              clear k4
              go_wp2_with fail
              refine (CR.out _ (hT2.out.keep K4.out)).mono ?_
              rintro e w5 ⟨rfl, k5⟩
              have K5 := kept (K4.out.and_then k5)
              clear k5
              go_wp2_with fail
              refine (CU.out _).mono ?_
              rintro e w6 ⟨rfl, k6⟩
              have K6 := kept (K5.out.and_then k6)
              clear k6
              go_wp2
              go_ret
              exact ⟨rfl, K2.out.and_then K6.out⟩
          · rw [atI_high hp2]
            have hxs : x.size ≤ 9223372036854775807 := by rw [← hex, ByteArray.size_extract]; omega
            have CX := kept (fun w h => refName_any x w h hxs)
            rw [hnx] at CX
            have hT2 := kept (HT.out.keep K2.out)
            have hge : decide ((p : Int) < 0) = false := by simp
            have hpI : (p : Int) ≤ (s.size : Int) := by omega
            clear HC HLow HAt hnx
            cases NB
            all_goals
              go_wp2_with fail
              refine (CX.out _ hT2.out).mono ?_
              rintro e w3 ⟨rfl, k3⟩
              have K3 := kept k3
              clear k3
              go_wp2_with fail
              refine (CN.out _ (hT2.out.keep K3.out)).mono ?_
              rintro e w4 ⟨rfl, k4⟩
              have K4 := kept (K3.out.and_then k4)
              clear k4
              go_wp2_with fail
              refine (CR.out _ (hT2.out.keep K4.out)).mono ?_
              rintro e w5 ⟨rfl, k5⟩
              have K5 := kept (K4.out.and_then k5)
              clear k5
              go_wp2_with fail
              refine (CU.out _).mono ?_
              rintro e w6 ⟨rfl, k6⟩
              have K6 := kept (K5.out.and_then k6)
              clear k6
              go_wp2
              go_ret
              exact ⟨rfl, K2.out.and_then K6.out⟩
          · rw [atI_low (by omega)]
            have hT2 := kept (HT.out.keep K2.out)
            clear HC HLow HAt
            cases NB
            all_goals
              go_wp2_with fail
              refine (CN.out _ hT2.out).mono ?_
              rintro e w3 ⟨rfl, k3⟩
              have K3 := kept k3
              clear k3
              go_wp2_with fail
              refine (CR.out _ (hT2.out.keep K3.out)).mono ?_
              rintro e w4 ⟨rfl, k4⟩
              have K4 := kept (K3.out.and_then k4)
              clear k4
              go_wp2_with fail
              refine (CU.out _).mono ?_
              rintro e w5 ⟨rfl, k5⟩
              have K5 := kept (K4.out.and_then k5)
              clear k5
              go_wp2
              go_ret
              exact ⟨rfl, K2.out.and_then K5.out⟩
end Go.Proofs.YthcdibpajdnjaaaDoor
