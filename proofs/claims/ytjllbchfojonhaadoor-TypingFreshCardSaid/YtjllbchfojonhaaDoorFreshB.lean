/- Package typing: Fresh; contract. -/
import Derived.Test.YtjllbchfojonhaaDoorFreshA
namespace Go.Proofs.YtjllbchfojonhaaDoor
open Go.RowKit Go.Lib Go.Shelf
set_option linter.unusedVariables false
set_option linter.unusedSimpArgs false

theorem fresh_none (v : Value) (n : Int) (hn : n < 1 ∨ 1024 < n) (w : World) : Calls Tryd.prog 32 #[v, .int .i64 n] w fun e w' => e = .returned (.slice none 0 0) ∧ w = w' := by
  by_cases h1 : n < 1
  · go_enter Tryd.func32, Tryd.ntmps32
    go_wp2
    go_ret
    exact ⟨rfl, rfl⟩
  · have h2 : 1024 < n := by omega
    go_enter Tryd.func32, Tryd.ntmps32
    go_wp2
    go_ret
    exact ⟨rfl, rfl⟩
theorem hit_mem {l : List ByteArray} {s : ByteArray} : hitB l s = true ↔ s ∈ l := by
  unfold hitB
  simp only [List.any_eq_true, decide_eq_true_eq, exists_eq_right]

set_option maxRecDepth 100000 in
set_option maxHeartbeats 8000000 in
theorem fresh_any (v : Value) (l : List ByteArray) (n : Nat) (h1 : 1 ≤ n) (h2 : n ≤ 1024) (hl60 : l.length ≤ 60) (w : World) (ht : TabsF w) (hv : Row w 1 v (l.map strCells)) :
    Calls Tryd.prog 32 #[v, .int .i64 n] w fun e w' => ∃ K va vc, e = .returned (.slice va n vc) ∧ Row w' 1 (.slice va n vc) ((freshTo nm l K).map strCells) ∧ (freshTo nm l K).length = n ∧ Keeps w w' [] := by
  obtain ⟨a, cap, rfl, hl, hm, hc⟩ := hv.open_
  obtain ⟨ln, hln⟩ : ∃ ln, l.length = ln := ⟨_, rfl⟩
  have HC := kept hc
  have HT := kept ht
  rw [hln] at hl hl60 ⊢
  have HN := kept hln
  have hmm := @run_makeMap Tryd.prog
  have h0 := kept (MapOf.new w)
  have hk0 := kept ((Keeps.refl w []).alloc (.map #[] 0))
  obtain ⟨i9, hi9, hz9, hs9, hb9⟩ := info_parts info9
  have h1I : ¬ (n : Int) < 1 := by omega
  have h2I : ¬ (1024 : Int) < (n : Int) := by omega
  clear hc hv ht hln
  go_enter Tryd.func32, Tryd.ntmps32
  go_wp2
  generalize w.alloc (.map #[] 0) = W0 at *
  obtain ⟨b, hb⟩ : ∃ b, w.heap.size = b := ⟨_, rfl⟩
  have HBb := kept hb
  rw [hb] at h0
  simp only [hb]
  clear hb
  go_loopw [20] (fun i wr => ∃ k : Nat, k ≤ ln ∧ i = .int .i64 k ∧ Hid (MapOf wr b (l.take k)) ∧ Keeps w wr []) (fun i _ => ln - (intOf i).toNat)
  case atStart => exact ⟨0, Nat.zero_le _, rfl, (by simpa using h0), hk0.out⟩
  case round =>
    obtain ⟨k, hk, rfl, HM, hK⟩ := hrel
    have HK := kept hK
    clear hK h0 hk0
    by_cases hlt : k < ln
    · have hltz : (k : Int) < (ln : Int) := by omega
      obtain ⟨bb, off, rfl, hbl, hcell⟩ := HC.out k (by rw [HN.out]; exact hlt)
      have l0 := HK.out.cellOf (hcell 0 _ rfl)
      simp only [Nat.add_zero, Nat.mul_one] at l0
      clear HC hcell
      have HSn := kept (show l.take (k + 1) = l.take k ++ [l[k]!] by rw [List.take_succ_eq_append_getElem (by rw [HN.out]; exact hlt), getElem!_pos l k (by rw [HN.out]; exact hlt)])
      generalize l[k]! = y at *
      obtain ⟨w3, hput, hm3, k3⟩ := put_any ty107 Tryd.underlying9 y HM.out
      have M3 := kept hm3
      have K3 := kept k3
      clear hm3 k3
      go_wp2
      go_roundw
      case rel =>
        refine ⟨k + 1, by omega, by go_num, (show Hid _ by rw [Hid]; rw [HSn.out]; exact M3.out), ?_⟩
        have := HK.out.trans K3.out
        exact this.mono (fun i hi => .inr (by simp at hi; rw [hi, ← HBb.out]; exact Nat.le_refl _))
      case measure => simp [intOf]; omega
    · have hltz : ¬ (k : Int) < (ln : Int) := by omega
      obtain rfl : ln = k := by omega
      have HMl := kept (show MapOf wr b l by have := HM.out; rw [show l.take ln = l by rw [← HN.out]; exact List.take_length] at this; exact this)
      clear HM HC hlt hk
      go_wp2
      obtain ⟨W1, hW1⟩ : ∃ W1 : World, W1 = wr := ⟨_, rfl⟩
      subst hW1
      have hbW := HMl.out.lt
      go_loopw [8, 9] (fun vv i wr => ∃ K m : Nat, i = .int .i64 K ∧ (freshTo nm l K).length = m ∧ m ≤ n ∧ wr.ownsRow W1.heap.size 9 1 vv m ((freshTo nm l K).map Value.string) ∧ Keeps W1 wr []) (fun _ i _ => n + 60 - (intOf i).toNat)
      case atStart => exact ⟨0, 0, rfl, rfl, Nat.zero_le _, World.ownsRow_nil _ _ _ _, Keeps.refl _ _⟩
      case round =>
        obtain ⟨K, m, rfl, hlen, hmn, hO, hK2⟩ := hrel
        have HK2 := kept hK2
        have HO := kept hO
        have hlow := freshTo_low nm nm_inj l K
        rw [HN.out, hlen] at hlow
        obtain ⟨va, vc, rfl, hvc1, hvc2⟩ := own_form hO
        clear hK2
        by_cases hltm : (m : Int) < (n : Int)
        · have hKb : K ≤ 100000 := by omega
          have CI := kept (itoa_any K hKb wr ((HT.out.keep HK.out).keep HK2.out))
          have hsz := nm_size K hKb
          have hss : ¬ (9223372036854775807 : Int) < (((⟨#[120]⟩ : ByteArray).size : Int) + ((⟨(decDigits K).toArray⟩ : ByteArray).size : Int)) := by
            have h5 := dec_len 5 K (by omega)
            have e1 : (⟨#[120]⟩ : ByteArray).size = 1 := rfl
            have e2 : (⟨(decDigits K).toArray⟩ : ByteArray).size = (decDigits K).length := rfl
            rw [e1, e2]; omega
          have HNM := kept (show (⟨#[120]⟩ : ByteArray) ++ ⟨(decDigits K).toArray⟩ = nm K from rfl)
          have hFT : freshTo nm l (K + 1) = freshTo nm l K ++ (if hitB l (nm K) = true then [] else [nm K]) := rfl
          have HFT := kept hFT
          have HLE := kept hlen
          clear hFT hlen
          generalize (⟨(decDigits K).toArray⟩ : ByteArray) = dd at *
          cases hh : hitB l (nm K) with
          | true =>
            rw [hh] at HFT
            have HIn := kept (hit_mem.1 hh)
            clear hh
            go_wp2_with (refine (CI.out).mono ?_; rintro e w2 ⟨rfl, k2⟩; have hlook := look_yes ty107 Tryd.underlying9 ((HMl.out.keep HK2.out (by simp)).keep k2 (by simp)) HIn.out; rw [← HNM.out] at hlook; have K2 := kept k2; clear k2)
            have hO2 := own_keep HO.out K2.out (by simp)
            have HO2 := kept hO2
            clear hO2 hO
            go_roundw
            case rel =>
              have e9 : freshTo nm l (K + 1) = freshTo nm l K := by rw [HFT.out]; simp
              exact ⟨K + 1, m, by go_num, by rw [e9]; exact HLE.out, hmn, by rw [e9]; exact HO2.out, HK2.out.and_then K2.out⟩
            case measure => simp [intOf]; omega
          | false =>
            rw [hh] at HFT
            have HIn := kept (show ¬ nm K ∈ l from fun h => by rw [hit_mem.2 h] at hh; cases hh)
            clear hh
            have hsz1 := HK2.out.size
            go_wp2_with (first | (at_builtin; go_must (refine wpList_append_own _ rfl (.tmp 40) (.tmp 42) 74 rfl W1.heap.size 9 i9 (.string ⟨#[]⟩) 1 16 Tryd.underlying74 hi9 hz9 hs9 hb9 rfl (by decide) _ _ _ rfl (HO2.out.alloc _) ⟨w2.heap.size, 0, none⟩ 1 1 [.string (⟨#[120]⟩ ++ dd)] rfl rfl (news_one _ _ _) (ones_one rfl) (by unfold maxLen; omega) (by omega) (by simp; omega) ?_); intro v' w3 hown' hgrow3 _; have HK3 := kept (keeps_append hgrow3 HO2.out (HK2.out.and_then K2.out) (Nat.le_refl _)); have HO3 := kept hown'; clear hgrow3 hown') | (go_at_call 56; refine (CI.out).mono ?_; rintro e w2 ⟨rfl, k2⟩; have hlook := look_no ty107 Tryd.underlying9 zero3 ((HMl.out.keep HK2.out (by simp)).keep k2 (by simp)) HIn.out; rw [← HNM.out] at hlook; have K2 := kept k2; have hO2 := own_keep HO.out k2 (by simp); have HO2 := kept hO2; have hsz2 := k2.size; clear k2 hO2 hO))
            go_roundw
            case rel =>
              have e9 : freshTo nm l (K + 1) = freshTo nm l K ++ [nm K] := by rw [HFT.out]; simp
              refine ⟨K + 1, m + 1, by go_num, by rw [e9, List.length_append, HLE.out]; rfl, by omega, ?_, HK3.out⟩
              rw [e9, List.map_append]
              have h9 := HO3.out
              rw [HNM.out] at h9
              exact h9
            case measure => simp [intOf]; omega
        · obtain rfl : m = n := by omega
          have HR := kept (row_of_own hO)
          have HLE := kept hlen
          clear hO HO hlen
          go_wp2
          go_ret
          refine ⟨K, va, vc, rfl, ?_, HLE.out, HK.out.and_then HK2.out⟩
          have h9 := HR.out
          rw [List.map_map] at h9
          exact h9
end Go.Proofs.YtjllbchfojonhaaDoor
