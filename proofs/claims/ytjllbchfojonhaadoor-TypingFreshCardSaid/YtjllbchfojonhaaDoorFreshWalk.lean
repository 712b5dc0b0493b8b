/- The law 'TypingFresh': the walk. -/
import Derived.Test.YtjllbchfojonhaaDoorFreshB
namespace Go.Proofs.YtjllbchfojonhaaDoor
open Go.RowKit Go.Lib Go.Shelf
set_option linter.unusedVariables false
set_option linter.unusedSimpArgs false

theorem fresh_mono (l : List ByteArray) {k K : Nat} (h : K ≤ k) : (freshTo nm l K).length ≤ (freshTo nm l k).length := by
  obtain ⟨r, hr⟩ := freshTo_prefix nm l K (k - K)
  rw [show K + (k - K) = k by omega] at hr
  rw [hr, List.length_append]
  omega
theorem hit_snoc (l : List ByteArray) (t s : ByteArray) : hitB (l ++ [t]) s = (hitB l s || decide (t = s)) := by
  unfold hitB
  rw [List.any_append]
  simp

set_option maxRecDepth 100000 in
set_option maxHeartbeats 8000000 in
theorem walkTypingFresh (v : Value) (l : List ByteArray) (n : Int) (w : World) (ht : TabsF w) (hv : Row w 1 v (l.map strCells)) : Calls Tryd.prog 9 #[v, .int .i64 n] w fun e w' => e = .returned (.bool true) ∧ Keeps w w' [] := by
  have CL := kept (fun W h => lives6_any W h)
  have HV := kept hv
  obtain ⟨a, cap, rfl, hl, hm, hc⟩ := hv.open_
  obtain ⟨ln, hln⟩ : ∃ ln, l.length = ln := ⟨_, rfl⟩
  have HC := kept hc
  have HT := kept ht
  rw [hln] at hl ⊢
  have HN := kept hln
  have hlnI : (ln : Int) ≤ 9223372036854775807 := by unfold maxLen at hm; omega
  have HV2 := kept (show Row w 1 (.slice a ln cap) (l.map strCells) by have := HV.out; rw [hln] at this; exact this)
  clear hc hv ht hln HV
  by_cases h60 : (60 : Int) < (ln : Int)
  · go_enter Tryd.func9, Tryd.ntmps9
    go_wp2_with fail
    refine (CL.out _ HT.out.tabs).mono ?_
    rintro e w1 ⟨rfl, k1⟩
    have K1 := kept k1
    clear k1
    go_wp2_with fail
    refine (CL.out _ (HT.out.tabs.keep K1.out)).mono ?_
    rintro e w2 ⟨rfl, k2⟩
    have K2 := kept (K1.out.and_then k2)
    clear k2
    go_wp2
    go_ret
    exact ⟨rfl, K2.out⟩
  by_cases hn : n < 1 ∨ 1024 < n
  · have CF := kept (fun W => fresh_none (.slice a ln cap) n hn W)
    have hor : n < 1 ∨ (¬ n < 1 ∧ 1024 < n) := by omega
    rcases hor with hb1 | ⟨hb1, hb2⟩
    all_goals
      go_enter Tryd.func9, Tryd.ntmps9
      go_wp2_with (first | (go_at_call 10; refine (CL.out _ HT.out.tabs).mono ?_; rintro e w1 ⟨rfl, k1⟩; have K1 := kept k1; clear k1) | (go_at_call 32; refine (CF.out _).mono ?_; rintro e w2 ⟨rfl, rfl⟩))
      go_ret
      exact ⟨rfl, K1.out⟩
  obtain ⟨m, rfl⟩ : ∃ m : Nat, n = (m : Int) := ⟨n.toNat, by omega⟩
  have hm1 : 1 ≤ m := by omega
  have hm2 : m ≤ 1024 := by omega
  have hm1I : ¬ (m : Int) < 1 := by omega
  have hm2I : ¬ (1024 : Int) < (m : Int) := by omega
  have CF := kept (fun W h h2 => fresh_any (.slice a ln cap) l m hm1 hm2 (by rw [HN.out]; omega) W h h2)
  clear hn
  go_enter Tryd.func9, Tryd.ntmps9
  go_wp2_with fail
  refine (CL.out _ HT.out.tabs).mono ?_
  rintro e w1 ⟨rfl, k1⟩
  have K1 := kept k1
  clear k1
  go_wp2_with fail
  refine (CF.out _ (HT.out.keep K1.out) (HV2.out.keep K1.out)).mono ?_
  rintro e W1 ⟨K, va, vc, rfl, hrow, hlen, k2⟩
  have HK1 := kept (K1.out.and_then k2)
  have HR := kept hrow
  have hKl := freshTo_low nm nm_inj l K
  rw [HN.out, hlen] at hKl
  have HLEN := kept hlen
  clear k2 K1 hrow hlen CF CL
  go_wp2
  go_loopw [6, 7] (fun t i wr => ∃ k q : Nat, i = .int .i64 k ∧ t = .int .i64 q ∧ (freshTo nm l k).length = q ∧ q ≤ m ∧ k ≤ K ∧ Keeps W1 wr []) (fun _ i _ => K - (intOf i).toNat)
  case atStart => exact ⟨0, 0, rfl, rfl, rfl, Nat.zero_le _, Nat.zero_le _, Keeps.refl _ _⟩
  case round =>
    obtain ⟨k, q, rfl, rfl, hq, hqm, hkK, hK2⟩ := hrel
    have HK2 := kept hK2
    have HQ := kept hq
    clear hK2
    by_cases hqlt : (q : Int) < (m : Int)
    · have hkK2 : k < K := by
        rcases Nat.lt_or_ge k K with h | h
        · exact h
        · have := fresh_mono l h
          rw [HLEN.out, hq] at this
          omega
      have CD := kept (digits_any k (by omega) wr)
      have hss : ¬ (9223372036854775807 : Int) < (((⟨#[120]⟩ : ByteArray).size : Int) + ((⟨(decDigits k).toArray⟩ : ByteArray).size : Int)) := by
        have h5 := dec_len 5 k (by omega)
        have e1 : (⟨#[120]⟩ : ByteArray).size = 1 := rfl
        have e2 : (⟨(decDigits k).toArray⟩ : ByteArray).size = (decDigits k).length := rfl
        rw [e1, e2]; omega
      have HNM := kept (show (⟨#[120]⟩ : ByteArray) ++ ⟨(decDigits k).toArray⟩ = nm k from rfl)
      have HFT := kept (show freshTo nm l (k + 1) = freshTo nm l k ++ (if hitB l (nm k) = true then [] else [nm k]) from rfl)
      have HAT := kept (fun h => freshTo_at nm l k K hkK2 h)
      clear hq
      generalize (⟨(decDigits k).toArray⟩ : ByteArray) = dd at *
      go_wp2_with (refine (CD.out).mono ?_; rintro e w3 ⟨rfl, k3⟩; have K3 := kept (HK2.out.and_then k3); clear k3)
      generalize (⟨#[120]⟩ : ByteArray) ++ dd = ss at *
      clear CD hss
      go_loop [9, 46] (fun b i => ∃ j : Nat, j ≤ ln ∧ i = .int .i64 j ∧ b = .bool (hitB (l.take j) ss)) (fun _ i => ln - (intOf i).toNat)
      case atStart => exact ⟨0, Nat.zero_le _, rfl, rfl⟩
      case round =>
        obtain ⟨j, hj, rfl, rfl⟩ := hrel
        by_cases hlt : j < ln
        · have hltz : (j : Int) < (ln : Int) := by omega
          obtain ⟨bb, off, rfl, hbl, hcell⟩ := HC.out j (by rw [HN.out]; exact hlt)
          have l0 := (HK1.out.and_then K3.out).cellOf (hcell 0 _ rfl)
          simp only [Nat.add_zero, Nat.mul_one] at l0
          clear hcell
          have HSn := kept (show l.take (j + 1) = l.take j ++ [l[j]!] by rw [List.take_succ_eq_append_getElem (by rw [HN.out]; exact hlt), getElem!_pos l j (by rw [HN.out]; exact hlt)])
          have HH := kept (hit_snoc (l.take j) l[j]! ss)
          rw [← HSn.out] at HH
          generalize l[j]! = y at *
          cases hh : hitB (l.take j) ss with
          | true =>
            rw [hh] at HH
            go_wp2
            go_round
            case rel => exact ⟨j + 1, by omega, by go_num, by rw [HH.out]; rfl⟩
            case measure => simp [intOf]; omega
          | false =>
            rw [hh] at HH
            by_cases hys : y = ss
            · have hyy : (y.toList == ss.toList) = true := by rw [hys]; exact beq_self_eq_true _
              have HYS := kept hys
              clear hys
              go_wp2
              go_round
              case rel => exact ⟨j + 1, by omega, by go_num, by rw [HH.out, decide_eq_true HYS.out]; rfl⟩
              case measure => simp [intOf]; omega
            · have hyy : (y.toList == ss.toList) = false := str_ne hys
              have HYS := kept hys
              clear hys
              go_wp2
              go_round
              case rel => exact ⟨j + 1, by omega, by go_num, by rw [HH.out, decide_eq_false HYS.out]; rfl⟩
              case measure => simp [intOf]; omega
        · have hltz : ¬ (j : Int) < (ln : Int) := by omega
          obtain rfl : ln = j := by omega
          rw [show l.take ln = l by rw [← HN.out]; exact List.take_length] at *
          rw [← HNM.out] at HFT HAT
          have HW := kept K3.out
          cases hh : hitB l ss with
          | true =>
            rw [hh] at HFT
            go_wp2
            go_roundw
            case rel =>
              have e9 : freshTo nm l (k + 1) = freshTo nm l k := by rw [HFT.out]; simp
              exact ⟨k + 1, q, by go_num, rfl, by rw [e9]; exact HQ.out, hqm, by omega, K3.out⟩
            case measure => simp [intOf]; omega
          | false =>
            rw [hh] at HFT
            have hat := HAT.out hh
            rw [HQ.out] at hat
            obtain ⟨ga, gc, ge, -, -, hgc⟩ := Row.open_ (cells := strCells) HR.out
            have hqL : q < (freshTo nm l K).length := (List.getElem?_eq_some_iff.1 hat).1
            obtain ⟨gb, go, rfl, -, hgcell⟩ := hgc q hqL
            have hbang : (freshTo nm l K)[q]! = ss := by
              rw [getElem!_pos _ q hqL]
              exact (List.getElem?_eq_some_iff.1 hat).2
            have g0 := K3.out.cellOf (hgcell 0 _ rfl)
            rw [hbang] at g0
            simp only [Nat.add_zero, Nat.mul_one] at g0
            injection ge with ge1 ge2 ge3
            subst ge1
            have hyy : (ss.toList == ss.toList) = true := beq_self_eq_true _
            clear hat hgc hgcell hbang hqL
            go_wp2
            go_roundw
            case rel =>
              have e9 : freshTo nm l (k + 1) = freshTo nm l k ++ [ss] := by rw [HFT.out]; simp
              exact ⟨k + 1, q + 1, by go_num, by go_num, by rw [e9, List.length_append, HQ.out]; rfl, by omega, by omega, K3.out⟩
            case measure => simp [intOf]; omega
    · go_wp2
      go_ret
      exact ⟨rfl, HK1.out.and_then HK2.out⟩
end Go.Proofs.YtjllbchfojonhaaDoor
