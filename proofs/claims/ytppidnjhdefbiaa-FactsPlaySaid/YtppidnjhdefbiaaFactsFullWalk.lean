/- The walk of the law FactsFull. -/
import Derived.Test.YtppidnjhdefbiaaFactsChainWalk
namespace Go.Proofs.Ytppidnjhdefbiaa
open Go.RowKit
set_option linter.unusedVariables false

/-- the loop's relation: so many facts, all the same -/
def FullInv (w wr : World) (g : Nat) (k : Nat) : Prop := ∃ L lv mv, L.length = k ∧ Stk wr w.heap.size g lv mv 2 L [] ∧ Keeps w wr []

theorem keep_push {w wr w' : World} {g n : Nat} {lv mv : Value} {L L' : List Chain.Fct} {M M' : List Nat} (h : Keeps w wr []) (hs : Stk wr w.heap.size g lv mv n L M) (ha : Pushed wr w.heap.size g lv mv n L' M' w') :
    ∃ mv', Stk w' w.heap.size g lv mv' n L' M' ∧ Keeps w w' [] := by
  obtain ⟨mv', h1, h2, h3⟩ := ha
  refine ⟨mv', h1, keep_own h h2 (fun i hi => ?_)⟩
  simp at hi
  rcases hi with rfl | hi
  · exact hs.base
  · exact (own_lt hs.marks hi).2
theorem keep_pop {w wr w' : World} {g n : Nat} {lv mv : Value} {L L' : List Chain.Fct} {M M' : List Nat} (h : Keeps w wr []) (hs : Stk wr w.heap.size g lv mv n L M) (ha : Popped wr w.heap.size g lv mv n L' M' w') :
    ∃ lv' mv', Stk w' w.heap.size g lv' mv' n L' M' ∧ Keeps w w' [] := by
  obtain ⟨lv', mv', h1, h2, _, _⟩ := ha
  refine ⟨lv', mv', h1, keep_own h h2 (fun i hi => ?_)⟩
  simp at hi
  subst hi
  exact hs.base

set_option maxRecDepth 100000 in
set_option maxHeartbeats 8000000 in
theorem walkFactsFull (c : Int) (wc : (Lit.int .i64 c).wf = true) (w : World) :
    Calls Try.prog 9 #[.int .i64 c] w fun e w' => e = .returned (.bool true) ∧ Below w.heap.size w w' := by
  by_cases hc : c < -1152921504606846976
  · go_enter Try.func9, Try.ntmps9
    go_wp2_with fail
    refine (factslives _).mono ?_
    rintro e w1 ⟨rfl, k1⟩
    go_wp2_with fail
    refine (factslives _).mono ?_
    rintro e w2 ⟨rfl, k2⟩
    go_wp2
    go_ret
    exact ⟨rfl, (Keeps.trans k1 k2).below (Nat.le_refl _) (by simp)⟩
  by_cases hc2 : 1152921504606846976 < c
  · go_enter Try.func9, Try.ntmps9
    go_wp2_with fail
    refine (factslives _).mono ?_
    rintro e w1 ⟨rfl, k1⟩
    go_wp2_with fail
    refine (factslives _).mono ?_
    rintro e w2 ⟨rfl, k2⟩
    go_wp2
    go_ret
    exact ⟨rfl, (Keeps.trans k1 k2).below (Nat.le_refl _) (by simp)⟩
  have hcl : -1152921504606846976 ≤ c := by omega
  have hch : c ≤ 1152921504606846976 := by omega
  clear hc hc2 wc
  go_enter Try.func9, Try.ntmps9
  go_wp2_with fail
  refine (factslives _).mono ?_
  rintro e w1 ⟨rfl, k1⟩
  have K1 := kept (show Keeps w w1 [] from k1)
  clear k1
  go_wp2_with fail
  refine (new_yes _ 2 (by omega)).mono ?_
  rintro e w2 ⟨rfl, hw2⟩
  have h2 : Stk w2 w.heap.size w1.heap.size (.slice none 0 0) (.slice none 0 0) 2 [] [] := by rw [hw2]; exact stk_new w1 w.heap.size 2 K1.out.size
  have K2 := kept (show Keeps w w2 [] by rw [hw2]; exact K1.out.alloc _)
  have HI0 : Hid (FullInv w w2 w1.heap.size 0) := ⟨[], _, _, rfl, h2, K2.out⟩
  have hsz := K1.out.size
  clear h2 hw2 K1 K2
  generalize w1.heap.size = g at *
  go_wp2
  go_loopw [16] (fun i wr => ∃ (j : Nat), j ≤ 8191 ∧ i = .int .i64 j ∧ FullInv w wr g j) (fun i _ => 8191 - (intOf i).toNat)
  case atStart => exact ⟨0, by omega, rfl, HI0.out⟩
  case round =>
    obtain ⟨j, hj, rfl, hI⟩ := hrel
    obtain ⟨L, lv, mv, hLn, hS, hK⟩ := hI
    have HS := kept hS
    have HK := kept hK
    have HL := kept hLn
    clear hS hK hLn
    by_cases hlt : j < 8191
    · have CA := kept (add_yes HS.out 1 0 c (by decide) (by decide) hcl hch (by rw [HL.out]; omega) HK.out.size)
      go_wp2_with fail
      refine CA.out.mono ?_
      rintro e w3 ⟨rfl, hA⟩
      have HI3 : Hid (FullInv w w3 g (j + 1)) := by
        obtain ⟨lv', h1, h2⟩ := keep_add (B := 0) HK.out HS.out hA
        exact ⟨_, lv', mv, by simp [HL.out], h1, h2⟩
      clear hA
      go_wp2
      go_roundw
      case rel => exact ⟨j + 1, by omega, by go_num, HI3.out⟩
      case measure => simp [intOf]; omega
    · have hjn : j = 8191 := by omega
      subst hjn
      clear hj hlt
      have C1 := kept (push_any HS.out (by rw [HL.out]; omega) (by decide) HK.out.size)
      go_wp2_with fail
      refine C1.out.mono ?_
      rintro e w3 ⟨rfl, hA⟩
      obtain ⟨mv3, h3, k3⟩ := keep_push HK.out HS.out hA
      rw [List.nil_append] at h3
      have H3 := kept h3
      have K3 := kept k3
      clear h3 k3 hA C1
      have C2 := kept (add_yes H3.out 0 1 c (by decide) (by decide) hcl hch (by rw [HL.out]; omega) K3.out.size)
      go_wp2_with fail
      refine C2.out.mono ?_
      rintro e w4 ⟨rfl, hA⟩
      obtain ⟨lv4, h4, k4⟩ := keep_add (B := 0) K3.out H3.out hA
      have H4 := kept h4
      have K4 := kept k4
      clear h4 k4 hA C2
      have C3 := kept (add_no H4.out 0 1 c (by simp [mayB, HL.out]))
      go_wp2_with fail
      refine C3.out.mono ?_
      rintro e w5 ⟨rfl, rfl⟩
      have C4 := kept (len_any H4.out)
      rw [show ((L ++ [(⟨0, 1, c⟩ : Chain.Fct)]).length : Int) = 8192 by simp [HL.out]] at C4
      go_wp2_with fail
      refine C4.out.mono ?_
      rintro e w5 ⟨rfl, rfl⟩
      have h4' : Stk w4 w.heap.size g lv4 mv3 2 (L ++ [⟨0, 1, c⟩]) ([] ++ [L.length]) := H4.out
      have C5 := kept (pop_any h4' (by simp) (by decide) (by simp [HL.out]))
      clear h4'
      go_wp2_with fail
      refine C5.out.mono ?_
      rintro e w6 ⟨rfl, hA⟩
      obtain ⟨lv6, mv6, h6, k6⟩ := keep_pop K4.out H4.out hA
      rw [List.take_left] at h6
      have H6 := kept h6
      have K6 := kept k6
      clear h6 k6 hA C5
      have C6 := kept (len_any H6.out)
      rw [HL.out] at C6
      go_wp2_with fail
      refine C6.out.mono ?_
      rintro e w7 ⟨rfl, rfl⟩
      have C7 := kept (add_yes H6.out 1 0 c (by decide) (by decide) hcl hch (by rw [HL.out]; omega) K6.out.size)
      go_wp2_with fail
      refine C7.out.mono ?_
      rintro e w8 ⟨rfl, hA⟩
      obtain ⟨lv8, h8, k8⟩ := keep_add (B := 0) K6.out H6.out hA
      have H8 := kept h8
      have K8 := kept k8
      clear h8 k8 hA C7
      have C8 := kept (add_no H8.out 1 0 c (by simp [mayB, HL.out]))
      go_wp2_with fail
      refine C8.out.mono ?_
      rintro e w9 ⟨rfl, rfl⟩
      have C9 := kept (depth_any H8.out)
      go_wp2_with fail
      refine C9.out.mono ?_
      rintro e w9 ⟨rfl, rfl⟩
      go_wp2
      go_ret
      exact ⟨rfl, K8.out.below (Nat.le_refl _) (by simp)⟩
end Go.Proofs.Ytppidnjhdefbiaa
