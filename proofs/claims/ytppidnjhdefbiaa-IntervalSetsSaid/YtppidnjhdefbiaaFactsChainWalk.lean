/- The walk of the law FactsChain. -/
import Derived.Test.YtppidnjhdefbiaaFactsLives
import Derived.Test.YtppidnjhdefbiaaArithWalks
namespace Go.Proofs.Ytppidnjhdefbiaa
open Go.RowKit
set_option linter.unusedVariables false

def chainL (n : Nat) (c : Int) : List Chain.Fct := (List.range n).map fun i => ⟨i + 1, i, c⟩
theorem chainL_len (n : Nat) (c : Int) : (chainL n c).length = n := by simp [chainL]
theorem chainL_snoc (n : Nat) (c : Int) : chainL (n + 1) c = chainL n c ++ [⟨n + 1, n, c⟩] := by simp [chainL, List.range_succ]
theorem chainL_fits (n k : Nat) (c : Int) (hk : k ≤ n) (h1 : -1152921504606846976 ≤ c) (h2 : c ≤ 1152921504606846976) : Fits (chainL k c) (n + 1) := by
  intro f hf
  simp only [chainL, List.mem_map, List.mem_range] at hf
  obtain ⟨i, hi, rfl⟩ := hf
  exact ⟨by simp; omega, by simp; omega, h1, h2⟩

theorem F_chain (X : Nat → Option Int) (c : Int) : ∀ n v, Chain.F X (chainL n c) v = if 1 ≤ v ∧ v ≤ n then (X (v - 1)).map (· + c) else none := by
  intro n
  induction n with
  | zero => intro v; simp [Chain.F, Chain.relax, chainL]; omega
  | succ n ih =>
    intro v
    have e : Chain.F X (chainL (n + 1) c) = Chain.upd X (Chain.F X (chainL n c)) ⟨n + 1, n, c⟩ := by
      unfold Chain.F Chain.relax
      rw [chainL_snoc, List.foldl_append]
      rfl
    rw [e]
    unfold Chain.upd
    rw [ih]
    by_cases h : v = n + 1
    · subst h
      rw [if_pos rfl, if_neg (by omega), if_pos (by omega)]
      simp [Chain.omin]
    · rw [if_neg h]
      by_cases h1 : 1 ≤ v ∧ v ≤ n
      · rw [if_pos h1, if_pos (by omega)]
      · rw [if_neg h1, if_neg (by omega)]

theorem E_chain (n : Nat) (c : Int) : ∀ k v, Chain.E (chainL n c) 0 k v = if v = k ∧ k ≤ n then some (k * c) else none := by
  intro k
  induction k with
  | zero => intro v; simp [Chain.E]
  | succ k ih =>
    intro v
    show Chain.F (Chain.E (chainL n c) 0 k) (chainL n c) v = _
    rw [F_chain]
    by_cases h : v = k + 1 ∧ k + 1 ≤ n
    · rw [if_pos (by omega), if_pos h, ih, if_pos (by omega)]
      simp only [Option.map_some, Option.some.injEq]
      rw [show ((k + 1 : Nat) : Int) = (k : Int) + 1 by omega, Int.add_mul]
      omega
    · rw [if_neg h]
      by_cases h1 : 1 ≤ v ∧ v ≤ n
      · rw [if_pos h1, ih, if_neg (by omega)]; rfl
      · rw [if_neg h1]
theorem M_chain (n : Nat) (c : Int) : ∀ k v, Chain.M (chainL n c) 0 k v = if v ≤ k ∧ v ≤ n then some (v * c) else none := by
  intro k
  induction k with
  | zero =>
    intro v
    show Chain.E (chainL n c) 0 0 v = _
    rw [E_chain]
    by_cases h : v = 0
    · subst h; simp
    · rw [if_neg (by omega), if_neg (by omega)]
  | succ k ih =>
    intro v
    show Chain.omin (Chain.M (chainL n c) 0 k v) (Chain.E (chainL n c) 0 (k + 1) v) = _
    rw [ih, E_chain]
    by_cases h : v ≤ k ∧ v ≤ n
    · rw [if_pos h, if_neg (by omega), if_pos (by omega)]; rfl
    · rw [if_neg h, Chain.omin_none_left]
      by_cases h1 : v = k + 1 ∧ k + 1 ≤ n
      · rw [if_pos h1, if_pos (by omega), h1.1]
      · rw [if_neg h1, if_neg (by omega)]

/-- from the last node on nothing leads -/
theorem E_last (n : Nat) (c : Int) : ∀ k v, Chain.E (chainL n c) n (k + 1) v = none := by
  intro k
  induction k with
  | zero =>
    intro v
    show Chain.F (Chain.E (chainL n c) n 0) (chainL n c) v = _
    rw [F_chain]
    split
    · rw [show Chain.E (chainL n c) n 0 (v - 1) = none by simp [Chain.E]; omega]; rfl
    · rfl
  | succ k ih =>
    intro v
    show Chain.F (Chain.E (chainL n c) n (k + 1)) (chainL n c) v = _
    rw [F_chain]
    split
    · rw [ih]; rfl
    · rfl
theorem M_last (n : Nat) (c : Int) : ∀ k v, Chain.M (chainL n c) n k v = if v = n then some 0 else none := by
  intro k
  induction k with
  | zero => intro v; rfl
  | succ k ih =>
    intro v
    show Chain.omin (Chain.M (chainL n c) n k v) (Chain.E (chainL n c) n (k + 1) v) = _
    rw [E_last, Chain.omin_none_right, ih]

theorem chain_least (n : Nat) (c : Int) : leastV (chainL n c) n 0 = if n ≤ 6 then some (n * c) else none := by
  unfold leastV
  rw [Chain.N_eq_M, M_chain]
  by_cases h : n ≤ 6
  · rw [if_pos h, if_pos (by omega)]
  · rw [if_neg h, if_neg (by omega)]
theorem chain_back (n : Nat) (c : Int) (h : 0 < n) : leastV (chainL n c) 0 n = none := by
  unfold leastV
  rw [Chain.N_eq_M, M_last, if_neg (by omega)]
theorem chain_own (n : Nat) (c : Int) : leastV (chainL n c) n n = some 0 := by
  unfold leastV
  rw [Chain.N_eq_M, M_last, if_pos rfl]

/-- the loop's relation -/
def ChainInv (w wr : World) (g : Nat) (n : Nat) (c : Int) (k : Nat) : Prop := ∃ lv mv, Stk wr w.heap.size g lv mv (n + 1) (chainL k c) [] ∧ Keeps w wr []

theorem keep_own {w wr w' : World} {S : List Nat} (h : Keeps w wr []) (k : Keeps wr w' S) (hS : ∀ i ∈ S, w.heap.size ≤ i) : Keeps w w' [] :=
  (h.trans k).mono (fun i hi => .inr (hS i (by simpa using hi)))
theorem keep_add {w wr w' : World} {B g n : Nat} {lv mv : Value} {L L' : List Chain.Fct} {M M' : List Nat} (h : Keeps w wr []) (hs : Stk wr w.heap.size g lv mv n L M) (ha : Added wr w.heap.size g lv mv n L' M' w') :
    ∃ lv', Stk w' w.heap.size g lv' mv n L' M' ∧ Keeps w w' [] := by
  obtain ⟨lv', h1, h2, h3⟩ := ha
  refine ⟨lv', h1, keep_own h h2 (fun i hi => ?_)⟩
  simp at hi
  rcases hi with rfl | hi
  · exact hs.base
  · exact (own_lt hs.facts hi).2

set_option maxRecDepth 100000 in
set_option maxHeartbeats 8000000 in
theorem walkFactsChain (k c : Int) (wk : (Lit.int .u8 k).wf = true) (wc : (Lit.int .i64 c).wf = true) (w : World) :
    Calls Try.prog 7 #[.int .u8 k, .int .i64 c] w fun e w' => e = .returned (.bool true) ∧ Below w.heap.size w w' := by
  have CLv := kept (fun w => factslives w)
  by_cases hc : c < -1152921504606846976
  · go_enter Try.func7, Try.ntmps7
    go_wp2_with fail
    refine (factslives _).mono ?_
    rintro e w1 ⟨rfl, k1⟩
    go_wp2_with fail
    refine (factslives _).mono ?_
    rintro e w2 ⟨rfl, k2⟩
    go_wp2
    go_ret
    exact ⟨rfl, (Keeps.trans k1 k2).below (Nat.le_refl _) (by simp)⟩
  by_cases hc2 : 1152921504606846976 < c
  · go_enter Try.func7, Try.ntmps7
    go_wp2_with fail
    refine (factslives _).mono ?_
    rintro e w1 ⟨rfl, k1⟩
    go_wp2_with fail
    refine (factslives _).mono ?_
    rintro e w2 ⟨rfl, k2⟩
    go_wp2
    go_ret
    exact ⟨rfl, (Keeps.trans k1 k2).below (Nat.le_refl _) (by simp)⟩
  have hk : 0 ≤ k ∧ k ≤ 255 := by simpa [Lit.wf, IntKind.min, IntKind.max, IntKind.signed, IntKind.bits] using wk
  obtain ⟨hk0, hk1⟩ := hk
  obtain ⟨n, hn⟩ : ∃ n : Nat, (n : Int) = k % 12 + 1 := ⟨(k % 12 + 1).toNat, by omega⟩
  have hn1 : 1 ≤ n := by omega
  have hn2 : n ≤ 12 := by omega
  have hcl : -1152921504606846976 ≤ c := by omega
  have hch : c ≤ 1152921504606846976 := by omega
  clear hc hc2 wk wc
  have HN := kept hn
  clear hn
  go_enter Try.func7, Try.ntmps7
  go_wp2_with fail
  refine (factslives _).mono ?_
  rintro e w1 ⟨rfl, k1⟩
  have K1 := kept (show Keeps w w1 [] from k1)
  clear k1
  go_wp2_with fail
  rw [← HN.out]
  rw [show (n : Int) + 1 = ((n + 1 : Nat) : Int) from rfl]
  refine (new_yes _ (n + 1) (by omega)).mono ?_
  rintro e w2 ⟨rfl, hw2⟩
  have h2 : Stk w2 w.heap.size w1.heap.size (.slice none 0 0) (.slice none 0 0) (n + 1) (chainL 0 c) [] := by rw [hw2]; exact stk_new w1 w.heap.size (n + 1) K1.out.size
  have K2 := kept (show Keeps w w2 [] by rw [hw2]; exact K1.out.alloc _)
  have HI0 : Hid (ChainInv w w2 w1.heap.size n c 0) := ⟨_, _, h2, K2.out⟩
  have hsz := K1.out.size
  clear h2 hw2
  go_wp2
  clear K1 K2
  generalize w1.heap.size = g at *
  go_loopw [33] (fun i wr => ∃ (j : Nat), j ≤ n ∧ i = .int .i64 j ∧ ChainInv w wr g n c j) (fun i _ => n - (intOf i).toNat)
  case atStart => exact ⟨0, by omega, rfl, HI0.out⟩
  case round =>
    obtain ⟨j, hj, rfl, hI⟩ := hrel
    obtain ⟨lv, mv, hS, hK⟩ := hI
    have HS := kept hS
    have HK := kept hK
    clear hS hK
    by_cases hlt : j < n
    · have CA := kept (add_yes HS.out (j + 1) j c (has_lt (by omega)) (has_lt (by omega)) hcl hch (by rw [chainL_len]; omega) HK.out.size)
      go_wp2_with fail
      rw [show (j : Int) + 1 = ((j + 1 : Nat) : Int) from rfl]
      refine CA.out.mono ?_
      rintro e w3 ⟨rfl, hA⟩
      have HI3 : Hid (ChainInv w w3 g n c (j + 1)) := by
        obtain ⟨lv', h1, h2⟩ := keep_add (B := 0) HK.out HS.out hA
        rw [← chainL_snoc] at h1
        exact ⟨lv', mv, h1, h2⟩
      clear hA
      go_wp2
      go_roundw
      case rel => exact ⟨j + 1, by omega, by go_num, HI3.out⟩
      case measure => simp [intOf]; omega
    · have hjn : j = n := by omega
      subst hjn
      have A1 := kept (least_any HS.out j 0 (by omega) (by omega) (by omega) (by rw [chainL_len]; omega) HK.out.size (chainL_fits j j c (Nat.le_refl _) hcl hch))
      rw [chain_least j c] at A1
      clear hj
      by_cases h6 : j ≤ 6
      · rw [if_pos h6] at A1
        have hb1 : -6917529027641081856 ≤ (j : Int) * c := by
          have : j = 1 ∨ j = 2 ∨ j = 3 ∨ j = 4 ∨ j = 5 ∨ j = 6 := by omega
          rcases this with e | e | e | e | e | e <;> rw [e] <;> omega
        have hb2 : (j : Int) * c ≤ 6917529027641081856 := by
          have : j = 1 ∨ j = 2 ∨ j = 3 ∨ j = 4 ∨ j = 5 ∨ j = 6 := by omega
          rcases this with e | e | e | e | e | e <;> rw [e] <;> omega
        go_wp2_with fail
        refine (A1.out).mono ?_
        rintro e w3 ⟨rfl, k3⟩
        have H3 := kept (HS.out.keep k3 (by simp) (by simp) (by simp))
        have K3 := kept (keep_own HK.out k3 (by simp))
        clear k3
        have A2 := kept (least_any H3.out 0 j (by omega) (by omega) (by omega) (by rw [chainL_len]; omega) K3.out.size (chainL_fits j j c (Nat.le_refl _) hcl hch))
        rw [chain_back j c (by omega)] at A2
        go_wp2_with fail
        refine (A2.out).mono ?_
        rintro e w4 ⟨rfl, k4⟩
        have H4 := kept (H3.out.keep k4 (by simp) (by simp) (by simp))
        have K4 := kept (keep_own K3.out k4 (by simp))
        clear k4
        have A3 := kept (least_any H4.out j j (by omega) (by omega) (by omega) (by rw [chainL_len]; omega) K4.out.size (chainL_fits j j c (Nat.le_refl _) hcl hch))
        rw [chain_own j c] at A3
        go_wp2_with fail
        refine (A3.out).mono ?_
        rintro e w5 ⟨rfl, k5⟩
        have K5 := kept (keep_own K4.out k5 (by simp))
        clear k5
        go_wp2
        go_ret
        exact ⟨rfl, K5.out.below (Nat.le_refl _) (by simp)⟩
      · rw [if_neg h6] at A1
        go_wp2_with fail
        refine (A1.out).mono ?_
        rintro e w3 ⟨rfl, k3⟩
        have H3 := kept (HS.out.keep k3 (by simp) (by simp) (by simp))
        have K3 := kept (keep_own HK.out k3 (by simp))
        clear k3
        have A2 := kept (least_any H3.out 0 j (by omega) (by omega) (by omega) (by rw [chainL_len]; omega) K3.out.size (chainL_fits j j c (Nat.le_refl _) hcl hch))
        rw [chain_back j c (by omega)] at A2
        go_wp2_with fail
        refine (A2.out).mono ?_
        rintro e w4 ⟨rfl, k4⟩
        have H4 := kept (H3.out.keep k4 (by simp) (by simp) (by simp))
        have K4 := kept (keep_own K3.out k4 (by simp))
        clear k4
        have A3 := kept (least_any H4.out j j (by omega) (by omega) (by omega) (by rw [chainL_len]; omega) K4.out.size (chainL_fits j j c (Nat.le_refl _) hcl hch))
        rw [chain_own j c] at A3
        go_wp2_with fail
        refine (A3.out).mono ?_
        rintro e w5 ⟨rfl, k5⟩
        have K5 := kept (keep_own K4.out k5 (by simp))
        clear k5
        go_wp2
        go_ret
        exact ⟨rfl, K5.out.below (Nat.le_refl _) (by simp)⟩
end Go.Proofs.Ytppidnjhdefbiaa
