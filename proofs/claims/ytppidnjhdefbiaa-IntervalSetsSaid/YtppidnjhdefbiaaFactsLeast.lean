/- Package facts: the contracts of Least and Follows. -/
import Derived.Test.YtppidnjhdefbiaaFactsFurther
namespace Go.Proofs.Ytppidnjhdefbiaa
open Go.RowKit
set_option linter.unusedVariables false

theorem made_nodes (n : Nat) : (madeCells #[.bool false, .int .i64 0] (n * 2)).toList = nodeCells (fun _ => none) n := by
  apply List.ext_getElem?
  intro j
  by_cases hj : j < n * 2
  · rw [node_at _ hj]
    simp [madeCells, nodeCell, hj]
    rcases Nat.mod_two_eq_zero_or_one j with h | h <;> simp [h]
  · rw [List.getElem?_eq_none (by simp [size_madeCells]; omega), List.getElem?_eq_none (by simp [node_len]; omega)]
theorem node_first (n u : Nat) (h : u < n) : (nodeCells (fun _ => none) n).set (u * 2) (.bool true) = nodeCells (fun v => if v = u then some 0 else none) n := by
  apply List.ext_getElem?
  intro j
  by_cases hj : j < n * 2
  · rw [node_at _ hj, List.getElem?_set, node_at _ hj]
    simp only [node_len]
    by_cases h2 : u * 2 = j
    · subst h2
      simp [nodeCell, hj]
    · rcases Nat.mod_two_eq_zero_or_one j with h3 | h3
      · have h4 : ¬ j / 2 = u := by omega
        simp [nodeCell, h2, h3, h4]
      · by_cases h4 : j / 2 = u <;> simp [nodeCell, h2, h3, h4]
  · rw [List.getElem?_eq_none (by simp [node_len]; omega), List.getElem?_eq_none (by simp [node_len]; omega)]

theorem relax_out (X : Nat → Option Int) (L : List Chain.Fct) (u : Nat) (h : ∀ f ∈ L, f.a ≠ u) : ∀ init : Nat → Option Int, Chain.relax X L init u = init u := by
  induction L with
  | nil => intro init; rfl
  | cons f L ih =>
    intro init
    rw [Chain.relax_cons, ih (fun g hg => h g (List.mem_cons_of_mem _ hg))]
    unfold Chain.upd
    rw [if_neg (fun e => h f List.mem_cons_self e.symm)]

/-- facts within bounds, of n nodes -/
def Fits (L : List Chain.Fct) (n : Nat) : Prop := ∀ f ∈ L, f.a < n ∧ f.b < n ∧ -1152921504606846976 ≤ f.c ∧ f.c ≤ 1152921504606846976

theorem fits_bound {L : List Chain.Fct} {n b k : Nat} (h : Fits L n) (hk : k ≤ 6) : ∀ u s, Chain.N L b k u = some s → -6917529027641081856 ≤ s ∧ s ≤ 6917529027641081856 := by
  intro u s hs
  have := Chain.N_bound L b 1152921504606846976 (by omega) (fun f hf => (h f hf).2.2) k u s hs
  omega

/-- what a round of Least keeps -/
def LeastInv (w wr : World) (B n b gk ck : Nat) (L : List Chain.Fct) (k : Nat) (ag : Bool) : Prop :=
  wr.ownsRow B 115 2 (.slice (some ⟨gk, 0, none⟩) n ck) n (nodeCells (Chain.N L b k) n) ∧ Keeps w wr [] ∧ (ag = false → Chain.N L b 6 = Chain.N L b k)

theorem least_step {w wr w' : World} {B n b gk ck : Nat} {L : List Chain.Fct} {k : Nat} {ag : Bool} {e : Ending} (hf : Fits L n) (hk : k < 6) (h : LeastInv w wr B n b gk ck L k ag) (hw : Went wr B n (Chain.N L b k) L e w') :
    ∃ gn cn ch, e = .returned (.tuple #[.slice (some ⟨gn, 0, none⟩) n cn, .bool ch]) ∧ LeastInv w w' B n b gn cn L (k + 1) ch := by
  obtain ⟨gn, cn, ch, he, h1, h2, h3, h4⟩ := hw
  refine ⟨gn, cn, ch, he, h1, (h.2.1.trans h2).mono (by simp), fun hc => ?_⟩
  have hs : Chain.N L b (k + 1) = Chain.N L b k := by
    funext u
    rcases Nat.lt_or_ge u n with hu | hu
    · exact h4 hc u hu
    · exact relax_out _ L u (fun f hfm e => by have := (hf f hfm).1; omega) _
  have h5 := Chain.N_stop L b k hs (6 - k)
  rw [show k + (6 - k) = 6 by omega] at h5
  rw [h5, hs]

def leastV (L : List Chain.Fct) (a b : Nat) : Option Int := Chain.N L b 6 a

/-- what Least leaves -/
def Leasts (w : World) (r : Option Int) (e : Ending) (w' : World) : Prop := e = .returned (.tuple #[.int .i64 (r.getD 0), .bool r.isSome]) ∧ Keeps w w' []

theorem least_no {w : World} {g n : Nat} {lv mv : Value} (hb : Blk w g 109 #[.int .i64 n, lv, mv]) (a b : Int) (h : hasB a n = false ∨ hasB b n = false) :
    Calls Try.prog 33 #[.pointer (some ⟨g, 0, none⟩), .int .i64 a, .int .i64 b] w fun e w' => e = .returned (.tuple #[.int .i64 0, .bool false]) ∧ w = w' := by
  rcases Bool.eq_false_or_eq_true (hasB a n) with ha | ha
  · have hb' : hasB b n = false := by simpa [ha] using h
    have c1 := kept (has_yes w g n _ mv a hb ha)
    have c2 := kept (has_no w g n _ mv b hb hb')
    clear h hb ha hb'
    go_enter Try.func33, Try.ntmps33
    go_wp2_with fail
    refine c1.out.mono ?_; rintro e w' ⟨rfl, rfl⟩
    go_wp2_with fail
    refine c2.out.mono ?_; rintro e w' ⟨rfl, rfl⟩
    go_wp2
    go_ret2
    exact ⟨rfl, rfl⟩
  · have c1 := kept (has_no w g n _ mv a hb ha)
    clear h hb ha
    go_enter Try.func33, Try.ntmps33
    go_wp2_with fail
    refine c1.out.mono ?_; rintro e w' ⟨rfl, rfl⟩
    go_wp2
    go_ret2
    exact ⟨rfl, rfl⟩
theorem least_nil (w : World) (a b : Int) : Calls Try.prog 33 #[.pointer none, .int .i64 a, .int .i64 b] w fun e w' => e = .returned (.tuple #[.int .i64 0, .bool false]) ∧ w = w' := by
  have c1 := kept (has_nil w a)
  go_enter Try.func33, Try.ntmps33
  go_wp2_with fail
  refine c1.out.mono ?_; rintro e w' ⟨rfl, rfl⟩
  go_wp2
  go_ret2
  exact ⟨rfl, rfl⟩

set_option maxRecDepth 100000 in
set_option maxHeartbeats 4000000 in
theorem least_any {w : World} {B g n : Nat} {lv mv : Value} {L : List Chain.Fct} {M : List Nat} (h : Stk w B g lv mv n L M) (a b : Nat) (ha : a < n) (hb : b < n) (hn : n ≤ 1024) (hL : L.length ≤ 8192) (hBw : B ≤ w.heap.size) (hf : Fits L n) :
    Calls Try.prog 33 #[.pointer (some ⟨g, 0, none⟩), .int .i64 a, .int .i64 b] w (Leasts w (leastV L a b)) := by
  obtain ⟨i0, hi, hz0, hz1, hz2⟩ := info_parts info115
  have c1 := kept (has_yes w g n _ mv a h.blk (by simp [hasB]; omega))
  have c2 := kept (has_yes w g n _ mv b h.blk (by simp [hasB]; omega))
  have hc := h.blk.cell 0
  simp at hc
  have HS := kept h
  have HFt := kept hf
  clear h hf
  go_enter Try.func33, Try.ntmps33
  go_wp2_with fail
  refine c1.out.mono ?_; rintro e w' ⟨rfl, rfl⟩
  go_wp2_with fail
  refine c2.out.mono ?_; rintro e w' ⟨rfl, rfl⟩
  go_wp2_with (at_make; refine wpList_make_full _ rfl _ _ 113 rfl B 115 i0 _ 2 Try.underlying113 hi hz0 hz1 .i64 .i64 _ _ n rfl rfl rfl rfl ?c1 ?c2 ?c3 ?_)
  case c1 => rw [hz2]; omega
  case c2 => unfold maxLen; omega
  case c3 => exact hBw
  intro w1 hown hg
  rw [made_nodes] at hown
  have hst := (hown.stored (b * 2) (.bool true)).1
  rw [node_first n b hb] at hst
  have hK1 : Keeps w (w1.setCell ⟨w.heap.size, b * 2, none⟩ (.bool true)) [] := ((Keeps.refl w []).grown hg (fun k hk => by cases hk)).setCell (.inr (by simp)) _
  have HI0 := kept (show LeastInv w (w1.setCell ⟨w.heap.size, b * 2, none⟩ (.bool true)) B n b w.heap.size n L 0 true from ⟨hst, hK1, fun h => by cases h⟩)
  have q0 := hown.cellAt (b * 2) (by omega)
  rw [node_ok _ hb] at q0
  have z0 := hown.frozenAt (b * 2)
  clear hst hK1 hown hg
  go_wp2
  go_loopw [8, 9, 10] (fun nw i c wr => ∃ (k : Nat) (ag : Bool) (gk ck : Nat), k ≤ 6 ∧ i = .int .i64 k ∧ c = .bool ag ∧ nw = .slice (some ⟨gk, 0, none⟩) n ck ∧ LeastInv w wr B n b gk ck L k ag) (fun _ i _ _ => 6 - (intOf i).toNat)
  case atStart => exact ⟨0, true, _, _, by omega, rfl, rfl, rfl, HI0.out⟩
  case round =>
    obtain ⟨k, ag, gk, ck, hk, rfl, rfl, rfl, hI⟩ := hrel
    have HI := kept hI
    clear hI
    by_cases hgo : k < 6 ∧ ag = true
    · obtain ⟨hlt, rfl⟩ := hgo
      have hKr : Keeps w wr [] := HI.out.2.1
      have HSr := kept (HS.out.keep hKr (by simp) (by simp) (by simp))
      have CF := kept (further_any HSr.out (Chain.N L b k) HI.out.1 hn (by omega) hL (Nat.le_trans hBw hKr.size) HFt.out (fits_bound HFt.out (by omega)))
      clear hKr
      go_wp2_with fail
      refine CF.out.mono ?_
      rintro e w' hw
      obtain ⟨g2, c2', ch, rfl, hN⟩ := least_step HFt.out hlt HI.out hw
      clear hw
      have HN := kept hN
      clear hN
      go_wp2
      go_roundw
      case rel => exact ⟨k + 1, ch, _, _, by omega, by go_num, rfl, rfl, HN.out⟩
      case measure => simp [intOf]; omega
    · have hN : Chain.N L b 6 = Chain.N L b k := by
        by_cases h6 : k < 6
        · exact HI.out.2.2 (by cases ag <;> simp_all)
        · rw [show k = 6 by omega]
      have hO := HI.out.1
      rw [← hN] at hO
      have m0 := hO.cellAt (a * 2) (by omega)
      have m1 := hO.cellAt (a * 2 + 1) (by omega)
      rw [node_ok _ ha] at m0
      rw [node_sum _ ha] at m1
      have HKr := kept HI.out.2.1
      have HV : Hid (leastV L a b = Chain.N L b 6 a) := rfl
      clear hN hO
      by_cases h6 : k < 6
      · have hag : ag = false := by cases ag <;> simp_all
        subst hag
        clear hgo
        rcases hX : Chain.N L b 6 a with _ | s
        all_goals
          rw [hX] at m0 m1
          have HX := kept hX
          clear hX
          simp at m0 m1
          go_wp2
          go_ret2
          exact ⟨by rw [HV.out, HX.out]; rfl, HKr.out⟩
      · clear hgo
        rcases hX : Chain.N L b 6 a with _ | s
        all_goals
          rw [hX] at m0 m1
          have HX := kept hX
          clear hX
          simp at m0 m1
          go_wp2
          go_ret2
          exact ⟨by rw [HV.out, HX.out]; rfl, HKr.out⟩
end Go.Proofs.Ytppidnjhdefbiaa
