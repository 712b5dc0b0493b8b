/- The walk of the law FactsBack. -/
import Derived.Test.YtbaajnkgnemeiaaFactsTwo
import Derived.Deep.RegionHeld3
namespace Go.Proofs.Ytbaajnkgnemeiaa
open Go.RowKit
set_option linter.unusedVariables false

def addL (n : Nat) (L : List Chain.Fct) (a b c : Int) : List Chain.Fct := if mayB n L.length a b c then L ++ [⟨a.toNat, b.toNat, c⟩] else L

def TwoAdd (w wr : World) (g1 g2 n : Nat) (m1 l2 m2 : Value) (L1 : List Chain.Fct) (M1 : List Nat) (L2 : List Chain.Fct) (M2 : List Nat) (w' : World) : Prop :=
  (∃ l1', Two w w' g1 g2 n l1' m1 l2 m2 L1 M1 L2 M2) ∧ ∀ x cs, Blk wr x 36 cs → Blk w' x 36 cs

theorem two_add {w wr : World} {g1 g2 n : Nat} {l1 m1 l2 m2 : Value} {L1 L2 : List Chain.Fct} {M1 M2 : List Nat} (h : Two w wr g1 g2 n l1 m1 l2 m2 L1 M1 L2 M2) (a b c : Int) :
    Calls Try.prog 32 #[.pointer (some ⟨g1, 0, none⟩), .int .i64 a, .int .i64 b, .int .i64 c] wr fun e w' => e = .returned (.bool (mayB n L1.length a b c)) ∧ TwoAdd w wr g1 g2 n m1 l2 m2 (addL n L1 a b c) M1 L2 M2 w' := by
  rcases Bool.eq_false_or_eq_true (mayB n L1.length a b c) with hm | hm
  · have hm' := hm
    simp [mayB, hasB] at hm
    obtain ⟨⟨⟨⟨⟨ha0, ha1⟩, hb0, hb1⟩, hc1⟩, hc2⟩, hl⟩ := hm
    obtain ⟨A, rfl⟩ : ∃ A : Nat, a = A := ⟨a.toNat, by omega⟩
    obtain ⟨C, rfl⟩ : ∃ C : Nat, b = C := ⟨b.toNat, by omega⟩
    refine (add_yes h.s A C c (has_lt (by omega)) (has_lt (by omega)) hc1 hc2 hl h.keeps.size).mono ?_
    rintro e w' ⟨rfl, hA⟩
    refine ⟨by rw [hm'], ?_, ?_⟩
    · unfold addL
      rw [if_pos hm']
      exact h.add hA
    · intro x cs hx
      obtain ⟨_, _, k, _⟩ := hA
      refine hx.keep k (fun hi => ?_)
      simp at hi
      rcases hi with rfl | hi
      · have := h.s.blk
        unfold Blk at hx this
        rw [hx] at this
        simp at this
      · exact own_ne h.s.facts hx (by decide) hi
  · refine (add_no h.s a b c hm).mono ?_
    rintro e w' ⟨rfl, rfl⟩
    refine ⟨by rw [hm], ?_, fun _ _ hx => hx⟩
    unfold addL
    rw [if_neg (by simp [hm])]
    exact ⟨_, h⟩

theorem addL_len (n : Nat) (L : List Chain.Fct) (a b c : Int) : L.length ≤ (addL n L a b c).length ∧ (addL n L a b c).length ≤ L.length + 1 := by
  unfold addL; split <;> simp
theorem addL_fits {n : Nat} {L : List Chain.Fct} (a b c : Int) (h : Fits L n) : Fits (addL n L a b c) n := by
  unfold addL
  split
  · rename_i hm
    simp [mayB, hasB] at hm
    obtain ⟨⟨⟨⟨⟨ha0, ha1⟩, hb0, hb1⟩, hc1⟩, hc2⟩, hl⟩ := hm
    exact fits_one h (by omega) (by omega) hc1 hc2
  · exact h
theorem addL_take {n m : Nat} {L : List Chain.Fct} (a b c : Int) (h : m ≤ L.length) : (addL n L a b c).take m = L.take m := by
  unfold addL
  split
  · rw [List.take_append_of_le_length h]
  · rfl

/-- the first loop -/
def Same2 (w wr : World) (g1 g2 n k : Nat) : Prop := ∃ l1 m1 l2 m2 L, L.length ≤ k ∧ Fits L n ∧ Two w wr g1 g2 n l1 m1 l2 m2 L [] L []

set_option maxRecDepth 100000 in
set_option maxHeartbeats 8000000 in
theorem back_early (n : Int) (al : Option Addr) (ll cl : Nat) (am : Option Addr) (lm cm : Nat) (a b : Int) (hl : ll ≤ 9223372036854775807) (hm : lm ≤ 9223372036854775807) (w : World) (h : n < 0 ∨ 20 < n ∨ 40 < ll ∨ 40 < lm) :
    Calls Try.prog 8 #[.int .i64 n, .slice al ll cl, .slice am lm cm, .int .i64 a, .int .i64 b] w fun e w' => e = .returned (.bool true) ∧ Below w.heap.size w w' := by
  rcases Bool.eq_false_or_eq_true (decide (n < 0)) with h0 | h0
  · clear h
    go_enter Try.func8, Try.ntmps8
    go_wp2_with fail
    refine (factslives _).mono ?_
    rintro e w1 ⟨rfl, k1⟩
    go_wp2_with fail
    refine (factslives _).mono ?_
    rintro e w2 ⟨rfl, k2⟩
    go_wp2
    go_ret
    exact ⟨rfl, (Keeps.trans k1 k2).below (Nat.le_refl _) (by simp)⟩
  rcases Bool.eq_false_or_eq_true (decide (20 < n)) with h1 | h1
  · clear h
    go_enter Try.func8, Try.ntmps8
    go_wp2_with fail
    refine (factslives _).mono ?_
    rintro e w1 ⟨rfl, k1⟩
    go_wp2_with fail
    refine (factslives _).mono ?_
    rintro e w2 ⟨rfl, k2⟩
    go_wp2
    go_ret
    exact ⟨rfl, (Keeps.trans k1 k2).below (Nat.le_refl _) (by simp)⟩
  rcases Bool.eq_false_or_eq_true (decide ((40 : Int) < ll)) with h2 | h2
  · clear h
    go_enter Try.func8, Try.ntmps8
    go_wp2_with fail
    refine (factslives _).mono ?_
    rintro e w1 ⟨rfl, k1⟩
    go_wp2_with fail
    refine (factslives _).mono ?_
    rintro e w2 ⟨rfl, k2⟩
    go_wp2
    go_ret
    exact ⟨rfl, (Keeps.trans k1 k2).below (Nat.le_refl _) (by simp)⟩
  rcases Bool.eq_false_or_eq_true (decide ((40 : Int) < lm)) with h3 | h3
  · clear h
    go_enter Try.func8, Try.ntmps8
    go_wp2_with fail
    refine (factslives _).mono ?_
    rintro e w1 ⟨rfl, k1⟩
    go_wp2_with fail
    refine (factslives _).mono ?_
    rintro e w2 ⟨rfl, k2⟩
    go_wp2
    go_ret
    exact ⟨rfl, (Keeps.trans k1 k2).below (Nat.le_refl _) (by simp)⟩
  · simp at h0 h1 h2 h3; omega

/-- the second loop -/
def More2 (w wr : World) (g1 g2 n : Nat) (L : List Chain.Fct) (j : Nat) : Prop :=
  ∃ l1 m1 l2 m2 L1 R, L1.take L.length = L ∧ L.length ≤ L1.length ∧ L1.length ≤ L.length + j ∧ (R = [] ∨ (4 ≤ j ∧ ∃ m, R = [m] ∧ L.length ≤ m ∧ m ≤ L1.length)) ∧ Two w wr g1 g2 n l1 m1 l2 m2 L1 (L.length :: R) L []

/-- the marks that are left -/
def PopOk (L L1 : List Chain.Fct) (Mk : List Nat) : Prop :=
  L1.length ≤ 80 ∧ ((Mk = [] ∧ L1 = L) ∨ (Mk = [L.length] ∧ L1.take L.length = L ∧ L.length ≤ L1.length) ∨ ∃ m, Mk = [L.length, m] ∧ L1.take L.length = L ∧ L.length ≤ m ∧ m ≤ L1.length)
/-- the third loop -/
def Pops (w wr : World) (g1 g2 n : Nat) (L : List Chain.Fct) (D q : Nat) : Prop :=
  ∃ l1 m1 l2 m2 L1 Mk, Mk.length + q = D ∧ PopOk L L1 Mk ∧ Two w wr g1 g2 n l1 m1 l2 m2 L1 Mk L []

theorem pops_step {w wr : World} {g1 g2 n D q : Nat} {L : List Chain.Fct} (h : Pops w wr g1 g2 n L D q) (hq : q < D) :
    Calls Try.prog 36 #[.pointer (some ⟨g1, 0, none⟩)] wr fun e w' => e = .returned (.bool true) ∧ Pops w w' g1 g2 n L D (q + 1) := by
  obtain ⟨l1, m1, l2, m2, L1, Mk, hD, ⟨h80, hok⟩, T⟩ := h
  rcases hok with ⟨rfl, _⟩ | ⟨rfl, h1, h2⟩ | ⟨m, rfl, h1, h2, h3⟩
  · simp at hD; omega
  · have hs : Stk wr w.heap.size g1 l1 m1 n L1 ([] ++ [L.length]) := T.s
    refine (pop_any hs h2 (by simp) (by omega)).mono ?_
    rintro e w' ⟨rfl, hP⟩
    obtain ⟨l1', m1', hT⟩ := T.pop hP
    rw [h1] at hT
    have h2' := h2
    rw [← h1, List.length_take] at h2'
    exact ⟨rfl, _, _, _, _, L, [], by simp at hD ⊢; omega, ⟨by omega, .inl ⟨rfl, rfl⟩⟩, hT⟩
  · have hs : Stk wr w.heap.size g1 l1 m1 n L1 ([L.length] ++ [m]) := T.s
    refine (pop_any hs h3 (by simp) (by omega)).mono ?_
    rintro e w' ⟨rfl, hP⟩
    obtain ⟨l1', m1', hT⟩ := T.pop hP
    refine ⟨rfl, _, _, _, _, L1.take m, [L.length], by simp at hD ⊢; omega, ⟨by rw [List.length_take]; omega, .inr (.inl ⟨rfl, ?_, ?_⟩)⟩, hT⟩
    · rw [List.take_take, Nat.min_eq_left h2, h1]
    · rw [List.length_take]; omega
theorem pops_end {w wr : World} {g1 g2 n D q : Nat} {L : List Chain.Fct} (h : Pops w wr g1 g2 n L D q) (hq : ¬ q < D) : ∃ l1 m1 l2 m2, Two w wr g1 g2 n l1 m1 l2 m2 L [] L [] := by
  obtain ⟨l1, m1, l2, m2, L1, Mk, hD, ⟨h80, hok⟩, T⟩ := h
  rcases hok with ⟨rfl, rfl⟩ | ⟨rfl, h1, h2⟩ | ⟨m, rfl, h1, h2, h3⟩
  · exact ⟨_, _, _, _, T⟩
  · simp at hD; omega
  · simp at hD; omega

set_option maxRecDepth 100000 in
set_option maxHeartbeats 8000000 in
theorem back_main (n : Nat) (al : Option Addr) (ll cl : Nat) (am : Option Addr) (lm cm : Nat) (a b : Int) (x0 x1 x2 y0 y1 y2 : Nat → Int) (hn : n ≤ 20) (hl : ll ≤ 40) (hm : lm ≤ 40) (w : World)
    (hsl : Sees3 w al ll x0 x1 x2) (hsm : Sees3 w am lm y0 y1 y2) :
    Calls Try.prog 8 #[.int .i64 n, .slice al ll cl, .slice am lm cm, .int .i64 a, .int .i64 b] w fun e w' => e = .returned (.bool true) ∧ Below w.heap.size w w' := by
  have HL := kept hsl
  have HM := kept hsm
  clear hsl hsm
  go_enter Try.func8, Try.ntmps8
  go_wp2_with fail
  refine (factslives _).mono ?_
  rintro e w1 ⟨rfl, k1⟩
  have K1 := kept (show Keeps w w1 [] from k1)
  clear k1
  go_wp2_with fail
  refine (new_yes _ n (by omega)).mono ?_
  rintro e w2 ⟨rfl, hw2⟩
  have K2 := kept (show Keeps w w2 [] by rw [hw2]; exact K1.out.alloc _)
  have h2 : Hid (Stk w2 w.heap.size w1.heap.size (.slice none 0 0) (.slice none 0 0) n [] []) := by rw [hw2]; exact stk_new w1 w.heap.size n K1.out.size
  clear hw2
  go_wp2_with fail
  refine (new_yes _ n (by omega)).mono ?_
  rintro e w3 ⟨rfl, hw3⟩
  have K3 := kept (show Keeps w w3 [] by rw [hw3]; exact K2.out.alloc _)
  have T0 : Hid (Same2 w w3 w1.heap.size w2.heap.size n 0) := by
    refine ⟨.slice none 0 0, .slice none 0 0, .slice none 0 0, .slice none 0 0, [], Nat.le_refl _, fits_nil n, ?_⟩
    have hk : Keeps w2 w3 [] := by rw [hw3]; exact (Keeps.refl w2 []).alloc _
    have ht : Stk w3 w.heap.size w2.heap.size (.slice none 0 0) (.slice none 0 0) n [] [] := by rw [hw3]; exact stk_new w2 w.heap.size n K2.out.size
    exact ⟨h2.out.keep hk (by simp) (by simp) (by simp), ht, Nat.ne_of_lt h2.out.blk.lt, fun i hi => by simp [Value.ownBlock] at hi, fun i hi => by simp [Value.ownBlock] at hi, K3.out⟩
  clear hw3 h2 K1 K2 K3
  generalize w1.heap.size = g1 at *
  generalize w2.heap.size = g2 at *
  go_wp2
  go_loopw [48] (fun x wr => ∃ (i : Nat), i ≤ ll ∧ x = .int .i64 i ∧ Same2 w wr g1 g2 n i) (fun x _ => ll - (intOf x).toNat)
  case atStart => exact ⟨0, by omega, rfl, T0.out⟩
  case round =>
    obtain ⟨i, hi, rfl, hI⟩ := hrel
    have HI := kept hI
    clear hI T0
    by_cases hlt : i < ll
    · obtain ⟨l1, m1, l2, m2, L, hLk, hLf, T⟩ := HI.out
      obtain ⟨bl, ol, rfl, hbl, hcl⟩ := (HL.out.keep T.keeps).resolve_left (by omega)
      obtain ⟨q0, q1, q2⟩ := hcl i hlt
      have TT := kept T
      have HF := kept hLf
      have HLk := kept hLk
      clear T hcl hLf hLk
      obtain ⟨A, hA⟩ : ∃ A, A = x0 i := ⟨_, rfl⟩
      obtain ⟨C, hC⟩ : ∃ C, C = x1 i := ⟨_, rfl⟩
      obtain ⟨c, hc⟩ : ∃ c, c = x2 i := ⟨_, rfl⟩
      rw [← hA] at q0
      rw [← hC] at q1
      rw [← hc] at q2
      clear hA hC hc
      have TW := kept (TT.out.calm (((Keeps.refl wr []).alloc (Obj.cells #[.int .i64 A, .int .i64 C, .int .i64 c] 36)).drewN 1))
      have BW := kept (show Blk ((wr.alloc (Obj.cells #[.int .i64 A, .int .i64 C, .int .i64 c] 36)).drewN 1) wr.heap.size 36 #[.int .i64 A, .int .i64 C, .int .i64 c] from Blk.new wr _ _)
      have CA := kept (two_add TW.out A C c)
      generalize hx : wr.heap.size = x at *
      go_wp2
      clear q0 q1 q2
      generalize hW : wr.alloc (Obj.cells #[.int .i64 A, .int .i64 C, .int .i64 c] 36) = W at *
      clear hW
      have p0 : W.cell? ⟨x, 0, none⟩ = some (.int .i64 A) := BW.out.cell 0
      have p1 : W.cell? ⟨x, 1, none⟩ = some (.int .i64 C) := BW.out.cell 1
      have p2 : W.cell? ⟨x, 2, none⟩ = some (.int .i64 c) := BW.out.cell 2
      have CA' : Hid (Calls Try.prog 32 #[.pointer (some ⟨g1, 0, none⟩), .int .i64 A, .int .i64 C, .int .i64 c] W.drew fun e w' => e = .returned (.bool (mayB n L.length A C c)) ∧ TwoAdd w (W.drewN 1) g1 g2 n m1 l2 m2 (addL n L A C c) [] L [] w') := CA
      clear CA
      go_region_held3 (fun w' => w'.cell? ⟨x, 0, none⟩ = some (.int .i64 A) ∧ w'.cell? ⟨x, 1, none⟩ = some (.int .i64 C) ∧ w'.cell? ⟨x, 2, none⟩ = some (.int .i64 c)) (go_keep) (first | (go_at_call_of 32 (Value.pointer (some ⟨g1, 0, none⟩)); refine CA'.out.mono ?_; rintro e w3 ⟨rfl, hA⟩; obtain ⟨l1', hT⟩ := hA.1; have BX := hA.2 x _ BW.out; have p0' := BX.cell 0; have p1' := BX.cell 1; have p2' := BX.cell 2; simp at p0' p1' p2'; have BX := kept BX; have HT := kept hT; clear hA hT) | (go_at_call_of 32 (Value.pointer (some ⟨g2, 0, none⟩)); refine (two_add HT.out.symm A C c).mono ?_; rintro e w4 ⟨rfl, hA⟩; obtain ⟨l2', hT⟩ := hA.1; have BX2 := hA.2 x _ BX.out; have p0' := BX2.cell 0; have p1' := BX2.cell 1; have p2' := BX2.cell 2; simp at p0' p1' p2'; have HT2 := kept hT.symm; clear hA hT BX2))
      go_wp2
      go_roundw
      case rel => exact ⟨i + 1, by omega, by go_num, _, _, _, _, _, Nat.le_trans (addL_len n L A C c).2 (by have := HLk.out; omega), addL_fits A C c HF.out, HT2.out⟩
      case measure => simp [intOf]; omega
    · obtain ⟨l1, m1, l2, m2, L, hLk, hLf, T⟩ := HI.out
      have TT := kept T
      have HF := kept hLf
      have hL80 : L.length ≤ 40 := by omega
      clear T hLf hLk
      have CP := kept (push_any TT.out.s (by omega) (by decide) TT.out.keeps.size)
      go_wp2_with fail
      refine CP.out.mono ?_
      rintro e w4 ⟨rfl, hP⟩
      have T4 : Hid (More2 w w4 g1 g2 n L 0) := by
        obtain ⟨m1', hT⟩ := TT.out.push hP
        rw [List.nil_append] at hT
        exact ⟨_, _, _, _, L, [], by simp, Nat.le_refl _, Nat.le_refl _, .inl rfl, hT⟩
      clear hP CP
      go_wp2
      go_loopw [74] (fun x wr => ∃ (j : Nat), j ≤ lm ∧ x = .int .i64 j ∧ More2 w wr g1 g2 n L j) (fun x _ => lm - (intOf x).toNat)
      case atStart => exact ⟨0, by omega, rfl, T4.out⟩
      case round =>
        obtain ⟨j, hj, rfl, hI⟩ := hrel
        have HI2 := kept hI
        clear hI T4
        by_cases hlt2 : j < lm
        · obtain ⟨l1, m1, l2, m2, L1, R, e1, e2, e3, e4, T⟩ := HI2.out
          obtain ⟨bl, ol, rfl, hbl, hcl⟩ := (HM.out.keep T.keeps).resolve_left (by omega)
          obtain ⟨q0, q1, q2⟩ := hcl j hlt2
          have E1 := kept e1
          have E4 := kept e4
          have TT2 := kept T
          clear e1 e4 T hcl
          obtain ⟨A, hA⟩ : ∃ A, A = y0 j := ⟨_, rfl⟩
          obtain ⟨C, hC⟩ : ∃ C, C = y1 j := ⟨_, rfl⟩
          obtain ⟨c, hc⟩ : ∃ c, c = y2 j := ⟨_, rfl⟩
          rw [← hA] at q0
          rw [← hC] at q1
          rw [← hc] at q2
          clear hA hC hc
          go_wp2_with fail
          refine (two_add (TT2.out.calm ((Keeps.refl _ []).alloc (Obj.cells #[.int .i64 A, .int .i64 C, .int .i64 c] 36))) A C c).mono ?_
          rintro e w5 ⟨rfl, hA⟩
          obtain ⟨l1', hT⟩ := hA.1
          have HT := kept hT
          have HB := kept (hA.2)
          clear hA hT
          have hlen := addL_len n L1 A C c
          have htk := addL_take (n := n) A C c e2
          by_cases h3 : j = 3
          · subst h3
            have hR : R = [] := by
              rcases E4.out with h | ⟨h, _⟩
              · exact h
              · omega
            subst hR
            have CP := kept (push_any HT.out.s (by omega) (by simp) HT.out.keeps.size)
            go_wp2_with fail
            refine CP.out.mono ?_
            rintro e w6 ⟨rfl, hP⟩
            have T6 : Hid (More2 w w6 g1 g2 n L (3 + 1)) := by
              obtain ⟨m1', hT⟩ := HT.out.push hP
              exact ⟨_, _, _, _, _, _, htk.trans E1.out, by omega, by omega, .inr ⟨by omega, _, rfl, by omega, Nat.le_refl _⟩, hT⟩
            clear hP CP hlen htk
            go_wp2
            go_roundw
            case rel => exact ⟨3 + 1, by omega, by go_num, T6.out⟩
            case measure => simp [intOf]; omega
          · have T6 : Hid (More2 w w5 g1 g2 n L (j + 1)) := by
              refine ⟨_, _, _, _, _, R, htk.trans E1.out, by omega, by omega, ?_, HT.out⟩
              rcases E4.out with h | ⟨h, m, h5, h6, h7⟩
              · exact .inl h
              · exact .inr ⟨by omega, m, h5, h6, by omega⟩
            clear hlen htk
            go_wp2
            go_roundw
            case rel => exact ⟨j + 1, by omega, by go_num, T6.out⟩
            case measure => simp [intOf]; omega
        · obtain ⟨l1, m1, l2, m2, L1, R, e1, e2, e3, e4, T⟩ := HI2.out
          have TT2 := kept T
          obtain ⟨D, hD⟩ : ∃ D, D = (L.length :: R).length := ⟨_, rfl⟩
          have CD := kept (depth_any T.s)
          rw [← hD] at CD
          have P0 : Hid (Pops w wr g1 g2 n L D 0) := by
            refine ⟨_, _, _, _, L1, _, by rw [← hD]; rfl, ⟨by omega, ?_⟩, T⟩
            rcases e4 with rfl | ⟨_, m, rfl, e5, e6⟩
            · exact .inr (.inl ⟨rfl, e1, e2⟩)
            · exact .inr (.inr ⟨m, rfl, e1, e5, e6⟩)
          have hD2 : D ≤ 2 := by
            rcases e4 with rfl | ⟨_, m, rfl, e5, e6⟩ <;> rw [hD] <;> simp
          clear e1 e4 T hD e2 e3 TT2
          go_wp2_with fail
          refine CD.out.mono ?_
          rintro e w5 ⟨rfl, rfl⟩
          go_wp2
          go_loopw [94] (fun x wr => ∃ (q : Nat), q ≤ D ∧ x = .int .i64 q ∧ Pops w wr g1 g2 n L D q) (fun x _ => D - (intOf x).toNat)
          case atStart => exact ⟨0, by omega, rfl, P0.out⟩
          case round =>
            obtain ⟨q, hq, rfl, hI⟩ := hrel
            have HI3 := kept hI
            clear hI P0
            by_cases hlt3 : q < D
            · go_wp2_with fail
              refine (pops_step HI3.out hlt3).mono ?_
              rintro e w6 ⟨rfl, hP⟩
              have HP := kept hP
              clear hP
              go_wp2
              go_roundw
              case rel => exact ⟨q + 1, by omega, by go_num, HP.out⟩
              case measure => simp [intOf]; omega
            · obtain ⟨l1, m1, l2, m2, T⟩ := pops_end HI3.out hlt3
              have TT3 := kept T
              clear T
              by_cases hab : hasB a n = true ∧ hasB b n = true
              · obtain ⟨ha, hb⟩ := hab
                simp [hasB] at ha hb
                obtain ⟨A, rfl⟩ : ∃ A : Nat, a = A := ⟨a.toNat, by omega⟩
                obtain ⟨C, rfl⟩ : ∃ C : Nat, b = C := ⟨b.toNat, by omega⟩
                have C1 := kept (least_any TT3.out.s A C (by omega) (by omega) (by omega) (by omega) TT3.out.keeps.size HF.out)
                obtain ⟨r, hr⟩ : ∃ r, r = leastV L A C := ⟨_, rfl⟩
                rw [← hr] at C1
                have HR := kept hr
                clear hr
                go_wp2_with fail
                refine C1.out.mono ?_
                rintro e w6 ⟨rfl, k6⟩
                have TT4 := kept (TT3.out.calm k6)
                clear k6
                have C2 := kept (least_any TT4.out.t A C (by omega) (by omega) (by omega) (by omega) TT4.out.keeps.size HF.out)
                rw [← HR.out] at C2
                clear HR
                go_wp2_with fail
                refine C2.out.mono ?_
                rintro e w7 ⟨rfl, k7⟩
                have TT5 := kept (TT4.out.calm k7)
                clear k7
                go_wp2_with fail
                refine (len_any TT5.out.s).mono ?_
                rintro e w8 ⟨rfl, rfl⟩
                go_wp2_with fail
                refine (len_any TT5.out.t).mono ?_
                rintro e w8 ⟨rfl, rfl⟩
                go_wp2_with fail
                refine (depth_any TT5.out.s).mono ?_
                rintro e w8 ⟨rfl, rfl⟩
                go_wp2
                go_ret
                exact ⟨rfl, TT5.out.keeps.below (Nat.le_refl _) (by simp)⟩
              · have hno : hasB a n = false ∨ hasB b n = false := by
                  rcases Bool.eq_false_or_eq_true (hasB a n) with h1 | h1
                  · rcases Bool.eq_false_or_eq_true (hasB b n) with h2 | h2
                    · exact (hab ⟨h1, h2⟩).elim
                    · exact .inr h2
                  · exact .inl h1
                have C1 := kept (least_no TT3.out.s.blk a b hno)
                have C2 := kept (least_no TT3.out.t.blk a b hno)
                clear hab hno
                go_wp2_with fail
                refine C1.out.mono ?_
                rintro e w6 ⟨rfl, rfl⟩
                go_wp2_with fail
                refine C2.out.mono ?_
                rintro e w7 ⟨rfl, rfl⟩
                go_wp2_with fail
                refine (len_any TT3.out.s).mono ?_
                rintro e w8 ⟨rfl, rfl⟩
                go_wp2_with fail
                refine (len_any TT3.out.t).mono ?_
                rintro e w8 ⟨rfl, rfl⟩
                go_wp2_with fail
                refine (depth_any TT3.out.s).mono ?_
                rintro e w8 ⟨rfl, rfl⟩
                go_wp2
                go_ret
                exact ⟨rfl, TT3.out.keeps.below (Nat.le_refl _) (by simp)⟩

theorem walkFactsBack (n : Int) (al : Option Addr) (ll cl : Nat) (am : Option Addr) (lm cm : Nat) (a b : Int) (x0 x1 x2 y0 y1 y2 : Nat → Int) (hl1 : ll ≤ cl) (hl2 : cl ≤ maxLen) (hm1 : lm ≤ cm) (hm2 : cm ≤ maxLen) {w : World}
    (hsl : Sees3 w al ll x0 x1 x2) (hsm : Sees3 w am lm y0 y1 y2) (w' : World) (hw : w' = w) :
    Calls Try.prog 8 #[.int .i64 n, .slice al ll cl, .slice am lm cm, .int .i64 a, .int .i64 b] w' fun e w1 => e = .returned (.bool true) ∧ Below w'.heap.size w' w1 := by
  subst hw
  unfold maxLen at hl2 hm2
  by_cases h : n < 0 ∨ 20 < n ∨ 40 < ll ∨ 40 < lm
  · exact back_early n al ll cl am lm cm a b (by omega) (by omega) w' h
  · obtain ⟨N, rfl⟩ : ∃ N : Nat, n = N := ⟨n.toNat, by omega⟩
    exact back_main N al ll cl am lm cm a b x0 x1 x2 y0 y1 y2 (by omega) (by omega) (by omega) w' hsl hsm
end Go.Proofs.Ytbaajnkgnemeiaa
