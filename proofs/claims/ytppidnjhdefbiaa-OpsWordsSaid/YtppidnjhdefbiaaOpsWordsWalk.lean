/- Package ops: the walk of the law OpsWords. -/
import Derived.Test.YtppidnjhdefbiaaOpsFinds
import Derived.Test.YtppidnjhdefbiaaOpsTakes
namespace Go.Proofs.Ytppidnjhdefbiaa
open Go.RowKit
set_option linter.unusedVariables false

/-- the last row of a word among the first k -/
def atv (f : Nat → ByteArray) (s : ByteArray) : Nat → Int
  | 0 => -1
  | k + 1 => if f k = s then (k : Int) else atv f s k
theorem atv_yes {f : Nat → ByteArray} {s : ByteArray} {k : Nat} (h : f k = s) : atv f s (k + 1) = (k : Int) := if_pos h
theorem atv_not {f : Nat → ByteArray} {s : ByteArray} {k : Nat} (h : f k ≠ s) : atv f s (k + 1) = atv f s k := if_neg h
theorem atv_none {f : Nat → ByteArray} {s : ByteArray} {n : Nat} (h : ∀ j : Nat, j < n → f j ≠ s) : atv f s n = -1 := by
  induction n with
  | zero => rfl
  | succ n ih => rw [atv_not (h n (by omega))]; exact ih (fun j hj => h j (by omega))
theorem atv_at {f : Nat → ByteArray} {s : ByteArray} {n k : Nat} (hk : k < n) (e : f k = s) (h : ∀ j : Nat, j < n → f j = s → j = k) : atv f s n = (k : Int) := by
  induction n with
  | zero => omega
  | succ n ih =>
    by_cases hn : f n = s
    · rw [atv_yes hn, h n (by omega) hn]
    · rw [atv_not hn]
      have : k ≠ n := by rintro rfl; exact hn e
      exact ih (by omega) (fun j hj he => h j (by omega) he)
theorem kword_inj : ∀ i, i < 27 → ∀ j, j < 27 → kword i = kword j → i = j := by decide +kernel
theorem tword_inj : ∀ i : Nat, i < 3 → ∀ j : Nat, j < 3 → tword i = tword j → i = j := by decide +kernel
theorem kwordI_nat {k : Nat} (h : k < 27) : kwordI k = kword k := by
  unfold kwordI
  rw [if_pos ⟨by omega, by omega⟩]
  rfl
def tw (k : Nat) : ByteArray := tword k
theorem tat (s : ByteArray) : ∃ (T : Int) (is : Bool), (tfind s).getD 0 = T ∧ (tfind s).isSome = is ∧ ((is = true ∧ 0 ≤ T ∧ atv tw s 3 = T) ∨ (is = false ∧ T = 0 ∧ atv tw s 3 = -1)) := by
  by_cases h : ∃ k, k < 3 ∧ tw k = s
  · obtain ⟨k, hk, e⟩ := h
    have hu : ∀ j : Nat, j < 3 → tw j = s → j = k := fun j hj he => tword_inj j hj k hk (he.trans e.symm)
    have h1 : tfind s = some (k : Int) := tfind_yes hk (fun j hj he => by have := hu j (by omega) he; omega) e
    exact ⟨k, true, by rw [h1]; rfl, by rw [h1]; rfl, .inl ⟨rfl, by omega, atv_at hk e hu⟩⟩
  · have h0 : ∀ j : Nat, j < 3 → tw j ≠ s := fun j hj he => h ⟨j, hj, he⟩
    have h1 : tfind s = none := tfind_no h0
    exact ⟨0, false, by rw [h1]; rfl, by rw [h1]; rfl, .inr ⟨rfl, rfl, atv_none h0⟩⟩
theorem twm (w : World) : Calls Try.prog 42 #[.int .i64 (-1)] w fun e w' => e = .returned (.string ⟨#[]⟩) ∧ w = w' := typeword_any (-1) w
theorem tw3 (w : World) : Calls Try.prog 42 #[.int .i64 3] w fun e w' => e = .returned (.string ⟨#[]⟩) ∧ w = w' := typeword_any 3 w
def tcell3 : Array Value := #[.string ⟨#[105, 110, 116]⟩, .string ⟨#[98, 111, 111, 108]⟩, .string ⟨#[97, 114, 114]⟩]
theorem tcell (k : Nat) (hk : k < 3) : tcell3[k]? = some (.string (tw k)) :=
  match k, hk with
  | 0, _ => rfl
  | 1, _ => rfl
  | 2, _ => rfl
  | n + 3, h => absurd h (by omega)

set_option maxRecDepth 100000 in
set_option maxHeartbeats 8000000 in
theorem walkOpsWords (s : ByteArray) (w : World) :
    Calls Try.prog 10 #[.string s] w fun e w' => e = .returned (.bool true) ∧ Below w.heap.size w w' := by
  by_cases hs : 60 < s.size
  · have hd : decide (60 < (s.size : Int)) = true := by simp; omega
    go_enter Try.func10, Try.ntmps10
    go_wp2_with fail
    refine (opslives _).mono ?_
    rintro e w1 ⟨rfl, k1⟩
    go_wp2_with fail
    refine (opslives _).mono ?_
    rintro e w2 ⟨rfl, k2⟩
    go_wp2
    go_ret
    exact ⟨rfl, (Keeps.trans k1 k2).below (Nat.le_refl _) (by simp)⟩
  have hd : decide (60 < (s.size : Int)) = false := by simp; omega
  go_enter Try.func10, Try.ntmps10
  go_wp2_with fail
  refine (opslives _).mono ?_
  rintro e w1 ⟨rfl, k1⟩
  have K1 := kept (show Keeps w w1 [] from k1)
  clear k1
  go_wp2_with fail
  refine (of_any s _).mono ?_
  rintro e w2 ⟨hof, k2⟩
  obtain ⟨op, ok, rfl, hat⟩ : ∃ (op : Int) (ok : Bool), e = .returned (.tuple #[.int .i64 op, .bool ok]) ∧ ((ok = true ∧ 0 ≤ op ∧ atv kword s 27 = op) ∨ (ok = false ∧ op = 0 ∧ atv kword s 27 = -1)) := by
    rcases hof with ⟨k, hk, hks, _, rfl⟩ | ⟨hn, rfl⟩
    · rw [kwordI_nat hk] at hks
      exact ⟨_, _, rfl, .inl ⟨rfl, by omega, atv_at hk hks (fun j hj he => kword_inj j hj k hk (he.trans hks.symm))⟩⟩
    · exact ⟨_, _, rfl, .inr ⟨rfl, rfl, atv_none (fun j hj => by rw [← kwordI_nat hj]; exact hn j hj)⟩⟩
  have K2 := kept (K1.out.trans (Keeps.mk k2.os k2.tape k2.output k2.size (fun i hi _ => k2.block i hi) : Keeps w1 w2 []))
  have HA := kept hat
  clear hof hat k2 K1
  go_wp2_with fail
  refine (rows_any _).mono ?_
  rintro e w3 ⟨rfl, hw3⟩
  have hb3 : Blk w3 w2.heap.size 50 kcells := by rw [hw3]; exact Blk.new _ _ _
  have k3 : Keeps w w3 [] := by rw [hw3]; exact K2.out.alloc _
  have HB := kept hb3
  have K3 := kept k3
  clear hb3 k3 K2 hw3
  generalize w2.heap.size = g at *
  go_wp2
  go_loopw [5, 28] (fun at' i wr => ∃ k : Nat, k ≤ 27 ∧ i = .int .i64 k ∧ at' = .int .i64 (atv kword s k) ∧ Blk wr g 50 kcells ∧ Keeps w wr []) (fun _ i _ => 27 - (intOf i).toNat)
  case atStart => exact ⟨0, by omega, rfl, rfl, HB.out, K3.out⟩
  case round =>
    obtain ⟨k, hk, rfl, rfl, hbr, hkr⟩ := hrel
    have HBr := kept hbr
    have HKr := kept hkr
    have c0 := (hbr.cell (k * 3))
    have c1 := (hbr.cell (k * 3 + 1))
    have c2 := (hbr.cell (k * 3 + 2))
    clear hbr hkr
    by_cases hlt : k < 27
    · obtain ⟨e0, e1, e2⟩ := kcell k hlt
      rw [e0] at c0
      rw [e1] at c1
      rw [e2] at c2
      clear e0 e1 e2
      obtain ⟨x, hx⟩ : ∃ x, kword k = x := ⟨_, rfl⟩
      obtain ⟨y, hy⟩ : ∃ x, ktakes k = x := ⟨_, rfl⟩
      obtain ⟨z, hz⟩ : ∃ x, kmakes k = x := ⟨_, rfl⟩
      rw [hx] at c0
      rw [hy] at c1
      rw [hz] at c2
      have HX := kept hx
      clear hx hy hz
      by_cases he : x = s
      · have E := kept (atv_yes (f := kword) (HX.out.trans he))
        subst he
        go_wp2
        exact ⟨⟨k + 1, by omega, by go_num, by rw [E.out], HBr.out.keep ((Keeps.refl _ []).alloc _) (by simp), HKr.out.alloc _⟩, by simp [intOf]; omega⟩
      · have E := kept (atv_not (f := kword) (s := s) (by rw [HX.out]; exact he))
        have hsn := str_ne he
        go_wp2
        exact ⟨⟨k + 1, by omega, by go_num, by rw [E.out], HBr.out.keep ((Keeps.refl _ []).alloc _) (by simp), HKr.out.alloc _⟩, by simp [intOf]; omega⟩
    · obtain rfl : k = 27 := by omega
      clear c0 c1 c2 hk hlt HBr
      rcases HA.out with ⟨rfl, h0, hat⟩ | ⟨rfl, rfl, hat⟩
      · rw [hat]
        clear hat HA
        have hd1 : decide (0 ≤ op) = true := by simp; exact h0
        clear h0
        obtain ⟨T, is, hT, his, hTa⟩ := tat s
        have CT := kept (fun w => typeof_any s w)
        rw [hT, his] at CT
        have HT := kept hTa
        clear hT his hTa
        go_wp2_with fail
        refine (CT.out _).mono ?_
        rintro e w4 ⟨rfl, rfl⟩
        clear CT
        have HB4 : Hid (Blk (wr.alloc (.cells #[.string ⟨#[105, 110, 116]⟩, .string ⟨#[98, 111, 111, 108]⟩, .string ⟨#[97, 114, 114]⟩] 9)) wr.heap.size 9 tcell3) := Blk.new _ _ _
        have K4 : Hid (Keeps w (wr.alloc (.cells #[.string ⟨#[105, 110, 116]⟩, .string ⟨#[98, 111, 111, 108]⟩, .string ⟨#[97, 114, 114]⟩] 9)) []) := HKr.out.alloc _
        clear HKr
        go_wp2
        generalize wr.alloc (.cells #[.string ⟨#[105, 110, 116]⟩, .string ⟨#[98, 111, 111, 108]⟩, .string ⟨#[97, 114, 114]⟩] 9) = W0 at *
        generalize wr.heap.size = g2 at *
        go_loopw [10, 66] (fun at' i wr => ∃ k : Nat, k ≤ 3 ∧ i = .int .i64 k ∧ at' = .int .i64 (atv tw s k) ∧ Blk wr g2 9 tcell3 ∧ Keeps w wr []) (fun _ i _ => 3 - (intOf i).toNat)
        case atStart => exact ⟨0, by omega, rfl, rfl, HB4.out, K4.out⟩
        case round =>
          obtain ⟨k, hk, rfl, rfl, hbr, hkr⟩ := hrel
          have HBr := kept hbr
          have HKr := kept hkr
          have c0 := (hbr.cell k)
          clear hbr hkr
          by_cases hlt : k < 3
          · rw [tcell k hlt] at c0
            have C := kept (fun w => typeword_any k w)
            change Hid (∀ w, Calls Try.prog 42 #[.int .i64 k] w fun e w' => e = .returned (.string (tw k)) ∧ w = w') at C
            obtain ⟨x, hx⟩ : ∃ x, tw k = x := ⟨_, rfl⟩
            rw [hx] at c0 C
            have HX := kept hx
            clear hx
            have hxx : (x.toList == x.toList) = true := beq_self_eq_true _
            by_cases he : x = s
            · have E := kept (atv_yes (f := tw) (HX.out.trans he))
              subst he
              go_wp2_with fail
              refine (C.out _).mono ?_
              rintro e w4 ⟨rfl, rfl⟩
              go_wp2
              exact ⟨⟨k + 1, by omega, by go_num, by rw [E.out], HBr.out, HKr.out⟩, by simp [intOf]; omega⟩
            · have E := kept (atv_not (f := tw) (s := s) (by rw [HX.out]; exact he))
              have hsn := str_ne he
              go_wp2_with fail
              refine (C.out _).mono ?_
              rintro e w4 ⟨rfl, rfl⟩
              go_wp2
              exact ⟨⟨k + 1, by omega, by go_num, by rw [E.out], HBr.out, HKr.out⟩, by simp [intOf]; omega⟩
          · obtain rfl : k = 3 := by omega
            clear c0 hk hlt HBr
            rcases HT.out with ⟨rfl, h0, hat⟩ | ⟨rfl, rfl, hat⟩
            all_goals
              rw [hat]
              clear hat HT
              go_wp2_with fail
              refine (twm _).mono ?_
              rintro e w5 ⟨rfl, rfl⟩
              go_wp2_with fail
              refine (tw3 _).mono ?_
              rintro e w5 ⟨rfl, rfl⟩
              go_wp2
              go_ret
              exact ⟨rfl, HKr.out.below (Nat.le_refl _) (by simp)⟩
      · rw [hat]
        clear hat HA
        obtain ⟨T, is, hT, his, hTa⟩ := tat s
        have CT := kept (fun w => typeof_any s w)
        rw [hT, his] at CT
        have HT := kept hTa
        clear hT his hTa
        go_wp2_with fail
        refine (CT.out _).mono ?_
        rintro e w4 ⟨rfl, rfl⟩
        clear CT
        have HB4 : Hid (Blk (wr.alloc (.cells #[.string ⟨#[105, 110, 116]⟩, .string ⟨#[98, 111, 111, 108]⟩, .string ⟨#[97, 114, 114]⟩] 9)) wr.heap.size 9 tcell3) := Blk.new _ _ _
        have K4 : Hid (Keeps w (wr.alloc (.cells #[.string ⟨#[105, 110, 116]⟩, .string ⟨#[98, 111, 111, 108]⟩, .string ⟨#[97, 114, 114]⟩] 9)) []) := HKr.out.alloc _
        clear HKr
        go_wp2
        generalize wr.alloc (.cells #[.string ⟨#[105, 110, 116]⟩, .string ⟨#[98, 111, 111, 108]⟩, .string ⟨#[97, 114, 114]⟩] 9) = W0 at *
        generalize wr.heap.size = g2 at *
        go_loopw [10, 66] (fun at' i wr => ∃ k : Nat, k ≤ 3 ∧ i = .int .i64 k ∧ at' = .int .i64 (atv tw s k) ∧ Blk wr g2 9 tcell3 ∧ Keeps w wr []) (fun _ i _ => 3 - (intOf i).toNat)
        case atStart => exact ⟨0, by omega, rfl, rfl, HB4.out, K4.out⟩
        case round =>
          obtain ⟨k, hk, rfl, rfl, hbr, hkr⟩ := hrel
          have HBr := kept hbr
          have HKr := kept hkr
          have c0 := (hbr.cell k)
          clear hbr hkr
          by_cases hlt : k < 3
          · rw [tcell k hlt] at c0
            have C := kept (fun w => typeword_any k w)
            change Hid (∀ w, Calls Try.prog 42 #[.int .i64 k] w fun e w' => e = .returned (.string (tw k)) ∧ w = w') at C
            obtain ⟨x, hx⟩ : ∃ x, tw k = x := ⟨_, rfl⟩
            rw [hx] at c0 C
            have HX := kept hx
            clear hx
            have hxx : (x.toList == x.toList) = true := beq_self_eq_true _
            by_cases he : x = s
            · have E := kept (atv_yes (f := tw) (HX.out.trans he))
              subst he
              go_wp2_with fail
              refine (C.out _).mono ?_
              rintro e w4 ⟨rfl, rfl⟩
              go_wp2
              exact ⟨⟨k + 1, by omega, by go_num, by rw [E.out], HBr.out, HKr.out⟩, by simp [intOf]; omega⟩
            · have E := kept (atv_not (f := tw) (s := s) (by rw [HX.out]; exact he))
              have hsn := str_ne he
              go_wp2_with fail
              refine (C.out _).mono ?_
              rintro e w4 ⟨rfl, rfl⟩
              go_wp2
              exact ⟨⟨k + 1, by omega, by go_num, by rw [E.out], HBr.out, HKr.out⟩, by simp [intOf]; omega⟩
          · obtain rfl : k = 3 := by omega
            clear c0 hk hlt HBr
            rcases HT.out with ⟨rfl, h0, hat⟩ | ⟨rfl, rfl, hat⟩
            all_goals
              rw [hat]
              clear hat HT
              go_wp2_with fail
              refine (twm _).mono ?_
              rintro e w5 ⟨rfl, rfl⟩
              go_wp2_with fail
              refine (tw3 _).mono ?_
              rintro e w5 ⟨rfl, rfl⟩
              go_wp2
              go_ret
              exact ⟨rfl, HKr.out.below (Nat.le_refl _) (by simp)⟩
end Go.Proofs.Ytppidnjhdefbiaa
