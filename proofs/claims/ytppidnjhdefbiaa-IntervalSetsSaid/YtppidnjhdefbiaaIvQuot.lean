/- Package interval: the contracts of quotients: the walk. -/
import Derived.Test.YtppidnjhdefbiaaIvQuotMath
import Derived.Deep.RegionHeld3
namespace Go.Proofs.Ytppidnjhdefbiaa
open Go.RowKit
set_option linter.unusedVariables false

/-- a round of quotients -/
def QInv (w wr : World) (g : Nat) (r : Iv.R) (wd : Bool) : Prop := HullB wr g r wd ∧ Keeps w wr [] ∧ w.heap.size ≤ g
/-- an inner round: blocks other than the hull are as they were -/
def QIn (w wr : World) (g : Nat) (r : Iv.R) (wd : Bool) : Prop := HullB wr g r wd ∧ Keeps w wr [g]

theorem q_add {w wr : World} {a p : Iv.R} {g k j : Nat} {r : Iv.R} {wd : Bool} (h : QIn w wr g (qr r a p (2 * k + j)) (qw wd a p (2 * k + j))) (hk : k < 2) (hj : j < 2) (n en : Int) (f : Bool) (hf : f = qf (endOf a k) (endOf p j)) (hm : qv (endOf a k) (endOf p j) = if f = true then n else en) :
    Calls Try.prog 100 #[.pointer (some ⟨g, 0, none⟩), .int .i64 n, .bool f, .int .i64 en] wr fun e w' => e = .returned (.tuple #[]) ∧ QIn w w' g (qr r a p (2 * k + j + 1)) (qw wd a p (2 * k + j + 1)) := by
  obtain ⟨h1, h2⟩ := h
  refine (hadd_any h1 n en f _ hm).mono ?_
  rintro e w' ⟨rfl, k1, k2⟩
  refine ⟨rfl, ?_, (h2.trans k1).mono (fun i hi => .inl (by simpa using hi))⟩
  rw [qr_step r a p hk hj, hf, qw_step wd a p hk hj] at k2
  exact k2

theorem index136 (x0 x1 y0 y1 : Int) (k : Nat) (hk : k < 2) (b : Iv.R) (h0 : Iv.negs b = ⟨x0, x1⟩) (h1 : Iv.poss b = ⟨y0, y1⟩) :
    ∀ w, (Instr.index 136 (.agg #[.int .i64 x0, .int .i64 x1, .int .i64 y0, .int .i64 y1]) (.int .i64 k)).run Try.prog w = .ok (.agg #[.int .i64 (partOf b k).lo, .int .i64 (partOf b k).hi]) w := by
  intro w
  rcases (show k = 0 ∨ k = 1 by omega) with rfl | rfl
  · show (Instr.index 136 (.agg #[.int .i64 x0, .int .i64 x1, .int .i64 y0, .int .i64 y1]) (.int .i64 0)).run Try.prog w = .ok (.agg #[.int .i64 (Iv.negs b).lo, .int .i64 (Iv.negs b).hi]) w
    rw [h0]
    kernel_rfl
  · show (Instr.index 136 (.agg #[.int .i64 x0, .int .i64 x1, .int .i64 y0, .int .i64 y1]) (.int .i64 1)).run Try.prog w = .ok (.agg #[.int .i64 (Iv.poss b).lo, .int .i64 (Iv.poss b).hi]) w
    rw [h1]
    kernel_rfl

/-- two ranges by value, the result's cells, and a hull behind them -/
structure QB (w W : World) (g : Nat) (r : Iv.R) (wd : Bool) (a b : Iv.R) : Prop where
  hull : HullB W g r wd
  box : Box3 w W a b ⟨0, 0⟩
  far : w.heap.size + 1 + 1 < g
theorem QB.next {w W W' : World} {g : Nat} {r : Iv.R} {wd : Bool} {a b : Iv.R} (h : QB w W g r wd a b) (k : Keeps W W' []) : QB w W' g r wd a b := ⟨Blk.keep h.hull k (by simp), h.box.next k, h.far⟩
theorem QB.turn {w W W' : World} {g : Nat} {r r' : Iv.R} {wd wd' : Bool} {a b : Iv.R} (h : QB w W g r wd a b) (k : Keeps W W' [g]) (hh : HullB W' g r' wd') : QB w W' g r' wd' a b := by
  have hf := h.far
  exact ⟨hh, ⟨keep_own h.box.keeps k (fun i hi => by simp at hi; omega), h.box.ba.keep k (by simp; omega), h.box.bb.keep k (by simp; omega), h.box.bc.keep k (by simp; omega)⟩, hf⟩
theorem QB.cells {w W : World} {g : Nat} {r : Iv.R} {wd : Bool} {a b : Iv.R} (h : QB w W g r wd a b) : W.cell? ⟨w.heap.size, 0, none⟩ = some (.int .i64 a.lo) ∧ W.cell? ⟨w.heap.size, 1, none⟩ = some (.int .i64 a.hi) ∧ W.cell? ⟨w.heap.size + 1, 0, none⟩ = some (.int .i64 b.lo) ∧ W.cell? ⟨w.heap.size + 1, 1, none⟩ = some (.int .i64 b.hi) :=
  ⟨h.box.ba.cell 0, h.box.ba.cell 1, h.box.bb.cell 0, h.box.bb.cell 1⟩
/-- a round's own range -/
def QP (w W : World) (g x : Nat) (r : Iv.R) (wd : Bool) (a b p : Iv.R) : Prop := QB w W g r wd a b ∧ Blk W x 86 #[.int .i64 p.lo, .int .i64 p.hi] ∧ ¬ x = g

theorem q_corner {w W : World} {a b p : Iv.R} {g x k j : Nat} {r : Iv.R} {wd : Bool} (h : QP w W g x (qr r a p (2 * k + j)) (qw wd a p (2 * k + j)) a b p) (hk : k < 2) (hj : j < 2) (n en : Int) (f : Bool) (hf : f = qf (endOf a k) (endOf p j)) (hm : qv (endOf a k) (endOf p j) = if f = true then n else en) :
    Calls Try.prog 100 #[.pointer (some ⟨g, 0, none⟩), .int .i64 n, .bool f, .int .i64 en] W fun e w' => e = .returned (.tuple #[]) ∧ QP w w' g x (qr r a p (2 * k + j + 1)) (qw wd a p (2 * k + j + 1)) a b p := by
  obtain ⟨h1, h2, h3⟩ := h
  refine (hadd_any h1.hull n en f _ hm).mono ?_
  rintro e w' ⟨rfl, k1, k2⟩
  rw [qr_step r a p hk hj, hf, qw_step wd a p hk hj] at k2
  exact ⟨rfl, h1.turn k1 k2, h2.keep k1 (by simpa using h3), h3⟩

theorem part_cases (b : Iv.R) (wb : Iv.Wf b) (k : Nat) (hne : ¬ (partOf b k).hi < (partOf b k).lo) : inI (partOf b k).lo = true ∧ inI (partOf b k).hi = true ∧ ∀ j, ¬ endOf (partOf b k) j = 0 := by
  obtain ⟨⟨b1, b2⟩, b3, b4⟩ := wb
  have key : (Iv.MIN ≤ (partOf b k).lo ∧ (partOf b k).lo ≤ Iv.MAX) ∧ (Iv.MIN ≤ (partOf b k).hi ∧ (partOf b k).hi ≤ Iv.MAX) ∧ (0 < (partOf b k).lo ∨ (partOf b k).hi < 0) := by
    unfold partOf at hne ⊢
    split at hne
    · rename_i hk
      rw [if_pos hk]
      rcases Iv.made_cases (max b.lo Iv.MIN) (min b.hi (-1)) with ⟨h, e⟩ | ⟨h, e⟩
      · have e' : Iv.negs b = Iv.none := e
        rw [e'] at hne
        exact absurd (by decide) hne
      · have e' : Iv.negs b = ⟨max b.lo Iv.MIN, min b.hi (-1)⟩ := e
        rw [e']
        simp only
        unfold Iv.MIN Iv.MAX at *
        omega
    · rename_i hk
      rw [if_neg hk]
      rcases Iv.made_cases (max b.lo 1) (min b.hi Iv.MAX) with ⟨h, e⟩ | ⟨h, e⟩
      · have e' : Iv.poss b = Iv.none := e
        rw [e'] at hne
        exact absurd (by decide) hne
      · have e' : Iv.poss b = ⟨max b.lo 1, min b.hi Iv.MAX⟩ := e
        rw [e']
        simp only
        unfold Iv.MIN Iv.MAX at *
        omega
  refine ⟨inI_iff.2 key.1, inI_iff.2 key.2.1, fun j => ?_⟩
  unfold endOf
  split <;> omega

set_option maxRecDepth 100000 in
set_option maxHeartbeats 8000000 in
theorem quot_any (a b : Iv.R) (wa : Iv.Wf a) (wb : Iv.Wf b) (ha : a.lo ≤ a.hi) (hb : b.lo ≤ b.hi) (w : World) :
    Calls Try.prog 96 #[.agg #[.int .i64 a.lo, .int .i64 a.hi], .agg #[.int .i64 b.lo, .int .i64 b.hi]] w fun e w' => e = .returned (.agg #[.int .i64 (Iv.quot a b).lo, .int .i64 (Iv.quot a b).hi]) ∧ Keeps w w' [] := by
  have hq := quot_of wa wb ha
  have HQ := kept hq
  have HA := kept (fun k => endOf_in (inI_iff.2 wa.1) (inI_iff.2 wa.2) k)
  have HP := kept (part_cases b wb)
  have CN := kept (fun w => meet_any b.lo b.hi (-9223372036854775808) (-1) w)
  have CP := kept (fun w => meet_any b.lo b.hi 1 9223372036854775807 w)
  have eN : Iv.meet ⟨b.lo, b.hi⟩ ⟨-9223372036854775808, -1⟩ = Iv.negs b := rfl
  have eP : Iv.meet ⟨b.lo, b.hi⟩ ⟨1, 9223372036854775807⟩ = Iv.poss b := rfl
  rw [eN] at CN
  rw [eP] at CP
  clear eN eP wa wb ha hb
  have IX := kept (fun k hk => index136 (Iv.negs b).lo (Iv.negs b).hi (Iv.poss b).lo (Iv.poss b).hi k hk b rfl rfl)
  clear hq
  go_enter Try.func96, Try.ntmps96
  go_wp2_with fail
  refine (none_any _).mono ?_
  rintro e w1 ⟨rfl, k⟩
  have bx := Box3.start k
  have QX : QB w (w1.alloc (.cells #[.int .i64 1, .int .i64 0, .bool false] 128)) w1.heap.size Iv.none false a b := ⟨Blk.new w1 128 _, bx.next ((Keeps.refl w1 []).alloc _), bx.old.2⟩
  have QX := kept QX
  clear k bx
  go_wp2_with fail
  generalize w1.heap.size = g at *
  generalize w1.alloc (.cells #[.int .i64 1, .int .i64 0, .bool false] 128) = W at *
  obtain ⟨u0, u1, v0, v1⟩ := QX.out.cells
  go_region_held3 (fun w' => w'.cell? ⟨w.heap.size + 1, 0, none⟩ = some (.int .i64 b.lo) ∧ w'.cell? ⟨w.heap.size + 1, 1, none⟩ = some (.int .i64 b.hi)) (go_keep) (first | (go_at_call 62; (with_reducible refine (CN.out _).mono ?_); rintro e w2 ⟨rfl, k2⟩; have qx := (QX.out.next ((Keeps.refl _ []).drew)).next k2; obtain ⟨u0', u1', v0', v1'⟩ := qx.cells; have QX2 := kept qx; clear qx k2) | (go_at_call 62; (with_reducible refine (CP.out _).mono ?_); rintro e w3 ⟨rfl, k3⟩; have qx := QX2.out.next k3; obtain ⟨u0'', u1'', v0'', v1''⟩ := qx.cells; have QX3 := kept qx; clear qx k3))
  have QX3 := kept QX3.out
  clear u0 u1 v0 v1 u0' u1' v0' v1' u0'' u1'' v0'' v1'' QX QX2
  go_wp2
  go_loopw [23] (fun i wr => ∃ k : Nat, k ≤ 2 ∧ i = .int .i64 k ∧ QB w wr g (qR a b k) (qW a b k) a b) (fun i _ => 2 - (intOf i).toNat)
  case atStart => exact ⟨0, by omega, rfl, QX3.out⟩
  case round =>
    obtain ⟨k, hk, rfl, hI⟩ := hrel
    have HI := kept hI
    clear hI QX3
    by_cases hlt : k < 2
    · have hltb : decide ((k : Int) < 2) = true := by simp; omega
      have ix := IX.out k hlt
      go_wp2_with fail
      refine (empty_any _ _ _).mono ?_
      rintro e w4 ⟨rfl, k4⟩
      have hqp : QP w w4 g wr.heap.size (qR a b k) (qW a b k) a b (partOf b k) := ⟨(HI.out.next ((Keeps.refl wr []).alloc _)).next k4, (Blk.new wr 86 _).keep k4 (by simp), by have := Blk.lt HI.out.hull; omega⟩
      have HQP := kept hqp
      clear hqp k4 ix
      rcases Bool.eq_false_or_eq_true (decide ((partOf b k).hi < (partOf b k).lo)) with hc | hc
      · have hc' : (partOf b k).hi < (partOf b k).lo := by simpa using hc
        have e1 : qR a b (k + 1) = qR a b k := by show (if _ then _ else _) = _; rw [if_pos hc']
        have e2 : qW a b (k + 1) = qW a b k := by show (if _ then _ else _) = _; rw [if_pos hc']
        have E1 := kept e1
        have E2 := kept e2
        clear e1 e2
        go_wp2
        go_roundw
        case rel => exact ⟨k + 1, by omega, by go_num, by rw [E1.out, E2.out]; exact HQP.out.1⟩
        case measure => simp [intOf]; omega
      · have hc' : ¬ (partOf b k).hi < (partOf b k).lo := by simpa using hc
        have e1 : qR a b (k + 1) = qr (qR a b k) a (partOf b k) 4 := by show (if _ then _ else _) = _; rw [if_neg hc']
        have e2 : qW a b (k + 1) = qw (qW a b k) a (partOf b k) 4 := by show (if _ then _ else _) = _; rw [if_neg hc']
        have E1 := kept e1
        have E2 := kept e2
        have hpp := HP.out k (by simp at hc; omega)
        have HPP := kept hpp
        clear e1 e2 hpp hc'
        obtain ⟨u0, u1, v0, v1⟩ := HQP.out.1.cells
        generalize partOf b k = p at *
        generalize qR a b k = R0 at *
        generalize qW a b k = W0 at *
        generalize wr.heap.size = x at *
        go_wp2
        clear u0 u1 v0 v1
        obtain ⟨wo, rfl⟩ : ∃ wo : World, wo = wr := ⟨_, rfl⟩
        go_loopw [33] (fun i wr => ∃ j : Nat, j ≤ 2 ∧ i = .int .i64 j ∧ QP w wr g x (qr R0 a p (2 * j)) (qw W0 a p (2 * j)) a b p) (fun i _ => 2 - (intOf i).toNat)
        case atStart => exact ⟨0, by omega, rfl, HQP.out⟩
        case round =>
          obtain ⟨j, hj, rfl, hI⟩ := hrel
          have HJ := kept hI
          clear hI
          by_cases hlj : j < 2
          · have hljb : decide ((j : Int) < 2) = true := by simp; omega
            have iy := index2 a.lo a.hi j hlj a rfl
            have x0 := HJ.out.2.1.cell 0
            have x1 := HJ.out.2.1.cell 1
            simp at x0 x1
            obtain ⟨X, hX⟩ : ∃ X, endOf a j = X := ⟨_, rfl⟩
            rw [hX] at iy
            have HX := kept hX
            clear hX
            rcases Bool.eq_false_or_eq_true (X == -9223372036854775808) with f1 | f1
            · obtain rfl : X = -9223372036854775808 := by simpa using f1
              clear f1
              go_wp2
              clear iy x0 x1
              obtain ⟨wp, rfl⟩ : ∃ wp : World, wp = wr := ⟨_, rfl⟩
              go_loopw [41] (fun i wr => ∃ l : Nat, l ≤ 2 ∧ i = .int .i64 l ∧ QP w wr g x (qr R0 a p (2 * j + l)) (qw W0 a p (2 * j + l)) a b p) (fun i _ => 2 - (intOf i).toNat)
              case atStart => exact ⟨0, by omega, rfl, HJ.out⟩
              case round =>
                obtain ⟨l, hl, rfl, hI⟩ := hrel
                have HL := kept hI
                clear hI
                by_cases hll : l < 2
                · have hllb : decide ((l : Int) < 2) = true := by simp; omega
                  have iz := index2 p.lo p.hi l hll p rfl
                  obtain ⟨n, hn⟩ : ∃ n, wrap64 ((endOf a j).tdiv (endOf p l)) = n := ⟨_, rfl⟩
                  have CD := kept (fun w => div_any (endOf a j) (endOf p l) w (HPP.out.2.2 l))
                  rw [hn, HX.out] at CD
                  have HNN := kept hn
                  clear hn
                  rcases Bool.eq_false_or_eq_true (endOf p l == -1) with f2 | f2
                  · have ef : false = qf (endOf a j) (endOf p l) := by
                      have h2 : endOf p l = -1 := by simpa using f2
                      unfold qf; rw [HX.out, h2]; rfl
                    have em : qv (endOf a j) (endOf p l) = Iv.MAX := by
                      have h2 : endOf p l = -1 := by simpa using f2
                      unfold qv; rw [if_pos ⟨HX.out, h2⟩]
                    have EF := kept ef
                    have EM := kept em
                    clear ef em
                    have f2n : (endOf p l != -1) = false := by simpa using f2
                    go_wp2_with fail
                    refine (CD.out _).mono ?_
                    rintro e w5 ⟨rfl, rfl⟩
                    go_wp2_with fail
                    refine (q_corner HL.out hlj hll _ _ _ ?hf ?hm).mono ?_
                    case hf => exact EF.out
                    case hm => rw [EM.out]; rfl
                    rintro e w6 ⟨rfl, hI⟩
                    have HN := kept hI
                    clear hI iz
                    go_wp2
                    go_roundw
                    case rel => exact ⟨l + 1, by omega, by go_num, HN.out⟩
                    case measure => simp [intOf]; omega
                  · have hqf : qf (endOf a j) (endOf p l) = true := by
                      rw [qf_iff]
                      rintro ⟨h1, h2⟩
                      have f3 : (endOf p l == -1) = true := by rw [h2]; rfl
                      rw [f2] at f3; cases f3
                    have em : qv (endOf a j) (endOf p l) = n := by rw [qv_fit hqf, ← HNN.out, qv_in (HA.out j) (HPP.out.2.2 l) hqf]
                    have EF := kept hqf.symm
                    have EM := kept em
                    clear hqf em
                    have f2n : (endOf p l != -1) = true := by simpa using f2
                    go_wp2_with fail
                    refine (CD.out _).mono ?_
                    rintro e w5 ⟨rfl, rfl⟩
                    go_wp2_with fail
                    refine (q_corner HL.out hlj hll _ _ _ ?hf ?hm).mono ?_
                    case hf => exact EF.out
                    case hm => rw [EM.out]; rfl
                    rintro e w6 ⟨rfl, hI⟩
                    have HN := kept hI
                    clear hI iz
                    go_wp2
                    go_roundw
                    case rel => exact ⟨l + 1, by omega, by go_num, HN.out⟩
                    case measure => simp [intOf]; omega
                · obtain rfl : l = 2 := by omega
                  go_wp2
                  go_roundw
                  case rel => exact ⟨j + 1, by omega, by go_num, HL.out⟩
                  case measure => simp [intOf]; omega
            · go_wp2
              clear iy x0 x1
              obtain ⟨wp, rfl⟩ : ∃ wp : World, wp = wr := ⟨_, rfl⟩
              go_loopw [41] (fun i wr => ∃ l : Nat, l ≤ 2 ∧ i = .int .i64 l ∧ QP w wr g x (qr R0 a p (2 * j + l)) (qw W0 a p (2 * j + l)) a b p) (fun i _ => 2 - (intOf i).toNat)
              case atStart => exact ⟨0, by omega, rfl, HJ.out⟩
              case round =>
                obtain ⟨l, hl, rfl, hI⟩ := hrel
                have HL := kept hI
                clear hI
                by_cases hll : l < 2
                · have hllb : decide ((l : Int) < 2) = true := by simp; omega
                  have iz := index2 p.lo p.hi l hll p rfl
                  obtain ⟨n, hn⟩ : ∃ n, wrap64 ((endOf a j).tdiv (endOf p l)) = n := ⟨_, rfl⟩
                  have CD := kept (fun w => div_any (endOf a j) (endOf p l) w (HPP.out.2.2 l))
                  rw [hn, HX.out] at CD
                  have HNN := kept hn
                  clear hn
                  have hqf : qf (endOf a j) (endOf p l) = true := by
                    rw [qf_iff]
                    rintro ⟨h1, h2⟩
                    rw [HX.out] at h1
                    have f3 : (X == -9223372036854775808) = true := by rw [h1]; rfl
                    rw [f1] at f3; cases f3
                  have em : qv (endOf a j) (endOf p l) = n := by rw [qv_fit hqf, ← HNN.out, qv_in (HA.out j) (HPP.out.2.2 l) hqf]
                  have EF := kept hqf.symm
                  have EM := kept em
                  clear hqf em
                  have f1n : (X != -9223372036854775808) = true := by simpa using f1
                  go_wp2_with fail
                  refine (CD.out _).mono ?_
                  rintro e w5 ⟨rfl, rfl⟩
                  go_wp2_with fail
                  refine (q_corner HL.out hlj hll _ _ _ ?hf ?hm).mono ?_
                  case hf => exact EF.out
                  case hm => rw [EM.out]; rfl
                  rintro e w6 ⟨rfl, hI⟩
                  have HN := kept hI
                  clear hI iz
                  go_wp2
                  go_roundw
                  case rel => exact ⟨l + 1, by omega, by go_num, HN.out⟩
                  case measure => simp [intOf]; omega
                · obtain rfl : l = 2 := by omega
                  go_wp2
                  go_roundw
                  case rel => exact ⟨j + 1, by omega, by go_num, HL.out⟩
                  case measure => simp [intOf]; omega
          · obtain rfl : j = 2 := by omega
            go_wp2
            go_roundw
            case rel => exact ⟨k + 1, by omega, by go_num, by rw [E1.out, E2.out]; exact HJ.out.1⟩
            case measure => simp [intOf]; omega
    · obtain rfl : k = 2 := by omega
      have hcell := Blk.cell HI.out.hull
      have z0 := hcell 0
      have z1 := hcell 1
      have z2 := hcell 2
      simp at z0 z1 z2
      have f0 := HI.out.box.bc.frozen 0
      have f1 := HI.out.box.bc.frozen 1
      have u0 := HI.out.box.bc.cell 0
      have u1 := HI.out.box.bc.cell 1
      simp at u0 u1
      clear hcell
      rcases Bool.eq_false_or_eq_true (qW a b 2) with hw | hw
      · rw [hw] at z2
        have HQ2 := kept (show Iv.quot a b = Iv.all by rw [HQ.out, if_pos hw])
        clear hw
        go_wp2_with fail
        refine (all_any _).mono ?_
        rintro e w7 ⟨rfl, k7⟩
        have BX := kept (HI.out.box.next k7)
        clear k7 z0 z1 z2 f0 f1 u0 u1
        obtain ⟨u0, u1, v0, v1, z0, z1, f0, f1⟩ := BX.out.cells
        go_wp2
        exact bodyPost_ret (v := .agg #[.int .i64 Iv.MIN, .int .i64 Iv.MAX]) (by simp [results, Try.results96, go_sem, z0, z1]) rfl ⟨by rw [HQ2.out]; rfl, BX.out.ends _ _⟩
      · rw [hw] at z2
        have HQ2 := kept (show Iv.quot a b = qR a b 2 by rw [HQ.out, if_neg (by rw [hw]; decide)])
        clear hw
        generalize qR a b 2 = r at *
        go_wp2
        exact bodyPost_ret (v := .agg #[.int .i64 r.lo, .int .i64 r.hi]) (by simp [results, Try.results96, go_sem, u0, u1]) rfl ⟨by rw [HQ2.out], HI.out.box.ends _ _⟩
end Go.Proofs.Ytppidnjhdefbiaa
