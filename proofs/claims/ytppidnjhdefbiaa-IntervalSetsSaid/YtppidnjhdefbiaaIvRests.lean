/- Package interval: the contracts of rests. -/
import Derived.Test.YtppidnjhdefbiaaIvCut
import Derived.Deep.RegionWith
import Derived.Deep.DeepCutAuto
namespace Go.Proofs.Ytppidnjhdefbiaa
open Go.RowKit
set_option linter.unusedVariables false

set_option maxHeartbeats 4000000 in
theorem rests_zero (p q : Int) (w : World) :
    Calls Try.prog 97 #[.agg #[.int .i64 p, .int .i64 q], .agg #[.int .i64 0, .int .i64 0]] w fun e w' => e = .returned (.agg #[.int .i64 1, .int .i64 0]) ∧ Keeps w w' [] := by
  go_enter Try.func97, Try.ntmps97
  go_wp2_with fail
  go_region_with (go_at_call 69; refine (of_any _ _).mono ?_; rintro e w1 ⟨rfl, k⟩; have bx := Box3.start (((Keeps.refl _ []).drew).next k); obtain ⟨u0, u1, v0, v1, z0, z1, f0, f1⟩ := bx.cells; have BX1 := kept bx; clear k bx)
  all_goals
    go_wp2_with fail
    refine (none_any _).mono ?_
    rintro e w2 ⟨rfl, k⟩
    have BX2 := kept (BX1.out.next k)
    clear k u0 u1 v0 v1 z0 z1 f0 f1
    obtain ⟨u0, u1, v0, v1, z0, z1, f0, f1⟩ := BX2.out.cells
    go_wp2
    exact bodyPost_ret (v := .agg #[.int .i64 1, .int .i64 0]) (by simp [results, Try.results97, go_sem, z0, z1]) rfl ⟨rfl, BX2.out.ends _ _⟩

theorem alloc_cell {w' : World} {g i : Nat} {v : Value} (h : w'.cell? ⟨g, i, none⟩ = some v) (hg : g < w'.heap.size) (X : Array Value) : (w'.alloc (.cells X 86)).cell? ⟨g, i, none⟩ = some v :=
  (World.cell?_of_block (a := ⟨g, i, none⟩) (((Keeps.refl w' []).alloc (Obj.cells X 86)).block g hg (by simp))).trans h
theorem Box3.cellsA {w w' : World} {a b c : Iv.R} (h : Box3 w w' a b c) : (∀ X, (w'.alloc (.cells X 86)).cell? ⟨w.heap.size, 0, none⟩ = some (.int .i64 a.lo)) ∧ (∀ X, (w'.alloc (.cells X 86)).cell? ⟨w.heap.size, 1, none⟩ = some (.int .i64 a.hi)) ∧
    (∀ X, (w'.alloc (.cells X 86)).cell? ⟨w.heap.size + 1 + 1, 0, none⟩ = some (.int .i64 c.lo)) ∧ (∀ X, (w'.alloc (.cells X 86)).cell? ⟨w.heap.size + 1 + 1, 1, none⟩ = some (.int .i64 c.hi)) ∧ (∀ X, (w'.alloc (.cells X 86)).frozen? ⟨w.heap.size + 1 + 1, 0, none⟩ = false) ∧ (∀ X, (w'.alloc (.cells X 86)).frozen? ⟨w.heap.size + 1 + 1, 1, none⟩ = false) :=
  ⟨alloc_cell (h.ba.cell 0) h.ba.lt, alloc_cell (h.ba.cell 1) h.ba.lt, alloc_cell (h.bc.cell 0) h.bc.lt, alloc_cell (h.bc.cell 1) h.bc.lt, fun X => (h.bc.keep ((Keeps.refl w' []).alloc (Obj.cells X 86)) (by simp)).frozen 0, fun X => (h.bc.keep ((Keeps.refl w' []).alloc (Obj.cells X 86)) (by simp)).frozen 1⟩

set_option maxHeartbeats 16000000 in
theorem rests_some (p q s t : Int) (hp : inI p = true) (hq : inI q = true) (hs : inI s = true) (ht : inI t = true) (hab : p ≤ q) (hst : s ≤ t) (hz : ¬ (s = 0 ∧ t = 0)) (w : World) :
    Calls Try.prog 97 #[.agg #[.int .i64 p, .int .i64 q], .agg #[.int .i64 s, .int .i64 t]] w fun e w' => e = .returned (.agg #[.int .i64 (if p < 0 then max p (-(Iv.restK ⟨s, t⟩)) else 0), .int .i64 (if 0 < q then min q (Iv.restK ⟨s, t⟩) else 0)]) ∧ Keeps w w' [] := by
  obtain ⟨K, hK⟩ : ∃ K, Iv.restK ⟨s, t⟩ = K := ⟨_, rfl⟩
  rw [hK]
  have hK' : (if 0 < t then max (if s < 0 then -(s + 1) else 0) (t - 1) else (if s < 0 then -(s + 1) else 0)) = K := hK
  clear hK
  rw [inI_iff] at hp hq hs ht
  have hK0 : 0 ≤ K ∧ K ≤ 9223372036854775807 := by
    rw [← hK']
    constructor <;> (repeat' split) <;> omega
  obtain ⟨hK0, hK1⟩ := hK0
  have HK := kept hK'
  clear hK'
  have HZ := kept hz
  clear hz
  obtain ⟨LO, hLO⟩ : ∃ x, x = if p < 0 then max p (-K) else 0 := ⟨_, rfl⟩
  obtain ⟨HI, hHI⟩ : ∃ x, x = if 0 < q then min q K else 0 := ⟨_, rfl⟩
  rw [← hLO, ← hHI]
  have HLO := kept hLO
  have HHI := kept hHI
  clear hLO hHI
  go_enter Try.func97, Try.ntmps97
  go_wp2_with fail
  go_cut [9] (fun e wx => e = .bool false ∧ Box3 w wx ⟨p, q⟩ ⟨s, t⟩ ⟨0, 0⟩)
  case first =>
    rcases Bool.eq_false_or_eq_true (s == 0) with h0 | h0
    · have h1 : s = 0 := by simpa using h0
      have h2 : (t == 0) = false := by have := HZ.out; simp; omega
      clear h0
      subst h1
      go_region_with (go_at_call 69; refine (of_any _ _).mono ?_; rintro e w1 ⟨rfl, k⟩; have bx := Box3.start (((Keeps.refl _ []).drew).next k); obtain ⟨u0, u1, v0, v1, z0, z1, f0, f1⟩ := bx.cells; have BX1 := kept bx; clear k bx)

      all_goals
        go_wp2_with fail
        go_meet
        exact ⟨rfl, BX1.out⟩
    · go_region_with (go_at_call 69; refine (of_any _ _).mono ?_; rintro e w1 ⟨rfl, k⟩; have bx := Box3.start (((Keeps.refl _ []).drew).next k); obtain ⟨u0, u1, v0, v1, z0, z1, f0, f1⟩ := bx.cells; have BX1 := kept bx; clear k bx)

      all_goals
        go_wp2_with fail
        go_meet
        exact ⟨rfl, BX1.out⟩
  case rest =>
    obtain ⟨rfl, hbx⟩ := hcut
    have BX1 := kept hbx
    obtain ⟨u0, u1, v0, v1, z0, z1, f0, f1⟩ := hbx.cells
    clear hbx
    obtain ⟨k1, hk1⟩ : ∃ k1, k1 = if s < 0 then -(s + 1) else 0 := ⟨_, rfl⟩
    have hkk : 0 ≤ k1 ∧ k1 ≤ 9223372036854775807 := by
      rw [hk1]
      constructor <;> split <;> omega
    obtain ⟨hk0, hk2⟩ := hkk
    have HK1 := kept hk1
    clear hk1
    obtain ⟨bs, hbs⟩ : ∃ b, b = decide (s < 0) := ⟨_, rfl⟩
    have HBS := kept hbs
    obtain ⟨bt, hbt⟩ : ∃ b, b = decide (0 < t) := ⟨_, rfl⟩
    have HBT := kept hbt
    clear hbs hbt
    generalize hw0 : wc = w1 at *
    clear hw0
    go_upto_region 4 with fail
    go_cut [13] (fun x wx => x = .bool bs ∧ w1 = wx)
    case first =>
      go_wp2
      go_meet
      exact ⟨by rw [HBS.out], rfl⟩
    case rest =>
      obtain ⟨rfl, hwx⟩ := hcut
      subst hwx
      go_upto_if 13 with (fail)
      go_cut [5] (fun k wx => k = .int .i64 k1 ∧ w1 = wx)
      case first =>
        cases bs
        · have e : k1 = 0 := by rw [HK1.out, if_neg (by simpa using HBS.out)]
          go_wp2
          go_meet
          exact ⟨by rw [e], rfl⟩
        · have e : k1 = -(s + 1) := by rw [HK1.out, if_pos (by simpa using HBS.out)]
          go_wp2
          go_meet
          exact ⟨by rw [e], rfl⟩
      case rest =>
        obtain ⟨rfl, hwx⟩ := hcut
        subst hwx
        go_upto_region 6 with fail
        go_cut [20] (fun x wx => x = .bool bt ∧ w1 = wx)
        case first =>
          go_wp2
          go_meet
          exact ⟨by rw [HBT.out], rfl⟩
        case rest =>
          obtain ⟨rfl, hwx⟩ := hcut
          subst hwx
          go_upto_if 20 with (fail)
          go_cut [5] (fun k wx => k = .int .i64 K ∧ w1 = wx)
          case first =>
            cases bt
            · have d2 : ¬ 0 < t := by simpa using HBT.out
              have e : K = k1 := by rw [← HK.out, if_neg d2, ← HK1.out]
              go_wp2
              go_meet
              exact ⟨by rw [e], rfl⟩
            · have d2 : 0 < t := by simpa using HBT.out
              by_cases hc : t - 1 ≤ k1
              · have e : K = k1 := by rw [← HK.out, if_pos d2, ← HK1.out]; omega
                go_wp2
                go_meet
                exact ⟨by rw [e], rfl⟩
              · have e : K = t - 1 := by rw [← HK.out, if_pos d2, ← HK1.out]; omega
                go_wp2
                go_meet
                exact ⟨by rw [e], rfl⟩
          case rest =>
            obtain ⟨rfl, hwx⟩ := hcut
            subst hwx
            by_cases g1 : p < 0
            · by_cases g2 : -K ≤ p
              · by_cases g3 : 0 < q
                · by_cases g4 : q ≤ K
                  · have elo : LO = p := by rw [HLO.out]; rw [if_pos g1]; omega
                    have ehi : HI = q := by rw [HHI.out]; rw [if_pos g3]; omega
                    have ELO := kept elo
                    have EHI := kept ehi
                    clear elo ehi
                    go_wp2_with fail
                    refine (of_any _ _).mono ?_
                    rintro e w2 ⟨rfl, k⟩
                    have BX2 := kept (BX1.out.next k)
                    clear k u0 u1 v0 v1 z0 z1 f0 f1
                    obtain ⟨u0, u1, z0, z1, f0, f1⟩ := BX2.out.cellsA
                    go_wp2
                    exact bodyPost_ret (v := .agg #[.int .i64 (p), .int .i64 (q)]) (by simp [results, Try.results97, go_sem, z0, z1]) rfl ⟨by rw [ELO.out, EHI.out], (((BX2.out.keeps.alloc _).setCell (.inr (by simp; omega)) _).setCell (.inr (by simp; omega)) _)⟩
                  · have elo : LO = p := by rw [HLO.out]; rw [if_pos g1]; omega
                    have ehi : HI = K := by rw [HHI.out]; rw [if_pos g3]; omega
                    have ELO := kept elo
                    have EHI := kept ehi
                    clear elo ehi
                    go_wp2_with fail
                    refine (of_any _ _).mono ?_
                    rintro e w2 ⟨rfl, k⟩
                    have BX2 := kept (BX1.out.next k)
                    clear k u0 u1 v0 v1 z0 z1 f0 f1
                    obtain ⟨u0, u1, z0, z1, f0, f1⟩ := BX2.out.cellsA
                    go_wp2
                    exact bodyPost_ret (v := .agg #[.int .i64 (p), .int .i64 (K)]) (by simp [results, Try.results97, go_sem, z0, z1]) rfl ⟨by rw [ELO.out, EHI.out], (((BX2.out.keeps.alloc _).setCell (.inr (by simp; omega)) _).setCell (.inr (by simp; omega)) _)⟩
                · have elo : LO = p := by rw [HLO.out]; rw [if_pos g1]; omega
                  have ehi : HI = 0 := by rw [HHI.out]; rw [if_neg g3]
                  have ELO := kept elo
                  have EHI := kept ehi
                  clear elo ehi
                  go_wp2_with fail
                  refine (of_any _ _).mono ?_
                  rintro e w2 ⟨rfl, k⟩
                  have BX2 := kept (BX1.out.next k)
                  clear k u0 u1 v0 v1 z0 z1 f0 f1
                  obtain ⟨u0, u1, z0, z1, f0, f1⟩ := BX2.out.cellsA
                  go_wp2
                  exact bodyPost_ret (v := .agg #[.int .i64 (p), .int .i64 (0)]) (by simp [results, Try.results97, go_sem, z0, z1]) rfl ⟨by rw [ELO.out, EHI.out], (((BX2.out.keeps.alloc _).setCell (.inr (by simp; omega)) _).setCell (.inr (by simp; omega)) _)⟩
              · by_cases g3 : 0 < q
                · by_cases g4 : q ≤ K
                  · have elo : LO = -K := by rw [HLO.out]; rw [if_pos g1]; omega
                    have ehi : HI = q := by rw [HHI.out]; rw [if_pos g3]; omega
                    have ELO := kept elo
                    have EHI := kept ehi
                    clear elo ehi
                    go_wp2_with fail
                    refine (of_any _ _).mono ?_
                    rintro e w2 ⟨rfl, k⟩
                    have BX2 := kept (BX1.out.next k)
                    clear k u0 u1 v0 v1 z0 z1 f0 f1
                    obtain ⟨u0, u1, z0, z1, f0, f1⟩ := BX2.out.cellsA
                    go_wp2
                    exact bodyPost_ret (v := .agg #[.int .i64 (-K), .int .i64 (q)]) (by simp [results, Try.results97, go_sem, z0, z1]) rfl ⟨by rw [ELO.out, EHI.out], (((BX2.out.keeps.alloc _).setCell (.inr (by simp; omega)) _).setCell (.inr (by simp; omega)) _)⟩
                  · have elo : LO = -K := by rw [HLO.out]; rw [if_pos g1]; omega
                    have ehi : HI = K := by rw [HHI.out]; rw [if_pos g3]; omega
                    have ELO := kept elo
                    have EHI := kept ehi
                    clear elo ehi
                    go_wp2_with fail
                    refine (of_any _ _).mono ?_
                    rintro e w2 ⟨rfl, k⟩
                    have BX2 := kept (BX1.out.next k)
                    clear k u0 u1 v0 v1 z0 z1 f0 f1
                    obtain ⟨u0, u1, z0, z1, f0, f1⟩ := BX2.out.cellsA
                    go_wp2
                    exact bodyPost_ret (v := .agg #[.int .i64 (-K), .int .i64 (K)]) (by simp [results, Try.results97, go_sem, z0, z1]) rfl ⟨by rw [ELO.out, EHI.out], (((BX2.out.keeps.alloc _).setCell (.inr (by simp; omega)) _).setCell (.inr (by simp; omega)) _)⟩
                · have elo : LO = -K := by rw [HLO.out]; rw [if_pos g1]; omega
                  have ehi : HI = 0 := by rw [HHI.out]; rw [if_neg g3]
                  have ELO := kept elo
                  have EHI := kept ehi
                  clear elo ehi
                  go_wp2_with fail
                  refine (of_any _ _).mono ?_
                  rintro e w2 ⟨rfl, k⟩
                  have BX2 := kept (BX1.out.next k)
                  clear k u0 u1 v0 v1 z0 z1 f0 f1
                  obtain ⟨u0, u1, z0, z1, f0, f1⟩ := BX2.out.cellsA
                  go_wp2
                  exact bodyPost_ret (v := .agg #[.int .i64 (-K), .int .i64 (0)]) (by simp [results, Try.results97, go_sem, z0, z1]) rfl ⟨by rw [ELO.out, EHI.out], (((BX2.out.keeps.alloc _).setCell (.inr (by simp; omega)) _).setCell (.inr (by simp; omega)) _)⟩
            · by_cases g3 : 0 < q
              · by_cases g4 : q ≤ K
                · have elo : LO = 0 := by rw [HLO.out]; rw [if_neg g1]
                  have ehi : HI = q := by rw [HHI.out]; rw [if_pos g3]; omega
                  have ELO := kept elo
                  have EHI := kept ehi
                  clear elo ehi
                  go_wp2_with fail
                  refine (of_any _ _).mono ?_
                  rintro e w2 ⟨rfl, k⟩
                  have BX2 := kept (BX1.out.next k)
                  clear k u0 u1 v0 v1 z0 z1 f0 f1
                  obtain ⟨u0, u1, z0, z1, f0, f1⟩ := BX2.out.cellsA
                  go_wp2
                  exact bodyPost_ret (v := .agg #[.int .i64 (0), .int .i64 (q)]) (by simp [results, Try.results97, go_sem, z0, z1]) rfl ⟨by rw [ELO.out, EHI.out], (((BX2.out.keeps.alloc _).setCell (.inr (by simp; omega)) _).setCell (.inr (by simp; omega)) _)⟩
                · have elo : LO = 0 := by rw [HLO.out]; rw [if_neg g1]
                  have ehi : HI = K := by rw [HHI.out]; rw [if_pos g3]; omega
                  have ELO := kept elo
                  have EHI := kept ehi
                  clear elo ehi
                  go_wp2_with fail
                  refine (of_any _ _).mono ?_
                  rintro e w2 ⟨rfl, k⟩
                  have BX2 := kept (BX1.out.next k)
                  clear k u0 u1 v0 v1 z0 z1 f0 f1
                  obtain ⟨u0, u1, z0, z1, f0, f1⟩ := BX2.out.cellsA
                  go_wp2
                  exact bodyPost_ret (v := .agg #[.int .i64 (0), .int .i64 (K)]) (by simp [results, Try.results97, go_sem, z0, z1]) rfl ⟨by rw [ELO.out, EHI.out], (((BX2.out.keeps.alloc _).setCell (.inr (by simp; omega)) _).setCell (.inr (by simp; omega)) _)⟩
              · have elo : LO = 0 := by rw [HLO.out]; rw [if_neg g1]
                have ehi : HI = 0 := by rw [HHI.out]; rw [if_neg g3]
                have ELO := kept elo
                have EHI := kept ehi
                clear elo ehi
                go_wp2_with fail
                refine (of_any _ _).mono ?_
                rintro e w2 ⟨rfl, k⟩
                have BX2 := kept (BX1.out.next k)
                clear k u0 u1 v0 v1 z0 z1 f0 f1
                obtain ⟨u0, u1, z0, z1, f0, f1⟩ := BX2.out.cellsA
                go_wp2
                exact bodyPost_ret (v := .agg #[.int .i64 (0), .int .i64 (0)]) (by simp [results, Try.results97, go_sem, z0, z1]) rfl ⟨by rw [ELO.out, EHI.out], (((BX2.out.keeps.alloc _).setCell (.inr (by simp; omega)) _).setCell (.inr (by simp; omega)) _)⟩

theorem rests_any (a b : Iv.R) (wa : Iv.Wf a) (wb : Iv.Wf b) (ha : a.lo ≤ a.hi) (hb : b.lo ≤ b.hi) (w : World) :
    Calls Try.prog 97 #[.agg #[.int .i64 a.lo, .int .i64 a.hi], .agg #[.int .i64 b.lo, .int .i64 b.hi]] w fun e w' => e = .returned (.agg #[.int .i64 (Iv.rests a b).lo, .int .i64 (Iv.rests a b).hi]) ∧ Keeps w w' [] := by
  obtain ⟨p, q⟩ := a
  obtain ⟨s, t⟩ := b
  by_cases h : s = 0 ∧ t = 0
  · obtain ⟨rfl, rfl⟩ := h
    exact rests_zero p q w
  · have e : Iv.rests ⟨p, q⟩ ⟨s, t⟩ = ⟨if p < 0 then max p (-(Iv.restK ⟨s, t⟩)) else 0, if 0 < q then min q (Iv.restK ⟨s, t⟩) else 0⟩ := by unfold Iv.rests; rw [if_neg h]
    rw [e]
    exact rests_some p q s t (inI_iff.2 wa.1) (inI_iff.2 wa.2) (inI_iff.2 wb.1) (inI_iff.2 wb.2) ha hb h w
end Go.Proofs.Ytppidnjhdefbiaa
