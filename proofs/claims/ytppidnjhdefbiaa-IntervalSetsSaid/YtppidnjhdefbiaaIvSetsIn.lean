/- Package interval: the law IntervalSets: its walk where the number is in the first range. -/
import Derived.Test.YtppidnjhdefbiaaIvSetsBase
import Derived.Deep.CutBlock
namespace Go.Proofs.Ytppidnjhdefbiaa
open Go.RowKit
set_option linter.unusedVariables false
set_option linter.unusedSimpArgs false

theorem not_empty_of {ml mh n : Int} (h : Iv.has ⟨ml, mh⟩ n = true) : ¬ mh < ml := by
  rw [Iv.has_iff] at h
  simp only at h
  omega

set_option maxRecDepth 100000 in
set_option maxHeartbeats 40000000 in
theorem sets_true (al ah bl bh ml mh jl jh n : Int) (hm : Iv.meet ⟨al, ah⟩ ⟨bl, bh⟩ = ⟨ml, mh⟩) (hj : Iv.join ⟨al, ah⟩ ⟨bl, bh⟩ = ⟨jl, jh⟩) (hP : Iv.has ⟨al, ah⟩ n = true) (w : World) :
    Calls Try.prog 15 #[.agg #[.int .i64 al, .int .i64 ah], .agg #[.int .i64 bl, .int .i64 bh], .int .i64 n] w fun e w' => e = .returned (.bool true) ∧ Below w.heap.size w w' := by
  have CM := kept (fun w => meet_any al ah bl bh w)
  have CJ := kept (fun w => join_any al ah bl bh w)
  rw [hm] at CM
  rw [hj] at CJ
  obtain ⟨Q, hQ⟩ : ∃ q, Iv.has ⟨bl, bh⟩ n = q := ⟨_, rfl⟩
  have MN := kept (fun (e : mh < ml) => meet_none hm e)
  have JQ := kept hj
  have HA := kept (fun w => hasi_of hP w)
  have hmh : Iv.has ⟨ml, mh⟩ n = (true && Q) := by rw [meet_has hm, hP, hQ]
  have HMQ := kept (fun w => hasi_of hmh w)
  have HJQ := kept (fun (e : Q = true) => fun w => hasi_of (join_has hj (by rw [hQ, e, Bool.or_true])) w)
  have HJP := kept (fun (e : true = true) => fun w => hasi_of (join_has hj (by rw [hP, e, Bool.true_or])) w)
  obtain ⟨E, hE0⟩ : ∃ b, decide (ah < al) = b := ⟨_, rfl⟩
  obtain ⟨D, hD0⟩ : ∃ b, decide (bh < bl) = b := ⟨_, rfl⟩
  have EA := kept (fun w => empty_any al ah w)
  rw [hE0] at EA
  have HE := kept hE0
  have HD := kept hD0
  clear hE0 hD0
  have N6 := kept none66
  have N71 := kept all71
  have CN := kept none_any
  have CL := kept all_any
  have CO := kept (fun w => of_any n w)
  have HPe := kept hP
  have HQe := kept hQ
  have HAM := kept (show Iv.has ⟨ml, mh⟩ n = Q from hmh)
  clear hm hj hP hQ hmh
  go_enter Try.func15, Try.ntmps15
  go_wp2_with fail
  refine (ivlives _).mono ?_
  rintro e w1 ⟨rfl, k⟩
  have S5W := kept (S5.start k)
  clear k
  obtain ⟨c0, c1, c2, c3⟩ := S5W.out.cells
  go_upto_region 3 with (fail)
  go_cut [7, 8] from 18 to 37 (fun t7 t8 wx => t7 = .bool true ∧ t8 = .bool Q ∧ S5 w wx al ah bl bh)
  case first =>
    rcases Bool.eq_false_or_eq_true (decide (al ≤ n)) with h1 | h1 <;> rcases Bool.eq_false_or_eq_true (decide (bl ≤ n)) with h2 | h2
    all_goals
      go_quiet (fail)
      have s5 := S5W.out.next ((Keeps.refl _ []).drewN nq)
      go_wp2
      go_meet
      exact ⟨by first | (rw [← HPe.out]; done) | (rw [← HPe.out]; simp [Iv.has, h1]), by first | (rw [← HQe.out]; done) | (rw [← HQe.out]; simp [Iv.has, h2]), s5⟩
  case rest =>
    obtain ⟨rfl, rfl, hs⟩ := hcut
    clear c0 c1 c2 c3 S5W
    have S5W := kept hs
    clear hs
    obtain ⟨c0, c1, c2, c3⟩ := S5W.out.cells
    go_wp2
    go_quiet (fail)
    simp only [HE.out, HD.out]
    have s5 := S5W.out.next ((Keeps.refl _ []).drewN nq)
    clear c0 c1 c2 c3 S5W
    have S5W := kept s5
    clear s5
    obtain ⟨c0, c1, c2, c3⟩ := S5W.out.cells
    generalize World.drewN _ nq = W4 at *
    go_upto_region 5 with (fail)
    go_cut [11, 12] from 48 to 53 (fun t11 t12 wx => ∃ gm gj : Nat, t11 = .pointer (some ⟨gm, 0, none⟩) ∧ t12 = .pointer (some ⟨gj, 0, none⟩) ∧ S6 w wx al ah bl bh ml mh jl jh gm gj)
    case first =>
      refine wp_region_held_drew (S := (fun w' => w'.cell? ⟨w.heap.size, 0, none⟩ = some (.int .i64 al) ∧ w'.cell? ⟨w.heap.size, 1, none⟩ = some (.int .i64 ah) ∧ w'.cell? ⟨w.heap.size + 1, 0, none⟩ = some (.int .i64 bl) ∧ w'.cell? ⟨w.heap.size + 1, 1, none⟩ = some (.int .i64 bh))) (by kernel_rfl) ?hSs (fun hHeld => ?_)
      case hSs => exact ⟨c0, c1, c2, c3⟩
      have s5 := S5W.out.next ((Keeps.refl _ []).drew)
      replace S5W := kept s5
      clear s5
      generalize World.drew _ = X0 at *
      refine wpAnyH_take (i := 0) (oi := { dst := some 48, op := Op.load 86 (Operand.tmp 3), type := 86, pos := "law.go:50", after := #[], guard := none }) (v := ?v0) rfl (by kernel_rfl) (by kernel_rfl) (by kernel_rfl) (fun _ _ _ h => h) (Or.inl ⟨by rfl, ?y0⟩) hHeld ?r0
      case y0 => (intro w hSw; (try dsimp only at hSw); go_simp; (try with_reducible rfl))
      try simp only [Act.put, List.setIfInBounds_toArray, List.set_cons_zero, List.set_cons_succ]
      refine wpAnyH_take (i := 1) (oi := { dst := some 49, op := Op.load 86 (Operand.tmp 4), type := 86, pos := "law.go:50", after := #[], guard := none }) (v := ?v1) rfl (by kernel_rfl) (by kernel_rfl) (by kernel_rfl) (fun _ _ _ h => h) (Or.inl ⟨by rfl, ?y1⟩) hHeld ?r1
      case y1 => (intro w hSw; (try dsimp only at hSw); go_simp; (try with_reducible rfl))
      try simp only [Act.put, List.setIfInBounds_toArray, List.set_cons_zero, List.set_cons_succ]
      refine wpAnyH_take (i := 3) (oi := { dst := some 51, op := Op.load 86 (Operand.tmp 3), type := 86, pos := "law.go:50", after := #[], guard := none }) (v := ?v3) rfl (by kernel_rfl) (by kernel_rfl) (by kernel_rfl) (fun _ _ _ h => h) (Or.inl ⟨by rfl, ?y3⟩) hHeld ?r3
      case y3 => (intro w hSw; (try dsimp only at hSw); go_simp; (try with_reducible rfl))
      try simp only [Act.put, List.setIfInBounds_toArray, List.set_cons_zero, List.set_cons_succ]
      refine wpAnyH_take (i := 4) (oi := { dst := some 52, op := Op.load 86 (Operand.tmp 4), type := 86, pos := "law.go:50", after := #[], guard := none }) (v := ?v4) rfl (by kernel_rfl) (by kernel_rfl) (by kernel_rfl) (fun _ _ _ h => h) (Or.inl ⟨by rfl, ?y4⟩) hHeld ?r4
      case y4 => (intro w hSw; (try dsimp only at hSw); go_simp; (try with_reducible rfl))
      try simp only [Act.put, List.setIfInBounds_toArray, List.set_cons_zero, List.set_cons_succ]
      refine wpAnyH_ready (rs := [2, 6, 7]) (by kernel_rfl) (by simp) ?_
      refine AllReadyH.cons (o := { dst := some 50, op := Op.call { callee := Callee.value (Operand.func 62), args := #[Operand.tmp 48, Operand.tmp 49], argTypes := #[86, 86] }, type := 86, pos := "law.go:50", after := #[{ on := 0, ground := Ground.data }, { on := 1, ground := Ground.data }], guard := none }) rfl (fun K hK => ?_) ?_
      · clear hHeld
        go_simp
        (with_reducible refine (CM.out _).mono ?_)
        rintro e X1 ⟨rfl, k⟩
        show K _ _
        have s5 := S5W.out.next k
        clear k
        try clear f0 f1 f2 f3
        try clear d0 d1 d2 d3
        clear c0 c1 c2 c3 S5W
        obtain ⟨c0, c1, c2, c3⟩ := s5.cells
        refine hK.out _ _ ?hS (fun hHeld => ?_)
        case hS => exact ⟨c0, c1, c2, c3⟩
        clear hK K
        try simp only [Act.put, List.setIfInBounds_toArray, List.set_cons_zero, List.set_cons_succ]
        have S5W := kept s5
        clear s5
        refine wpAnyH_ready (rs := [5, 6, 7]) (by kernel_rfl) (by simp) ?_
        refine AllReadyH.cons (o := { dst := some 53, op := Op.call { callee := Callee.value (Operand.func 63), args := #[Operand.tmp 51, Operand.tmp 52], argTypes := #[86, 86] }, type := 86, pos := "law.go:50", after := #[{ on := 3, ground := Ground.data }, { on := 4, ground := Ground.data }, { on := 2, ground := Ground.chain }], guard := none }) rfl (fun K hK => ?_) ?_
        · clear hHeld
          go_simp
          (with_reducible refine (CJ.out _).mono ?_)
          rintro e X2 ⟨rfl, k⟩
          show K _ _
          have s5 := S5W.out.next k
          clear k
          try clear f0 f1 f2 f3
          try clear d0 d1 d2 d3
          clear c0 c1 c2 c3 S5W
          obtain ⟨c0, c1, c2, c3⟩ := s5.cells
          refine hK.out _ _ ?hS (fun hHeld => ?_)
          case hS => exact ⟨c0, c1, c2, c3⟩
          clear hK K
          try simp only [Act.put, List.setIfInBounds_toArray, List.set_cons_zero, List.set_cons_succ]
          have S5W := kept s5
          clear s5
          refine wpAnyH_ready (rs := [6, 7]) (by kernel_rfl) (by simp) ?_
          refine AllReadyH.cons (o := { dst := some 11, op := Op.alloc 86, type := 0, pos := "law.go:50", after := #[], guard := none }) rfl (fun K hK => ?_) ?_
          · clear hHeld
            go_simp
            have s5 := S5W.out.next ((Keeps.refl X2 []).alloc (.cells #[.int .i64 0, .int .i64 0] 86))
            have bm := s5new (X := X2)
            have hge := s5ge S5W.out
            try clear f0 f1 f2 f3
            try clear d0 d1 d2 d3
            clear c0 c1 c2 c3 S5W
            generalize X2.alloc (.cells #[.int .i64 0, .int .i64 0] 86) = X3 at *
            generalize X2.heap.size = gm at *
            have HGM := kept hge
            clear hge
            obtain ⟨c0, c1, c2, c3⟩ := s5.cells
            refine hK.out _ _ ?hS (fun hHeld => ?_)
            case hS => exact ⟨c0, c1, c2, c3⟩
            clear hK K
            try simp only [Act.put, List.setIfInBounds_toArray, List.set_cons_zero, List.set_cons_succ]
            have S5W := kept s5
            clear s5
            have BM := kept bm
            clear bm
            have f0 := BM.out.cell 0
            have f1 := BM.out.cell 1
            have f2 := BM.out.frozen 0
            have f3 := BM.out.frozen 1
            refine wpAnyH_ready (rs := [7]) (by kernel_rfl) (by simp) ?_
            refine AllReadyH.cons (o := { dst := some 12, op := Op.alloc 86, type := 0, pos := "law.go:50", after := #[], guard := none }) rfl (fun K hK => ?_) ?_
            · clear hHeld
              go_simp
              have s5 := S5W.out.next ((Keeps.refl X3 []).alloc (.cells #[.int .i64 0, .int .i64 0] 86))
              have bj := s5new (X := X3)
              have bm := BM.out.keep ((Keeps.refl X3 []).alloc (.cells #[.int .i64 0, .int .i64 0] 86)) (by simp)
              have hne := s5ne BM.out
              have hge := s5ge S5W.out
              try clear f0 f1 f2 f3
              try clear d0 d1 d2 d3
              clear c0 c1 c2 c3 S5W
              clear BM
              generalize X3.alloc (.cells #[.int .i64 0, .int .i64 0] 86) = X4 at *
              generalize X3.heap.size = gj at *
              have HGJ := kept hge
              clear hge
              have HNM := kept hne
              have HNJ := kept (Ne.symm hne)
              clear hne
              obtain ⟨c0, c1, c2, c3⟩ := s5.cells
              refine hK.out _ _ ?hS (fun hHeld => ?_)
              case hS => exact ⟨c0, c1, c2, c3⟩
              clear hK K
              try simp only [Act.put, List.setIfInBounds_toArray, List.set_cons_zero, List.set_cons_succ]
              have S5W := kept s5
              clear s5
              have BM := kept bm
              clear bm
              have f0 := BM.out.cell 0
              have f1 := BM.out.cell 1
              have f2 := BM.out.frozen 0
              have f3 := BM.out.frozen 1
              have BJ := kept bj
              clear bj
              have d0 := BJ.out.cell 0
              have d1 := BJ.out.cell 1
              have d2 := BJ.out.frozen 0
              have d3 := BJ.out.frozen 1
              refine wpAnyH_ready (rs := [8]) (by kernel_rfl) (by simp) ?_
              refine AllReadyH.cons (o := { dst := none, op := Op.store 86 (Operand.tmp 11) (Operand.tmp 50), type := 0, pos := "law.go:50", after := #[{ on := 6, ground := Ground.data }, { on := 2, ground := Ground.data }, { on := 5, ground := Ground.chain }, { on := 0, ground := Ground.phase }, { on := 1, ground := Ground.phase }, { on := 2, ground := Ground.phase }, { on := 3, ground := Ground.textOnly Departure.lateStores }, { on := 4, ground := Ground.textOnly Departure.lateStores }, { on := 5, ground := Ground.textOnly Departure.lateStoresUnsure }, { on := 6, ground := Ground.phase }, { on := 7, ground := Ground.phase }], guard := none }) rfl (fun K hK => ?_) ?_
              · clear hHeld
                go_simp
                obtain ⟨s5, bm⟩ := S5W.out.store BM.out HGM.out ml mh
                have bj := BJ.out.store (HNJ.out) ml mh
                try clear f0 f1 f2 f3
                try clear d0 d1 d2 d3
                clear c0 c1 c2 c3 S5W
                clear BM
                clear BJ
                generalize (X4.setCell ⟨gm, 0, none⟩ (.int .i64 ml)).setCell ⟨gm, 1, none⟩ (.int .i64 mh) = X5 at *
                obtain ⟨c0, c1, c2, c3⟩ := s5.cells
                refine hK.out _ _ ?hS (fun hHeld => ?_)
                case hS => exact ⟨c0, c1, c2, c3⟩
                clear hK K
                try simp only [Act.put, List.setIfInBounds_toArray, List.set_cons_zero, List.set_cons_succ]
                have S5W := kept s5
                clear s5
                have BM := kept bm
                clear bm
                have f0 := BM.out.cell 0
                have f1 := BM.out.cell 1
                have f2 := BM.out.frozen 0
                have f3 := BM.out.frozen 1
                have BJ := kept bj
                clear bj
                have d0 := BJ.out.cell 0
                have d1 := BJ.out.cell 1
                have d2 := BJ.out.frozen 0
                have d3 := BJ.out.frozen 1
                refine wpAnyH_ready (rs := [9]) (by kernel_rfl) (by simp) ?_
                refine AllReadyH.cons (o := { dst := none, op := Op.store 86 (Operand.tmp 12) (Operand.tmp 53), type := 0, pos := "law.go:50", after := #[{ on := 7, ground := Ground.data }, { on := 5, ground := Ground.data }, { on := 8, ground := Ground.chain }, { on := 0, ground := Ground.phase }, { on := 1, ground := Ground.phase }, { on := 2, ground := Ground.phase }, { on := 3, ground := Ground.phase }, { on := 4, ground := Ground.phase }, { on := 5, ground := Ground.phase }, { on := 6, ground := Ground.phase }, { on := 7, ground := Ground.phase }, { on := 8, ground := Ground.phase }], guard := none }) rfl (fun K hK => ?_) ?_
                · clear hHeld
                  go_simp
                  obtain ⟨s5, bj⟩ := S5W.out.store BJ.out HGJ.out jl jh
                  have bm := BM.out.store (HNM.out) jl jh
                  try clear f0 f1 f2 f3
                  try clear d0 d1 d2 d3
                  clear c0 c1 c2 c3 S5W
                  clear BM
                  clear BJ
                  generalize (X5.setCell ⟨gj, 0, none⟩ (.int .i64 jl)).setCell ⟨gj, 1, none⟩ (.int .i64 jh) = X6 at *
                  obtain ⟨c0, c1, c2, c3⟩ := s5.cells
                  refine hK.out _ _ ?hS (fun hHeld => ?_)
                  case hS => exact ⟨c0, c1, c2, c3⟩
                  clear hK K
                  try simp only [Act.put, List.setIfInBounds_toArray, List.set_cons_zero, List.set_cons_succ]
                  have S5W := kept s5
                  clear s5
                  have BM := kept bm
                  clear bm
                  have f0 := BM.out.cell 0
                  have f1 := BM.out.cell 1
                  have f2 := BM.out.frozen 0
                  have f3 := BM.out.frozen 1
                  have BJ := kept bj
                  clear bj
                  have d0 := BJ.out.cell 0
                  have d1 := BJ.out.cell 1
                  have d2 := BJ.out.frozen 0
                  have d3 := BJ.out.frozen 1
                  refine wpAnyH_done (by kernel_rfl) ?_ _
                  go_wp2
                  go_meet
                  exact ⟨_, _, rfl, rfl, s6_of S5W.out BM.out BJ.out⟩
                exact AllReadyH.nil
              exact AllReadyH.nil
            exact AllReadyH.nil
          refine AllReadyH.cons (o := { dst := some 12, op := Op.alloc 86, type := 0, pos := "law.go:50", after := #[], guard := none }) rfl (fun K hK => ?_) ?_
          · clear hHeld
            go_simp
            have s5 := S5W.out.next ((Keeps.refl X2 []).alloc (.cells #[.int .i64 0, .int .i64 0] 86))
            have bj := s5new (X := X2)
            have hge := s5ge S5W.out
            try clear f0 f1 f2 f3
            try clear d0 d1 d2 d3
            clear c0 c1 c2 c3 S5W
            generalize X2.alloc (.cells #[.int .i64 0, .int .i64 0] 86) = X7 at *
            generalize X2.heap.size = gj at *
            have HGJ := kept hge
            clear hge
            obtain ⟨c0, c1, c2, c3⟩ := s5.cells
            refine hK.out _ _ ?hS (fun hHeld => ?_)
            case hS => exact ⟨c0, c1, c2, c3⟩
            clear hK K
            try simp only [Act.put, List.setIfInBounds_toArray, List.set_cons_zero, List.set_cons_succ]
            have S5W := kept s5
            clear s5
            have BJ := kept bj
            clear bj
            have d0 := BJ.out.cell 0
            have d1 := BJ.out.cell 1
            have d2 := BJ.out.frozen 0
            have d3 := BJ.out.frozen 1
            refine wpAnyH_ready (rs := [6]) (by kernel_rfl) (by simp) ?_
            refine AllReadyH.cons (o := { dst := some 11, op := Op.alloc 86, type := 0, pos := "law.go:50", after := #[], guard := none }) rfl (fun K hK => ?_) ?_
            · clear hHeld
              go_simp
              have s5 := S5W.out.next ((Keeps.refl X7 []).alloc (.cells #[.int .i64 0, .int .i64 0] 86))
              have bm := s5new (X := X7)
              have bj := BJ.out.keep ((Keeps.refl X7 []).alloc (.cells #[.int .i64 0, .int .i64 0] 86)) (by simp)
              have hne := s5ne BJ.out
              have hge := s5ge S5W.out
              try clear f0 f1 f2 f3
              try clear d0 d1 d2 d3
              clear c0 c1 c2 c3 S5W
              clear BJ
              generalize X7.alloc (.cells #[.int .i64 0, .int .i64 0] 86) = X8 at *
              generalize X7.heap.size = gm at *
              have HGM := kept hge
              clear hge
              have HNJ := kept hne
              have HNM := kept (Ne.symm hne)
              clear hne
              obtain ⟨c0, c1, c2, c3⟩ := s5.cells
              refine hK.out _ _ ?hS (fun hHeld => ?_)
              case hS => exact ⟨c0, c1, c2, c3⟩
              clear hK K
              try simp only [Act.put, List.setIfInBounds_toArray, List.set_cons_zero, List.set_cons_succ]
              have S5W := kept s5
              clear s5
              have BM := kept bm
              clear bm
              have f0 := BM.out.cell 0
              have f1 := BM.out.cell 1
              have f2 := BM.out.frozen 0
              have f3 := BM.out.frozen 1
              have BJ := kept bj
              clear bj
              have d0 := BJ.out.cell 0
              have d1 := BJ.out.cell 1
              have d2 := BJ.out.frozen 0
              have d3 := BJ.out.frozen 1
              refine wpAnyH_ready (rs := [8]) (by kernel_rfl) (by simp) ?_
              refine AllReadyH.cons (o := { dst := none, op := Op.store 86 (Operand.tmp 11) (Operand.tmp 50), type := 0, pos := "law.go:50", after := #[{ on := 6, ground := Ground.data }, { on := 2, ground := Ground.data }, { on := 5, ground := Ground.chain }, { on := 0, ground := Ground.phase }, { on := 1, ground := Ground.phase }, { on := 2, ground := Ground.phase }, { on := 3, ground := Ground.textOnly Departure.lateStores }, { on := 4, ground := Ground.textOnly Departure.lateStores }, { on := 5, ground := Ground.textOnly Departure.lateStoresUnsure }, { on := 6, ground := Ground.phase }, { on := 7, ground := Ground.phase }], guard := none }) rfl (fun K hK => ?_) ?_
              · clear hHeld
                go_simp
                obtain ⟨s5, bm⟩ := S5W.out.store BM.out HGM.out ml mh
                have bj := BJ.out.store (HNJ.out) ml mh
                try clear f0 f1 f2 f3
                try clear d0 d1 d2 d3
                clear c0 c1 c2 c3 S5W
                clear BM
                clear BJ
                generalize (X8.setCell ⟨gm, 0, none⟩ (.int .i64 ml)).setCell ⟨gm, 1, none⟩ (.int .i64 mh) = X9 at *
                obtain ⟨c0, c1, c2, c3⟩ := s5.cells
                refine hK.out _ _ ?hS (fun hHeld => ?_)
                case hS => exact ⟨c0, c1, c2, c3⟩
                clear hK K
                try simp only [Act.put, List.setIfInBounds_toArray, List.set_cons_zero, List.set_cons_succ]
                have S5W := kept s5
                clear s5
                have BM := kept bm
                clear bm
                have f0 := BM.out.cell 0
                have f1 := BM.out.cell 1
                have f2 := BM.out.frozen 0
                have f3 := BM.out.frozen 1
                have BJ := kept bj
                clear bj
                have d0 := BJ.out.cell 0
                have d1 := BJ.out.cell 1
                have d2 := BJ.out.frozen 0
                have d3 := BJ.out.frozen 1
                refine wpAnyH_ready (rs := [9]) (by kernel_rfl) (by simp) ?_
                refine AllReadyH.cons (o := { dst := none, op := Op.store 86 (Operand.tmp 12) (Operand.tmp 53), type := 0, pos := "law.go:50", after := #[{ on := 7, ground := Ground.data }, { on := 5, ground := Ground.data }, { on := 8, ground := Ground.chain }, { on := 0, ground := Ground.phase }, { on := 1, ground := Ground.phase }, { on := 2, ground := Ground.phase }, { on := 3, ground := Ground.phase }, { on := 4, ground := Ground.phase }, { on := 5, ground := Ground.phase }, { on := 6, ground := Ground.phase }, { on := 7, ground := Ground.phase }, { on := 8, ground := Ground.phase }], guard := none }) rfl (fun K hK => ?_) ?_
                · clear hHeld
                  go_simp
                  obtain ⟨s5, bj⟩ := S5W.out.store BJ.out HGJ.out jl jh
                  have bm := BM.out.store (HNM.out) jl jh
                  try clear f0 f1 f2 f3
                  try clear d0 d1 d2 d3
                  clear c0 c1 c2 c3 S5W
                  clear BM
                  clear BJ
                  generalize (X9.setCell ⟨gj, 0, none⟩ (.int .i64 jl)).setCell ⟨gj, 1, none⟩ (.int .i64 jh) = X10 at *
                  obtain ⟨c0, c1, c2, c3⟩ := s5.cells
                  refine hK.out _ _ ?hS (fun hHeld => ?_)
                  case hS => exact ⟨c0, c1, c2, c3⟩
                  clear hK K
                  try simp only [Act.put, List.setIfInBounds_toArray, List.set_cons_zero, List.set_cons_succ]
                  have S5W := kept s5
                  clear s5
                  have BM := kept bm
                  clear bm
                  have f0 := BM.out.cell 0
                  have f1 := BM.out.cell 1
                  have f2 := BM.out.frozen 0
                  have f3 := BM.out.frozen 1
                  have BJ := kept bj
                  clear bj
                  have d0 := BJ.out.cell 0
                  have d1 := BJ.out.cell 1
                  have d2 := BJ.out.frozen 0
                  have d3 := BJ.out.frozen 1
                  refine wpAnyH_done (by kernel_rfl) ?_ _
                  go_wp2
                  go_meet
                  exact ⟨_, _, rfl, rfl, s6_of S5W.out BM.out BJ.out⟩
                exact AllReadyH.nil
              exact AllReadyH.nil
            exact AllReadyH.nil
          exact AllReadyH.nil
        refine AllReadyH.cons (o := { dst := some 11, op := Op.alloc 86, type := 0, pos := "law.go:50", after := #[], guard := none }) rfl (fun K hK => ?_) ?_
        · clear hHeld
          go_simp
          have s5 := S5W.out.next ((Keeps.refl X1 []).alloc (.cells #[.int .i64 0, .int .i64 0] 86))
          have bm := s5new (X := X1)
          have hge := s5ge S5W.out
          try clear f0 f1 f2 f3
          try clear d0 d1 d2 d3
          clear c0 c1 c2 c3 S5W
          generalize X1.alloc (.cells #[.int .i64 0, .int .i64 0] 86) = X11 at *
          generalize X1.heap.size = gm at *
          have HGM := kept hge
          clear hge
          obtain ⟨c0, c1, c2, c3⟩ := s5.cells
          refine hK.out _ _ ?hS (fun hHeld => ?_)
          case hS => exact ⟨c0, c1, c2, c3⟩
          clear hK K
          try simp only [Act.put, List.setIfInBounds_toArray, List.set_cons_zero, List.set_cons_succ]
          have S5W := kept s5
          clear s5
          have BM := kept bm
          clear bm
          have f0 := BM.out.cell 0
          have f1 := BM.out.cell 1
          have f2 := BM.out.frozen 0
          have f3 := BM.out.frozen 1
          refine wpAnyH_ready (rs := [5, 7]) (by kernel_rfl) (by simp) ?_
          refine AllReadyH.cons (o := { dst := some 53, op := Op.call { callee := Callee.value (Operand.func 63), args := #[Operand.tmp 51, Operand.tmp 52], argTypes := #[86, 86] }, type := 86, pos := "law.go:50", after := #[{ on := 3, ground := Ground.data }, { on := 4, ground := Ground.data }, { on := 2, ground := Ground.chain }], guard := none }) rfl (fun K hK => ?_) ?_
          · clear hHeld
            go_simp
            (with_reducible refine (CJ.out _).mono ?_)
            rintro e X12 ⟨rfl, k⟩
            show K _ _
            have s5 := S5W.out.next k
            have bm := BM.out.keep k (by simp)
            clear k
            try clear f0 f1 f2 f3
            try clear d0 d1 d2 d3
            clear c0 c1 c2 c3 S5W
            clear BM
            obtain ⟨c0, c1, c2, c3⟩ := s5.cells
            refine hK.out _ _ ?hS (fun hHeld => ?_)
            case hS => exact ⟨c0, c1, c2, c3⟩
            clear hK K
            try simp only [Act.put, List.setIfInBounds_toArray, List.set_cons_zero, List.set_cons_succ]
            have S5W := kept s5
            clear s5
            have BM := kept bm
            clear bm
            have f0 := BM.out.cell 0
            have f1 := BM.out.cell 1
            have f2 := BM.out.frozen 0
            have f3 := BM.out.frozen 1
            refine wpAnyH_ready (rs := [7]) (by kernel_rfl) (by simp) ?_
            refine AllReadyH.cons (o := { dst := some 12, op := Op.alloc 86, type := 0, pos := "law.go:50", after := #[], guard := none }) rfl (fun K hK => ?_) ?_
            · clear hHeld
              go_simp
              have s5 := S5W.out.next ((Keeps.refl X12 []).alloc (.cells #[.int .i64 0, .int .i64 0] 86))
              have bj := s5new (X := X12)
              have bm := BM.out.keep ((Keeps.refl X12 []).alloc (.cells #[.int .i64 0, .int .i64 0] 86)) (by simp)
              have hne := s5ne BM.out
              have hge := s5ge S5W.out
              try clear f0 f1 f2 f3
              try clear d0 d1 d2 d3
              clear c0 c1 c2 c3 S5W
              clear BM
              generalize X12.alloc (.cells #[.int .i64 0, .int .i64 0] 86) = X13 at *
              generalize X12.heap.size = gj at *
              have HGJ := kept hge
              clear hge
              have HNM := kept hne
              have HNJ := kept (Ne.symm hne)
              clear hne
              obtain ⟨c0, c1, c2, c3⟩ := s5.cells
              refine hK.out _ _ ?hS (fun hHeld => ?_)
              case hS => exact ⟨c0, c1, c2, c3⟩
              clear hK K
              try simp only [Act.put, List.setIfInBounds_toArray, List.set_cons_zero, List.set_cons_succ]
              have S5W := kept s5
              clear s5
              have BM := kept bm
              clear bm
              have f0 := BM.out.cell 0
              have f1 := BM.out.cell 1
              have f2 := BM.out.frozen 0
              have f3 := BM.out.frozen 1
              have BJ := kept bj
              clear bj
              have d0 := BJ.out.cell 0
              have d1 := BJ.out.cell 1
              have d2 := BJ.out.frozen 0
              have d3 := BJ.out.frozen 1
              refine wpAnyH_ready (rs := [8]) (by kernel_rfl) (by simp) ?_
              refine AllReadyH.cons (o := { dst := none, op := Op.store 86 (Operand.tmp 11) (Operand.tmp 50), type := 0, pos := "law.go:50", after := #[{ on := 6, ground := Ground.data }, { on := 2, ground := Ground.data }, { on := 5, ground := Ground.chain }, { on := 0, ground := Ground.phase }, { on := 1, ground := Ground.phase }, { on := 2, ground := Ground.phase }, { on := 3, ground := Ground.textOnly Departure.lateStores }, { on := 4, ground := Ground.textOnly Departure.lateStores }, { on := 5, ground := Ground.textOnly Departure.lateStoresUnsure }, { on := 6, ground := Ground.phase }, { on := 7, ground := Ground.phase }], guard := none }) rfl (fun K hK => ?_) ?_
              · clear hHeld
                go_simp
                obtain ⟨s5, bm⟩ := S5W.out.store BM.out HGM.out ml mh
                have bj := BJ.out.store (HNJ.out) ml mh
                try clear f0 f1 f2 f3
                try clear d0 d1 d2 d3
                clear c0 c1 c2 c3 S5W
                clear BM
                clear BJ
                generalize (X13.setCell ⟨gm, 0, none⟩ (.int .i64 ml)).setCell ⟨gm, 1, none⟩ (.int .i64 mh) = X14 at *
                obtain ⟨c0, c1, c2, c3⟩ := s5.cells
                refine hK.out _ _ ?hS (fun hHeld => ?_)
                case hS => exact ⟨c0, c1, c2, c3⟩
                clear hK K
                try simp only [Act.put, List.setIfInBounds_toArray, List.set_cons_zero, List.set_cons_succ]
                have S5W := kept s5
                clear s5
                have BM := kept bm
                clear bm
                have f0 := BM.out.cell 0
                have f1 := BM.out.cell 1
                have f2 := BM.out.frozen 0
                have f3 := BM.out.frozen 1
                have BJ := kept bj
                clear bj
                have d0 := BJ.out.cell 0
                have d1 := BJ.out.cell 1
                have d2 := BJ.out.frozen 0
                have d3 := BJ.out.frozen 1
                refine wpAnyH_ready (rs := [9]) (by kernel_rfl) (by simp) ?_
                refine AllReadyH.cons (o := { dst := none, op := Op.store 86 (Operand.tmp 12) (Operand.tmp 53), type := 0, pos := "law.go:50", after := #[{ on := 7, ground := Ground.data }, { on := 5, ground := Ground.data }, { on := 8, ground := Ground.chain }, { on := 0, ground := Ground.phase }, { on := 1, ground := Ground.phase }, { on := 2, ground := Ground.phase }, { on := 3, ground := Ground.phase }, { on := 4, ground := Ground.phase }, { on := 5, ground := Ground.phase }, { on := 6, ground := Ground.phase }, { on := 7, ground := Ground.phase }, { on := 8, ground := Ground.phase }], guard := none }) rfl (fun K hK => ?_) ?_
                · clear hHeld
                  go_simp
                  obtain ⟨s5, bj⟩ := S5W.out.store BJ.out HGJ.out jl jh
                  have bm := BM.out.store (HNM.out) jl jh
                  try clear f0 f1 f2 f3
                  try clear d0 d1 d2 d3
                  clear c0 c1 c2 c3 S5W
                  clear BM
                  clear BJ
                  generalize (X14.setCell ⟨gj, 0, none⟩ (.int .i64 jl)).setCell ⟨gj, 1, none⟩ (.int .i64 jh) = X15 at *
                  obtain ⟨c0, c1, c2, c3⟩ := s5.cells
                  refine hK.out _ _ ?hS (fun hHeld => ?_)
                  case hS => exact ⟨c0, c1, c2, c3⟩
                  clear hK K
                  try simp only [Act.put, List.setIfInBounds_toArray, List.set_cons_zero, List.set_cons_succ]
                  have S5W := kept s5
                  clear s5
                  have BM := kept bm
                  clear bm
                  have f0 := BM.out.cell 0
                  have f1 := BM.out.cell 1
                  have f2 := BM.out.frozen 0
                  have f3 := BM.out.frozen 1
                  have BJ := kept bj
                  clear bj
                  have d0 := BJ.out.cell 0
                  have d1 := BJ.out.cell 1
                  have d2 := BJ.out.frozen 0
                  have d3 := BJ.out.frozen 1
                  refine wpAnyH_done (by kernel_rfl) ?_ _
                  go_wp2
                  go_meet
                  exact ⟨_, _, rfl, rfl, s6_of S5W.out BM.out BJ.out⟩
                exact AllReadyH.nil
              exact AllReadyH.nil
            exact AllReadyH.nil
          refine AllReadyH.cons (o := { dst := some 12, op := Op.alloc 86, type := 0, pos := "law.go:50", after := #[], guard := none }) rfl (fun K hK => ?_) ?_
          · clear hHeld
            go_simp
            have s5 := S5W.out.next ((Keeps.refl X11 []).alloc (.cells #[.int .i64 0, .int .i64 0] 86))
            have bj := s5new (X := X11)
            have bm := BM.out.keep ((Keeps.refl X11 []).alloc (.cells #[.int .i64 0, .int .i64 0] 86)) (by simp)
            have hne := s5ne BM.out
            have hge := s5ge S5W.out
            try clear f0 f1 f2 f3
            try clear d0 d1 d2 d3
            clear c0 c1 c2 c3 S5W
            clear BM
            generalize X11.alloc (.cells #[.int .i64 0, .int .i64 0] 86) = X16 at *
            generalize X11.heap.size = gj at *
            have HGJ := kept hge
            clear hge
            have HNM := kept hne
            have HNJ := kept (Ne.symm hne)
            clear hne
            obtain ⟨c0, c1, c2, c3⟩ := s5.cells
            refine hK.out _ _ ?hS (fun hHeld => ?_)
            case hS => exact ⟨c0, c1, c2, c3⟩
            clear hK K
            try simp only [Act.put, List.setIfInBounds_toArray, List.set_cons_zero, List.set_cons_succ]
            have S5W := kept s5
            clear s5
            have BM := kept bm
            clear bm
            have f0 := BM.out.cell 0
            have f1 := BM.out.cell 1
            have f2 := BM.out.frozen 0
            have f3 := BM.out.frozen 1
            have BJ := kept bj
            clear bj
            have d0 := BJ.out.cell 0
            have d1 := BJ.out.cell 1
            have d2 := BJ.out.frozen 0
            have d3 := BJ.out.frozen 1
            refine wpAnyH_ready (rs := [5]) (by kernel_rfl) (by simp) ?_
            refine AllReadyH.cons (o := { dst := some 53, op := Op.call { callee := Callee.value (Operand.func 63), args := #[Operand.tmp 51, Operand.tmp 52], argTypes := #[86, 86] }, type := 86, pos := "law.go:50", after := #[{ on := 3, ground := Ground.data }, { on := 4, ground := Ground.data }, { on := 2, ground := Ground.chain }], guard := none }) rfl (fun K hK => ?_) ?_
            · clear hHeld
              go_simp
              (with_reducible refine (CJ.out _).mono ?_)
              rintro e X17 ⟨rfl, k⟩
              show K _ _
              have s5 := S5W.out.next k
              have bm := BM.out.keep k (by simp)
              have bj := BJ.out.keep k (by simp)
              clear k
              try clear f0 f1 f2 f3
              try clear d0 d1 d2 d3
              clear c0 c1 c2 c3 S5W
              clear BM
              clear BJ
              obtain ⟨c0, c1, c2, c3⟩ := s5.cells
              refine hK.out _ _ ?hS (fun hHeld => ?_)
              case hS => exact ⟨c0, c1, c2, c3⟩
              clear hK K
              try simp only [Act.put, List.setIfInBounds_toArray, List.set_cons_zero, List.set_cons_succ]
              have S5W := kept s5
              clear s5
              have BM := kept bm
              clear bm
              have f0 := BM.out.cell 0
              have f1 := BM.out.cell 1
              have f2 := BM.out.frozen 0
              have f3 := BM.out.frozen 1
              have BJ := kept bj
              clear bj
              have d0 := BJ.out.cell 0
              have d1 := BJ.out.cell 1
              have d2 := BJ.out.frozen 0
              have d3 := BJ.out.frozen 1
              refine wpAnyH_ready (rs := [8]) (by kernel_rfl) (by simp) ?_
              refine AllReadyH.cons (o := { dst := none, op := Op.store 86 (Operand.tmp 11) (Operand.tmp 50), type := 0, pos := "law.go:50", after := #[{ on := 6, ground := Ground.data }, { on := 2, ground := Ground.data }, { on := 5, ground := Ground.chain }, { on := 0, ground := Ground.phase }, { on := 1, ground := Ground.phase }, { on := 2, ground := Ground.phase }, { on := 3, ground := Ground.textOnly Departure.lateStores }, { on := 4, ground := Ground.textOnly Departure.lateStores }, { on := 5, ground := Ground.textOnly Departure.lateStoresUnsure }, { on := 6, ground := Ground.phase }, { on := 7, ground := Ground.phase }], guard := none }) rfl (fun K hK => ?_) ?_
              · clear hHeld
                go_simp
                obtain ⟨s5, bm⟩ := S5W.out.store BM.out HGM.out ml mh
                have bj := BJ.out.store (HNJ.out) ml mh
                try clear f0 f1 f2 f3
                try clear d0 d1 d2 d3
                clear c0 c1 c2 c3 S5W
                clear BM
                clear BJ
                generalize (X17.setCell ⟨gm, 0, none⟩ (.int .i64 ml)).setCell ⟨gm, 1, none⟩ (.int .i64 mh) = X18 at *
                obtain ⟨c0, c1, c2, c3⟩ := s5.cells
                refine hK.out _ _ ?hS (fun hHeld => ?_)
                case hS => exact ⟨c0, c1, c2, c3⟩
                clear hK K
                try simp only [Act.put, List.setIfInBounds_toArray, List.set_cons_zero, List.set_cons_succ]
                have S5W := kept s5
                clear s5
                have BM := kept bm
                clear bm
                have f0 := BM.out.cell 0
                have f1 := BM.out.cell 1
                have f2 := BM.out.frozen 0
                have f3 := BM.out.frozen 1
                have BJ := kept bj
                clear bj
                have d0 := BJ.out.cell 0
                have d1 := BJ.out.cell 1
                have d2 := BJ.out.frozen 0
                have d3 := BJ.out.frozen 1
                refine wpAnyH_ready (rs := [9]) (by kernel_rfl) (by simp) ?_
                refine AllReadyH.cons (o := { dst := none, op := Op.store 86 (Operand.tmp 12) (Operand.tmp 53), type := 0, pos := "law.go:50", after := #[{ on := 7, ground := Ground.data }, { on := 5, ground := Ground.data }, { on := 8, ground := Ground.chain }, { on := 0, ground := Ground.phase }, { on := 1, ground := Ground.phase }, { on := 2, ground := Ground.phase }, { on := 3, ground := Ground.phase }, { on := 4, ground := Ground.phase }, { on := 5, ground := Ground.phase }, { on := 6, ground := Ground.phase }, { on := 7, ground := Ground.phase }, { on := 8, ground := Ground.phase }], guard := none }) rfl (fun K hK => ?_) ?_
                · clear hHeld
                  go_simp
                  obtain ⟨s5, bj⟩ := S5W.out.store BJ.out HGJ.out jl jh
                  have bm := BM.out.store (HNM.out) jl jh
                  try clear f0 f1 f2 f3
                  try clear d0 d1 d2 d3
                  clear c0 c1 c2 c3 S5W
                  clear BM
                  clear BJ
                  generalize (X18.setCell ⟨gj, 0, none⟩ (.int .i64 jl)).setCell ⟨gj, 1, none⟩ (.int .i64 jh) = X19 at *
                  obtain ⟨c0, c1, c2, c3⟩ := s5.cells
                  refine hK.out _ _ ?hS (fun hHeld => ?_)
                  case hS => exact ⟨c0, c1, c2, c3⟩
                  clear hK K
                  try simp only [Act.put, List.setIfInBounds_toArray, List.set_cons_zero, List.set_cons_succ]
                  have S5W := kept s5
                  clear s5
                  have BM := kept bm
                  clear bm
                  have f0 := BM.out.cell 0
                  have f1 := BM.out.cell 1
                  have f2 := BM.out.frozen 0
                  have f3 := BM.out.frozen 1
                  have BJ := kept bj
                  clear bj
                  have d0 := BJ.out.cell 0
                  have d1 := BJ.out.cell 1
                  have d2 := BJ.out.frozen 0
                  have d3 := BJ.out.frozen 1
                  refine wpAnyH_done (by kernel_rfl) ?_ _
                  go_wp2
                  go_meet
                  exact ⟨_, _, rfl, rfl, s6_of S5W.out BM.out BJ.out⟩
                exact AllReadyH.nil
              exact AllReadyH.nil
            exact AllReadyH.nil
          exact AllReadyH.nil
        refine AllReadyH.cons (o := { dst := some 12, op := Op.alloc 86, type := 0, pos := "law.go:50", after := #[], guard := none }) rfl (fun K hK => ?_) ?_
        · clear hHeld
          go_simp
          have s5 := S5W.out.next ((Keeps.refl X1 []).alloc (.cells #[.int .i64 0, .int .i64 0] 86))
          have bj := s5new (X := X1)
          have hge := s5ge S5W.out
          try clear f0 f1 f2 f3
          try clear d0 d1 d2 d3
          clear c0 c1 c2 c3 S5W
          generalize X1.alloc (.cells #[.int .i64 0, .int .i64 0] 86) = X20 at *
          generalize X1.heap.size = gj at *
          have HGJ := kept hge
          clear hge
          obtain ⟨c0, c1, c2, c3⟩ := s5.cells
          refine hK.out _ _ ?hS (fun hHeld => ?_)
          case hS => exact ⟨c0, c1, c2, c3⟩
          clear hK K
          try simp only [Act.put, List.setIfInBounds_toArray, List.set_cons_zero, List.set_cons_succ]
          have S5W := kept s5
          clear s5
          have BJ := kept bj
          clear bj
          have d0 := BJ.out.cell 0
          have d1 := BJ.out.cell 1
          have d2 := BJ.out.frozen 0
          have d3 := BJ.out.frozen 1
          refine wpAnyH_ready (rs := [5, 6]) (by kernel_rfl) (by simp) ?_
          refine AllReadyH.cons (o := { dst := some 53, op := Op.call { callee := Callee.value (Operand.func 63), args := #[Operand.tmp 51, Operand.tmp 52], argTypes := #[86, 86] }, type := 86, pos := "law.go:50", after := #[{ on := 3, ground := Ground.data }, { on := 4, ground := Ground.data }, { on := 2, ground := Ground.chain }], guard := none }) rfl (fun K hK => ?_) ?_
          · clear hHeld
            go_simp
            (with_reducible refine (CJ.out _).mono ?_)
            rintro e X21 ⟨rfl, k⟩
            show K _ _
            have s5 := S5W.out.next k
            have bj := BJ.out.keep k (by simp)
            clear k
            try clear f0 f1 f2 f3
            try clear d0 d1 d2 d3
            clear c0 c1 c2 c3 S5W
            clear BJ
            obtain ⟨c0, c1, c2, c3⟩ := s5.cells
            refine hK.out _ _ ?hS (fun hHeld => ?_)
            case hS => exact ⟨c0, c1, c2, c3⟩
            clear hK K
            try simp only [Act.put, List.setIfInBounds_toArray, List.set_cons_zero, List.set_cons_succ]
            have S5W := kept s5
            clear s5
            have BJ := kept bj
            clear bj
            have d0 := BJ.out.cell 0
            have d1 := BJ.out.cell 1
            have d2 := BJ.out.frozen 0
            have d3 := BJ.out.frozen 1
            refine wpAnyH_ready (rs := [6]) (by kernel_rfl) (by simp) ?_
            refine AllReadyH.cons (o := { dst := some 11, op := Op.alloc 86, type := 0, pos := "law.go:50", after := #[], guard := none }) rfl (fun K hK => ?_) ?_
            · clear hHeld
              go_simp
              have s5 := S5W.out.next ((Keeps.refl X21 []).alloc (.cells #[.int .i64 0, .int .i64 0] 86))
              have bm := s5new (X := X21)
              have bj := BJ.out.keep ((Keeps.refl X21 []).alloc (.cells #[.int .i64 0, .int .i64 0] 86)) (by simp)
              have hne := s5ne BJ.out
              have hge := s5ge S5W.out
              try clear f0 f1 f2 f3
              try clear d0 d1 d2 d3
              clear c0 c1 c2 c3 S5W
              clear BJ
              generalize X21.alloc (.cells #[.int .i64 0, .int .i64 0] 86) = X22 at *
              generalize X21.heap.size = gm at *
              have HGM := kept hge
              clear hge
              have HNJ := kept hne
              have HNM := kept (Ne.symm hne)
              clear hne
              obtain ⟨c0, c1, c2, c3⟩ := s5.cells
              refine hK.out _ _ ?hS (fun hHeld => ?_)
              case hS => exact ⟨c0, c1, c2, c3⟩
              clear hK K
              try simp only [Act.put, List.setIfInBounds_toArray, List.set_cons_zero, List.set_cons_succ]
              have S5W := kept s5
              clear s5
              have BM := kept bm
              clear bm
              have f0 := BM.out.cell 0
              have f1 := BM.out.cell 1
              have f2 := BM.out.frozen 0
              have f3 := BM.out.frozen 1
              have BJ := kept bj
              clear bj
              have d0 := BJ.out.cell 0
              have d1 := BJ.out.cell 1
              have d2 := BJ.out.frozen 0
              have d3 := BJ.out.frozen 1
              refine wpAnyH_ready (rs := [8]) (by kernel_rfl) (by simp) ?_
              refine AllReadyH.cons (o := { dst := none, op := Op.store 86 (Operand.tmp 11) (Operand.tmp 50), type := 0, pos := "law.go:50", after := #[{ on := 6, ground := Ground.data }, { on := 2, ground := Ground.data }, { on := 5, ground := Ground.chain }, { on := 0, ground := Ground.phase }, { on := 1, ground := Ground.phase }, { on := 2, ground := Ground.phase }, { on := 3, ground := Ground.textOnly Departure.lateStores }, { on := 4, ground := Ground.textOnly Departure.lateStores }, { on := 5, ground := Ground.textOnly Departure.lateStoresUnsure }, { on := 6, ground := Ground.phase }, { on := 7, ground := Ground.phase }], guard := none }) rfl (fun K hK => ?_) ?_
              · clear hHeld
                go_simp
                obtain ⟨s5, bm⟩ := S5W.out.store BM.out HGM.out ml mh
                have bj := BJ.out.store (HNJ.out) ml mh
                try clear f0 f1 f2 f3
                try clear d0 d1 d2 d3
                clear c0 c1 c2 c3 S5W
                clear BM
                clear BJ
                generalize (X22.setCell ⟨gm, 0, none⟩ (.int .i64 ml)).setCell ⟨gm, 1, none⟩ (.int .i64 mh) = X23 at *
                obtain ⟨c0, c1, c2, c3⟩ := s5.cells
                refine hK.out _ _ ?hS (fun hHeld => ?_)
                case hS => exact ⟨c0, c1, c2, c3⟩
                clear hK K
                try simp only [Act.put, List.setIfInBounds_toArray, List.set_cons_zero, List.set_cons_succ]
                have S5W := kept s5
                clear s5
                have BM := kept bm
                clear bm
                have f0 := BM.out.cell 0
                have f1 := BM.out.cell 1
                have f2 := BM.out.frozen 0
                have f3 := BM.out.frozen 1
                have BJ := kept bj
                clear bj
                have d0 := BJ.out.cell 0
                have d1 := BJ.out.cell 1
                have d2 := BJ.out.frozen 0
                have d3 := BJ.out.frozen 1
                refine wpAnyH_ready (rs := [9]) (by kernel_rfl) (by simp) ?_
                refine AllReadyH.cons (o := { dst := none, op := Op.store 86 (Operand.tmp 12) (Operand.tmp 53), type := 0, pos := "law.go:50", after := #[{ on := 7, ground := Ground.data }, { on := 5, ground := Ground.data }, { on := 8, ground := Ground.chain }, { on := 0, ground := Ground.phase }, { on := 1, ground := Ground.phase }, { on := 2, ground := Ground.phase }, { on := 3, ground := Ground.phase }, { on := 4, ground := Ground.phase }, { on := 5, ground := Ground.phase }, { on := 6, ground := Ground.phase }, { on := 7, ground := Ground.phase }, { on := 8, ground := Ground.phase }], guard := none }) rfl (fun K hK => ?_) ?_
                · clear hHeld
                  go_simp
                  obtain ⟨s5, bj⟩ := S5W.out.store BJ.out HGJ.out jl jh
                  have bm := BM.out.store (HNM.out) jl jh
                  try clear f0 f1 f2 f3
                  try clear d0 d1 d2 d3
                  clear c0 c1 c2 c3 S5W
                  clear BM
                  clear BJ
                  generalize (X23.setCell ⟨gj, 0, none⟩ (.int .i64 jl)).setCell ⟨gj, 1, none⟩ (.int .i64 jh) = X24 at *
                  obtain ⟨c0, c1, c2, c3⟩ := s5.cells
                  refine hK.out _ _ ?hS (fun hHeld => ?_)
                  case hS => exact ⟨c0, c1, c2, c3⟩
                  clear hK K
                  try simp only [Act.put, List.setIfInBounds_toArray, List.set_cons_zero, List.set_cons_succ]
                  have S5W := kept s5
                  clear s5
                  have BM := kept bm
                  clear bm
                  have f0 := BM.out.cell 0
                  have f1 := BM.out.cell 1
                  have f2 := BM.out.frozen 0
                  have f3 := BM.out.frozen 1
                  have BJ := kept bj
                  clear bj
                  have d0 := BJ.out.cell 0
                  have d1 := BJ.out.cell 1
                  have d2 := BJ.out.frozen 0
                  have d3 := BJ.out.frozen 1
                  refine wpAnyH_done (by kernel_rfl) ?_ _
                  go_wp2
                  go_meet
                  exact ⟨_, _, rfl, rfl, s6_of S5W.out BM.out BJ.out⟩
                exact AllReadyH.nil
              exact AllReadyH.nil
            exact AllReadyH.nil
          refine AllReadyH.cons (o := { dst := some 11, op := Op.alloc 86, type := 0, pos := "law.go:50", after := #[], guard := none }) rfl (fun K hK => ?_) ?_
          · clear hHeld
            go_simp
            have s5 := S5W.out.next ((Keeps.refl X20 []).alloc (.cells #[.int .i64 0, .int .i64 0] 86))
            have bm := s5new (X := X20)
            have bj := BJ.out.keep ((Keeps.refl X20 []).alloc (.cells #[.int .i64 0, .int .i64 0] 86)) (by simp)
            have hne := s5ne BJ.out
            have hge := s5ge S5W.out
            try clear f0 f1 f2 f3
            try clear d0 d1 d2 d3
            clear c0 c1 c2 c3 S5W
            clear BJ
            generalize X20.alloc (.cells #[.int .i64 0, .int .i64 0] 86) = X25 at *
            generalize X20.heap.size = gm at *
            have HGM := kept hge
            clear hge
            have HNJ := kept hne
            have HNM := kept (Ne.symm hne)
            clear hne
            obtain ⟨c0, c1, c2, c3⟩ := s5.cells
            refine hK.out _ _ ?hS (fun hHeld => ?_)
            case hS => exact ⟨c0, c1, c2, c3⟩
            clear hK K
            try simp only [Act.put, List.setIfInBounds_toArray, List.set_cons_zero, List.set_cons_succ]
            have S5W := kept s5
            clear s5
            have BM := kept bm
            clear bm
            have f0 := BM.out.cell 0
            have f1 := BM.out.cell 1
            have f2 := BM.out.frozen 0
            have f3 := BM.out.frozen 1
            have BJ := kept bj
            clear bj
            have d0 := BJ.out.cell 0
            have d1 := BJ.out.cell 1
            have d2 := BJ.out.frozen 0
            have d3 := BJ.out.frozen 1
            refine wpAnyH_ready (rs := [5]) (by kernel_rfl) (by simp) ?_
            refine AllReadyH.cons (o := { dst := some 53, op := Op.call { callee := Callee.value (Operand.func 63), args := #[Operand.tmp 51, Operand.tmp 52], argTypes := #[86, 86] }, type := 86, pos := "law.go:50", after := #[{ on := 3, ground := Ground.data }, { on := 4, ground := Ground.data }, { on := 2, ground := Ground.chain }], guard := none }) rfl (fun K hK => ?_) ?_
            · clear hHeld
              go_simp
              (with_reducible refine (CJ.out _).mono ?_)
              rintro e X26 ⟨rfl, k⟩
              show K _ _
              have s5 := S5W.out.next k
              have bm := BM.out.keep k (by simp)
              have bj := BJ.out.keep k (by simp)
              clear k
              try clear f0 f1 f2 f3
              try clear d0 d1 d2 d3
              clear c0 c1 c2 c3 S5W
              clear BM
              clear BJ
              obtain ⟨c0, c1, c2, c3⟩ := s5.cells
              refine hK.out _ _ ?hS (fun hHeld => ?_)
              case hS => exact ⟨c0, c1, c2, c3⟩
              clear hK K
              try simp only [Act.put, List.setIfInBounds_toArray, List.set_cons_zero, List.set_cons_succ]
              have S5W := kept s5
              clear s5
              have BM := kept bm
              clear bm
              have f0 := BM.out.cell 0
              have f1 := BM.out.cell 1
              have f2 := BM.out.frozen 0
              have f3 := BM.out.frozen 1
              have BJ := kept bj
              clear bj
              have d0 := BJ.out.cell 0
              have d1 := BJ.out.cell 1
              have d2 := BJ.out.frozen 0
              have d3 := BJ.out.frozen 1
              refine wpAnyH_ready (rs := [8]) (by kernel_rfl) (by simp) ?_
              refine AllReadyH.cons (o := { dst := none, op := Op.store 86 (Operand.tmp 11) (Operand.tmp 50), type := 0, pos := "law.go:50", after := #[{ on := 6, ground := Ground.data }, { on := 2, ground := Ground.data }, { on := 5, ground := Ground.chain }, { on := 0, ground := Ground.phase }, { on := 1, ground := Ground.phase }, { on := 2, ground := Ground.phase }, { on := 3, ground := Ground.textOnly Departure.lateStores }, { on := 4, ground := Ground.textOnly Departure.lateStores }, { on := 5, ground := Ground.textOnly Departure.lateStoresUnsure }, { on := 6, ground := Ground.phase }, { on := 7, ground := Ground.phase }], guard := none }) rfl (fun K hK => ?_) ?_
              · clear hHeld
                go_simp
                obtain ⟨s5, bm⟩ := S5W.out.store BM.out HGM.out ml mh
                have bj := BJ.out.store (HNJ.out) ml mh
                try clear f0 f1 f2 f3
                try clear d0 d1 d2 d3
                clear c0 c1 c2 c3 S5W
                clear BM
                clear BJ
                generalize (X26.setCell ⟨gm, 0, none⟩ (.int .i64 ml)).setCell ⟨gm, 1, none⟩ (.int .i64 mh) = X27 at *
                obtain ⟨c0, c1, c2, c3⟩ := s5.cells
                refine hK.out _ _ ?hS (fun hHeld => ?_)
                case hS => exact ⟨c0, c1, c2, c3⟩
                clear hK K
                try simp only [Act.put, List.setIfInBounds_toArray, List.set_cons_zero, List.set_cons_succ]
                have S5W := kept s5
                clear s5
                have BM := kept bm
                clear bm
                have f0 := BM.out.cell 0
                have f1 := BM.out.cell 1
                have f2 := BM.out.frozen 0
                have f3 := BM.out.frozen 1
                have BJ := kept bj
                clear bj
                have d0 := BJ.out.cell 0
                have d1 := BJ.out.cell 1
                have d2 := BJ.out.frozen 0
                have d3 := BJ.out.frozen 1
                refine wpAnyH_ready (rs := [9]) (by kernel_rfl) (by simp) ?_
                refine AllReadyH.cons (o := { dst := none, op := Op.store 86 (Operand.tmp 12) (Operand.tmp 53), type := 0, pos := "law.go:50", after := #[{ on := 7, ground := Ground.data }, { on := 5, ground := Ground.data }, { on := 8, ground := Ground.chain }, { on := 0, ground := Ground.phase }, { on := 1, ground := Ground.phase }, { on := 2, ground := Ground.phase }, { on := 3, ground := Ground.phase }, { on := 4, ground := Ground.phase }, { on := 5, ground := Ground.phase }, { on := 6, ground := Ground.phase }, { on := 7, ground := Ground.phase }, { on := 8, ground := Ground.phase }], guard := none }) rfl (fun K hK => ?_) ?_
                · clear hHeld
                  go_simp
                  obtain ⟨s5, bj⟩ := S5W.out.store BJ.out HGJ.out jl jh
                  have bm := BM.out.store (HNM.out) jl jh
                  try clear f0 f1 f2 f3
                  try clear d0 d1 d2 d3
                  clear c0 c1 c2 c3 S5W
                  clear BM
                  clear BJ
                  generalize (X27.setCell ⟨gj, 0, none⟩ (.int .i64 jl)).setCell ⟨gj, 1, none⟩ (.int .i64 jh) = X28 at *
                  obtain ⟨c0, c1, c2, c3⟩ := s5.cells
                  refine hK.out _ _ ?hS (fun hHeld => ?_)
                  case hS => exact ⟨c0, c1, c2, c3⟩
                  clear hK K
                  try simp only [Act.put, List.setIfInBounds_toArray, List.set_cons_zero, List.set_cons_succ]
                  have S5W := kept s5
                  clear s5
                  have BM := kept bm
                  clear bm
                  have f0 := BM.out.cell 0
                  have f1 := BM.out.cell 1
                  have f2 := BM.out.frozen 0
                  have f3 := BM.out.frozen 1
                  have BJ := kept bj
                  clear bj
                  have d0 := BJ.out.cell 0
                  have d1 := BJ.out.cell 1
                  have d2 := BJ.out.frozen 0
                  have d3 := BJ.out.frozen 1
                  refine wpAnyH_done (by kernel_rfl) ?_ _
                  go_wp2
                  go_meet
                  exact ⟨_, _, rfl, rfl, s6_of S5W.out BM.out BJ.out⟩
                exact AllReadyH.nil
              exact AllReadyH.nil
            exact AllReadyH.nil
          exact AllReadyH.nil
        exact AllReadyH.nil
      refine AllReadyH.cons (o := { dst := some 11, op := Op.alloc 86, type := 0, pos := "law.go:50", after := #[], guard := none }) rfl (fun K hK => ?_) ?_
      · clear hHeld
        go_simp
        have s5 := S5W.out.next ((Keeps.refl X0 []).alloc (.cells #[.int .i64 0, .int .i64 0] 86))
        have bm := s5new (X := X0)
        have hge := s5ge S5W.out
        try clear f0 f1 f2 f3
        try clear d0 d1 d2 d3
        clear c0 c1 c2 c3 S5W
        generalize X0.alloc (.cells #[.int .i64 0, .int .i64 0] 86) = X29 at *
        generalize X0.heap.size = gm at *
        have HGM := kept hge
        clear hge
        obtain ⟨c0, c1, c2, c3⟩ := s5.cells
        refine hK.out _ _ ?hS (fun hHeld => ?_)
        case hS => exact ⟨c0, c1, c2, c3⟩
        clear hK K
        try simp only [Act.put, List.setIfInBounds_toArray, List.set_cons_zero, List.set_cons_succ]
        have S5W := kept s5
        clear s5
        have BM := kept bm
        clear bm
        have f0 := BM.out.cell 0
        have f1 := BM.out.cell 1
        have f2 := BM.out.frozen 0
        have f3 := BM.out.frozen 1
        refine wpAnyH_ready (rs := [2, 7]) (by kernel_rfl) (by simp) ?_
        refine AllReadyH.cons (o := { dst := some 50, op := Op.call { callee := Callee.value (Operand.func 62), args := #[Operand.tmp 48, Operand.tmp 49], argTypes := #[86, 86] }, type := 86, pos := "law.go:50", after := #[{ on := 0, ground := Ground.data }, { on := 1, ground := Ground.data }], guard := none }) rfl (fun K hK => ?_) ?_
        · clear hHeld
          go_simp
          (with_reducible refine (CM.out _).mono ?_)
          rintro e X30 ⟨rfl, k⟩
          show K _ _
          have s5 := S5W.out.next k
          have bm := BM.out.keep k (by simp)
          clear k
          try clear f0 f1 f2 f3
          try clear d0 d1 d2 d3
          clear c0 c1 c2 c3 S5W
          clear BM
          obtain ⟨c0, c1, c2, c3⟩ := s5.cells
          refine hK.out _ _ ?hS (fun hHeld => ?_)
          case hS => exact ⟨c0, c1, c2, c3⟩
          clear hK K
          try simp only [Act.put, List.setIfInBounds_toArray, List.set_cons_zero, List.set_cons_succ]
          have S5W := kept s5
          clear s5
          have BM := kept bm
          clear bm
          have f0 := BM.out.cell 0
          have f1 := BM.out.cell 1
          have f2 := BM.out.frozen 0
          have f3 := BM.out.frozen 1
          refine wpAnyH_ready (rs := [5, 7]) (by kernel_rfl) (by simp) ?_
          refine AllReadyH.cons (o := { dst := some 53, op := Op.call { callee := Callee.value (Operand.func 63), args := #[Operand.tmp 51, Operand.tmp 52], argTypes := #[86, 86] }, type := 86, pos := "law.go:50", after := #[{ on := 3, ground := Ground.data }, { on := 4, ground := Ground.data }, { on := 2, ground := Ground.chain }], guard := none }) rfl (fun K hK => ?_) ?_
          · clear hHeld
            go_simp
            (with_reducible refine (CJ.out _).mono ?_)
            rintro e X31 ⟨rfl, k⟩
            show K _ _
            have s5 := S5W.out.next k
            have bm := BM.out.keep k (by simp)
            clear k
            try clear f0 f1 f2 f3
            try clear d0 d1 d2 d3
            clear c0 c1 c2 c3 S5W
            clear BM
            obtain ⟨c0, c1, c2, c3⟩ := s5.cells
            refine hK.out _ _ ?hS (fun hHeld => ?_)
            case hS => exact ⟨c0, c1, c2, c3⟩
            clear hK K
            try simp only [Act.put, List.setIfInBounds_toArray, List.set_cons_zero, List.set_cons_succ]
            have S5W := kept s5
            clear s5
            have BM := kept bm
            clear bm
            have f0 := BM.out.cell 0
            have f1 := BM.out.cell 1
            have f2 := BM.out.frozen 0
            have f3 := BM.out.frozen 1
            refine wpAnyH_ready (rs := [7]) (by kernel_rfl) (by simp) ?_
            refine AllReadyH.cons (o := { dst := some 12, op := Op.alloc 86, type := 0, pos := "law.go:50", after := #[], guard := none }) rfl (fun K hK => ?_) ?_
            · clear hHeld
              go_simp
              have s5 := S5W.out.next ((Keeps.refl X31 []).alloc (.cells #[.int .i64 0, .int .i64 0] 86))
              have bj := s5new (X := X31)
              have bm := BM.out.keep ((Keeps.refl X31 []).alloc (.cells #[.int .i64 0, .int .i64 0] 86)) (by simp)
              have hne := s5ne BM.out
              have hge := s5ge S5W.out
              try clear f0 f1 f2 f3
              try clear d0 d1 d2 d3
              clear c0 c1 c2 c3 S5W
              clear BM
              generalize X31.alloc (.cells #[.int .i64 0, .int .i64 0] 86) = X32 at *
              generalize X31.heap.size = gj at *
              have HGJ := kept hge
              clear hge
              have HNM := kept hne
              have HNJ := kept (Ne.symm hne)
              clear hne
              obtain ⟨c0, c1, c2, c3⟩ := s5.cells
              refine hK.out _ _ ?hS (fun hHeld => ?_)
              case hS => exact ⟨c0, c1, c2, c3⟩
              clear hK K
              try simp only [Act.put, List.setIfInBounds_toArray, List.set_cons_zero, List.set_cons_succ]
              have S5W := kept s5
              clear s5
              have BM := kept bm
              clear bm
              have f0 := BM.out.cell 0
              have f1 := BM.out.cell 1
              have f2 := BM.out.frozen 0
              have f3 := BM.out.frozen 1
              have BJ := kept bj
              clear bj
              have d0 := BJ.out.cell 0
              have d1 := BJ.out.cell 1
              have d2 := BJ.out.frozen 0
              have d3 := BJ.out.frozen 1
              refine wpAnyH_ready (rs := [8]) (by kernel_rfl) (by simp) ?_
              refine AllReadyH.cons (o := { dst := none, op := Op.store 86 (Operand.tmp 11) (Operand.tmp 50), type := 0, pos := "law.go:50", after := #[{ on := 6, ground := Ground.data }, { on := 2, ground := Ground.data }, { on := 5, ground := Ground.chain }, { on := 0, ground := Ground.phase }, { on := 1, ground := Ground.phase }, { on := 2, ground := Ground.phase }, { on := 3, ground := Ground.textOnly Departure.lateStores }, { on := 4, ground := Ground.textOnly Departure.lateStores }, { on := 5, ground := Ground.textOnly Departure.lateStoresUnsure }, { on := 6, ground := Ground.phase }, { on := 7, ground := Ground.phase }], guard := none }) rfl (fun K hK => ?_) ?_
              · clear hHeld
                go_simp
                obtain ⟨s5, bm⟩ := S5W.out.store BM.out HGM.out ml mh
                have bj := BJ.out.store (HNJ.out) ml mh
                try clear f0 f1 f2 f3
                try clear d0 d1 d2 d3
                clear c0 c1 c2 c3 S5W
                clear BM
                clear BJ
                generalize (X32.setCell ⟨gm, 0, none⟩ (.int .i64 ml)).setCell ⟨gm, 1, none⟩ (.int .i64 mh) = X33 at *
                obtain ⟨c0, c1, c2, c3⟩ := s5.cells
                refine hK.out _ _ ?hS (fun hHeld => ?_)
                case hS => exact ⟨c0, c1, c2, c3⟩
                clear hK K
                try simp only [Act.put, List.setIfInBounds_toArray, List.set_cons_zero, List.set_cons_succ]
                have S5W := kept s5
                clear s5
                have BM := kept bm
                clear bm
                have f0 := BM.out.cell 0
                have f1 := BM.out.cell 1
                have f2 := BM.out.frozen 0
                have f3 := BM.out.frozen 1
                have BJ := kept bj
                clear bj
                have d0 := BJ.out.cell 0
                have d1 := BJ.out.cell 1
                have d2 := BJ.out.frozen 0
                have d3 := BJ.out.frozen 1
                refine wpAnyH_ready (rs := [9]) (by kernel_rfl) (by simp) ?_
                refine AllReadyH.cons (o := { dst := none, op := Op.store 86 (Operand.tmp 12) (Operand.tmp 53), type := 0, pos := "law.go:50", after := #[{ on := 7, ground := Ground.data }, { on := 5, ground := Ground.data }, { on := 8, ground := Ground.chain }, { on := 0, ground := Ground.phase }, { on := 1, ground := Ground.phase }, { on := 2, ground := Ground.phase }, { on := 3, ground := Ground.phase }, { on := 4, ground := Ground.phase }, { on := 5, ground := Ground.phase }, { on := 6, ground := Ground.phase }, { on := 7, ground := Ground.phase }, { on := 8, ground := Ground.phase }], guard := none }) rfl (fun K hK => ?_) ?_
                · clear hHeld
                  go_simp
                  obtain ⟨s5, bj⟩ := S5W.out.store BJ.out HGJ.out jl jh
                  have bm := BM.out.store (HNM.out) jl jh
                  try clear f0 f1 f2 f3
                  try clear d0 d1 d2 d3
                  clear c0 c1 c2 c3 S5W
                  clear BM
                  clear BJ
                  generalize (X33.setCell ⟨gj, 0, none⟩ (.int .i64 jl)).setCell ⟨gj, 1, none⟩ (.int .i64 jh) = X34 at *
                  obtain ⟨c0, c1, c2, c3⟩ := s5.cells
                  refine hK.out _ _ ?hS (fun hHeld => ?_)
                  case hS => exact ⟨c0, c1, c2, c3⟩
                  clear hK K
                  try simp only [Act.put, List.setIfInBounds_toArray, List.set_cons_zero, List.set_cons_succ]
                  have S5W := kept s5
                  clear s5
                  have BM := kept bm
                  clear bm
                  have f0 := BM.out.cell 0
                  have f1 := BM.out.cell 1
                  have f2 := BM.out.frozen 0
                  have f3 := BM.out.frozen 1
                  have BJ := kept bj
                  clear bj
                  have d0 := BJ.out.cell 0
                  have d1 := BJ.out.cell 1
                  have d2 := BJ.out.frozen 0
                  have d3 := BJ.out.frozen 1
                  refine wpAnyH_done (by kernel_rfl) ?_ _
                  go_wp2
                  go_meet
                  exact ⟨_, _, rfl, rfl, s6_of S5W.out BM.out BJ.out⟩
                exact AllReadyH.nil
              exact AllReadyH.nil
            exact AllReadyH.nil
          refine AllReadyH.cons (o := { dst := some 12, op := Op.alloc 86, type := 0, pos := "law.go:50", after := #[], guard := none }) rfl (fun K hK => ?_) ?_
          · clear hHeld
            go_simp
            have s5 := S5W.out.next ((Keeps.refl X30 []).alloc (.cells #[.int .i64 0, .int .i64 0] 86))
            have bj := s5new (X := X30)
            have bm := BM.out.keep ((Keeps.refl X30 []).alloc (.cells #[.int .i64 0, .int .i64 0] 86)) (by simp)
            have hne := s5ne BM.out
            have hge := s5ge S5W.out
            try clear f0 f1 f2 f3
            try clear d0 d1 d2 d3
            clear c0 c1 c2 c3 S5W
            clear BM
            generalize X30.alloc (.cells #[.int .i64 0, .int .i64 0] 86) = X35 at *
            generalize X30.heap.size = gj at *
            have HGJ := kept hge
            clear hge
            have HNM := kept hne
            have HNJ := kept (Ne.symm hne)
            clear hne
            obtain ⟨c0, c1, c2, c3⟩ := s5.cells
            refine hK.out _ _ ?hS (fun hHeld => ?_)
            case hS => exact ⟨c0, c1, c2, c3⟩
            clear hK K
            try simp only [Act.put, List.setIfInBounds_toArray, List.set_cons_zero, List.set_cons_succ]
            have S5W := kept s5
            clear s5
            have BM := kept bm
            clear bm
            have f0 := BM.out.cell 0
            have f1 := BM.out.cell 1
            have f2 := BM.out.frozen 0
            have f3 := BM.out.frozen 1
            have BJ := kept bj
            clear bj
            have d0 := BJ.out.cell 0
            have d1 := BJ.out.cell 1
            have d2 := BJ.out.frozen 0
            have d3 := BJ.out.frozen 1
            refine wpAnyH_ready (rs := [5]) (by kernel_rfl) (by simp) ?_
            refine AllReadyH.cons (o := { dst := some 53, op := Op.call { callee := Callee.value (Operand.func 63), args := #[Operand.tmp 51, Operand.tmp 52], argTypes := #[86, 86] }, type := 86, pos := "law.go:50", after := #[{ on := 3, ground := Ground.data }, { on := 4, ground := Ground.data }, { on := 2, ground := Ground.chain }], guard := none }) rfl (fun K hK => ?_) ?_
            · clear hHeld
              go_simp
              (with_reducible refine (CJ.out _).mono ?_)
              rintro e X36 ⟨rfl, k⟩
              show K _ _
              have s5 := S5W.out.next k
              have bm := BM.out.keep k (by simp)
              have bj := BJ.out.keep k (by simp)
              clear k
              try clear f0 f1 f2 f3
              try clear d0 d1 d2 d3
              clear c0 c1 c2 c3 S5W
              clear BM
              clear BJ
              obtain ⟨c0, c1, c2, c3⟩ := s5.cells
              refine hK.out _ _ ?hS (fun hHeld => ?_)
              case hS => exact ⟨c0, c1, c2, c3⟩
              clear hK K
              try simp only [Act.put, List.setIfInBounds_toArray, List.set_cons_zero, List.set_cons_succ]
              have S5W := kept s5
              clear s5
              have BM := kept bm
              clear bm
              have f0 := BM.out.cell 0
              have f1 := BM.out.cell 1
              have f2 := BM.out.frozen 0
              have f3 := BM.out.frozen 1
              have BJ := kept bj
              clear bj
              have d0 := BJ.out.cell 0
              have d1 := BJ.out.cell 1
              have d2 := BJ.out.frozen 0
              have d3 := BJ.out.frozen 1
              refine wpAnyH_ready (rs := [8]) (by kernel_rfl) (by simp) ?_
              refine AllReadyH.cons (o := { dst := none, op := Op.store 86 (Operand.tmp 11) (Operand.tmp 50), type := 0, pos := "law.go:50", after := #[{ on := 6, ground := Ground.data }, { on := 2, ground := Ground.data }, { on := 5, ground := Ground.chain }, { on := 0, ground := Ground.phase }, { on := 1, ground := Ground.phase }, { on := 2, ground := Ground.phase }, { on := 3, ground := Ground.textOnly Departure.lateStores }, { on := 4, ground := Ground.textOnly Departure.lateStores }, { on := 5, ground := Ground.textOnly Departure.lateStoresUnsure }, { on := 6, ground := Ground.phase }, { on := 7, ground := Ground.phase }], guard := none }) rfl (fun K hK => ?_) ?_
              · clear hHeld
                go_simp
                obtain ⟨s5, bm⟩ := S5W.out.store BM.out HGM.out ml mh
                have bj := BJ.out.store (HNJ.out) ml mh
                try clear f0 f1 f2 f3
                try clear d0 d1 d2 d3
                clear c0 c1 c2 c3 S5W
                clear BM
                clear BJ
                generalize (X36.setCell ⟨gm, 0, none⟩ (.int .i64 ml)).setCell ⟨gm, 1, none⟩ (.int .i64 mh) = X37 at *
                obtain ⟨c0, c1, c2, c3⟩ := s5.cells
                refine hK.out _ _ ?hS (fun hHeld => ?_)
                case hS => exact ⟨c0, c1, c2, c3⟩
                clear hK K
                try simp only [Act.put, List.setIfInBounds_toArray, List.set_cons_zero, List.set_cons_succ]
                have S5W := kept s5
                clear s5
                have BM := kept bm
                clear bm
                have f0 := BM.out.cell 0
                have f1 := BM.out.cell 1
                have f2 := BM.out.frozen 0
                have f3 := BM.out.frozen 1
                have BJ := kept bj
                clear bj
                have d0 := BJ.out.cell 0
                have d1 := BJ.out.cell 1
                have d2 := BJ.out.frozen 0
                have d3 := BJ.out.frozen 1
                refine wpAnyH_ready (rs := [9]) (by kernel_rfl) (by simp) ?_
                refine AllReadyH.cons (o := { dst := none, op := Op.store 86 (Operand.tmp 12) (Operand.tmp 53), type := 0, pos := "law.go:50", after := #[{ on := 7, ground := Ground.data }, { on := 5, ground := Ground.data }, { on := 8, ground := Ground.chain }, { on := 0, ground := Ground.phase }, { on := 1, ground := Ground.phase }, { on := 2, ground := Ground.phase }, { on := 3, ground := Ground.phase }, { on := 4, ground := Ground.phase }, { on := 5, ground := Ground.phase }, { on := 6, ground := Ground.phase }, { on := 7, ground := Ground.phase }, { on := 8, ground := Ground.phase }], guard := none }) rfl (fun K hK => ?_) ?_
                · clear hHeld
                  go_simp
                  obtain ⟨s5, bj⟩ := S5W.out.store BJ.out HGJ.out jl jh
                  have bm := BM.out.store (HNM.out) jl jh
                  try clear f0 f1 f2 f3
                  try clear d0 d1 d2 d3
                  clear c0 c1 c2 c3 S5W
                  clear BM
                  clear BJ
                  generalize (X37.setCell ⟨gj, 0, none⟩ (.int .i64 jl)).setCell ⟨gj, 1, none⟩ (.int .i64 jh) = X38 at *
                  obtain ⟨c0, c1, c2, c3⟩ := s5.cells
                  refine hK.out _ _ ?hS (fun hHeld => ?_)
                  case hS => exact ⟨c0, c1, c2, c3⟩
                  clear hK K
                  try simp only [Act.put, List.setIfInBounds_toArray, List.set_cons_zero, List.set_cons_succ]
                  have S5W := kept s5
                  clear s5
                  have BM := kept bm
                  clear bm
                  have f0 := BM.out.cell 0
                  have f1 := BM.out.cell 1
                  have f2 := BM.out.frozen 0
                  have f3 := BM.out.frozen 1
                  have BJ := kept bj
                  clear bj
                  have d0 := BJ.out.cell 0
                  have d1 := BJ.out.cell 1
                  have d2 := BJ.out.frozen 0
                  have d3 := BJ.out.frozen 1
                  refine wpAnyH_done (by kernel_rfl) ?_ _
                  go_wp2
                  go_meet
                  exact ⟨_, _, rfl, rfl, s6_of S5W.out BM.out BJ.out⟩
                exact AllReadyH.nil
              exact AllReadyH.nil
            exact AllReadyH.nil
          exact AllReadyH.nil
        refine AllReadyH.cons (o := { dst := some 12, op := Op.alloc 86, type := 0, pos := "law.go:50", after := #[], guard := none }) rfl (fun K hK => ?_) ?_
        · clear hHeld
          go_simp
          have s5 := S5W.out.next ((Keeps.refl X29 []).alloc (.cells #[.int .i64 0, .int .i64 0] 86))
          have bj := s5new (X := X29)
          have bm := BM.out.keep ((Keeps.refl X29 []).alloc (.cells #[.int .i64 0, .int .i64 0] 86)) (by simp)
          have hne := s5ne BM.out
          have hge := s5ge S5W.out
          try clear f0 f1 f2 f3
          try clear d0 d1 d2 d3
          clear c0 c1 c2 c3 S5W
          clear BM
          generalize X29.alloc (.cells #[.int .i64 0, .int .i64 0] 86) = X39 at *
          generalize X29.heap.size = gj at *
          have HGJ := kept hge
          clear hge
          have HNM := kept hne
          have HNJ := kept (Ne.symm hne)
          clear hne
          obtain ⟨c0, c1, c2, c3⟩ := s5.cells
          refine hK.out _ _ ?hS (fun hHeld => ?_)
          case hS => exact ⟨c0, c1, c2, c3⟩
          clear hK K
          try simp only [Act.put, List.setIfInBounds_toArray, List.set_cons_zero, List.set_cons_succ]
          have S5W := kept s5
          clear s5
          have BM := kept bm
          clear bm
          have f0 := BM.out.cell 0
          have f1 := BM.out.cell 1
          have f2 := BM.out.frozen 0
          have f3 := BM.out.frozen 1
          have BJ := kept bj
          clear bj
          have d0 := BJ.out.cell 0
          have d1 := BJ.out.cell 1
          have d2 := BJ.out.frozen 0
          have d3 := BJ.out.frozen 1
          refine wpAnyH_ready (rs := [2]) (by kernel_rfl) (by simp) ?_
          refine AllReadyH.cons (o := { dst := some 50, op := Op.call { callee := Callee.value (Operand.func 62), args := #[Operand.tmp 48, Operand.tmp 49], argTypes := #[86, 86] }, type := 86, pos := "law.go:50", after := #[{ on := 0, ground := Ground.data }, { on := 1, ground := Ground.data }], guard := none }) rfl (fun K hK => ?_) ?_
          · clear hHeld
            go_simp
            (with_reducible refine (CM.out _).mono ?_)
            rintro e X40 ⟨rfl, k⟩
            show K _ _
            have s5 := S5W.out.next k
            have bm := BM.out.keep k (by simp)
            have bj := BJ.out.keep k (by simp)
            clear k
            try clear f0 f1 f2 f3
            try clear d0 d1 d2 d3
            clear c0 c1 c2 c3 S5W
            clear BM
            clear BJ
            obtain ⟨c0, c1, c2, c3⟩ := s5.cells
            refine hK.out _ _ ?hS (fun hHeld => ?_)
            case hS => exact ⟨c0, c1, c2, c3⟩
            clear hK K
            try simp only [Act.put, List.setIfInBounds_toArray, List.set_cons_zero, List.set_cons_succ]
            have S5W := kept s5
            clear s5
            have BM := kept bm
            clear bm
            have f0 := BM.out.cell 0
            have f1 := BM.out.cell 1
            have f2 := BM.out.frozen 0
            have f3 := BM.out.frozen 1
            have BJ := kept bj
            clear bj
            have d0 := BJ.out.cell 0
            have d1 := BJ.out.cell 1
            have d2 := BJ.out.frozen 0
            have d3 := BJ.out.frozen 1
            refine wpAnyH_ready (rs := [5]) (by kernel_rfl) (by simp) ?_
            refine AllReadyH.cons (o := { dst := some 53, op := Op.call { callee := Callee.value (Operand.func 63), args := #[Operand.tmp 51, Operand.tmp 52], argTypes := #[86, 86] }, type := 86, pos := "law.go:50", after := #[{ on := 3, ground := Ground.data }, { on := 4, ground := Ground.data }, { on := 2, ground := Ground.chain }], guard := none }) rfl (fun K hK => ?_) ?_
            · clear hHeld
              go_simp
              (with_reducible refine (CJ.out _).mono ?_)
              rintro e X41 ⟨rfl, k⟩
              show K _ _
              have s5 := S5W.out.next k
              have bm := BM.out.keep k (by simp)
              have bj := BJ.out.keep k (by simp)
              clear k
              try clear f0 f1 f2 f3
              try clear d0 d1 d2 d3
              clear c0 c1 c2 c3 S5W
              clear BM
              clear BJ
              obtain ⟨c0, c1, c2, c3⟩ := s5.cells
              refine hK.out _ _ ?hS (fun hHeld => ?_)
              case hS => exact ⟨c0, c1, c2, c3⟩
              clear hK K
              try simp only [Act.put, List.setIfInBounds_toArray, List.set_cons_zero, List.set_cons_succ]
              have S5W := kept s5
              clear s5
              have BM := kept bm
              clear bm
              have f0 := BM.out.cell 0
              have f1 := BM.out.cell 1
              have f2 := BM.out.frozen 0
              have f3 := BM.out.frozen 1
              have BJ := kept bj
              clear bj
              have d0 := BJ.out.cell 0
              have d1 := BJ.out.cell 1
              have d2 := BJ.out.frozen 0
              have d3 := BJ.out.frozen 1
              refine wpAnyH_ready (rs := [8]) (by kernel_rfl) (by simp) ?_
              refine AllReadyH.cons (o := { dst := none, op := Op.store 86 (Operand.tmp 11) (Operand.tmp 50), type := 0, pos := "law.go:50", after := #[{ on := 6, ground := Ground.data }, { on := 2, ground := Ground.data }, { on := 5, ground := Ground.chain }, { on := 0, ground := Ground.phase }, { on := 1, ground := Ground.phase }, { on := 2, ground := Ground.phase }, { on := 3, ground := Ground.textOnly Departure.lateStores }, { on := 4, ground := Ground.textOnly Departure.lateStores }, { on := 5, ground := Ground.textOnly Departure.lateStoresUnsure }, { on := 6, ground := Ground.phase }, { on := 7, ground := Ground.phase }], guard := none }) rfl (fun K hK => ?_) ?_
              · clear hHeld
                go_simp
                obtain ⟨s5, bm⟩ := S5W.out.store BM.out HGM.out ml mh
                have bj := BJ.out.store (HNJ.out) ml mh
                try clear f0 f1 f2 f3
                try clear d0 d1 d2 d3
                clear c0 c1 c2 c3 S5W
                clear BM
                clear BJ
                generalize (X41.setCell ⟨gm, 0, none⟩ (.int .i64 ml)).setCell ⟨gm, 1, none⟩ (.int .i64 mh) = X42 at *
                obtain ⟨c0, c1, c2, c3⟩ := s5.cells
                refine hK.out _ _ ?hS (fun hHeld => ?_)
                case hS => exact ⟨c0, c1, c2, c3⟩
                clear hK K
                try simp only [Act.put, List.setIfInBounds_toArray, List.set_cons_zero, List.set_cons_succ]
                have S5W := kept s5
                clear s5
                have BM := kept bm
                clear bm
                have f0 := BM.out.cell 0
                have f1 := BM.out.cell 1
                have f2 := BM.out.frozen 0
                have f3 := BM.out.frozen 1
                have BJ := kept bj
                clear bj
                have d0 := BJ.out.cell 0
                have d1 := BJ.out.cell 1
                have d2 := BJ.out.frozen 0
                have d3 := BJ.out.frozen 1
                refine wpAnyH_ready (rs := [9]) (by kernel_rfl) (by simp) ?_
                refine AllReadyH.cons (o := { dst := none, op := Op.store 86 (Operand.tmp 12) (Operand.tmp 53), type := 0, pos := "law.go:50", after := #[{ on := 7, ground := Ground.data }, { on := 5, ground := Ground.data }, { on := 8, ground := Ground.chain }, { on := 0, ground := Ground.phase }, { on := 1, ground := Ground.phase }, { on := 2, ground := Ground.phase }, { on := 3, ground := Ground.phase }, { on := 4, ground := Ground.phase }, { on := 5, ground := Ground.phase }, { on := 6, ground := Ground.phase }, { on := 7, ground := Ground.phase }, { on := 8, ground := Ground.phase }], guard := none }) rfl (fun K hK => ?_) ?_
                · clear hHeld
                  go_simp
                  obtain ⟨s5, bj⟩ := S5W.out.store BJ.out HGJ.out jl jh
                  have bm := BM.out.store (HNM.out) jl jh
                  try clear f0 f1 f2 f3
                  try clear d0 d1 d2 d3
                  clear c0 c1 c2 c3 S5W
                  clear BM
                  clear BJ
                  generalize (X42.setCell ⟨gj, 0, none⟩ (.int .i64 jl)).setCell ⟨gj, 1, none⟩ (.int .i64 jh) = X43 at *
                  obtain ⟨c0, c1, c2, c3⟩ := s5.cells
                  refine hK.out _ _ ?hS (fun hHeld => ?_)
                  case hS => exact ⟨c0, c1, c2, c3⟩
                  clear hK K
                  try simp only [Act.put, List.setIfInBounds_toArray, List.set_cons_zero, List.set_cons_succ]
                  have S5W := kept s5
                  clear s5
                  have BM := kept bm
                  clear bm
                  have f0 := BM.out.cell 0
                  have f1 := BM.out.cell 1
                  have f2 := BM.out.frozen 0
                  have f3 := BM.out.frozen 1
                  have BJ := kept bj
                  clear bj
                  have d0 := BJ.out.cell 0
                  have d1 := BJ.out.cell 1
                  have d2 := BJ.out.frozen 0
                  have d3 := BJ.out.frozen 1
                  refine wpAnyH_done (by kernel_rfl) ?_ _
                  go_wp2
                  go_meet
                  exact ⟨_, _, rfl, rfl, s6_of S5W.out BM.out BJ.out⟩
                exact AllReadyH.nil
              exact AllReadyH.nil
            exact AllReadyH.nil
          exact AllReadyH.nil
        exact AllReadyH.nil
      refine AllReadyH.cons (o := { dst := some 12, op := Op.alloc 86, type := 0, pos := "law.go:50", after := #[], guard := none }) rfl (fun K hK => ?_) ?_
      · clear hHeld
        go_simp
        have s5 := S5W.out.next ((Keeps.refl X0 []).alloc (.cells #[.int .i64 0, .int .i64 0] 86))
        have bj := s5new (X := X0)
        have hge := s5ge S5W.out
        try clear f0 f1 f2 f3
        try clear d0 d1 d2 d3
        clear c0 c1 c2 c3 S5W
        generalize X0.alloc (.cells #[.int .i64 0, .int .i64 0] 86) = X44 at *
        generalize X0.heap.size = gj at *
        have HGJ := kept hge
        clear hge
        obtain ⟨c0, c1, c2, c3⟩ := s5.cells
        refine hK.out _ _ ?hS (fun hHeld => ?_)
        case hS => exact ⟨c0, c1, c2, c3⟩
        clear hK K
        try simp only [Act.put, List.setIfInBounds_toArray, List.set_cons_zero, List.set_cons_succ]
        have S5W := kept s5
        clear s5
        have BJ := kept bj
        clear bj
        have d0 := BJ.out.cell 0
        have d1 := BJ.out.cell 1
        have d2 := BJ.out.frozen 0
        have d3 := BJ.out.frozen 1
        refine wpAnyH_ready (rs := [2, 6]) (by kernel_rfl) (by simp) ?_
        refine AllReadyH.cons (o := { dst := some 50, op := Op.call { callee := Callee.value (Operand.func 62), args := #[Operand.tmp 48, Operand.tmp 49], argTypes := #[86, 86] }, type := 86, pos := "law.go:50", after := #[{ on := 0, ground := Ground.data }, { on := 1, ground := Ground.data }], guard := none }) rfl (fun K hK => ?_) ?_
        · clear hHeld
          go_simp
          (with_reducible refine (CM.out _).mono ?_)
          rintro e X45 ⟨rfl, k⟩
          show K _ _
          have s5 := S5W.out.next k
          have bj := BJ.out.keep k (by simp)
          clear k
          try clear f0 f1 f2 f3
          try clear d0 d1 d2 d3
          clear c0 c1 c2 c3 S5W
          clear BJ
          obtain ⟨c0, c1, c2, c3⟩ := s5.cells
          refine hK.out _ _ ?hS (fun hHeld => ?_)
          case hS => exact ⟨c0, c1, c2, c3⟩
          clear hK K
          try simp only [Act.put, List.setIfInBounds_toArray, List.set_cons_zero, List.set_cons_succ]
          have S5W := kept s5
          clear s5
          have BJ := kept bj
          clear bj
          have d0 := BJ.out.cell 0
          have d1 := BJ.out.cell 1
          have d2 := BJ.out.frozen 0
          have d3 := BJ.out.frozen 1
          refine wpAnyH_ready (rs := [5, 6]) (by kernel_rfl) (by simp) ?_
          refine AllReadyH.cons (o := { dst := some 53, op := Op.call { callee := Callee.value (Operand.func 63), args := #[Operand.tmp 51, Operand.tmp 52], argTypes := #[86, 86] }, type := 86, pos := "law.go:50", after := #[{ on := 3, ground := Ground.data }, { on := 4, ground := Ground.data }, { on := 2, ground := Ground.chain }], guard := none }) rfl (fun K hK => ?_) ?_
          · clear hHeld
            go_simp
            (with_reducible refine (CJ.out _).mono ?_)
            rintro e X46 ⟨rfl, k⟩
            show K _ _
            have s5 := S5W.out.next k
            have bj := BJ.out.keep k (by simp)
            clear k
            try clear f0 f1 f2 f3
            try clear d0 d1 d2 d3
            clear c0 c1 c2 c3 S5W
            clear BJ
            obtain ⟨c0, c1, c2, c3⟩ := s5.cells
            refine hK.out _ _ ?hS (fun hHeld => ?_)
            case hS => exact ⟨c0, c1, c2, c3⟩
            clear hK K
            try simp only [Act.put, List.setIfInBounds_toArray, List.set_cons_zero, List.set_cons_succ]
            have S5W := kept s5
            clear s5
            have BJ := kept bj
            clear bj
            have d0 := BJ.out.cell 0
            have d1 := BJ.out.cell 1
            have d2 := BJ.out.frozen 0
            have d3 := BJ.out.frozen 1
            refine wpAnyH_ready (rs := [6]) (by kernel_rfl) (by simp) ?_
            refine AllReadyH.cons (o := { dst := some 11, op := Op.alloc 86, type := 0, pos := "law.go:50", after := #[], guard := none }) rfl (fun K hK => ?_) ?_
            · clear hHeld
              go_simp
              have s5 := S5W.out.next ((Keeps.refl X46 []).alloc (.cells #[.int .i64 0, .int .i64 0] 86))
              have bm := s5new (X := X46)
              have bj := BJ.out.keep ((Keeps.refl X46 []).alloc (.cells #[.int .i64 0, .int .i64 0] 86)) (by simp)
              have hne := s5ne BJ.out
              have hge := s5ge S5W.out
              try clear f0 f1 f2 f3
              try clear d0 d1 d2 d3
              clear c0 c1 c2 c3 S5W
              clear BJ
              generalize X46.alloc (.cells #[.int .i64 0, .int .i64 0] 86) = X47 at *
              generalize X46.heap.size = gm at *
              have HGM := kept hge
              clear hge
              have HNJ := kept hne
              have HNM := kept (Ne.symm hne)
              clear hne
              obtain ⟨c0, c1, c2, c3⟩ := s5.cells
              refine hK.out _ _ ?hS (fun hHeld => ?_)
              case hS => exact ⟨c0, c1, c2, c3⟩
              clear hK K
              try simp only [Act.put, List.setIfInBounds_toArray, List.set_cons_zero, List.set_cons_succ]
              have S5W := kept s5
              clear s5
              have BM := kept bm
              clear bm
              have f0 := BM.out.cell 0
              have f1 := BM.out.cell 1
              have f2 := BM.out.frozen 0
              have f3 := BM.out.frozen 1
              have BJ := kept bj
              clear bj
              have d0 := BJ.out.cell 0
              have d1 := BJ.out.cell 1
              have d2 := BJ.out.frozen 0
              have d3 := BJ.out.frozen 1
              refine wpAnyH_ready (rs := [8]) (by kernel_rfl) (by simp) ?_
              refine AllReadyH.cons (o := { dst := none, op := Op.store 86 (Operand.tmp 11) (Operand.tmp 50), type := 0, pos := "law.go:50", after := #[{ on := 6, ground := Ground.data }, { on := 2, ground := Ground.data }, { on := 5, ground := Ground.chain }, { on := 0, ground := Ground.phase }, { on := 1, ground := Ground.phase }, { on := 2, ground := Ground.phase }, { on := 3, ground := Ground.textOnly Departure.lateStores }, { on := 4, ground := Ground.textOnly Departure.lateStores }, { on := 5, ground := Ground.textOnly Departure.lateStoresUnsure }, { on := 6, ground := Ground.phase }, { on := 7, ground := Ground.phase }], guard := none }) rfl (fun K hK => ?_) ?_
              · clear hHeld
                go_simp
                obtain ⟨s5, bm⟩ := S5W.out.store BM.out HGM.out ml mh
                have bj := BJ.out.store (HNJ.out) ml mh
                try clear f0 f1 f2 f3
                try clear d0 d1 d2 d3
                clear c0 c1 c2 c3 S5W
                clear BM
                clear BJ
                generalize (X47.setCell ⟨gm, 0, none⟩ (.int .i64 ml)).setCell ⟨gm, 1, none⟩ (.int .i64 mh) = X48 at *
                obtain ⟨c0, c1, c2, c3⟩ := s5.cells
                refine hK.out _ _ ?hS (fun hHeld => ?_)
                case hS => exact ⟨c0, c1, c2, c3⟩
                clear hK K
                try simp only [Act.put, List.setIfInBounds_toArray, List.set_cons_zero, List.set_cons_succ]
                have S5W := kept s5
                clear s5
                have BM := kept bm
                clear bm
                have f0 := BM.out.cell 0
                have f1 := BM.out.cell 1
                have f2 := BM.out.frozen 0
                have f3 := BM.out.frozen 1
                have BJ := kept bj
                clear bj
                have d0 := BJ.out.cell 0
                have d1 := BJ.out.cell 1
                have d2 := BJ.out.frozen 0
                have d3 := BJ.out.frozen 1
                refine wpAnyH_ready (rs := [9]) (by kernel_rfl) (by simp) ?_
                refine AllReadyH.cons (o := { dst := none, op := Op.store 86 (Operand.tmp 12) (Operand.tmp 53), type := 0, pos := "law.go:50", after := #[{ on := 7, ground := Ground.data }, { on := 5, ground := Ground.data }, { on := 8, ground := Ground.chain }, { on := 0, ground := Ground.phase }, { on := 1, ground := Ground.phase }, { on := 2, ground := Ground.phase }, { on := 3, ground := Ground.phase }, { on := 4, ground := Ground.phase }, { on := 5, ground := Ground.phase }, { on := 6, ground := Ground.phase }, { on := 7, ground := Ground.phase }, { on := 8, ground := Ground.phase }], guard := none }) rfl (fun K hK => ?_) ?_
                · clear hHeld
                  go_simp
                  obtain ⟨s5, bj⟩ := S5W.out.store BJ.out HGJ.out jl jh
                  have bm := BM.out.store (HNM.out) jl jh
                  try clear f0 f1 f2 f3
                  try clear d0 d1 d2 d3
                  clear c0 c1 c2 c3 S5W
                  clear BM
                  clear BJ
                  generalize (X48.setCell ⟨gj, 0, none⟩ (.int .i64 jl)).setCell ⟨gj, 1, none⟩ (.int .i64 jh) = X49 at *
                  obtain ⟨c0, c1, c2, c3⟩ := s5.cells
                  refine hK.out _ _ ?hS (fun hHeld => ?_)
                  case hS => exact ⟨c0, c1, c2, c3⟩
                  clear hK K
                  try simp only [Act.put, List.setIfInBounds_toArray, List.set_cons_zero, List.set_cons_succ]
                  have S5W := kept s5
                  clear s5
                  have BM := kept bm
                  clear bm
                  have f0 := BM.out.cell 0
                  have f1 := BM.out.cell 1
                  have f2 := BM.out.frozen 0
                  have f3 := BM.out.frozen 1
                  have BJ := kept bj
                  clear bj
                  have d0 := BJ.out.cell 0
                  have d1 := BJ.out.cell 1
                  have d2 := BJ.out.frozen 0
                  have d3 := BJ.out.frozen 1
                  refine wpAnyH_done (by kernel_rfl) ?_ _
                  go_wp2
                  go_meet
                  exact ⟨_, _, rfl, rfl, s6_of S5W.out BM.out BJ.out⟩
                exact AllReadyH.nil
              exact AllReadyH.nil
            exact AllReadyH.nil
          refine AllReadyH.cons (o := { dst := some 11, op := Op.alloc 86, type := 0, pos := "law.go:50", after := #[], guard := none }) rfl (fun K hK => ?_) ?_
          · clear hHeld
            go_simp
            have s5 := S5W.out.next ((Keeps.refl X45 []).alloc (.cells #[.int .i64 0, .int .i64 0] 86))
            have bm := s5new (X := X45)
            have bj := BJ.out.keep ((Keeps.refl X45 []).alloc (.cells #[.int .i64 0, .int .i64 0] 86)) (by simp)
            have hne := s5ne BJ.out
            have hge := s5ge S5W.out
            try clear f0 f1 f2 f3
            try clear d0 d1 d2 d3
            clear c0 c1 c2 c3 S5W
            clear BJ
            generalize X45.alloc (.cells #[.int .i64 0, .int .i64 0] 86) = X50 at *
            generalize X45.heap.size = gm at *
            have HGM := kept hge
            clear hge
            have HNJ := kept hne
            have HNM := kept (Ne.symm hne)
            clear hne
            obtain ⟨c0, c1, c2, c3⟩ := s5.cells
            refine hK.out _ _ ?hS (fun hHeld => ?_)
            case hS => exact ⟨c0, c1, c2, c3⟩
            clear hK K
            try simp only [Act.put, List.setIfInBounds_toArray, List.set_cons_zero, List.set_cons_succ]
            have S5W := kept s5
            clear s5
            have BM := kept bm
            clear bm
            have f0 := BM.out.cell 0
            have f1 := BM.out.cell 1
            have f2 := BM.out.frozen 0
            have f3 := BM.out.frozen 1
            have BJ := kept bj
            clear bj
            have d0 := BJ.out.cell 0
            have d1 := BJ.out.cell 1
            have d2 := BJ.out.frozen 0
            have d3 := BJ.out.frozen 1
            refine wpAnyH_ready (rs := [5]) (by kernel_rfl) (by simp) ?_
            refine AllReadyH.cons (o := { dst := some 53, op := Op.call { callee := Callee.value (Operand.func 63), args := #[Operand.tmp 51, Operand.tmp 52], argTypes := #[86, 86] }, type := 86, pos := "law.go:50", after := #[{ on := 3, ground := Ground.data }, { on := 4, ground := Ground.data }, { on := 2, ground := Ground.chain }], guard := none }) rfl (fun K hK => ?_) ?_
            · clear hHeld
              go_simp
              (with_reducible refine (CJ.out _).mono ?_)
              rintro e X51 ⟨rfl, k⟩
              show K _ _
              have s5 := S5W.out.next k
              have bm := BM.out.keep k (by simp)
              have bj := BJ.out.keep k (by simp)
              clear k
              try clear f0 f1 f2 f3
              try clear d0 d1 d2 d3
              clear c0 c1 c2 c3 S5W
              clear BM
              clear BJ
              obtain ⟨c0, c1, c2, c3⟩ := s5.cells
              refine hK.out _ _ ?hS (fun hHeld => ?_)
              case hS => exact ⟨c0, c1, c2, c3⟩
              clear hK K
              try simp only [Act.put, List.setIfInBounds_toArray, List.set_cons_zero, List.set_cons_succ]
              have S5W := kept s5
              clear s5
              have BM := kept bm
              clear bm
              have f0 := BM.out.cell 0
              have f1 := BM.out.cell 1
              have f2 := BM.out.frozen 0
              have f3 := BM.out.frozen 1
              have BJ := kept bj
              clear bj
              have d0 := BJ.out.cell 0
              have d1 := BJ.out.cell 1
              have d2 := BJ.out.frozen 0
              have d3 := BJ.out.frozen 1
              refine wpAnyH_ready (rs := [8]) (by kernel_rfl) (by simp) ?_
              refine AllReadyH.cons (o := { dst := none, op := Op.store 86 (Operand.tmp 11) (Operand.tmp 50), type := 0, pos := "law.go:50", after := #[{ on := 6, ground := Ground.data }, { on := 2, ground := Ground.data }, { on := 5, ground := Ground.chain }, { on := 0, ground := Ground.phase }, { on := 1, ground := Ground.phase }, { on := 2, ground := Ground.phase }, { on := 3, ground := Ground.textOnly Departure.lateStores }, { on := 4, ground := Ground.textOnly Departure.lateStores }, { on := 5, ground := Ground.textOnly Departure.lateStoresUnsure }, { on := 6, ground := Ground.phase }, { on := 7, ground := Ground.phase }], guard := none }) rfl (fun K hK => ?_) ?_
              · clear hHeld
                go_simp
                obtain ⟨s5, bm⟩ := S5W.out.store BM.out HGM.out ml mh
                have bj := BJ.out.store (HNJ.out) ml mh
                try clear f0 f1 f2 f3
                try clear d0 d1 d2 d3
                clear c0 c1 c2 c3 S5W
                clear BM
                clear BJ
                generalize (X51.setCell ⟨gm, 0, none⟩ (.int .i64 ml)).setCell ⟨gm, 1, none⟩ (.int .i64 mh) = X52 at *
                obtain ⟨c0, c1, c2, c3⟩ := s5.cells
                refine hK.out _ _ ?hS (fun hHeld => ?_)
                case hS => exact ⟨c0, c1, c2, c3⟩
                clear hK K
                try simp only [Act.put, List.setIfInBounds_toArray, List.set_cons_zero, List.set_cons_succ]
                have S5W := kept s5
                clear s5
                have BM := kept bm
                clear bm
                have f0 := BM.out.cell 0
                have f1 := BM.out.cell 1
                have f2 := BM.out.frozen 0
                have f3 := BM.out.frozen 1
                have BJ := kept bj
                clear bj
                have d0 := BJ.out.cell 0
                have d1 := BJ.out.cell 1
                have d2 := BJ.out.frozen 0
                have d3 := BJ.out.frozen 1
                refine wpAnyH_ready (rs := [9]) (by kernel_rfl) (by simp) ?_
                refine AllReadyH.cons (o := { dst := none, op := Op.store 86 (Operand.tmp 12) (Operand.tmp 53), type := 0, pos := "law.go:50", after := #[{ on := 7, ground := Ground.data }, { on := 5, ground := Ground.data }, { on := 8, ground := Ground.chain }, { on := 0, ground := Ground.phase }, { on := 1, ground := Ground.phase }, { on := 2, ground := Ground.phase }, { on := 3, ground := Ground.phase }, { on := 4, ground := Ground.phase }, { on := 5, ground := Ground.phase }, { on := 6, ground := Ground.phase }, { on := 7, ground := Ground.phase }, { on := 8, ground := Ground.phase }], guard := none }) rfl (fun K hK => ?_) ?_
                · clear hHeld
                  go_simp
                  obtain ⟨s5, bj⟩ := S5W.out.store BJ.out HGJ.out jl jh
                  have bm := BM.out.store (HNM.out) jl jh
                  try clear f0 f1 f2 f3
                  try clear d0 d1 d2 d3
                  clear c0 c1 c2 c3 S5W
                  clear BM
                  clear BJ
                  generalize (X52.setCell ⟨gj, 0, none⟩ (.int .i64 jl)).setCell ⟨gj, 1, none⟩ (.int .i64 jh) = X53 at *
                  obtain ⟨c0, c1, c2, c3⟩ := s5.cells
                  refine hK.out _ _ ?hS (fun hHeld => ?_)
                  case hS => exact ⟨c0, c1, c2, c3⟩
                  clear hK K
                  try simp only [Act.put, List.setIfInBounds_toArray, List.set_cons_zero, List.set_cons_succ]
                  have S5W := kept s5
                  clear s5
                  have BM := kept bm
                  clear bm
                  have f0 := BM.out.cell 0
                  have f1 := BM.out.cell 1
                  have f2 := BM.out.frozen 0
                  have f3 := BM.out.frozen 1
                  have BJ := kept bj
                  clear bj
                  have d0 := BJ.out.cell 0
                  have d1 := BJ.out.cell 1
                  have d2 := BJ.out.frozen 0
                  have d3 := BJ.out.frozen 1
                  refine wpAnyH_done (by kernel_rfl) ?_ _
                  go_wp2
                  go_meet
                  exact ⟨_, _, rfl, rfl, s6_of S5W.out BM.out BJ.out⟩
                exact AllReadyH.nil
              exact AllReadyH.nil
            exact AllReadyH.nil
          exact AllReadyH.nil
        refine AllReadyH.cons (o := { dst := some 11, op := Op.alloc 86, type := 0, pos := "law.go:50", after := #[], guard := none }) rfl (fun K hK => ?_) ?_
        · clear hHeld
          go_simp
          have s5 := S5W.out.next ((Keeps.refl X44 []).alloc (.cells #[.int .i64 0, .int .i64 0] 86))
          have bm := s5new (X := X44)
          have bj := BJ.out.keep ((Keeps.refl X44 []).alloc (.cells #[.int .i64 0, .int .i64 0] 86)) (by simp)
          have hne := s5ne BJ.out
          have hge := s5ge S5W.out
          try clear f0 f1 f2 f3
          try clear d0 d1 d2 d3
          clear c0 c1 c2 c3 S5W
          clear BJ
          generalize X44.alloc (.cells #[.int .i64 0, .int .i64 0] 86) = X54 at *
          generalize X44.heap.size = gm at *
          have HGM := kept hge
          clear hge
          have HNJ := kept hne
          have HNM := kept (Ne.symm hne)
          clear hne
          obtain ⟨c0, c1, c2, c3⟩ := s5.cells
          refine hK.out _ _ ?hS (fun hHeld => ?_)
          case hS => exact ⟨c0, c1, c2, c3⟩
          clear hK K
          try simp only [Act.put, List.setIfInBounds_toArray, List.set_cons_zero, List.set_cons_succ]
          have S5W := kept s5
          clear s5
          have BM := kept bm
          clear bm
          have f0 := BM.out.cell 0
          have f1 := BM.out.cell 1
          have f2 := BM.out.frozen 0
          have f3 := BM.out.frozen 1
          have BJ := kept bj
          clear bj
          have d0 := BJ.out.cell 0
          have d1 := BJ.out.cell 1
          have d2 := BJ.out.frozen 0
          have d3 := BJ.out.frozen 1
          refine wpAnyH_ready (rs := [2]) (by kernel_rfl) (by simp) ?_
          refine AllReadyH.cons (o := { dst := some 50, op := Op.call { callee := Callee.value (Operand.func 62), args := #[Operand.tmp 48, Operand.tmp 49], argTypes := #[86, 86] }, type := 86, pos := "law.go:50", after := #[{ on := 0, ground := Ground.data }, { on := 1, ground := Ground.data }], guard := none }) rfl (fun K hK => ?_) ?_
          · clear hHeld
            go_simp
            (with_reducible refine (CM.out _).mono ?_)
            rintro e X55 ⟨rfl, k⟩
            show K _ _
            have s5 := S5W.out.next k
            have bm := BM.out.keep k (by simp)
            have bj := BJ.out.keep k (by simp)
            clear k
            try clear f0 f1 f2 f3
            try clear d0 d1 d2 d3
            clear c0 c1 c2 c3 S5W
            clear BM
            clear BJ
            obtain ⟨c0, c1, c2, c3⟩ := s5.cells
            refine hK.out _ _ ?hS (fun hHeld => ?_)
            case hS => exact ⟨c0, c1, c2, c3⟩
            clear hK K
            try simp only [Act.put, List.setIfInBounds_toArray, List.set_cons_zero, List.set_cons_succ]
            have S5W := kept s5
            clear s5
            have BM := kept bm
            clear bm
            have f0 := BM.out.cell 0
            have f1 := BM.out.cell 1
            have f2 := BM.out.frozen 0
            have f3 := BM.out.frozen 1
            have BJ := kept bj
            clear bj
            have d0 := BJ.out.cell 0
            have d1 := BJ.out.cell 1
            have d2 := BJ.out.frozen 0
            have d3 := BJ.out.frozen 1
            refine wpAnyH_ready (rs := [5]) (by kernel_rfl) (by simp) ?_
            refine AllReadyH.cons (o := { dst := some 53, op := Op.call { callee := Callee.value (Operand.func 63), args := #[Operand.tmp 51, Operand.tmp 52], argTypes := #[86, 86] }, type := 86, pos := "law.go:50", after := #[{ on := 3, ground := Ground.data }, { on := 4, ground := Ground.data }, { on := 2, ground := Ground.chain }], guard := none }) rfl (fun K hK => ?_) ?_
            · clear hHeld
              go_simp
              (with_reducible refine (CJ.out _).mono ?_)
              rintro e X56 ⟨rfl, k⟩
              show K _ _
              have s5 := S5W.out.next k
              have bm := BM.out.keep k (by simp)
              have bj := BJ.out.keep k (by simp)
              clear k
              try clear f0 f1 f2 f3
              try clear d0 d1 d2 d3
              clear c0 c1 c2 c3 S5W
              clear BM
              clear BJ
              obtain ⟨c0, c1, c2, c3⟩ := s5.cells
              refine hK.out _ _ ?hS (fun hHeld => ?_)
              case hS => exact ⟨c0, c1, c2, c3⟩
              clear hK K
              try simp only [Act.put, List.setIfInBounds_toArray, List.set_cons_zero, List.set_cons_succ]
              have S5W := kept s5
              clear s5
              have BM := kept bm
              clear bm
              have f0 := BM.out.cell 0
              have f1 := BM.out.cell 1
              have f2 := BM.out.frozen 0
              have f3 := BM.out.frozen 1
              have BJ := kept bj
              clear bj
              have d0 := BJ.out.cell 0
              have d1 := BJ.out.cell 1
              have d2 := BJ.out.frozen 0
              have d3 := BJ.out.frozen 1
              refine wpAnyH_ready (rs := [8]) (by kernel_rfl) (by simp) ?_
              refine AllReadyH.cons (o := { dst := none, op := Op.store 86 (Operand.tmp 11) (Operand.tmp 50), type := 0, pos := "law.go:50", after := #[{ on := 6, ground := Ground.data }, { on := 2, ground := Ground.data }, { on := 5, ground := Ground.chain }, { on := 0, ground := Ground.phase }, { on := 1, ground := Ground.phase }, { on := 2, ground := Ground.phase }, { on := 3, ground := Ground.textOnly Departure.lateStores }, { on := 4, ground := Ground.textOnly Departure.lateStores }, { on := 5, ground := Ground.textOnly Departure.lateStoresUnsure }, { on := 6, ground := Ground.phase }, { on := 7, ground := Ground.phase }], guard := none }) rfl (fun K hK => ?_) ?_
              · clear hHeld
                go_simp
                obtain ⟨s5, bm⟩ := S5W.out.store BM.out HGM.out ml mh
                have bj := BJ.out.store (HNJ.out) ml mh
                try clear f0 f1 f2 f3
                try clear d0 d1 d2 d3
                clear c0 c1 c2 c3 S5W
                clear BM
                clear BJ
                generalize (X56.setCell ⟨gm, 0, none⟩ (.int .i64 ml)).setCell ⟨gm, 1, none⟩ (.int .i64 mh) = X57 at *
                obtain ⟨c0, c1, c2, c3⟩ := s5.cells
                refine hK.out _ _ ?hS (fun hHeld => ?_)
                case hS => exact ⟨c0, c1, c2, c3⟩
                clear hK K
                try simp only [Act.put, List.setIfInBounds_toArray, List.set_cons_zero, List.set_cons_succ]
                have S5W := kept s5
                clear s5
                have BM := kept bm
                clear bm
                have f0 := BM.out.cell 0
                have f1 := BM.out.cell 1
                have f2 := BM.out.frozen 0
                have f3 := BM.out.frozen 1
                have BJ := kept bj
                clear bj
                have d0 := BJ.out.cell 0
                have d1 := BJ.out.cell 1
                have d2 := BJ.out.frozen 0
                have d3 := BJ.out.frozen 1
                refine wpAnyH_ready (rs := [9]) (by kernel_rfl) (by simp) ?_
                refine AllReadyH.cons (o := { dst := none, op := Op.store 86 (Operand.tmp 12) (Operand.tmp 53), type := 0, pos := "law.go:50", after := #[{ on := 7, ground := Ground.data }, { on := 5, ground := Ground.data }, { on := 8, ground := Ground.chain }, { on := 0, ground := Ground.phase }, { on := 1, ground := Ground.phase }, { on := 2, ground := Ground.phase }, { on := 3, ground := Ground.phase }, { on := 4, ground := Ground.phase }, { on := 5, ground := Ground.phase }, { on := 6, ground := Ground.phase }, { on := 7, ground := Ground.phase }, { on := 8, ground := Ground.phase }], guard := none }) rfl (fun K hK => ?_) ?_
                · clear hHeld
                  go_simp
                  obtain ⟨s5, bj⟩ := S5W.out.store BJ.out HGJ.out jl jh
                  have bm := BM.out.store (HNM.out) jl jh
                  try clear f0 f1 f2 f3
                  try clear d0 d1 d2 d3
                  clear c0 c1 c2 c3 S5W
                  clear BM
                  clear BJ
                  generalize (X57.setCell ⟨gj, 0, none⟩ (.int .i64 jl)).setCell ⟨gj, 1, none⟩ (.int .i64 jh) = X58 at *
                  obtain ⟨c0, c1, c2, c3⟩ := s5.cells
                  refine hK.out _ _ ?hS (fun hHeld => ?_)
                  case hS => exact ⟨c0, c1, c2, c3⟩
                  clear hK K
                  try simp only [Act.put, List.setIfInBounds_toArray, List.set_cons_zero, List.set_cons_succ]
                  have S5W := kept s5
                  clear s5
                  have BM := kept bm
                  clear bm
                  have f0 := BM.out.cell 0
                  have f1 := BM.out.cell 1
                  have f2 := BM.out.frozen 0
                  have f3 := BM.out.frozen 1
                  have BJ := kept bj
                  clear bj
                  have d0 := BJ.out.cell 0
                  have d1 := BJ.out.cell 1
                  have d2 := BJ.out.frozen 0
                  have d3 := BJ.out.frozen 1
                  refine wpAnyH_done (by kernel_rfl) ?_ _
                  go_wp2
                  go_meet
                  exact ⟨_, _, rfl, rfl, s6_of S5W.out BM.out BJ.out⟩
                exact AllReadyH.nil
              exact AllReadyH.nil
            exact AllReadyH.nil
          exact AllReadyH.nil
        exact AllReadyH.nil
      exact AllReadyH.nil
    case rest =>
      obtain ⟨gm, gj, rfl, rfl, hs⟩ := hcut
      clear c0 c1 c2 c3 S5W CM CJ
      have S6W := kept hs
      clear hs
      obtain ⟨c0, c1, c2, c3, c4, c5, c6, c7⟩ := S6W.out.cells
      go_upto_region 6 with (fail)
      go_cut [98] from 54 to 97 (fun t98 wx => t98 = .bool false ∧ S6 w wx al ah bl bh ml mh jl jh gm gj)
      case first =>
        cases Q
        · have HMN := HMQ
          have HJN := kept (HJP.out trivial)
          rcases Bool.eq_false_or_eq_true (decide (mh < ml)) with hM | hM
          · obtain ⟨rfl, rfl⟩ := MN.out (of_decide_eq_true hM)
            refine wp_region_held_drew (S := (fun w' => w'.cell? ⟨w.heap.size, 0, none⟩ = some (.int .i64 al) ∧ w'.cell? ⟨w.heap.size, 1, none⟩ = some (.int .i64 ah) ∧ w'.cell? ⟨gm, 0, none⟩ = some (.int .i64 1) ∧ w'.cell? ⟨gm, 1, none⟩ = some (.int .i64 0) ∧ w'.cell? ⟨gj, 0, none⟩ = some (.int .i64 jl) ∧ w'.cell? ⟨gj, 1, none⟩ = some (.int .i64 jh))) (by kernel_rfl) ?rtfthSs (fun hHeld => ?_)
            case rtfthSs => exact ⟨c0, c1, c4, c5, c6, c7⟩
            refine wpAnyH_take (i := 0) (oi := { dst := some 54, op := Op.load 86 (Operand.tmp 3), type := 86, pos := "law.go:51", after := #[], guard := none }) (v := ?rtftv0) rfl (by kernel_rfl) (by kernel_rfl) (by kernel_rfl) (fun _ _ _ h => h) (Or.inl ⟨by rfl, ?rtfty0⟩) hHeld ?rtftr0
            case rtfty0 => (intro w hSw; (try dsimp only at hSw); go_simp; (try with_reducible rfl))
            try simp only [Act.put, List.setIfInBounds_toArray, List.set_cons_zero, List.set_cons_succ]
            refine wpAnyH_take (i := 1) (oi := { dst := some 55, op := Op.move (Operand.tmp 2), type := 2, pos := "law.go:51", after := #[], guard := none }) (v := ?rtftv1) rfl (by kernel_rfl) (by kernel_rfl) (by kernel_rfl) (fun _ _ _ h => h) (Or.inl ⟨by rfl, ?rtfty1⟩) hHeld ?rtftr1
            case rtfty1 => (intro w hSw; (try dsimp only at hSw); go_simp; (try with_reducible rfl))
            try simp only [Act.put, List.setIfInBounds_toArray, List.set_cons_zero, List.set_cons_succ]
            refine wpAnyH_take (i := 3) (oi := { dst := some 57, op := Op.move (Operand.tmp 7), type := 4, pos := "law.go:51", after := #[], guard := none }) (v := ?rtftv3) rfl (by kernel_rfl) (by kernel_rfl) (by kernel_rfl) (fun _ _ _ h => h) (Or.inl ⟨by rfl, ?rtfty3⟩) hHeld ?rtftr3
            case rtfty3 => (intro w hSw; (try dsimp only at hSw); go_simp; (try with_reducible rfl))
            try simp only [Act.put, List.setIfInBounds_toArray, List.set_cons_zero, List.set_cons_succ]
            refine wpAnyH_ready (rs := [2]) (by kernel_rfl) (by simp) ?_
            refine AllReadyH.cons (o := { dst := some 56, op := Op.call { callee := Callee.value (Operand.func 64), args := #[Operand.tmp 54, Operand.tmp 55], argTypes := #[86, 2] }, type := 4, pos := "law.go:51", after := #[{ on := 0, ground := Ground.data }, { on := 1, ground := Ground.data }], guard := none }) rfl (fun K hK => ?_) AllReadyH.nil
            go_simp
            (with_reducible refine (HA.out _).mono ?_)
            rintro e wx ⟨rfl, k⟩
            show K _ _
            have sx := S6W.out.later k (by first | exact Keeps.refl _ [] | exact (Keeps.refl _ []).drew)
            clear k c0 c1 c2 c3 c4 c5 c6 c7 S6W
            obtain ⟨c0, c1, c2, c3, c4, c5, c6, c7⟩ := sx.cells
            have S6W := kept sx
            clear sx
            clear hHeld
            refine hK.out _ _ ?rtfthS2 (fun hHeld => ?_)
            case rtfthS2 => exact ⟨c0, c1, c4, c5, c6, c7⟩
            clear hK K
            try simp only [Act.put, List.setIfInBounds_toArray, List.set_cons_zero, List.set_cons_succ]
            refine wpAnyH_take (i := 4) (oi := { dst := some 58, op := Op.binOp BinOp.neq 4 (Operand.tmp 56) (Operand.tmp 57) 4, type := 4, pos := "law.go:51", after := #[{ on := 2, ground := Ground.data }, { on := 3, ground := Ground.data }], guard := none }) (v := ?rtftv4) rfl (by kernel_rfl) (by kernel_rfl) (by kernel_rfl) (fun _ _ _ h => h) (Or.inl ⟨by rfl, ?rtfty4⟩) hHeld ?rtftr4
            case rtfty4 => (intro w hSw; (try dsimp only at hSw); go_simp; (try with_reducible rfl))
            try simp only [Act.put, List.setIfInBounds_toArray, List.set_cons_zero, List.set_cons_succ]
            refine wpAnyH_take (i := 5) (oi := { dst := some 59, op := Op.move (Operand.tmp 58), type := 4, pos := "law.go:51", after := #[{ on := 4, ground := Ground.data }, { on := 2, ground := Ground.chain }], guard := none }) (v := ?rtftv5) rfl (by kernel_rfl) (by kernel_rfl) (by kernel_rfl) (fun _ _ _ h => h) (Or.inl ⟨by rfl, ?rtfty5⟩) hHeld ?rtftr5
            case rtfty5 => (intro w hSw; (try dsimp only at hSw); go_simp; (try with_reducible rfl))
            try simp only [Act.put, List.setIfInBounds_toArray, List.set_cons_zero, List.set_cons_succ]
            refine wpAnyH_take (i := 6) (oi := { dst := some 60, op := Op.load 86 (Operand.tmp 11), type := 86, pos := "law.go:51", after := #[{ on := 5, ground := Ground.guard }], guard := some (5, false) }) (v := ?rtftv6) rfl (by kernel_rfl) (by kernel_rfl) (by kernel_rfl) (fun _ _ _ h => h) (Or.inl ⟨by rfl, ?rtfty6⟩) hHeld ?rtftr6
            case rtfty6 => (intro w hSw; (try dsimp only at hSw); go_simp; (try with_reducible rfl))
            try simp only [Act.put, List.setIfInBounds_toArray, List.set_cons_zero, List.set_cons_succ]
            refine wpAnyH_take (i := 7) (oi := { dst := some 61, op := Op.move (Operand.tmp 2), type := 2, pos := "law.go:51", after := #[{ on := 5, ground := Ground.guard }], guard := some (5, false) }) (v := ?rtftv7) rfl (by kernel_rfl) (by kernel_rfl) (by kernel_rfl) (fun _ _ _ h => h) (Or.inl ⟨by rfl, ?rtfty7⟩) hHeld ?rtftr7
            case rtfty7 => (intro w hSw; (try dsimp only at hSw); go_simp; (try with_reducible rfl))
            try simp only [Act.put, List.setIfInBounds_toArray, List.set_cons_zero, List.set_cons_succ]
            refine wpAnyH_take (i := 9) (oi := { dst := some 63, op := Op.move (Operand.tmp 7), type := 4, pos := "law.go:51", after := #[{ on := 5, ground := Ground.guard }], guard := some (5, false) }) (v := ?rtftv9) rfl (by kernel_rfl) (by kernel_rfl) (by kernel_rfl) (fun _ _ _ h => h) (Or.inl ⟨by rfl, ?rtfty9⟩) hHeld ?rtftr9
            case rtfty9 => (intro w hSw; (try dsimp only at hSw); go_simp; (try with_reducible rfl))
            try simp only [Act.put, List.setIfInBounds_toArray, List.set_cons_zero, List.set_cons_succ]
            refine wpAnyH_ready (rs := [8]) (by kernel_rfl) (by simp) ?_
            refine AllReadyH.cons (o := { dst := some 62, op := Op.call { callee := Callee.value (Operand.func 64), args := #[Operand.tmp 60, Operand.tmp 61], argTypes := #[86, 2] }, type := 4, pos := "law.go:51", after := #[{ on := 6, ground := Ground.data }, { on := 7, ground := Ground.data }, { on := 5, ground := Ground.chain }, { on := 5, ground := Ground.guard }], guard := some (5, false) }) rfl (fun K hK => ?_) AllReadyH.nil
            go_simp
            (with_reducible refine (HMN.out _).mono ?_)
            rintro e wx ⟨rfl, k⟩
            show K _ _
            have sx := S6W.out.later k (by first | exact Keeps.refl _ [] | exact (Keeps.refl _ []).drew)
            clear k c0 c1 c2 c3 c4 c5 c6 c7 S6W
            obtain ⟨c0, c1, c2, c3, c4, c5, c6, c7⟩ := sx.cells
            have S6W := kept sx
            clear sx
            clear hHeld
            refine hK.out _ _ ?rtfthS8 (fun hHeld => ?_)
            case rtfthS8 => exact ⟨c0, c1, c4, c5, c6, c7⟩
            clear hK K
            try simp only [Act.put, List.setIfInBounds_toArray, List.set_cons_zero, List.set_cons_succ]
            refine wpAnyH_take (i := 10) (oi := { dst := some 64, op := Op.move (Operand.tmp 63), type := 4, pos := "law.go:51", after := #[{ on := 9, ground := Ground.data }, { on := 8, ground := Ground.chain }, { on := 5, ground := Ground.guard }], guard := some (5, false) }) (v := ?rtftv10) rfl (by kernel_rfl) (by kernel_rfl) (by kernel_rfl) (fun _ _ _ h => h) (Or.inl ⟨by rfl, ?rtfty10⟩) hHeld ?rtftr10
            case rtfty10 => (intro w hSw; (try dsimp only at hSw); go_simp; (try with_reducible rfl))
            try simp only [Act.put, List.setIfInBounds_toArray, List.set_cons_zero, List.set_cons_succ]
            refine wpAnyH_take (i := 11) (oi := { dst := some 65, op := Op.move (Operand.tmp 8), type := 4, pos := "law.go:51", after := #[{ on := 10, ground := Ground.guard }], guard := some (10, true) }) (v := ?rtftv11) rfl (by kernel_rfl) (by kernel_rfl) (by kernel_rfl) (fun _ _ _ h => h) (Or.inl ⟨by rfl, ?rtfty11⟩) hHeld ?rtftr11
            case rtfty11 => (intro w hSw; (try dsimp only at hSw); go_simp; (try with_reducible rfl))
            try simp only [Act.put, List.setIfInBounds_toArray, List.set_cons_zero, List.set_cons_succ]
            refine wpAnyH_take (i := 12) (oi := { dst := some 66, op := Op.pick (Operand.tmp 64) (Operand.tmp 65) (Operand.const (Value.bool false)), type := 4, pos := "law.go:51", after := #[{ on := 10, ground := Ground.data }, { on := 11, ground := Ground.data }, { on := 5, ground := Ground.guard }], guard := some (5, false) }) (v := ?rtftv12) rfl (by kernel_rfl) (by kernel_rfl) (by kernel_rfl) (fun _ _ _ h => h) (Or.inl ⟨by rfl, ?rtfty12⟩) hHeld ?rtftr12
            case rtfty12 => (intro w hSw; (try dsimp only at hSw); go_simp; (try with_reducible rfl))
            try simp only [Act.put, List.setIfInBounds_toArray, List.set_cons_zero, List.set_cons_succ]
            refine wpAnyH_take (i := 13) (oi := { dst := some 67, op := Op.binOp BinOp.neq 4 (Operand.tmp 62) (Operand.tmp 66) 4, type := 4, pos := "law.go:51", after := #[{ on := 8, ground := Ground.data }, { on := 12, ground := Ground.data }, { on := 5, ground := Ground.guard }], guard := some (5, false) }) (v := ?rtftv13) rfl (by kernel_rfl) (by kernel_rfl) (by kernel_rfl) (fun _ _ _ h => h) (Or.inl ⟨by rfl, ?rtfty13⟩) hHeld ?rtftr13
            case rtfty13 => (intro w hSw; (try dsimp only at hSw); go_simp; (try with_reducible rfl))
            try simp only [Act.put, List.setIfInBounds_toArray, List.set_cons_zero, List.set_cons_succ]
            refine wpAnyH_take (i := 14) (oi := { dst := some 68, op := Op.pick (Operand.tmp 59) (Operand.const (Value.bool true)) (Operand.tmp 67), type := 4, pos := "law.go:51", after := #[{ on := 5, ground := Ground.data }, { on := 13, ground := Ground.data }], guard := none }) (v := ?rtftv14) rfl (by kernel_rfl) (by kernel_rfl) (by kernel_rfl) (fun _ _ _ h => h) (Or.inl ⟨by rfl, ?rtfty14⟩) hHeld ?rtftr14
            case rtfty14 => (intro w hSw; (try dsimp only at hSw); go_simp; (try with_reducible rfl))
            try simp only [Act.put, List.setIfInBounds_toArray, List.set_cons_zero, List.set_cons_succ]
            refine wpAnyH_take (i := 15) (oi := { dst := some 69, op := Op.move (Operand.tmp 68), type := 4, pos := "law.go:51", after := #[{ on := 14, ground := Ground.data }, { on := 10, ground := Ground.chain }], guard := none }) (v := ?rtftv15) rfl (by kernel_rfl) (by kernel_rfl) (by kernel_rfl) (fun _ _ _ h => h) (Or.inl ⟨by rfl, ?rtfty15⟩) hHeld ?rtftr15
            case rtfty15 => (intro w hSw; (try dsimp only at hSw); go_simp; (try with_reducible rfl))
            try simp only [Act.put, List.setIfInBounds_toArray, List.set_cons_zero, List.set_cons_succ]
            refine wpAnyH_take (i := 16) (oi := { dst := some 70, op := Op.move (Operand.tmp 7), type := 4, pos := "law.go:51", after := #[{ on := 15, ground := Ground.guard }], guard := some (15, false) }) (v := ?rtftv16) rfl (by kernel_rfl) (by kernel_rfl) (by kernel_rfl) (fun _ _ _ h => h) (Or.inl ⟨by rfl, ?rtfty16⟩) hHeld ?rtftr16
            case rtfty16 => (intro w hSw; (try dsimp only at hSw); go_simp; (try with_reducible rfl))
            try simp only [Act.put, List.setIfInBounds_toArray, List.set_cons_zero, List.set_cons_succ]
            refine wpAnyH_take (i := 17) (oi := { dst := some 71, op := Op.move (Operand.tmp 70), type := 4, pos := "law.go:51", after := #[{ on := 16, ground := Ground.data }, { on := 15, ground := Ground.chain }, { on := 15, ground := Ground.guard }], guard := some (15, false) }) (v := ?rtftv17) rfl (by kernel_rfl) (by kernel_rfl) (by kernel_rfl) (fun _ _ _ h => h) (Or.inl ⟨by rfl, ?rtfty17⟩) hHeld ?rtftr17
            case rtfty17 => (intro w hSw; (try dsimp only at hSw); go_simp; (try with_reducible rfl))
            try simp only [Act.put, List.setIfInBounds_toArray, List.set_cons_zero, List.set_cons_succ]
            refine wpAnyH_take (i := 18) (oi := { dst := some 72, op := Op.move (Operand.tmp 8), type := 4, pos := "law.go:51", after := #[{ on := 17, ground := Ground.guard }], guard := some (17, false) }) (v := undef) rfl (by kernel_rfl) (by kernel_rfl) (by kernel_rfl) (fun _ _ _ h => h) (Or.inr ⟨by rfl, rfl⟩) hHeld ?_
            try simp only [Act.put, List.setIfInBounds_toArray, List.set_cons_zero, List.set_cons_succ]
            refine wpAnyH_take (i := 19) (oi := { dst := some 73, op := Op.pick (Operand.tmp 71) (Operand.const (Value.bool true)) (Operand.tmp 72), type := 4, pos := "law.go:51", after := #[{ on := 17, ground := Ground.data }, { on := 18, ground := Ground.data }, { on := 15, ground := Ground.guard }], guard := some (15, false) }) (v := ?rtftv19) rfl (by kernel_rfl) (by kernel_rfl) (by kernel_rfl) (fun _ _ _ h => h) (Or.inl ⟨by rfl, ?rtfty19⟩) hHeld ?rtftr19
            case rtfty19 => (intro w hSw; (try dsimp only at hSw); go_simp; (try with_reducible rfl))
            try simp only [Act.put, List.setIfInBounds_toArray, List.set_cons_zero, List.set_cons_succ]
            refine wpAnyH_take (i := 20) (oi := { dst := some 74, op := Op.move (Operand.tmp 73), type := 4, pos := "law.go:51", after := #[{ on := 19, ground := Ground.data }, { on := 17, ground := Ground.chain }, { on := 15, ground := Ground.guard }], guard := some (15, false) }) (v := ?rtftv20) rfl (by kernel_rfl) (by kernel_rfl) (by kernel_rfl) (fun _ _ _ h => h) (Or.inl ⟨by rfl, ?rtfty20⟩) hHeld ?rtftr20
            case rtfty20 => (intro w hSw; (try dsimp only at hSw); go_simp; (try with_reducible rfl))
            try simp only [Act.put, List.setIfInBounds_toArray, List.set_cons_zero, List.set_cons_succ]
            refine wpAnyH_take (i := 21) (oi := { dst := some 75, op := Op.load 86 (Operand.tmp 12), type := 86, pos := "law.go:51", after := #[{ on := 20, ground := Ground.guard }], guard := some (20, true) }) (v := ?rtftv21) rfl (by kernel_rfl) (by kernel_rfl) (by kernel_rfl) (fun _ _ _ h => h) (Or.inl ⟨by rfl, ?rtfty21⟩) hHeld ?rtftr21
            case rtfty21 => (intro w hSw; (try dsimp only at hSw); go_simp; (try with_reducible rfl))
            try simp only [Act.put, List.setIfInBounds_toArray, List.set_cons_zero, List.set_cons_succ]
            refine wpAnyH_take (i := 22) (oi := { dst := some 76, op := Op.move (Operand.tmp 2), type := 2, pos := "law.go:51", after := #[{ on := 20, ground := Ground.guard }], guard := some (20, true) }) (v := ?rtftv22) rfl (by kernel_rfl) (by kernel_rfl) (by kernel_rfl) (fun _ _ _ h => h) (Or.inl ⟨by rfl, ?rtfty22⟩) hHeld ?rtftr22
            case rtfty22 => (intro w hSw; (try dsimp only at hSw); go_simp; (try with_reducible rfl))
            try simp only [Act.put, List.setIfInBounds_toArray, List.set_cons_zero, List.set_cons_succ]
            refine wpAnyH_ready (rs := [23]) (by kernel_rfl) (by simp) ?_
            refine AllReadyH.cons (o := { dst := some 77, op := Op.call { callee := Callee.value (Operand.func 64), args := #[Operand.tmp 75, Operand.tmp 76], argTypes := #[86, 2] }, type := 4, pos := "law.go:51", after := #[{ on := 21, ground := Ground.data }, { on := 22, ground := Ground.data }, { on := 20, ground := Ground.chain }, { on := 20, ground := Ground.guard }], guard := some (20, true) }) rfl (fun K hK => ?_) AllReadyH.nil
            go_simp
            (with_reducible refine (HJN.out _).mono ?_)
            rintro e wx ⟨rfl, k⟩
            show K _ _
            have sx := S6W.out.later k (by first | exact Keeps.refl _ [] | exact (Keeps.refl _ []).drew)
            clear k c0 c1 c2 c3 c4 c5 c6 c7 S6W
            obtain ⟨c0, c1, c2, c3, c4, c5, c6, c7⟩ := sx.cells
            have S6W := kept sx
            clear sx
            clear hHeld
            refine hK.out _ _ ?rtfthS23 (fun hHeld => ?_)
            case rtfthS23 => exact ⟨c0, c1, c4, c5, c6, c7⟩
            clear hK K
            try simp only [Act.put, List.setIfInBounds_toArray, List.set_cons_zero, List.set_cons_succ]
            refine wpAnyH_take (i := 24) (oi := { dst := some 78, op := Op.unOp UnOp.not 4 (Operand.tmp 77), type := 4, pos := "law.go:51", after := #[{ on := 23, ground := Ground.data }, { on := 20, ground := Ground.guard }], guard := some (20, true) }) (v := ?rtftv24) rfl (by kernel_rfl) (by kernel_rfl) (by kernel_rfl) (fun _ _ _ h => h) (Or.inl ⟨by rfl, ?rtfty24⟩) hHeld ?rtftr24
            case rtfty24 => (intro w hSw; (try dsimp only at hSw); go_simp; (try with_reducible rfl))
            try simp only [Act.put, List.setIfInBounds_toArray, List.set_cons_zero, List.set_cons_succ]
            refine wpAnyH_take (i := 25) (oi := { dst := some 79, op := Op.pick (Operand.tmp 74) (Operand.tmp 78) (Operand.const (Value.bool false)), type := 4, pos := "law.go:51", after := #[{ on := 20, ground := Ground.data }, { on := 24, ground := Ground.data }, { on := 15, ground := Ground.guard }], guard := some (15, false) }) (v := ?rtftv25) rfl (by kernel_rfl) (by kernel_rfl) (by kernel_rfl) (fun _ _ _ h => h) (Or.inl ⟨by rfl, ?rtfty25⟩) hHeld ?rtftr25
            case rtfty25 => (intro w hSw; (try dsimp only at hSw); go_simp; (try with_reducible rfl))
            try simp only [Act.put, List.setIfInBounds_toArray, List.set_cons_zero, List.set_cons_succ]
            refine wpAnyH_take (i := 26) (oi := { dst := some 80, op := Op.pick (Operand.tmp 69) (Operand.const (Value.bool true)) (Operand.tmp 79), type := 4, pos := "law.go:51", after := #[{ on := 15, ground := Ground.data }, { on := 25, ground := Ground.data }], guard := none }) (v := ?rtftv26) rfl (by kernel_rfl) (by kernel_rfl) (by kernel_rfl) (fun _ _ _ h => h) (Or.inl ⟨by rfl, ?rtfty26⟩) hHeld ?rtftr26
            case rtfty26 => (intro w hSw; (try dsimp only at hSw); go_simp; (try with_reducible rfl))
            try simp only [Act.put, List.setIfInBounds_toArray, List.set_cons_zero, List.set_cons_succ]
            refine wpAnyH_take (i := 27) (oi := { dst := some 81, op := Op.move (Operand.tmp 80), type := 4, pos := "law.go:51", after := #[{ on := 26, ground := Ground.data }, { on := 23, ground := Ground.chain }], guard := none }) (v := ?rtftv27) rfl (by kernel_rfl) (by kernel_rfl) (by kernel_rfl) (fun _ _ _ h => h) (Or.inl ⟨by rfl, ?rtfty27⟩) hHeld ?rtftr27
            case rtfty27 => (intro w hSw; (try dsimp only at hSw); go_simp; (try with_reducible rfl))
            try simp only [Act.put, List.setIfInBounds_toArray, List.set_cons_zero, List.set_cons_succ]
            refine wpAnyH_take (i := 28) (oi := { dst := some 82, op := Op.load 86 (Operand.tmp 3), type := 86, pos := "law.go:51", after := #[{ on := 27, ground := Ground.guard }], guard := some (27, false) }) (v := ?rtftv28) rfl (by kernel_rfl) (by kernel_rfl) (by kernel_rfl) (fun _ _ _ h => h) (Or.inl ⟨by rfl, ?rtfty28⟩) hHeld ?rtftr28
            case rtfty28 => (intro w hSw; (try dsimp only at hSw); go_simp; (try with_reducible rfl))
            try simp only [Act.put, List.setIfInBounds_toArray, List.set_cons_zero, List.set_cons_succ]
            refine wpAnyH_take (i := 30) (oi := { dst := some 84, op := Op.move (Operand.tmp 9), type := 4, pos := "law.go:51", after := #[{ on := 27, ground := Ground.guard }], guard := some (27, false) }) (v := ?rtftv30) rfl (by kernel_rfl) (by kernel_rfl) (by kernel_rfl) (fun _ _ _ h => h) (Or.inl ⟨by rfl, ?rtfty30⟩) hHeld ?rtftr30
            case rtfty30 => (intro w hSw; (try dsimp only at hSw); go_simp; (try with_reducible rfl))
            try simp only [Act.put, List.setIfInBounds_toArray, List.set_cons_zero, List.set_cons_succ]
            refine wpAnyH_ready (rs := [29]) (by kernel_rfl) (by simp) ?_
            refine AllReadyH.cons (o := { dst := some 83, op := Op.call { callee := Callee.value (Operand.func 65), args := #[Operand.tmp 82], argTypes := #[86] }, type := 4, pos := "law.go:51", after := #[{ on := 28, ground := Ground.data }, { on := 27, ground := Ground.chain }, { on := 27, ground := Ground.guard }], guard := some (27, false) }) rfl (fun K hK => ?_) AllReadyH.nil
            go_simp
            (with_reducible refine (EA.out _).mono ?_)
            rintro e wx ⟨rfl, k⟩
            show K _ _
            have sx := S6W.out.later k (by first | exact Keeps.refl _ [] | exact (Keeps.refl _ []).drew)
            clear k c0 c1 c2 c3 c4 c5 c6 c7 S6W
            obtain ⟨c0, c1, c2, c3, c4, c5, c6, c7⟩ := sx.cells
            have S6W := kept sx
            clear sx
            clear hHeld
            refine hK.out _ _ ?rtfthS29 (fun hHeld => ?_)
            case rtfthS29 => exact ⟨c0, c1, c4, c5, c6, c7⟩
            clear hK K
            try simp only [Act.put, List.setIfInBounds_toArray, List.set_cons_zero, List.set_cons_succ]
            refine wpAnyH_take (i := 31) (oi := { dst := some 85, op := Op.binOp BinOp.neq 4 (Operand.tmp 83) (Operand.tmp 84) 4, type := 4, pos := "law.go:51", after := #[{ on := 29, ground := Ground.data }, { on := 30, ground := Ground.data }, { on := 27, ground := Ground.guard }], guard := some (27, false) }) (v := ?rtftv31) rfl (by kernel_rfl) (by kernel_rfl) (by kernel_rfl) (fun _ _ _ h => h) (Or.inl ⟨by rfl, ?rtfty31⟩) hHeld ?rtftr31
            case rtfty31 => (intro w hSw; (try dsimp only at hSw); go_simp; (try with_reducible rfl))
            try simp only [Act.put, List.setIfInBounds_toArray, List.set_cons_zero, List.set_cons_succ]
            refine wpAnyH_take (i := 32) (oi := { dst := some 86, op := Op.pick (Operand.tmp 81) (Operand.const (Value.bool true)) (Operand.tmp 85), type := 4, pos := "law.go:51", after := #[{ on := 27, ground := Ground.data }, { on := 31, ground := Ground.data }], guard := none }) (v := ?rtftv32) rfl (by kernel_rfl) (by kernel_rfl) (by kernel_rfl) (fun _ _ _ h => h) (Or.inl ⟨by rfl, ?rtfty32⟩) hHeld ?rtftr32
            case rtfty32 => (intro w hSw; (try dsimp only at hSw); go_simp; (try with_reducible rfl))
            try simp only [Act.put, List.setIfInBounds_toArray, List.set_cons_zero, List.set_cons_succ]
            refine wpAnyH_take (i := 33) (oi := { dst := some 87, op := Op.move (Operand.tmp 86), type := 4, pos := "law.go:51", after := #[{ on := 32, ground := Ground.data }, { on := 29, ground := Ground.chain }], guard := none }) (v := ?rtftv33) rfl (by kernel_rfl) (by kernel_rfl) (by kernel_rfl) (fun _ _ _ h => h) (Or.inl ⟨by rfl, ?rtfty33⟩) hHeld ?rtftr33
            case rtfty33 => (intro w hSw; (try dsimp only at hSw); go_simp; (try with_reducible rfl))
            try simp only [Act.put, List.setIfInBounds_toArray, List.set_cons_zero, List.set_cons_succ]
            refine wpAnyH_take (i := 34) (oi := { dst := some 88, op := Op.fieldAddr 86 (Operand.tmp 11) 0, type := 0, pos := "law.go:51", after := #[{ on := 33, ground := Ground.guard }], guard := some (33, false) }) (v := ?rtftv34) rfl (by kernel_rfl) (by kernel_rfl) (by kernel_rfl) (fun _ _ _ h => h) (Or.inl ⟨by rfl, ?rtfty34⟩) hHeld ?rtftr34
            case rtfty34 => (intro w hSw; (try dsimp only at hSw); go_simp; (try with_reducible rfl))
            try simp only [Act.put, List.setIfInBounds_toArray, List.set_cons_zero, List.set_cons_succ]
            refine wpAnyH_take (i := 35) (oi := { dst := some 89, op := Op.load 2 (Operand.tmp 88), type := 2, pos := "law.go:51", after := #[{ on := 34, ground := Ground.data }, { on := 33, ground := Ground.guard }], guard := some (33, false) }) (v := ?rtftv35) rfl (by kernel_rfl) (by kernel_rfl) (by kernel_rfl) (fun _ _ _ h => h) (Or.inl ⟨by rfl, ?rtfty35⟩) hHeld ?rtftr35
            case rtfty35 => (intro w hSw; (try dsimp only at hSw); go_simp; (try with_reducible rfl))
            try simp only [Act.put, List.setIfInBounds_toArray, List.set_cons_zero, List.set_cons_succ]
            refine wpAnyH_take (i := 36) (oi := { dst := some 90, op := Op.fieldAddr 86 (Operand.tmp 11) 1, type := 0, pos := "law.go:51", after := #[{ on := 33, ground := Ground.guard }], guard := some (33, false) }) (v := ?rtftv36) rfl (by kernel_rfl) (by kernel_rfl) (by kernel_rfl) (fun _ _ _ h => h) (Or.inl ⟨by rfl, ?rtfty36⟩) hHeld ?rtftr36
            case rtfty36 => (intro w hSw; (try dsimp only at hSw); go_simp; (try with_reducible rfl))
            try simp only [Act.put, List.setIfInBounds_toArray, List.set_cons_zero, List.set_cons_succ]
            refine wpAnyH_take (i := 37) (oi := { dst := some 91, op := Op.load 2 (Operand.tmp 90), type := 2, pos := "law.go:51", after := #[{ on := 36, ground := Ground.data }, { on := 33, ground := Ground.guard }], guard := some (33, false) }) (v := ?rtftv37) rfl (by kernel_rfl) (by kernel_rfl) (by kernel_rfl) (fun _ _ _ h => h) (Or.inl ⟨by rfl, ?rtfty37⟩) hHeld ?rtftr37
            case rtfty37 => (intro w hSw; (try dsimp only at hSw); go_simp; (try with_reducible rfl))
            try simp only [Act.put, List.setIfInBounds_toArray, List.set_cons_zero, List.set_cons_succ]
            refine wpAnyH_take (i := 38) (oi := { dst := some 92, op := Op.binOp BinOp.gtr 2 (Operand.tmp 89) (Operand.tmp 91) 2, type := 4, pos := "law.go:51", after := #[{ on := 35, ground := Ground.data }, { on := 37, ground := Ground.data }, { on := 33, ground := Ground.guard }], guard := some (33, false) }) (v := ?rtftv38) rfl (by kernel_rfl) (by kernel_rfl) (by kernel_rfl) (fun _ _ _ h => h) (Or.inl ⟨by rfl, ?rtfty38⟩) hHeld ?rtftr38
            case rtfty38 => (intro w hSw; (try dsimp only at hSw); go_simp; (try with_reducible rfl))
            try simp only [Act.put, List.setIfInBounds_toArray, List.set_cons_zero, List.set_cons_succ]
            refine wpAnyH_take (i := 39) (oi := { dst := some 93, op := Op.move (Operand.tmp 92), type := 4, pos := "law.go:51", after := #[{ on := 38, ground := Ground.data }, { on := 33, ground := Ground.chain }, { on := 33, ground := Ground.guard }], guard := some (33, false) }) (v := ?rtftv39) rfl (by kernel_rfl) (by kernel_rfl) (by kernel_rfl) (fun _ _ _ h => h) (Or.inl ⟨by rfl, ?rtfty39⟩) hHeld ?rtftr39
            case rtfty39 => (intro w hSw; (try dsimp only at hSw); go_simp; (try with_reducible rfl))
            try simp only [Act.put, List.setIfInBounds_toArray, List.set_cons_zero, List.set_cons_succ]
            refine wpAnyH_take (i := 40) (oi := { dst := some 94, op := Op.load 86 (Operand.tmp 11), type := 86, pos := "law.go:51", after := #[{ on := 39, ground := Ground.guard }], guard := some (39, true) }) (v := ?rtftv40) rfl (by kernel_rfl) (by kernel_rfl) (by kernel_rfl) (fun _ _ _ h => h) (Or.inl ⟨by rfl, ?rtfty40⟩) hHeld ?rtftr40
            case rtfty40 => (intro w hSw; (try dsimp only at hSw); go_simp; (try with_reducible rfl))
            try simp only [Act.put, List.setIfInBounds_toArray, List.set_cons_zero, List.set_cons_succ]
            refine wpAnyH_ready (rs := [41]) (by kernel_rfl) (by simp) ?_
            refine AllReadyH.cons (o := { dst := some 95, op := Op.call { callee := Callee.value (Operand.func 66), args := #[], argTypes := #[] }, type := 86, pos := "law.go:51", after := #[{ on := 39, ground := Ground.chain }, { on := 39, ground := Ground.guard }], guard := some (39, true) }) rfl (fun K hK => ?_) AllReadyH.nil
            go_simp
            (with_reducible refine (N6.out _).mono ?_)
            rintro e wx ⟨rfl, k⟩
            show K _ _
            have sx := S6W.out.later k (by first | exact Keeps.refl _ [] | exact (Keeps.refl _ []).drew)
            clear k c0 c1 c2 c3 c4 c5 c6 c7 S6W
            obtain ⟨c0, c1, c2, c3, c4, c5, c6, c7⟩ := sx.cells
            have S6W := kept sx
            clear sx
            clear hHeld
            refine hK.out _ _ ?rtfthS41 (fun hHeld => ?_)
            case rtfthS41 => exact ⟨c0, c1, c4, c5, c6, c7⟩
            clear hK K
            try simp only [Act.put, List.setIfInBounds_toArray, List.set_cons_zero, List.set_cons_succ]
            refine wpAnyH_take (i := 42) (oi := { dst := some 96, op := Op.binOp BinOp.neq 86 (Operand.tmp 94) (Operand.tmp 95) 86, type := 4, pos := "law.go:51", after := #[{ on := 40, ground := Ground.data }, { on := 41, ground := Ground.data }, { on := 39, ground := Ground.guard }], guard := some (39, true) }) (v := ?rtftv42) rfl (by kernel_rfl) (by kernel_rfl) (by kernel_rfl) (fun _ _ _ h => h) (Or.inl ⟨by rfl, ?rtfty42⟩) hHeld ?rtftr42
            case rtfty42 => (intro w hSw; (try dsimp only at hSw); go_simp; (try with_reducible rfl))
            try simp only [Act.put, List.setIfInBounds_toArray, List.set_cons_zero, List.set_cons_succ]
            refine wpAnyH_take (i := 43) (oi := { dst := some 97, op := Op.pick (Operand.tmp 93) (Operand.tmp 96) (Operand.const (Value.bool false)), type := 4, pos := "law.go:51", after := #[{ on := 39, ground := Ground.data }, { on := 42, ground := Ground.data }, { on := 33, ground := Ground.guard }], guard := some (33, false) }) (v := ?rtftv43) rfl (by kernel_rfl) (by kernel_rfl) (by kernel_rfl) (fun _ _ _ h => h) (Or.inl ⟨by rfl, ?rtfty43⟩) hHeld ?rtftr43
            case rtfty43 => (intro w hSw; (try dsimp only at hSw); go_simp; (try with_reducible rfl))
            try simp only [Act.put, List.setIfInBounds_toArray, List.set_cons_zero, List.set_cons_succ]
            refine wpAnyH_take (i := 44) (oi := { dst := some 98, op := Op.pick (Operand.tmp 87) (Operand.const (Value.bool true)) (Operand.tmp 97), type := 4, pos := "law.go:51", after := #[{ on := 33, ground := Ground.data }, { on := 43, ground := Ground.data }], guard := none }) (v := ?rtftv44) rfl (by kernel_rfl) (by kernel_rfl) (by kernel_rfl) (fun _ _ _ h => h) (Or.inl ⟨by rfl, ?rtfty44⟩) hHeld ?rtftr44
            case rtfty44 => (intro w hSw; (try dsimp only at hSw); go_simp; (try with_reducible rfl))
            try simp only [Act.put, List.setIfInBounds_toArray, List.set_cons_zero, List.set_cons_succ]
            refine wpAnyH_done (by kernel_rfl) ?_ _
            go_wp2
            go_meet
            exact ⟨rfl, S6W.out⟩
          · have hM' := hM
            refine wp_region_held_drew (S := (fun w' => w'.cell? ⟨w.heap.size, 0, none⟩ = some (.int .i64 al) ∧ w'.cell? ⟨w.heap.size, 1, none⟩ = some (.int .i64 ah) ∧ w'.cell? ⟨gm, 0, none⟩ = some (.int .i64 ml) ∧ w'.cell? ⟨gm, 1, none⟩ = some (.int .i64 mh) ∧ w'.cell? ⟨gj, 0, none⟩ = some (.int .i64 jl) ∧ w'.cell? ⟨gj, 1, none⟩ = some (.int .i64 jh))) (by kernel_rfl) ?rtffhSs (fun hHeld => ?_)
            case rtffhSs => exact ⟨c0, c1, c4, c5, c6, c7⟩
            refine wpAnyH_take (i := 0) (oi := { dst := some 54, op := Op.load 86 (Operand.tmp 3), type := 86, pos := "law.go:51", after := #[], guard := none }) (v := ?rtffv0) rfl (by kernel_rfl) (by kernel_rfl) (by kernel_rfl) (fun _ _ _ h => h) (Or.inl ⟨by rfl, ?rtffy0⟩) hHeld ?rtffr0
            case rtffy0 => (intro w hSw; (try dsimp only at hSw); go_simp; (try with_reducible rfl))
            try simp only [Act.put, List.setIfInBounds_toArray, List.set_cons_zero, List.set_cons_succ]
            refine wpAnyH_take (i := 1) (oi := { dst := some 55, op := Op.move (Operand.tmp 2), type := 2, pos := "law.go:51", after := #[], guard := none }) (v := ?rtffv1) rfl (by kernel_rfl) (by kernel_rfl) (by kernel_rfl) (fun _ _ _ h => h) (Or.inl ⟨by rfl, ?rtffy1⟩) hHeld ?rtffr1
            case rtffy1 => (intro w hSw; (try dsimp only at hSw); go_simp; (try with_reducible rfl))
            try simp only [Act.put, List.setIfInBounds_toArray, List.set_cons_zero, List.set_cons_succ]
            refine wpAnyH_take (i := 3) (oi := { dst := some 57, op := Op.move (Operand.tmp 7), type := 4, pos := "law.go:51", after := #[], guard := none }) (v := ?rtffv3) rfl (by kernel_rfl) (by kernel_rfl) (by kernel_rfl) (fun _ _ _ h => h) (Or.inl ⟨by rfl, ?rtffy3⟩) hHeld ?rtffr3
            case rtffy3 => (intro w hSw; (try dsimp only at hSw); go_simp; (try with_reducible rfl))
            try simp only [Act.put, List.setIfInBounds_toArray, List.set_cons_zero, List.set_cons_succ]
            refine wpAnyH_ready (rs := [2]) (by kernel_rfl) (by simp) ?_
            refine AllReadyH.cons (o := { dst := some 56, op := Op.call { callee := Callee.value (Operand.func 64), args := #[Operand.tmp 54, Operand.tmp 55], argTypes := #[86, 2] }, type := 4, pos := "law.go:51", after := #[{ on := 0, ground := Ground.data }, { on := 1, ground := Ground.data }], guard := none }) rfl (fun K hK => ?_) AllReadyH.nil
            go_simp
            (with_reducible refine (HA.out _).mono ?_)
            rintro e wx ⟨rfl, k⟩
            show K _ _
            have sx := S6W.out.later k (by first | exact Keeps.refl _ [] | exact (Keeps.refl _ []).drew)
            clear k c0 c1 c2 c3 c4 c5 c6 c7 S6W
            obtain ⟨c0, c1, c2, c3, c4, c5, c6, c7⟩ := sx.cells
            have S6W := kept sx
            clear sx
            clear hHeld
            refine hK.out _ _ ?rtffhS2 (fun hHeld => ?_)
            case rtffhS2 => exact ⟨c0, c1, c4, c5, c6, c7⟩
            clear hK K
            try simp only [Act.put, List.setIfInBounds_toArray, List.set_cons_zero, List.set_cons_succ]
            refine wpAnyH_take (i := 4) (oi := { dst := some 58, op := Op.binOp BinOp.neq 4 (Operand.tmp 56) (Operand.tmp 57) 4, type := 4, pos := "law.go:51", after := #[{ on := 2, ground := Ground.data }, { on := 3, ground := Ground.data }], guard := none }) (v := ?rtffv4) rfl (by kernel_rfl) (by kernel_rfl) (by kernel_rfl) (fun _ _ _ h => h) (Or.inl ⟨by rfl, ?rtffy4⟩) hHeld ?rtffr4
            case rtffy4 => (intro w hSw; (try dsimp only at hSw); go_simp; (try with_reducible rfl))
            try simp only [Act.put, List.setIfInBounds_toArray, List.set_cons_zero, List.set_cons_succ]
            refine wpAnyH_take (i := 5) (oi := { dst := some 59, op := Op.move (Operand.tmp 58), type := 4, pos := "law.go:51", after := #[{ on := 4, ground := Ground.data }, { on := 2, ground := Ground.chain }], guard := none }) (v := ?rtffv5) rfl (by kernel_rfl) (by kernel_rfl) (by kernel_rfl) (fun _ _ _ h => h) (Or.inl ⟨by rfl, ?rtffy5⟩) hHeld ?rtffr5
            case rtffy5 => (intro w hSw; (try dsimp only at hSw); go_simp; (try with_reducible rfl))
            try simp only [Act.put, List.setIfInBounds_toArray, List.set_cons_zero, List.set_cons_succ]
            refine wpAnyH_take (i := 6) (oi := { dst := some 60, op := Op.load 86 (Operand.tmp 11), type := 86, pos := "law.go:51", after := #[{ on := 5, ground := Ground.guard }], guard := some (5, false) }) (v := ?rtffv6) rfl (by kernel_rfl) (by kernel_rfl) (by kernel_rfl) (fun _ _ _ h => h) (Or.inl ⟨by rfl, ?rtffy6⟩) hHeld ?rtffr6
            case rtffy6 => (intro w hSw; (try dsimp only at hSw); go_simp; (try with_reducible rfl))
            try simp only [Act.put, List.setIfInBounds_toArray, List.set_cons_zero, List.set_cons_succ]
            refine wpAnyH_take (i := 7) (oi := { dst := some 61, op := Op.move (Operand.tmp 2), type := 2, pos := "law.go:51", after := #[{ on := 5, ground := Ground.guard }], guard := some (5, false) }) (v := ?rtffv7) rfl (by kernel_rfl) (by kernel_rfl) (by kernel_rfl) (fun _ _ _ h => h) (Or.inl ⟨by rfl, ?rtffy7⟩) hHeld ?rtffr7
            case rtffy7 => (intro w hSw; (try dsimp only at hSw); go_simp; (try with_reducible rfl))
            try simp only [Act.put, List.setIfInBounds_toArray, List.set_cons_zero, List.set_cons_succ]
            refine wpAnyH_take (i := 9) (oi := { dst := some 63, op := Op.move (Operand.tmp 7), type := 4, pos := "law.go:51", after := #[{ on := 5, ground := Ground.guard }], guard := some (5, false) }) (v := ?rtffv9) rfl (by kernel_rfl) (by kernel_rfl) (by kernel_rfl) (fun _ _ _ h => h) (Or.inl ⟨by rfl, ?rtffy9⟩) hHeld ?rtffr9
            case rtffy9 => (intro w hSw; (try dsimp only at hSw); go_simp; (try with_reducible rfl))
            try simp only [Act.put, List.setIfInBounds_toArray, List.set_cons_zero, List.set_cons_succ]
            refine wpAnyH_ready (rs := [8]) (by kernel_rfl) (by simp) ?_
            refine AllReadyH.cons (o := { dst := some 62, op := Op.call { callee := Callee.value (Operand.func 64), args := #[Operand.tmp 60, Operand.tmp 61], argTypes := #[86, 2] }, type := 4, pos := "law.go:51", after := #[{ on := 6, ground := Ground.data }, { on := 7, ground := Ground.data }, { on := 5, ground := Ground.chain }, { on := 5, ground := Ground.guard }], guard := some (5, false) }) rfl (fun K hK => ?_) AllReadyH.nil
            go_simp
            (with_reducible refine (HMN.out _).mono ?_)
            rintro e wx ⟨rfl, k⟩
            show K _ _
            have sx := S6W.out.later k (by first | exact Keeps.refl _ [] | exact (Keeps.refl _ []).drew)
            clear k c0 c1 c2 c3 c4 c5 c6 c7 S6W
            obtain ⟨c0, c1, c2, c3, c4, c5, c6, c7⟩ := sx.cells
            have S6W := kept sx
            clear sx
            clear hHeld
            refine hK.out _ _ ?rtffhS8 (fun hHeld => ?_)
            case rtffhS8 => exact ⟨c0, c1, c4, c5, c6, c7⟩
            clear hK K
            try simp only [Act.put, List.setIfInBounds_toArray, List.set_cons_zero, List.set_cons_succ]
            refine wpAnyH_take (i := 10) (oi := { dst := some 64, op := Op.move (Operand.tmp 63), type := 4, pos := "law.go:51", after := #[{ on := 9, ground := Ground.data }, { on := 8, ground := Ground.chain }, { on := 5, ground := Ground.guard }], guard := some (5, false) }) (v := ?rtffv10) rfl (by kernel_rfl) (by kernel_rfl) (by kernel_rfl) (fun _ _ _ h => h) (Or.inl ⟨by rfl, ?rtffy10⟩) hHeld ?rtffr10
            case rtffy10 => (intro w hSw; (try dsimp only at hSw); go_simp; (try with_reducible rfl))
            try simp only [Act.put, List.setIfInBounds_toArray, List.set_cons_zero, List.set_cons_succ]
            refine wpAnyH_take (i := 11) (oi := { dst := some 65, op := Op.move (Operand.tmp 8), type := 4, pos := "law.go:51", after := #[{ on := 10, ground := Ground.guard }], guard := some (10, true) }) (v := ?rtffv11) rfl (by kernel_rfl) (by kernel_rfl) (by kernel_rfl) (fun _ _ _ h => h) (Or.inl ⟨by rfl, ?rtffy11⟩) hHeld ?rtffr11
            case rtffy11 => (intro w hSw; (try dsimp only at hSw); go_simp; (try with_reducible rfl))
            try simp only [Act.put, List.setIfInBounds_toArray, List.set_cons_zero, List.set_cons_succ]
            refine wpAnyH_take (i := 12) (oi := { dst := some 66, op := Op.pick (Operand.tmp 64) (Operand.tmp 65) (Operand.const (Value.bool false)), type := 4, pos := "law.go:51", after := #[{ on := 10, ground := Ground.data }, { on := 11, ground := Ground.data }, { on := 5, ground := Ground.guard }], guard := some (5, false) }) (v := ?rtffv12) rfl (by kernel_rfl) (by kernel_rfl) (by kernel_rfl) (fun _ _ _ h => h) (Or.inl ⟨by rfl, ?rtffy12⟩) hHeld ?rtffr12
            case rtffy12 => (intro w hSw; (try dsimp only at hSw); go_simp; (try with_reducible rfl))
            try simp only [Act.put, List.setIfInBounds_toArray, List.set_cons_zero, List.set_cons_succ]
            refine wpAnyH_take (i := 13) (oi := { dst := some 67, op := Op.binOp BinOp.neq 4 (Operand.tmp 62) (Operand.tmp 66) 4, type := 4, pos := "law.go:51", after := #[{ on := 8, ground := Ground.data }, { on := 12, ground := Ground.data }, { on := 5, ground := Ground.guard }], guard := some (5, false) }) (v := ?rtffv13) rfl (by kernel_rfl) (by kernel_rfl) (by kernel_rfl) (fun _ _ _ h => h) (Or.inl ⟨by rfl, ?rtffy13⟩) hHeld ?rtffr13
            case rtffy13 => (intro w hSw; (try dsimp only at hSw); go_simp; (try with_reducible rfl))
            try simp only [Act.put, List.setIfInBounds_toArray, List.set_cons_zero, List.set_cons_succ]
            refine wpAnyH_take (i := 14) (oi := { dst := some 68, op := Op.pick (Operand.tmp 59) (Operand.const (Value.bool true)) (Operand.tmp 67), type := 4, pos := "law.go:51", after := #[{ on := 5, ground := Ground.data }, { on := 13, ground := Ground.data }], guard := none }) (v := ?rtffv14) rfl (by kernel_rfl) (by kernel_rfl) (by kernel_rfl) (fun _ _ _ h => h) (Or.inl ⟨by rfl, ?rtffy14⟩) hHeld ?rtffr14
            case rtffy14 => (intro w hSw; (try dsimp only at hSw); go_simp; (try with_reducible rfl))
            try simp only [Act.put, List.setIfInBounds_toArray, List.set_cons_zero, List.set_cons_succ]
            refine wpAnyH_take (i := 15) (oi := { dst := some 69, op := Op.move (Operand.tmp 68), type := 4, pos := "law.go:51", after := #[{ on := 14, ground := Ground.data }, { on := 10, ground := Ground.chain }], guard := none }) (v := ?rtffv15) rfl (by kernel_rfl) (by kernel_rfl) (by kernel_rfl) (fun _ _ _ h => h) (Or.inl ⟨by rfl, ?rtffy15⟩) hHeld ?rtffr15
            case rtffy15 => (intro w hSw; (try dsimp only at hSw); go_simp; (try with_reducible rfl))
            try simp only [Act.put, List.setIfInBounds_toArray, List.set_cons_zero, List.set_cons_succ]
            refine wpAnyH_take (i := 16) (oi := { dst := some 70, op := Op.move (Operand.tmp 7), type := 4, pos := "law.go:51", after := #[{ on := 15, ground := Ground.guard }], guard := some (15, false) }) (v := ?rtffv16) rfl (by kernel_rfl) (by kernel_rfl) (by kernel_rfl) (fun _ _ _ h => h) (Or.inl ⟨by rfl, ?rtffy16⟩) hHeld ?rtffr16
            case rtffy16 => (intro w hSw; (try dsimp only at hSw); go_simp; (try with_reducible rfl))
            try simp only [Act.put, List.setIfInBounds_toArray, List.set_cons_zero, List.set_cons_succ]
            refine wpAnyH_take (i := 17) (oi := { dst := some 71, op := Op.move (Operand.tmp 70), type := 4, pos := "law.go:51", after := #[{ on := 16, ground := Ground.data }, { on := 15, ground := Ground.chain }, { on := 15, ground := Ground.guard }], guard := some (15, false) }) (v := ?rtffv17) rfl (by kernel_rfl) (by kernel_rfl) (by kernel_rfl) (fun _ _ _ h => h) (Or.inl ⟨by rfl, ?rtffy17⟩) hHeld ?rtffr17
            case rtffy17 => (intro w hSw; (try dsimp only at hSw); go_simp; (try with_reducible rfl))
            try simp only [Act.put, List.setIfInBounds_toArray, List.set_cons_zero, List.set_cons_succ]
            refine wpAnyH_take (i := 18) (oi := { dst := some 72, op := Op.move (Operand.tmp 8), type := 4, pos := "law.go:51", after := #[{ on := 17, ground := Ground.guard }], guard := some (17, false) }) (v := undef) rfl (by kernel_rfl) (by kernel_rfl) (by kernel_rfl) (fun _ _ _ h => h) (Or.inr ⟨by rfl, rfl⟩) hHeld ?_
            try simp only [Act.put, List.setIfInBounds_toArray, List.set_cons_zero, List.set_cons_succ]
            refine wpAnyH_take (i := 19) (oi := { dst := some 73, op := Op.pick (Operand.tmp 71) (Operand.const (Value.bool true)) (Operand.tmp 72), type := 4, pos := "law.go:51", after := #[{ on := 17, ground := Ground.data }, { on := 18, ground := Ground.data }, { on := 15, ground := Ground.guard }], guard := some (15, false) }) (v := ?rtffv19) rfl (by kernel_rfl) (by kernel_rfl) (by kernel_rfl) (fun _ _ _ h => h) (Or.inl ⟨by rfl, ?rtffy19⟩) hHeld ?rtffr19
            case rtffy19 => (intro w hSw; (try dsimp only at hSw); go_simp; (try with_reducible rfl))
            try simp only [Act.put, List.setIfInBounds_toArray, List.set_cons_zero, List.set_cons_succ]
            refine wpAnyH_take (i := 20) (oi := { dst := some 74, op := Op.move (Operand.tmp 73), type := 4, pos := "law.go:51", after := #[{ on := 19, ground := Ground.data }, { on := 17, ground := Ground.chain }, { on := 15, ground := Ground.guard }], guard := some (15, false) }) (v := ?rtffv20) rfl (by kernel_rfl) (by kernel_rfl) (by kernel_rfl) (fun _ _ _ h => h) (Or.inl ⟨by rfl, ?rtffy20⟩) hHeld ?rtffr20
            case rtffy20 => (intro w hSw; (try dsimp only at hSw); go_simp; (try with_reducible rfl))
            try simp only [Act.put, List.setIfInBounds_toArray, List.set_cons_zero, List.set_cons_succ]
            refine wpAnyH_take (i := 21) (oi := { dst := some 75, op := Op.load 86 (Operand.tmp 12), type := 86, pos := "law.go:51", after := #[{ on := 20, ground := Ground.guard }], guard := some (20, true) }) (v := ?rtffv21) rfl (by kernel_rfl) (by kernel_rfl) (by kernel_rfl) (fun _ _ _ h => h) (Or.inl ⟨by rfl, ?rtffy21⟩) hHeld ?rtffr21
            case rtffy21 => (intro w hSw; (try dsimp only at hSw); go_simp; (try with_reducible rfl))
            try simp only [Act.put, List.setIfInBounds_toArray, List.set_cons_zero, List.set_cons_succ]
            refine wpAnyH_take (i := 22) (oi := { dst := some 76, op := Op.move (Operand.tmp 2), type := 2, pos := "law.go:51", after := #[{ on := 20, ground := Ground.guard }], guard := some (20, true) }) (v := ?rtffv22) rfl (by kernel_rfl) (by kernel_rfl) (by kernel_rfl) (fun _ _ _ h => h) (Or.inl ⟨by rfl, ?rtffy22⟩) hHeld ?rtffr22
            case rtffy22 => (intro w hSw; (try dsimp only at hSw); go_simp; (try with_reducible rfl))
            try simp only [Act.put, List.setIfInBounds_toArray, List.set_cons_zero, List.set_cons_succ]
            refine wpAnyH_ready (rs := [23]) (by kernel_rfl) (by simp) ?_
            refine AllReadyH.cons (o := { dst := some 77, op := Op.call { callee := Callee.value (Operand.func 64), args := #[Operand.tmp 75, Operand.tmp 76], argTypes := #[86, 2] }, type := 4, pos := "law.go:51", after := #[{ on := 21, ground := Ground.data }, { on := 22, ground := Ground.data }, { on := 20, ground := Ground.chain }, { on := 20, ground := Ground.guard }], guard := some (20, true) }) rfl (fun K hK => ?_) AllReadyH.nil
            go_simp
            (with_reducible refine (HJN.out _).mono ?_)
            rintro e wx ⟨rfl, k⟩
            show K _ _
            have sx := S6W.out.later k (by first | exact Keeps.refl _ [] | exact (Keeps.refl _ []).drew)
            clear k c0 c1 c2 c3 c4 c5 c6 c7 S6W
            obtain ⟨c0, c1, c2, c3, c4, c5, c6, c7⟩ := sx.cells
            have S6W := kept sx
            clear sx
            clear hHeld
            refine hK.out _ _ ?rtffhS23 (fun hHeld => ?_)
            case rtffhS23 => exact ⟨c0, c1, c4, c5, c6, c7⟩
            clear hK K
            try simp only [Act.put, List.setIfInBounds_toArray, List.set_cons_zero, List.set_cons_succ]
            refine wpAnyH_take (i := 24) (oi := { dst := some 78, op := Op.unOp UnOp.not 4 (Operand.tmp 77), type := 4, pos := "law.go:51", after := #[{ on := 23, ground := Ground.data }, { on := 20, ground := Ground.guard }], guard := some (20, true) }) (v := ?rtffv24) rfl (by kernel_rfl) (by kernel_rfl) (by kernel_rfl) (fun _ _ _ h => h) (Or.inl ⟨by rfl, ?rtffy24⟩) hHeld ?rtffr24
            case rtffy24 => (intro w hSw; (try dsimp only at hSw); go_simp; (try with_reducible rfl))
            try simp only [Act.put, List.setIfInBounds_toArray, List.set_cons_zero, List.set_cons_succ]
            refine wpAnyH_take (i := 25) (oi := { dst := some 79, op := Op.pick (Operand.tmp 74) (Operand.tmp 78) (Operand.const (Value.bool false)), type := 4, pos := "law.go:51", after := #[{ on := 20, ground := Ground.data }, { on := 24, ground := Ground.data }, { on := 15, ground := Ground.guard }], guard := some (15, false) }) (v := ?rtffv25) rfl (by kernel_rfl) (by kernel_rfl) (by kernel_rfl) (fun _ _ _ h => h) (Or.inl ⟨by rfl, ?rtffy25⟩) hHeld ?rtffr25
            case rtffy25 => (intro w hSw; (try dsimp only at hSw); go_simp; (try with_reducible rfl))
            try simp only [Act.put, List.setIfInBounds_toArray, List.set_cons_zero, List.set_cons_succ]
            refine wpAnyH_take (i := 26) (oi := { dst := some 80, op := Op.pick (Operand.tmp 69) (Operand.const (Value.bool true)) (Operand.tmp 79), type := 4, pos := "law.go:51", after := #[{ on := 15, ground := Ground.data }, { on := 25, ground := Ground.data }], guard := none }) (v := ?rtffv26) rfl (by kernel_rfl) (by kernel_rfl) (by kernel_rfl) (fun _ _ _ h => h) (Or.inl ⟨by rfl, ?rtffy26⟩) hHeld ?rtffr26
            case rtffy26 => (intro w hSw; (try dsimp only at hSw); go_simp; (try with_reducible rfl))
            try simp only [Act.put, List.setIfInBounds_toArray, List.set_cons_zero, List.set_cons_succ]
            refine wpAnyH_take (i := 27) (oi := { dst := some 81, op := Op.move (Operand.tmp 80), type := 4, pos := "law.go:51", after := #[{ on := 26, ground := Ground.data }, { on := 23, ground := Ground.chain }], guard := none }) (v := ?rtffv27) rfl (by kernel_rfl) (by kernel_rfl) (by kernel_rfl) (fun _ _ _ h => h) (Or.inl ⟨by rfl, ?rtffy27⟩) hHeld ?rtffr27
            case rtffy27 => (intro w hSw; (try dsimp only at hSw); go_simp; (try with_reducible rfl))
            try simp only [Act.put, List.setIfInBounds_toArray, List.set_cons_zero, List.set_cons_succ]
            refine wpAnyH_take (i := 28) (oi := { dst := some 82, op := Op.load 86 (Operand.tmp 3), type := 86, pos := "law.go:51", after := #[{ on := 27, ground := Ground.guard }], guard := some (27, false) }) (v := ?rtffv28) rfl (by kernel_rfl) (by kernel_rfl) (by kernel_rfl) (fun _ _ _ h => h) (Or.inl ⟨by rfl, ?rtffy28⟩) hHeld ?rtffr28
            case rtffy28 => (intro w hSw; (try dsimp only at hSw); go_simp; (try with_reducible rfl))
            try simp only [Act.put, List.setIfInBounds_toArray, List.set_cons_zero, List.set_cons_succ]
            refine wpAnyH_take (i := 30) (oi := { dst := some 84, op := Op.move (Operand.tmp 9), type := 4, pos := "law.go:51", after := #[{ on := 27, ground := Ground.guard }], guard := some (27, false) }) (v := ?rtffv30) rfl (by kernel_rfl) (by kernel_rfl) (by kernel_rfl) (fun _ _ _ h => h) (Or.inl ⟨by rfl, ?rtffy30⟩) hHeld ?rtffr30
            case rtffy30 => (intro w hSw; (try dsimp only at hSw); go_simp; (try with_reducible rfl))
            try simp only [Act.put, List.setIfInBounds_toArray, List.set_cons_zero, List.set_cons_succ]
            refine wpAnyH_ready (rs := [29]) (by kernel_rfl) (by simp) ?_
            refine AllReadyH.cons (o := { dst := some 83, op := Op.call { callee := Callee.value (Operand.func 65), args := #[Operand.tmp 82], argTypes := #[86] }, type := 4, pos := "law.go:51", after := #[{ on := 28, ground := Ground.data }, { on := 27, ground := Ground.chain }, { on := 27, ground := Ground.guard }], guard := some (27, false) }) rfl (fun K hK => ?_) AllReadyH.nil
            go_simp
            (with_reducible refine (EA.out _).mono ?_)
            rintro e wx ⟨rfl, k⟩
            show K _ _
            have sx := S6W.out.later k (by first | exact Keeps.refl _ [] | exact (Keeps.refl _ []).drew)
            clear k c0 c1 c2 c3 c4 c5 c6 c7 S6W
            obtain ⟨c0, c1, c2, c3, c4, c5, c6, c7⟩ := sx.cells
            have S6W := kept sx
            clear sx
            clear hHeld
            refine hK.out _ _ ?rtffhS29 (fun hHeld => ?_)
            case rtffhS29 => exact ⟨c0, c1, c4, c5, c6, c7⟩
            clear hK K
            try simp only [Act.put, List.setIfInBounds_toArray, List.set_cons_zero, List.set_cons_succ]
            refine wpAnyH_take (i := 31) (oi := { dst := some 85, op := Op.binOp BinOp.neq 4 (Operand.tmp 83) (Operand.tmp 84) 4, type := 4, pos := "law.go:51", after := #[{ on := 29, ground := Ground.data }, { on := 30, ground := Ground.data }, { on := 27, ground := Ground.guard }], guard := some (27, false) }) (v := ?rtffv31) rfl (by kernel_rfl) (by kernel_rfl) (by kernel_rfl) (fun _ _ _ h => h) (Or.inl ⟨by rfl, ?rtffy31⟩) hHeld ?rtffr31
            case rtffy31 => (intro w hSw; (try dsimp only at hSw); go_simp; (try with_reducible rfl))
            try simp only [Act.put, List.setIfInBounds_toArray, List.set_cons_zero, List.set_cons_succ]
            refine wpAnyH_take (i := 32) (oi := { dst := some 86, op := Op.pick (Operand.tmp 81) (Operand.const (Value.bool true)) (Operand.tmp 85), type := 4, pos := "law.go:51", after := #[{ on := 27, ground := Ground.data }, { on := 31, ground := Ground.data }], guard := none }) (v := ?rtffv32) rfl (by kernel_rfl) (by kernel_rfl) (by kernel_rfl) (fun _ _ _ h => h) (Or.inl ⟨by rfl, ?rtffy32⟩) hHeld ?rtffr32
            case rtffy32 => (intro w hSw; (try dsimp only at hSw); go_simp; (try with_reducible rfl))
            try simp only [Act.put, List.setIfInBounds_toArray, List.set_cons_zero, List.set_cons_succ]
            refine wpAnyH_take (i := 33) (oi := { dst := some 87, op := Op.move (Operand.tmp 86), type := 4, pos := "law.go:51", after := #[{ on := 32, ground := Ground.data }, { on := 29, ground := Ground.chain }], guard := none }) (v := ?rtffv33) rfl (by kernel_rfl) (by kernel_rfl) (by kernel_rfl) (fun _ _ _ h => h) (Or.inl ⟨by rfl, ?rtffy33⟩) hHeld ?rtffr33
            case rtffy33 => (intro w hSw; (try dsimp only at hSw); go_simp; (try with_reducible rfl))
            try simp only [Act.put, List.setIfInBounds_toArray, List.set_cons_zero, List.set_cons_succ]
            refine wpAnyH_take (i := 34) (oi := { dst := some 88, op := Op.fieldAddr 86 (Operand.tmp 11) 0, type := 0, pos := "law.go:51", after := #[{ on := 33, ground := Ground.guard }], guard := some (33, false) }) (v := ?rtffv34) rfl (by kernel_rfl) (by kernel_rfl) (by kernel_rfl) (fun _ _ _ h => h) (Or.inl ⟨by rfl, ?rtffy34⟩) hHeld ?rtffr34
            case rtffy34 => (intro w hSw; (try dsimp only at hSw); go_simp; (try with_reducible rfl))
            try simp only [Act.put, List.setIfInBounds_toArray, List.set_cons_zero, List.set_cons_succ]
            refine wpAnyH_take (i := 35) (oi := { dst := some 89, op := Op.load 2 (Operand.tmp 88), type := 2, pos := "law.go:51", after := #[{ on := 34, ground := Ground.data }, { on := 33, ground := Ground.guard }], guard := some (33, false) }) (v := ?rtffv35) rfl (by kernel_rfl) (by kernel_rfl) (by kernel_rfl) (fun _ _ _ h => h) (Or.inl ⟨by rfl, ?rtffy35⟩) hHeld ?rtffr35
            case rtffy35 => (intro w hSw; (try dsimp only at hSw); go_simp; (try with_reducible rfl))
            try simp only [Act.put, List.setIfInBounds_toArray, List.set_cons_zero, List.set_cons_succ]
            refine wpAnyH_take (i := 36) (oi := { dst := some 90, op := Op.fieldAddr 86 (Operand.tmp 11) 1, type := 0, pos := "law.go:51", after := #[{ on := 33, ground := Ground.guard }], guard := some (33, false) }) (v := ?rtffv36) rfl (by kernel_rfl) (by kernel_rfl) (by kernel_rfl) (fun _ _ _ h => h) (Or.inl ⟨by rfl, ?rtffy36⟩) hHeld ?rtffr36
            case rtffy36 => (intro w hSw; (try dsimp only at hSw); go_simp; (try with_reducible rfl))
            try simp only [Act.put, List.setIfInBounds_toArray, List.set_cons_zero, List.set_cons_succ]
            refine wpAnyH_take (i := 37) (oi := { dst := some 91, op := Op.load 2 (Operand.tmp 90), type := 2, pos := "law.go:51", after := #[{ on := 36, ground := Ground.data }, { on := 33, ground := Ground.guard }], guard := some (33, false) }) (v := ?rtffv37) rfl (by kernel_rfl) (by kernel_rfl) (by kernel_rfl) (fun _ _ _ h => h) (Or.inl ⟨by rfl, ?rtffy37⟩) hHeld ?rtffr37
            case rtffy37 => (intro w hSw; (try dsimp only at hSw); go_simp; (try with_reducible rfl))
            try simp only [Act.put, List.setIfInBounds_toArray, List.set_cons_zero, List.set_cons_succ]
            refine wpAnyH_take (i := 38) (oi := { dst := some 92, op := Op.binOp BinOp.gtr 2 (Operand.tmp 89) (Operand.tmp 91) 2, type := 4, pos := "law.go:51", after := #[{ on := 35, ground := Ground.data }, { on := 37, ground := Ground.data }, { on := 33, ground := Ground.guard }], guard := some (33, false) }) (v := ?rtffv38) rfl (by kernel_rfl) (by kernel_rfl) (by kernel_rfl) (fun _ _ _ h => h) (Or.inl ⟨by rfl, ?rtffy38⟩) hHeld ?rtffr38
            case rtffy38 => (intro w hSw; (try dsimp only at hSw); go_simp; (try with_reducible rfl))
            try simp only [Act.put, List.setIfInBounds_toArray, List.set_cons_zero, List.set_cons_succ]
            refine wpAnyH_take (i := 39) (oi := { dst := some 93, op := Op.move (Operand.tmp 92), type := 4, pos := "law.go:51", after := #[{ on := 38, ground := Ground.data }, { on := 33, ground := Ground.chain }, { on := 33, ground := Ground.guard }], guard := some (33, false) }) (v := ?rtffv39) rfl (by kernel_rfl) (by kernel_rfl) (by kernel_rfl) (fun _ _ _ h => h) (Or.inl ⟨by rfl, ?rtffy39⟩) hHeld ?rtffr39
            case rtffy39 => (intro w hSw; (try dsimp only at hSw); go_simp; (try with_reducible rfl))
            try simp only [Act.put, List.setIfInBounds_toArray, List.set_cons_zero, List.set_cons_succ]
            refine wpAnyH_take (i := 40) (oi := { dst := some 94, op := Op.load 86 (Operand.tmp 11), type := 86, pos := "law.go:51", after := #[{ on := 39, ground := Ground.guard }], guard := some (39, true) }) (v := undef) rfl (by kernel_rfl) (by kernel_rfl) (by kernel_rfl) (fun _ _ _ h => h) (Or.inr ⟨by rfl, rfl⟩) hHeld ?_
            try simp only [Act.put, List.setIfInBounds_toArray, List.set_cons_zero, List.set_cons_succ]
            refine wpAnyH_take (i := 41) (oi := { dst := some 95, op := Op.call { callee := Callee.value (Operand.func 66), args := #[], argTypes := #[] }, type := 86, pos := "law.go:51", after := #[{ on := 39, ground := Ground.chain }, { on := 39, ground := Ground.guard }], guard := some (39, true) }) (v := undef) rfl (by kernel_rfl) (by kernel_rfl) (by kernel_rfl) (fun _ _ _ h => h) (Or.inr ⟨by rfl, rfl⟩) hHeld ?_
            try simp only [Act.put, List.setIfInBounds_toArray, List.set_cons_zero, List.set_cons_succ]
            refine wpAnyH_take (i := 42) (oi := { dst := some 96, op := Op.binOp BinOp.neq 86 (Operand.tmp 94) (Operand.tmp 95) 86, type := 4, pos := "law.go:51", after := #[{ on := 40, ground := Ground.data }, { on := 41, ground := Ground.data }, { on := 39, ground := Ground.guard }], guard := some (39, true) }) (v := undef) rfl (by kernel_rfl) (by kernel_rfl) (by kernel_rfl) (fun _ _ _ h => h) (Or.inr ⟨by rfl, rfl⟩) hHeld ?_
            try simp only [Act.put, List.setIfInBounds_toArray, List.set_cons_zero, List.set_cons_succ]
            refine wpAnyH_take (i := 43) (oi := { dst := some 97, op := Op.pick (Operand.tmp 93) (Operand.tmp 96) (Operand.const (Value.bool false)), type := 4, pos := "law.go:51", after := #[{ on := 39, ground := Ground.data }, { on := 42, ground := Ground.data }, { on := 33, ground := Ground.guard }], guard := some (33, false) }) (v := ?rtffv43) rfl (by kernel_rfl) (by kernel_rfl) (by kernel_rfl) (fun _ _ _ h => h) (Or.inl ⟨by rfl, ?rtffy43⟩) hHeld ?rtffr43
            case rtffy43 => (intro w hSw; (try dsimp only at hSw); go_simp; (try with_reducible rfl))
            try simp only [Act.put, List.setIfInBounds_toArray, List.set_cons_zero, List.set_cons_succ]
            refine wpAnyH_take (i := 44) (oi := { dst := some 98, op := Op.pick (Operand.tmp 87) (Operand.const (Value.bool true)) (Operand.tmp 97), type := 4, pos := "law.go:51", after := #[{ on := 33, ground := Ground.data }, { on := 43, ground := Ground.data }], guard := none }) (v := ?rtffv44) rfl (by kernel_rfl) (by kernel_rfl) (by kernel_rfl) (fun _ _ _ h => h) (Or.inl ⟨by rfl, ?rtffy44⟩) hHeld ?rtffr44
            case rtffy44 => (intro w hSw; (try dsimp only at hSw); go_simp; (try with_reducible rfl))
            try simp only [Act.put, List.setIfInBounds_toArray, List.set_cons_zero, List.set_cons_succ]
            refine wpAnyH_done (by kernel_rfl) ?_ _
            go_wp2
            go_meet
            exact ⟨rfl, S6W.out⟩
        · have HMN := HMQ
          have HJN := kept (HJP.out trivial)
          rcases Bool.eq_false_or_eq_true (decide (mh < ml)) with hM | hM
          · exact absurd (of_decide_eq_true hM) (not_empty_of HAM.out)
          · have hM' := hM
            refine wp_region_held_drew (S := (fun w' => w'.cell? ⟨w.heap.size, 0, none⟩ = some (.int .i64 al) ∧ w'.cell? ⟨w.heap.size, 1, none⟩ = some (.int .i64 ah) ∧ w'.cell? ⟨gm, 0, none⟩ = some (.int .i64 ml) ∧ w'.cell? ⟨gm, 1, none⟩ = some (.int .i64 mh) ∧ w'.cell? ⟨gj, 0, none⟩ = some (.int .i64 jl) ∧ w'.cell? ⟨gj, 1, none⟩ = some (.int .i64 jh))) (by kernel_rfl) ?rttfhSs (fun hHeld => ?_)
            case rttfhSs => exact ⟨c0, c1, c4, c5, c6, c7⟩
            refine wpAnyH_take (i := 0) (oi := { dst := some 54, op := Op.load 86 (Operand.tmp 3), type := 86, pos := "law.go:51", after := #[], guard := none }) (v := ?rttfv0) rfl (by kernel_rfl) (by kernel_rfl) (by kernel_rfl) (fun _ _ _ h => h) (Or.inl ⟨by rfl, ?rttfy0⟩) hHeld ?rttfr0
            case rttfy0 => (intro w hSw; (try dsimp only at hSw); go_simp; (try with_reducible rfl))
            try simp only [Act.put, List.setIfInBounds_toArray, List.set_cons_zero, List.set_cons_succ]
            refine wpAnyH_take (i := 1) (oi := { dst := some 55, op := Op.move (Operand.tmp 2), type := 2, pos := "law.go:51", after := #[], guard := none }) (v := ?rttfv1) rfl (by kernel_rfl) (by kernel_rfl) (by kernel_rfl) (fun _ _ _ h => h) (Or.inl ⟨by rfl, ?rttfy1⟩) hHeld ?rttfr1
            case rttfy1 => (intro w hSw; (try dsimp only at hSw); go_simp; (try with_reducible rfl))
            try simp only [Act.put, List.setIfInBounds_toArray, List.set_cons_zero, List.set_cons_succ]
            refine wpAnyH_take (i := 3) (oi := { dst := some 57, op := Op.move (Operand.tmp 7), type := 4, pos := "law.go:51", after := #[], guard := none }) (v := ?rttfv3) rfl (by kernel_rfl) (by kernel_rfl) (by kernel_rfl) (fun _ _ _ h => h) (Or.inl ⟨by rfl, ?rttfy3⟩) hHeld ?rttfr3
            case rttfy3 => (intro w hSw; (try dsimp only at hSw); go_simp; (try with_reducible rfl))
            try simp only [Act.put, List.setIfInBounds_toArray, List.set_cons_zero, List.set_cons_succ]
            refine wpAnyH_ready (rs := [2]) (by kernel_rfl) (by simp) ?_
            refine AllReadyH.cons (o := { dst := some 56, op := Op.call { callee := Callee.value (Operand.func 64), args := #[Operand.tmp 54, Operand.tmp 55], argTypes := #[86, 2] }, type := 4, pos := "law.go:51", after := #[{ on := 0, ground := Ground.data }, { on := 1, ground := Ground.data }], guard := none }) rfl (fun K hK => ?_) AllReadyH.nil
            go_simp
            (with_reducible refine (HA.out _).mono ?_)
            rintro e wx ⟨rfl, k⟩
            show K _ _
            have sx := S6W.out.later k (by first | exact Keeps.refl _ [] | exact (Keeps.refl _ []).drew)
            clear k c0 c1 c2 c3 c4 c5 c6 c7 S6W
            obtain ⟨c0, c1, c2, c3, c4, c5, c6, c7⟩ := sx.cells
            have S6W := kept sx
            clear sx
            clear hHeld
            refine hK.out _ _ ?rttfhS2 (fun hHeld => ?_)
            case rttfhS2 => exact ⟨c0, c1, c4, c5, c6, c7⟩
            clear hK K
            try simp only [Act.put, List.setIfInBounds_toArray, List.set_cons_zero, List.set_cons_succ]
            refine wpAnyH_take (i := 4) (oi := { dst := some 58, op := Op.binOp BinOp.neq 4 (Operand.tmp 56) (Operand.tmp 57) 4, type := 4, pos := "law.go:51", after := #[{ on := 2, ground := Ground.data }, { on := 3, ground := Ground.data }], guard := none }) (v := ?rttfv4) rfl (by kernel_rfl) (by kernel_rfl) (by kernel_rfl) (fun _ _ _ h => h) (Or.inl ⟨by rfl, ?rttfy4⟩) hHeld ?rttfr4
            case rttfy4 => (intro w hSw; (try dsimp only at hSw); go_simp; (try with_reducible rfl))
            try simp only [Act.put, List.setIfInBounds_toArray, List.set_cons_zero, List.set_cons_succ]
            refine wpAnyH_take (i := 5) (oi := { dst := some 59, op := Op.move (Operand.tmp 58), type := 4, pos := "law.go:51", after := #[{ on := 4, ground := Ground.data }, { on := 2, ground := Ground.chain }], guard := none }) (v := ?rttfv5) rfl (by kernel_rfl) (by kernel_rfl) (by kernel_rfl) (fun _ _ _ h => h) (Or.inl ⟨by rfl, ?rttfy5⟩) hHeld ?rttfr5
            case rttfy5 => (intro w hSw; (try dsimp only at hSw); go_simp; (try with_reducible rfl))
            try simp only [Act.put, List.setIfInBounds_toArray, List.set_cons_zero, List.set_cons_succ]
            refine wpAnyH_take (i := 6) (oi := { dst := some 60, op := Op.load 86 (Operand.tmp 11), type := 86, pos := "law.go:51", after := #[{ on := 5, ground := Ground.guard }], guard := some (5, false) }) (v := ?rttfv6) rfl (by kernel_rfl) (by kernel_rfl) (by kernel_rfl) (fun _ _ _ h => h) (Or.inl ⟨by rfl, ?rttfy6⟩) hHeld ?rttfr6
            case rttfy6 => (intro w hSw; (try dsimp only at hSw); go_simp; (try with_reducible rfl))
            try simp only [Act.put, List.setIfInBounds_toArray, List.set_cons_zero, List.set_cons_succ]
            refine wpAnyH_take (i := 7) (oi := { dst := some 61, op := Op.move (Operand.tmp 2), type := 2, pos := "law.go:51", after := #[{ on := 5, ground := Ground.guard }], guard := some (5, false) }) (v := ?rttfv7) rfl (by kernel_rfl) (by kernel_rfl) (by kernel_rfl) (fun _ _ _ h => h) (Or.inl ⟨by rfl, ?rttfy7⟩) hHeld ?rttfr7
            case rttfy7 => (intro w hSw; (try dsimp only at hSw); go_simp; (try with_reducible rfl))
            try simp only [Act.put, List.setIfInBounds_toArray, List.set_cons_zero, List.set_cons_succ]
            refine wpAnyH_take (i := 9) (oi := { dst := some 63, op := Op.move (Operand.tmp 7), type := 4, pos := "law.go:51", after := #[{ on := 5, ground := Ground.guard }], guard := some (5, false) }) (v := ?rttfv9) rfl (by kernel_rfl) (by kernel_rfl) (by kernel_rfl) (fun _ _ _ h => h) (Or.inl ⟨by rfl, ?rttfy9⟩) hHeld ?rttfr9
            case rttfy9 => (intro w hSw; (try dsimp only at hSw); go_simp; (try with_reducible rfl))
            try simp only [Act.put, List.setIfInBounds_toArray, List.set_cons_zero, List.set_cons_succ]
            refine wpAnyH_ready (rs := [8]) (by kernel_rfl) (by simp) ?_
            refine AllReadyH.cons (o := { dst := some 62, op := Op.call { callee := Callee.value (Operand.func 64), args := #[Operand.tmp 60, Operand.tmp 61], argTypes := #[86, 2] }, type := 4, pos := "law.go:51", after := #[{ on := 6, ground := Ground.data }, { on := 7, ground := Ground.data }, { on := 5, ground := Ground.chain }, { on := 5, ground := Ground.guard }], guard := some (5, false) }) rfl (fun K hK => ?_) AllReadyH.nil
            go_simp
            (with_reducible refine (HMN.out _).mono ?_)
            rintro e wx ⟨rfl, k⟩
            show K _ _
            have sx := S6W.out.later k (by first | exact Keeps.refl _ [] | exact (Keeps.refl _ []).drew)
            clear k c0 c1 c2 c3 c4 c5 c6 c7 S6W
            obtain ⟨c0, c1, c2, c3, c4, c5, c6, c7⟩ := sx.cells
            have S6W := kept sx
            clear sx
            clear hHeld
            refine hK.out _ _ ?rttfhS8 (fun hHeld => ?_)
            case rttfhS8 => exact ⟨c0, c1, c4, c5, c6, c7⟩
            clear hK K
            try simp only [Act.put, List.setIfInBounds_toArray, List.set_cons_zero, List.set_cons_succ]
            refine wpAnyH_take (i := 10) (oi := { dst := some 64, op := Op.move (Operand.tmp 63), type := 4, pos := "law.go:51", after := #[{ on := 9, ground := Ground.data }, { on := 8, ground := Ground.chain }, { on := 5, ground := Ground.guard }], guard := some (5, false) }) (v := ?rttfv10) rfl (by kernel_rfl) (by kernel_rfl) (by kernel_rfl) (fun _ _ _ h => h) (Or.inl ⟨by rfl, ?rttfy10⟩) hHeld ?rttfr10
            case rttfy10 => (intro w hSw; (try dsimp only at hSw); go_simp; (try with_reducible rfl))
            try simp only [Act.put, List.setIfInBounds_toArray, List.set_cons_zero, List.set_cons_succ]
            refine wpAnyH_take (i := 11) (oi := { dst := some 65, op := Op.move (Operand.tmp 8), type := 4, pos := "law.go:51", after := #[{ on := 10, ground := Ground.guard }], guard := some (10, true) }) (v := ?rttfv11) rfl (by kernel_rfl) (by kernel_rfl) (by kernel_rfl) (fun _ _ _ h => h) (Or.inl ⟨by rfl, ?rttfy11⟩) hHeld ?rttfr11
            case rttfy11 => (intro w hSw; (try dsimp only at hSw); go_simp; (try with_reducible rfl))
            try simp only [Act.put, List.setIfInBounds_toArray, List.set_cons_zero, List.set_cons_succ]
            refine wpAnyH_take (i := 12) (oi := { dst := some 66, op := Op.pick (Operand.tmp 64) (Operand.tmp 65) (Operand.const (Value.bool false)), type := 4, pos := "law.go:51", after := #[{ on := 10, ground := Ground.data }, { on := 11, ground := Ground.data }, { on := 5, ground := Ground.guard }], guard := some (5, false) }) (v := ?rttfv12) rfl (by kernel_rfl) (by kernel_rfl) (by kernel_rfl) (fun _ _ _ h => h) (Or.inl ⟨by rfl, ?rttfy12⟩) hHeld ?rttfr12
            case rttfy12 => (intro w hSw; (try dsimp only at hSw); go_simp; (try with_reducible rfl))
            try simp only [Act.put, List.setIfInBounds_toArray, List.set_cons_zero, List.set_cons_succ]
            refine wpAnyH_take (i := 13) (oi := { dst := some 67, op := Op.binOp BinOp.neq 4 (Operand.tmp 62) (Operand.tmp 66) 4, type := 4, pos := "law.go:51", after := #[{ on := 8, ground := Ground.data }, { on := 12, ground := Ground.data }, { on := 5, ground := Ground.guard }], guard := some (5, false) }) (v := ?rttfv13) rfl (by kernel_rfl) (by kernel_rfl) (by kernel_rfl) (fun _ _ _ h => h) (Or.inl ⟨by rfl, ?rttfy13⟩) hHeld ?rttfr13
            case rttfy13 => (intro w hSw; (try dsimp only at hSw); go_simp; (try with_reducible rfl))
            try simp only [Act.put, List.setIfInBounds_toArray, List.set_cons_zero, List.set_cons_succ]
            refine wpAnyH_take (i := 14) (oi := { dst := some 68, op := Op.pick (Operand.tmp 59) (Operand.const (Value.bool true)) (Operand.tmp 67), type := 4, pos := "law.go:51", after := #[{ on := 5, ground := Ground.data }, { on := 13, ground := Ground.data }], guard := none }) (v := ?rttfv14) rfl (by kernel_rfl) (by kernel_rfl) (by kernel_rfl) (fun _ _ _ h => h) (Or.inl ⟨by rfl, ?rttfy14⟩) hHeld ?rttfr14
            case rttfy14 => (intro w hSw; (try dsimp only at hSw); go_simp; (try with_reducible rfl))
            try simp only [Act.put, List.setIfInBounds_toArray, List.set_cons_zero, List.set_cons_succ]
            refine wpAnyH_take (i := 15) (oi := { dst := some 69, op := Op.move (Operand.tmp 68), type := 4, pos := "law.go:51", after := #[{ on := 14, ground := Ground.data }, { on := 10, ground := Ground.chain }], guard := none }) (v := ?rttfv15) rfl (by kernel_rfl) (by kernel_rfl) (by kernel_rfl) (fun _ _ _ h => h) (Or.inl ⟨by rfl, ?rttfy15⟩) hHeld ?rttfr15
            case rttfy15 => (intro w hSw; (try dsimp only at hSw); go_simp; (try with_reducible rfl))
            try simp only [Act.put, List.setIfInBounds_toArray, List.set_cons_zero, List.set_cons_succ]
            refine wpAnyH_take (i := 16) (oi := { dst := some 70, op := Op.move (Operand.tmp 7), type := 4, pos := "law.go:51", after := #[{ on := 15, ground := Ground.guard }], guard := some (15, false) }) (v := ?rttfv16) rfl (by kernel_rfl) (by kernel_rfl) (by kernel_rfl) (fun _ _ _ h => h) (Or.inl ⟨by rfl, ?rttfy16⟩) hHeld ?rttfr16
            case rttfy16 => (intro w hSw; (try dsimp only at hSw); go_simp; (try with_reducible rfl))
            try simp only [Act.put, List.setIfInBounds_toArray, List.set_cons_zero, List.set_cons_succ]
            refine wpAnyH_take (i := 17) (oi := { dst := some 71, op := Op.move (Operand.tmp 70), type := 4, pos := "law.go:51", after := #[{ on := 16, ground := Ground.data }, { on := 15, ground := Ground.chain }, { on := 15, ground := Ground.guard }], guard := some (15, false) }) (v := ?rttfv17) rfl (by kernel_rfl) (by kernel_rfl) (by kernel_rfl) (fun _ _ _ h => h) (Or.inl ⟨by rfl, ?rttfy17⟩) hHeld ?rttfr17
            case rttfy17 => (intro w hSw; (try dsimp only at hSw); go_simp; (try with_reducible rfl))
            try simp only [Act.put, List.setIfInBounds_toArray, List.set_cons_zero, List.set_cons_succ]
            refine wpAnyH_take (i := 18) (oi := { dst := some 72, op := Op.move (Operand.tmp 8), type := 4, pos := "law.go:51", after := #[{ on := 17, ground := Ground.guard }], guard := some (17, false) }) (v := undef) rfl (by kernel_rfl) (by kernel_rfl) (by kernel_rfl) (fun _ _ _ h => h) (Or.inr ⟨by rfl, rfl⟩) hHeld ?_
            try simp only [Act.put, List.setIfInBounds_toArray, List.set_cons_zero, List.set_cons_succ]
            refine wpAnyH_take (i := 19) (oi := { dst := some 73, op := Op.pick (Operand.tmp 71) (Operand.const (Value.bool true)) (Operand.tmp 72), type := 4, pos := "law.go:51", after := #[{ on := 17, ground := Ground.data }, { on := 18, ground := Ground.data }, { on := 15, ground := Ground.guard }], guard := some (15, false) }) (v := ?rttfv19) rfl (by kernel_rfl) (by kernel_rfl) (by kernel_rfl) (fun _ _ _ h => h) (Or.inl ⟨by rfl, ?rttfy19⟩) hHeld ?rttfr19
            case rttfy19 => (intro w hSw; (try dsimp only at hSw); go_simp; (try with_reducible rfl))
            try simp only [Act.put, List.setIfInBounds_toArray, List.set_cons_zero, List.set_cons_succ]
            refine wpAnyH_take (i := 20) (oi := { dst := some 74, op := Op.move (Operand.tmp 73), type := 4, pos := "law.go:51", after := #[{ on := 19, ground := Ground.data }, { on := 17, ground := Ground.chain }, { on := 15, ground := Ground.guard }], guard := some (15, false) }) (v := ?rttfv20) rfl (by kernel_rfl) (by kernel_rfl) (by kernel_rfl) (fun _ _ _ h => h) (Or.inl ⟨by rfl, ?rttfy20⟩) hHeld ?rttfr20
            case rttfy20 => (intro w hSw; (try dsimp only at hSw); go_simp; (try with_reducible rfl))
            try simp only [Act.put, List.setIfInBounds_toArray, List.set_cons_zero, List.set_cons_succ]
            refine wpAnyH_take (i := 21) (oi := { dst := some 75, op := Op.load 86 (Operand.tmp 12), type := 86, pos := "law.go:51", after := #[{ on := 20, ground := Ground.guard }], guard := some (20, true) }) (v := ?rttfv21) rfl (by kernel_rfl) (by kernel_rfl) (by kernel_rfl) (fun _ _ _ h => h) (Or.inl ⟨by rfl, ?rttfy21⟩) hHeld ?rttfr21
            case rttfy21 => (intro w hSw; (try dsimp only at hSw); go_simp; (try with_reducible rfl))
            try simp only [Act.put, List.setIfInBounds_toArray, List.set_cons_zero, List.set_cons_succ]
            refine wpAnyH_take (i := 22) (oi := { dst := some 76, op := Op.move (Operand.tmp 2), type := 2, pos := "law.go:51", after := #[{ on := 20, ground := Ground.guard }], guard := some (20, true) }) (v := ?rttfv22) rfl (by kernel_rfl) (by kernel_rfl) (by kernel_rfl) (fun _ _ _ h => h) (Or.inl ⟨by rfl, ?rttfy22⟩) hHeld ?rttfr22
            case rttfy22 => (intro w hSw; (try dsimp only at hSw); go_simp; (try with_reducible rfl))
            try simp only [Act.put, List.setIfInBounds_toArray, List.set_cons_zero, List.set_cons_succ]
            refine wpAnyH_ready (rs := [23]) (by kernel_rfl) (by simp) ?_
            refine AllReadyH.cons (o := { dst := some 77, op := Op.call { callee := Callee.value (Operand.func 64), args := #[Operand.tmp 75, Operand.tmp 76], argTypes := #[86, 2] }, type := 4, pos := "law.go:51", after := #[{ on := 21, ground := Ground.data }, { on := 22, ground := Ground.data }, { on := 20, ground := Ground.chain }, { on := 20, ground := Ground.guard }], guard := some (20, true) }) rfl (fun K hK => ?_) AllReadyH.nil
            go_simp
            (with_reducible refine (HJN.out _).mono ?_)
            rintro e wx ⟨rfl, k⟩
            show K _ _
            have sx := S6W.out.later k (by first | exact Keeps.refl _ [] | exact (Keeps.refl _ []).drew)
            clear k c0 c1 c2 c3 c4 c5 c6 c7 S6W
            obtain ⟨c0, c1, c2, c3, c4, c5, c6, c7⟩ := sx.cells
            have S6W := kept sx
            clear sx
            clear hHeld
            refine hK.out _ _ ?rttfhS23 (fun hHeld => ?_)
            case rttfhS23 => exact ⟨c0, c1, c4, c5, c6, c7⟩
            clear hK K
            try simp only [Act.put, List.setIfInBounds_toArray, List.set_cons_zero, List.set_cons_succ]
            refine wpAnyH_take (i := 24) (oi := { dst := some 78, op := Op.unOp UnOp.not 4 (Operand.tmp 77), type := 4, pos := "law.go:51", after := #[{ on := 23, ground := Ground.data }, { on := 20, ground := Ground.guard }], guard := some (20, true) }) (v := ?rttfv24) rfl (by kernel_rfl) (by kernel_rfl) (by kernel_rfl) (fun _ _ _ h => h) (Or.inl ⟨by rfl, ?rttfy24⟩) hHeld ?rttfr24
            case rttfy24 => (intro w hSw; (try dsimp only at hSw); go_simp; (try with_reducible rfl))
            try simp only [Act.put, List.setIfInBounds_toArray, List.set_cons_zero, List.set_cons_succ]
            refine wpAnyH_take (i := 25) (oi := { dst := some 79, op := Op.pick (Operand.tmp 74) (Operand.tmp 78) (Operand.const (Value.bool false)), type := 4, pos := "law.go:51", after := #[{ on := 20, ground := Ground.data }, { on := 24, ground := Ground.data }, { on := 15, ground := Ground.guard }], guard := some (15, false) }) (v := ?rttfv25) rfl (by kernel_rfl) (by kernel_rfl) (by kernel_rfl) (fun _ _ _ h => h) (Or.inl ⟨by rfl, ?rttfy25⟩) hHeld ?rttfr25
            case rttfy25 => (intro w hSw; (try dsimp only at hSw); go_simp; (try with_reducible rfl))
            try simp only [Act.put, List.setIfInBounds_toArray, List.set_cons_zero, List.set_cons_succ]
            refine wpAnyH_take (i := 26) (oi := { dst := some 80, op := Op.pick (Operand.tmp 69) (Operand.const (Value.bool true)) (Operand.tmp 79), type := 4, pos := "law.go:51", after := #[{ on := 15, ground := Ground.data }, { on := 25, ground := Ground.data }], guard := none }) (v := ?rttfv26) rfl (by kernel_rfl) (by kernel_rfl) (by kernel_rfl) (fun _ _ _ h => h) (Or.inl ⟨by rfl, ?rttfy26⟩) hHeld ?rttfr26
            case rttfy26 => (intro w hSw; (try dsimp only at hSw); go_simp; (try with_reducible rfl))
            try simp only [Act.put, List.setIfInBounds_toArray, List.set_cons_zero, List.set_cons_succ]
            refine wpAnyH_take (i := 27) (oi := { dst := some 81, op := Op.move (Operand.tmp 80), type := 4, pos := "law.go:51", after := #[{ on := 26, ground := Ground.data }, { on := 23, ground := Ground.chain }], guard := none }) (v := ?rttfv27) rfl (by kernel_rfl) (by kernel_rfl) (by kernel_rfl) (fun _ _ _ h => h) (Or.inl ⟨by rfl, ?rttfy27⟩) hHeld ?rttfr27
            case rttfy27 => (intro w hSw; (try dsimp only at hSw); go_simp; (try with_reducible rfl))
            try simp only [Act.put, List.setIfInBounds_toArray, List.set_cons_zero, List.set_cons_succ]
            refine wpAnyH_take (i := 28) (oi := { dst := some 82, op := Op.load 86 (Operand.tmp 3), type := 86, pos := "law.go:51", after := #[{ on := 27, ground := Ground.guard }], guard := some (27, false) }) (v := ?rttfv28) rfl (by kernel_rfl) (by kernel_rfl) (by kernel_rfl) (fun _ _ _ h => h) (Or.inl ⟨by rfl, ?rttfy28⟩) hHeld ?rttfr28
            case rttfy28 => (intro w hSw; (try dsimp only at hSw); go_simp; (try with_reducible rfl))
            try simp only [Act.put, List.setIfInBounds_toArray, List.set_cons_zero, List.set_cons_succ]
            refine wpAnyH_take (i := 30) (oi := { dst := some 84, op := Op.move (Operand.tmp 9), type := 4, pos := "law.go:51", after := #[{ on := 27, ground := Ground.guard }], guard := some (27, false) }) (v := ?rttfv30) rfl (by kernel_rfl) (by kernel_rfl) (by kernel_rfl) (fun _ _ _ h => h) (Or.inl ⟨by rfl, ?rttfy30⟩) hHeld ?rttfr30
            case rttfy30 => (intro w hSw; (try dsimp only at hSw); go_simp; (try with_reducible rfl))
            try simp only [Act.put, List.setIfInBounds_toArray, List.set_cons_zero, List.set_cons_succ]
            refine wpAnyH_ready (rs := [29]) (by kernel_rfl) (by simp) ?_
            refine AllReadyH.cons (o := { dst := some 83, op := Op.call { callee := Callee.value (Operand.func 65), args := #[Operand.tmp 82], argTypes := #[86] }, type := 4, pos := "law.go:51", after := #[{ on := 28, ground := Ground.data }, { on := 27, ground := Ground.chain }, { on := 27, ground := Ground.guard }], guard := some (27, false) }) rfl (fun K hK => ?_) AllReadyH.nil
            go_simp
            (with_reducible refine (EA.out _).mono ?_)
            rintro e wx ⟨rfl, k⟩
            show K _ _
            have sx := S6W.out.later k (by first | exact Keeps.refl _ [] | exact (Keeps.refl _ []).drew)
            clear k c0 c1 c2 c3 c4 c5 c6 c7 S6W
            obtain ⟨c0, c1, c2, c3, c4, c5, c6, c7⟩ := sx.cells
            have S6W := kept sx
            clear sx
            clear hHeld
            refine hK.out _ _ ?rttfhS29 (fun hHeld => ?_)
            case rttfhS29 => exact ⟨c0, c1, c4, c5, c6, c7⟩
            clear hK K
            try simp only [Act.put, List.setIfInBounds_toArray, List.set_cons_zero, List.set_cons_succ]
            refine wpAnyH_take (i := 31) (oi := { dst := some 85, op := Op.binOp BinOp.neq 4 (Operand.tmp 83) (Operand.tmp 84) 4, type := 4, pos := "law.go:51", after := #[{ on := 29, ground := Ground.data }, { on := 30, ground := Ground.data }, { on := 27, ground := Ground.guard }], guard := some (27, false) }) (v := ?rttfv31) rfl (by kernel_rfl) (by kernel_rfl) (by kernel_rfl) (fun _ _ _ h => h) (Or.inl ⟨by rfl, ?rttfy31⟩) hHeld ?rttfr31
            case rttfy31 => (intro w hSw; (try dsimp only at hSw); go_simp; (try with_reducible rfl))
            try simp only [Act.put, List.setIfInBounds_toArray, List.set_cons_zero, List.set_cons_succ]
            refine wpAnyH_take (i := 32) (oi := { dst := some 86, op := Op.pick (Operand.tmp 81) (Operand.const (Value.bool true)) (Operand.tmp 85), type := 4, pos := "law.go:51", after := #[{ on := 27, ground := Ground.data }, { on := 31, ground := Ground.data }], guard := none }) (v := ?rttfv32) rfl (by kernel_rfl) (by kernel_rfl) (by kernel_rfl) (fun _ _ _ h => h) (Or.inl ⟨by rfl, ?rttfy32⟩) hHeld ?rttfr32
            case rttfy32 => (intro w hSw; (try dsimp only at hSw); go_simp; (try with_reducible rfl))
            try simp only [Act.put, List.setIfInBounds_toArray, List.set_cons_zero, List.set_cons_succ]
            refine wpAnyH_take (i := 33) (oi := { dst := some 87, op := Op.move (Operand.tmp 86), type := 4, pos := "law.go:51", after := #[{ on := 32, ground := Ground.data }, { on := 29, ground := Ground.chain }], guard := none }) (v := ?rttfv33) rfl (by kernel_rfl) (by kernel_rfl) (by kernel_rfl) (fun _ _ _ h => h) (Or.inl ⟨by rfl, ?rttfy33⟩) hHeld ?rttfr33
            case rttfy33 => (intro w hSw; (try dsimp only at hSw); go_simp; (try with_reducible rfl))
            try simp only [Act.put, List.setIfInBounds_toArray, List.set_cons_zero, List.set_cons_succ]
            refine wpAnyH_take (i := 34) (oi := { dst := some 88, op := Op.fieldAddr 86 (Operand.tmp 11) 0, type := 0, pos := "law.go:51", after := #[{ on := 33, ground := Ground.guard }], guard := some (33, false) }) (v := ?rttfv34) rfl (by kernel_rfl) (by kernel_rfl) (by kernel_rfl) (fun _ _ _ h => h) (Or.inl ⟨by rfl, ?rttfy34⟩) hHeld ?rttfr34
            case rttfy34 => (intro w hSw; (try dsimp only at hSw); go_simp; (try with_reducible rfl))
            try simp only [Act.put, List.setIfInBounds_toArray, List.set_cons_zero, List.set_cons_succ]
            refine wpAnyH_take (i := 35) (oi := { dst := some 89, op := Op.load 2 (Operand.tmp 88), type := 2, pos := "law.go:51", after := #[{ on := 34, ground := Ground.data }, { on := 33, ground := Ground.guard }], guard := some (33, false) }) (v := ?rttfv35) rfl (by kernel_rfl) (by kernel_rfl) (by kernel_rfl) (fun _ _ _ h => h) (Or.inl ⟨by rfl, ?rttfy35⟩) hHeld ?rttfr35
            case rttfy35 => (intro w hSw; (try dsimp only at hSw); go_simp; (try with_reducible rfl))
            try simp only [Act.put, List.setIfInBounds_toArray, List.set_cons_zero, List.set_cons_succ]
            refine wpAnyH_take (i := 36) (oi := { dst := some 90, op := Op.fieldAddr 86 (Operand.tmp 11) 1, type := 0, pos := "law.go:51", after := #[{ on := 33, ground := Ground.guard }], guard := some (33, false) }) (v := ?rttfv36) rfl (by kernel_rfl) (by kernel_rfl) (by kernel_rfl) (fun _ _ _ h => h) (Or.inl ⟨by rfl, ?rttfy36⟩) hHeld ?rttfr36
            case rttfy36 => (intro w hSw; (try dsimp only at hSw); go_simp; (try with_reducible rfl))
            try simp only [Act.put, List.setIfInBounds_toArray, List.set_cons_zero, List.set_cons_succ]
            refine wpAnyH_take (i := 37) (oi := { dst := some 91, op := Op.load 2 (Operand.tmp 90), type := 2, pos := "law.go:51", after := #[{ on := 36, ground := Ground.data }, { on := 33, ground := Ground.guard }], guard := some (33, false) }) (v := ?rttfv37) rfl (by kernel_rfl) (by kernel_rfl) (by kernel_rfl) (fun _ _ _ h => h) (Or.inl ⟨by rfl, ?rttfy37⟩) hHeld ?rttfr37
            case rttfy37 => (intro w hSw; (try dsimp only at hSw); go_simp; (try with_reducible rfl))
            try simp only [Act.put, List.setIfInBounds_toArray, List.set_cons_zero, List.set_cons_succ]
            refine wpAnyH_take (i := 38) (oi := { dst := some 92, op := Op.binOp BinOp.gtr 2 (Operand.tmp 89) (Operand.tmp 91) 2, type := 4, pos := "law.go:51", after := #[{ on := 35, ground := Ground.data }, { on := 37, ground := Ground.data }, { on := 33, ground := Ground.guard }], guard := some (33, false) }) (v := ?rttfv38) rfl (by kernel_rfl) (by kernel_rfl) (by kernel_rfl) (fun _ _ _ h => h) (Or.inl ⟨by rfl, ?rttfy38⟩) hHeld ?rttfr38
            case rttfy38 => (intro w hSw; (try dsimp only at hSw); go_simp; (try with_reducible rfl))
            try simp only [Act.put, List.setIfInBounds_toArray, List.set_cons_zero, List.set_cons_succ]
            refine wpAnyH_take (i := 39) (oi := { dst := some 93, op := Op.move (Operand.tmp 92), type := 4, pos := "law.go:51", after := #[{ on := 38, ground := Ground.data }, { on := 33, ground := Ground.chain }, { on := 33, ground := Ground.guard }], guard := some (33, false) }) (v := ?rttfv39) rfl (by kernel_rfl) (by kernel_rfl) (by kernel_rfl) (fun _ _ _ h => h) (Or.inl ⟨by rfl, ?rttfy39⟩) hHeld ?rttfr39
            case rttfy39 => (intro w hSw; (try dsimp only at hSw); go_simp; (try with_reducible rfl))
            try simp only [Act.put, List.setIfInBounds_toArray, List.set_cons_zero, List.set_cons_succ]
            refine wpAnyH_take (i := 40) (oi := { dst := some 94, op := Op.load 86 (Operand.tmp 11), type := 86, pos := "law.go:51", after := #[{ on := 39, ground := Ground.guard }], guard := some (39, true) }) (v := undef) rfl (by kernel_rfl) (by kernel_rfl) (by kernel_rfl) (fun _ _ _ h => h) (Or.inr ⟨by rfl, rfl⟩) hHeld ?_
            try simp only [Act.put, List.setIfInBounds_toArray, List.set_cons_zero, List.set_cons_succ]
            refine wpAnyH_take (i := 41) (oi := { dst := some 95, op := Op.call { callee := Callee.value (Operand.func 66), args := #[], argTypes := #[] }, type := 86, pos := "law.go:51", after := #[{ on := 39, ground := Ground.chain }, { on := 39, ground := Ground.guard }], guard := some (39, true) }) (v := undef) rfl (by kernel_rfl) (by kernel_rfl) (by kernel_rfl) (fun _ _ _ h => h) (Or.inr ⟨by rfl, rfl⟩) hHeld ?_
            try simp only [Act.put, List.setIfInBounds_toArray, List.set_cons_zero, List.set_cons_succ]
            refine wpAnyH_take (i := 42) (oi := { dst := some 96, op := Op.binOp BinOp.neq 86 (Operand.tmp 94) (Operand.tmp 95) 86, type := 4, pos := "law.go:51", after := #[{ on := 40, ground := Ground.data }, { on := 41, ground := Ground.data }, { on := 39, ground := Ground.guard }], guard := some (39, true) }) (v := undef) rfl (by kernel_rfl) (by kernel_rfl) (by kernel_rfl) (fun _ _ _ h => h) (Or.inr ⟨by rfl, rfl⟩) hHeld ?_
            try simp only [Act.put, List.setIfInBounds_toArray, List.set_cons_zero, List.set_cons_succ]
            refine wpAnyH_take (i := 43) (oi := { dst := some 97, op := Op.pick (Operand.tmp 93) (Operand.tmp 96) (Operand.const (Value.bool false)), type := 4, pos := "law.go:51", after := #[{ on := 39, ground := Ground.data }, { on := 42, ground := Ground.data }, { on := 33, ground := Ground.guard }], guard := some (33, false) }) (v := ?rttfv43) rfl (by kernel_rfl) (by kernel_rfl) (by kernel_rfl) (fun _ _ _ h => h) (Or.inl ⟨by rfl, ?rttfy43⟩) hHeld ?rttfr43
            case rttfy43 => (intro w hSw; (try dsimp only at hSw); go_simp; (try with_reducible rfl))
            try simp only [Act.put, List.setIfInBounds_toArray, List.set_cons_zero, List.set_cons_succ]
            refine wpAnyH_take (i := 44) (oi := { dst := some 98, op := Op.pick (Operand.tmp 87) (Operand.const (Value.bool true)) (Operand.tmp 97), type := 4, pos := "law.go:51", after := #[{ on := 33, ground := Ground.data }, { on := 43, ground := Ground.data }], guard := none }) (v := ?rttfv44) rfl (by kernel_rfl) (by kernel_rfl) (by kernel_rfl) (fun _ _ _ h => h) (Or.inl ⟨by rfl, ?rttfy44⟩) hHeld ?rttfr44
            case rttfy44 => (intro w hSw; (try dsimp only at hSw); go_simp; (try with_reducible rfl))
            try simp only [Act.put, List.setIfInBounds_toArray, List.set_cons_zero, List.set_cons_succ]
            refine wpAnyH_done (by kernel_rfl) ?_ _
            go_wp2
            go_meet
            exact ⟨rfl, S6W.out⟩
      case rest =>
        obtain ⟨rfl, hs⟩ := hcut
        clear c0 c1 c2 c3 c4 c5 c6 c7 S6W
        have S6W := kept hs
        clear hs
        obtain ⟨c0, c1, c2, c3, c4, c5, c6, c7⟩ := S6W.out.cells
        rcases Bool.eq_false_or_eq_true E with rfl | rfl
        · have hEE := kept (of_decide_eq_true HE.out)
          have CW := kept (fun w => win_of (within_e (bl := bl) (bh := bh) hEE.out) w)
          have CSI := kept (fun w => single_no (al := al) (ah := ah) (by have := hEE.out; omega) w)
          have hb : (al == ah) = false := by simp; have := hEE.out; omega
          rcases Bool.eq_false_or_eq_true D with rfl | rfl
          · obtain ⟨rfl, rfl⟩ := join_ED JQ.out hEE.out (of_decide_eq_true HD.out)
            go_wp2
            go_region_held3 (fun w' => w'.cell? ⟨gj, 0, none⟩ = some (.int .i64 1) ∧ w'.cell? ⟨gj, 1, none⟩ = some (.int .i64 0)) (first | exact ⟨c6, c7⟩ | go_keep) (first | (go_at_call 66; (with_reducible refine (N6.out _).mono ?_); rintro e wx ⟨rfl, k⟩; have sx := S6W.out.later k (by first | exact Keeps.refl _ [] | exact (Keeps.refl _ []).drew); clear k c0 c1 c2 c3 c4 c5 c6 c7 S6W; obtain ⟨c0, c1, c2, c3, c4, c5, c6, c7⟩ := sx.cells; have S6W := kept sx; clear sx))
            go_wp2_with fail
            refine (CSI.out _).mono ?_
            rintro e wx ⟨rfl, k⟩
            have sx := S6W.out.next k
            clear k c0 c1 c2 c3 c4 c5 c6 c7 S6W
            obtain ⟨c0, c1, c2, c3, c4, c5, c6, c7⟩ := sx.cells
            have S6W := kept sx
            clear sx
            go_wp2_with fail
            refine (CW.out _).mono ?_
            rintro e wx ⟨rfl, k⟩
            have sx := S6W.out.next k
            clear k c0 c1 c2 c3 c4 c5 c6 c7 S6W
            obtain ⟨c0, c1, c2, c3, c4, c5, c6, c7⟩ := sx.cells
            have S6W := kept sx
            clear sx
            go_wp2_with fail
            refine (CO.out _).mono ?_
            rintro e wx ⟨rfl, k⟩
            have sx := S6W.out.next k
            clear k c0 c1 c2 c3 c4 c5 c6 c7 S6W
            obtain ⟨c0, c1, c2, c3, c4, c5, c6, c7⟩ := sx.cells
            have S6W := kept sx
            clear sx
            go_wp2_with fail
            refine (CL.out _).mono ?_
            rintro e wx ⟨rfl, k⟩
            have sx := S6W.out.next k
            clear k c0 c1 c2 c3 c4 c5 c6 c7 S6W
            obtain ⟨c0, c1, c2, c3, c4, c5, c6, c7⟩ := sx.cells
            have S6W := kept sx
            clear sx
            go_wp2_with fail
            refine (N71.out _).mono ?_
            rintro e wx ⟨rfl, k⟩
            have sx := S6W.out.next k
            clear k c0 c1 c2 c3 c4 c5 c6 c7 S6W
            obtain ⟨c0, c1, c2, c3, c4, c5, c6, c7⟩ := sx.cells
            have S6W := kept sx
            clear sx
            go_wp2_with fail
            refine (CN.out _).mono ?_
            rintro e wx ⟨rfl, k⟩
            have sx := S6W.out.next k
            clear k c0 c1 c2 c3 c4 c5 c6 c7 S6W
            obtain ⟨c0, c1, c2, c3, c4, c5, c6, c7⟩ := sx.cells
            have S6W := kept sx
            clear sx
            go_wp2_with fail
            refine (N6.out _).mono ?_
            rintro e wx ⟨rfl, k⟩
            have sx := S6W.out.next k
            clear k c0 c1 c2 c3 c4 c5 c6 c7 S6W
            obtain ⟨c0, c1, c2, c3, c4, c5, c6, c7⟩ := sx.cells
            have S6W := kept sx
            clear sx
            go_wp2
            go_ret
            exact ⟨rfl, S6W.out.keeps.below (Nat.le_refl _) (by simp)⟩
          · obtain ⟨rfl, rfl⟩ := join_E JQ.out hEE.out (of_decide_eq_false HD.out)
            go_wp2_with fail
            refine (CSI.out _).mono ?_
            rintro e wx ⟨rfl, k⟩
            have sx := S6W.out.next k
            clear k c0 c1 c2 c3 c4 c5 c6 c7 S6W
            obtain ⟨c0, c1, c2, c3, c4, c5, c6, c7⟩ := sx.cells
            have S6W := kept sx
            clear sx
            go_wp2_with fail
            refine (CW.out _).mono ?_
            rintro e wx ⟨rfl, k⟩
            have sx := S6W.out.next k
            clear k c0 c1 c2 c3 c4 c5 c6 c7 S6W
            obtain ⟨c0, c1, c2, c3, c4, c5, c6, c7⟩ := sx.cells
            have S6W := kept sx
            clear sx
            go_wp2_with fail
            refine (CO.out _).mono ?_
            rintro e wx ⟨rfl, k⟩
            have sx := S6W.out.next k
            clear k c0 c1 c2 c3 c4 c5 c6 c7 S6W
            obtain ⟨c0, c1, c2, c3, c4, c5, c6, c7⟩ := sx.cells
            have S6W := kept sx
            clear sx
            go_wp2_with fail
            refine (CL.out _).mono ?_
            rintro e wx ⟨rfl, k⟩
            have sx := S6W.out.next k
            clear k c0 c1 c2 c3 c4 c5 c6 c7 S6W
            obtain ⟨c0, c1, c2, c3, c4, c5, c6, c7⟩ := sx.cells
            have S6W := kept sx
            clear sx
            go_wp2_with fail
            refine (N71.out _).mono ?_
            rintro e wx ⟨rfl, k⟩
            have sx := S6W.out.next k
            clear k c0 c1 c2 c3 c4 c5 c6 c7 S6W
            obtain ⟨c0, c1, c2, c3, c4, c5, c6, c7⟩ := sx.cells
            have S6W := kept sx
            clear sx
            go_wp2_with fail
            refine (CN.out _).mono ?_
            rintro e wx ⟨rfl, k⟩
            have sx := S6W.out.next k
            clear k c0 c1 c2 c3 c4 c5 c6 c7 S6W
            obtain ⟨c0, c1, c2, c3, c4, c5, c6, c7⟩ := sx.cells
            have S6W := kept sx
            clear sx
            go_wp2_with fail
            refine (N6.out _).mono ?_
            rintro e wx ⟨rfl, k⟩
            have sx := S6W.out.next k
            clear k c0 c1 c2 c3 c4 c5 c6 c7 S6W
            obtain ⟨c0, c1, c2, c3, c4, c5, c6, c7⟩ := sx.cells
            have S6W := kept sx
            clear sx
            go_wp2
            go_ret
            exact ⟨rfl, S6W.out.keeps.below (Nat.le_refl _) (by simp)⟩
        · have hEE := kept (of_decide_eq_false HE.out)
          go_upto_block 0 with (fail)
          go_cut [5] from 99 to 170 (fun t5 wx => t5 = undef ∧ S6 w wx al ah bl bh ml mh jl jh gm gj)
          case first =>
            rcases Bool.eq_false_or_eq_true D with rfl | rfl
            · obtain ⟨rfl, rfl⟩ := join_D JQ.out hEE.out (of_decide_eq_true HD.out)
              go_wp2
              go_meet
              exact ⟨rfl, S6W.out⟩
            · obtain ⟨hj1, hj2⟩ := join_N JQ.out hEE.out (of_decide_eq_false HD.out)
              rcases (show bl < al ∨ al ≤ bl by omega) with hl | hl
              · rcases (show ah < bh ∨ bh ≤ ah by omega) with hh | hh
                · obtain rfl : bl = jl := by rw [← hj1]; omega
                  obtain rfl : bh = jh := by rw [← hj2]; omega
                  clear hj1 hj2
                  have g1 : decide (al < bl) = false := by simp; omega
                  have g2 : (bl == al) = false := by simp; omega
                  have g2a : (bl != al) = true := by simp; omega
                  have g2b : ¬ bl = al := by omega
                  have g3 : decide (bh < ah) = false := by simp; omega
                  have g4 : (bh == ah) = false := by simp; omega
                  have g4a : (bh != ah) = true := by simp; omega
                  have g4b : ¬ bh = ah := by omega
                  clear hl hh
                  go_wp2
                  go_meet
                  exact ⟨rfl, S6W.out⟩
                · obtain rfl : bl = jl := by rw [← hj1]; omega
                  obtain rfl : ah = jh := by rw [← hj2]; omega
                  clear hj1 hj2
                  have g1 : decide (al < bl) = false := by simp; omega
                  have g2 : (bl == al) = false := by simp; omega
                  have g2a : (bl != al) = true := by simp; omega
                  have g2b : ¬ bl = al := by omega
                  have g3 : decide (ah < bh) = false := by simp; omega
                  clear hl hh
                  go_wp2
                  go_meet
                  exact ⟨rfl, S6W.out⟩
              · rcases (show ah < bh ∨ bh ≤ ah by omega) with hh | hh
                · obtain rfl : al = jl := by rw [← hj1]; omega
                  obtain rfl : bh = jh := by rw [← hj2]; omega
                  clear hj1 hj2
                  have g1 : decide (bl < al) = false := by simp; omega
                  have g3 : decide (bh < ah) = false := by simp; omega
                  have g4 : (bh == ah) = false := by simp; omega
                  have g4a : (bh != ah) = true := by simp; omega
                  have g4b : ¬ bh = ah := by omega
                  clear hl hh
                  go_wp2
                  go_meet
                  exact ⟨rfl, S6W.out⟩
                · obtain rfl : al = jl := by rw [← hj1]; omega
                  obtain rfl : ah = jh := by rw [← hj2]; omega
                  clear hj1 hj2
                  have g1 : decide (bl < al) = false := by simp; omega
                  have g3 : decide (ah < bh) = false := by simp; omega
                  clear hl hh
                  go_wp2
                  go_meet
                  exact ⟨rfl, S6W.out⟩
          case rest =>
            obtain ⟨rfl, hs⟩ := hcut
            clear c0 c1 c2 c3 c4 c5 c6 c7 S6W
            have S6W := kept hs
            clear hs
            obtain ⟨c0, c1, c2, c3, c4, c5, c6, c7⟩ := S6W.out.cells
            rcases Bool.eq_false_or_eq_true (decide (bl ≤ al)) with hw | hw
            · have CW := kept (fun w => win_of (within_y (bh := bh) hEE.out (of_decide_eq_true hw)) w)
              rcases Int.lt_trichotomy al ah with hlt | heq | hgt
              · have CSI := kept (fun w => single_no (al := al) (ah := ah) (by omega) w)
                have hb : (al == ah) = false := by simp; omega
                clear hlt
                go_wp2_with fail
                refine (CSI.out _).mono ?_
                rintro e wx ⟨rfl, k⟩
                have sx := S6W.out.next k
                clear k c0 c1 c2 c3 c4 c5 c6 c7 S6W
                obtain ⟨c0, c1, c2, c3, c4, c5, c6, c7⟩ := sx.cells
                have S6W := kept sx
                clear sx
                go_wp2_with fail
                refine (CW.out _).mono ?_
                rintro e wx ⟨rfl, k⟩
                have sx := S6W.out.next k
                clear k c0 c1 c2 c3 c4 c5 c6 c7 S6W
                obtain ⟨c0, c1, c2, c3, c4, c5, c6, c7⟩ := sx.cells
                have S6W := kept sx
                clear sx
                go_wp2_with fail
                refine (CO.out _).mono ?_
                rintro e wx ⟨rfl, k⟩
                have sx := S6W.out.next k
                clear k c0 c1 c2 c3 c4 c5 c6 c7 S6W
                obtain ⟨c0, c1, c2, c3, c4, c5, c6, c7⟩ := sx.cells
                have S6W := kept sx
                clear sx
                go_wp2_with fail
                refine (CL.out _).mono ?_
                rintro e wx ⟨rfl, k⟩
                have sx := S6W.out.next k
                clear k c0 c1 c2 c3 c4 c5 c6 c7 S6W
                obtain ⟨c0, c1, c2, c3, c4, c5, c6, c7⟩ := sx.cells
                have S6W := kept sx
                clear sx
                go_wp2_with fail
                refine (N71.out _).mono ?_
                rintro e wx ⟨rfl, k⟩
                have sx := S6W.out.next k
                clear k c0 c1 c2 c3 c4 c5 c6 c7 S6W
                obtain ⟨c0, c1, c2, c3, c4, c5, c6, c7⟩ := sx.cells
                have S6W := kept sx
                clear sx
                go_wp2_with fail
                refine (CN.out _).mono ?_
                rintro e wx ⟨rfl, k⟩
                have sx := S6W.out.next k
                clear k c0 c1 c2 c3 c4 c5 c6 c7 S6W
                obtain ⟨c0, c1, c2, c3, c4, c5, c6, c7⟩ := sx.cells
                have S6W := kept sx
                clear sx
                go_wp2_with fail
                refine (N6.out _).mono ?_
                rintro e wx ⟨rfl, k⟩
                have sx := S6W.out.next k
                clear k c0 c1 c2 c3 c4 c5 c6 c7 S6W
                obtain ⟨c0, c1, c2, c3, c4, c5, c6, c7⟩ := sx.cells
                have S6W := kept sx
                clear sx
                go_wp2
                go_ret
                exact ⟨rfl, S6W.out.keeps.below (Nat.le_refl _) (by simp)⟩
              · have CSI := kept (fun w => single_yes (al := al) (ah := ah) heq w)
                have hb : (al == ah) = true := by simp; exact heq
                clear heq
                go_wp2_with fail
                refine (CSI.out _).mono ?_
                rintro e wx ⟨rfl, k⟩
                have sx := S6W.out.next k
                clear k c0 c1 c2 c3 c4 c5 c6 c7 S6W
                obtain ⟨c0, c1, c2, c3, c4, c5, c6, c7⟩ := sx.cells
                have S6W := kept sx
                clear sx
                go_wp2_with fail
                refine (CW.out _).mono ?_
                rintro e wx ⟨rfl, k⟩
                have sx := S6W.out.next k
                clear k c0 c1 c2 c3 c4 c5 c6 c7 S6W
                obtain ⟨c0, c1, c2, c3, c4, c5, c6, c7⟩ := sx.cells
                have S6W := kept sx
                clear sx
                go_wp2_with fail
                refine (CO.out _).mono ?_
                rintro e wx ⟨rfl, k⟩
                have sx := S6W.out.next k
                clear k c0 c1 c2 c3 c4 c5 c6 c7 S6W
                obtain ⟨c0, c1, c2, c3, c4, c5, c6, c7⟩ := sx.cells
                have S6W := kept sx
                clear sx
                go_wp2_with fail
                refine (CL.out _).mono ?_
                rintro e wx ⟨rfl, k⟩
                have sx := S6W.out.next k
                clear k c0 c1 c2 c3 c4 c5 c6 c7 S6W
                obtain ⟨c0, c1, c2, c3, c4, c5, c6, c7⟩ := sx.cells
                have S6W := kept sx
                clear sx
                go_wp2_with fail
                refine (N71.out _).mono ?_
                rintro e wx ⟨rfl, k⟩
                have sx := S6W.out.next k
                clear k c0 c1 c2 c3 c4 c5 c6 c7 S6W
                obtain ⟨c0, c1, c2, c3, c4, c5, c6, c7⟩ := sx.cells
                have S6W := kept sx
                clear sx
                go_wp2_with fail
                refine (CN.out _).mono ?_
                rintro e wx ⟨rfl, k⟩
                have sx := S6W.out.next k
                clear k c0 c1 c2 c3 c4 c5 c6 c7 S6W
                obtain ⟨c0, c1, c2, c3, c4, c5, c6, c7⟩ := sx.cells
                have S6W := kept sx
                clear sx
                go_wp2_with fail
                refine (N6.out _).mono ?_
                rintro e wx ⟨rfl, k⟩
                have sx := S6W.out.next k
                clear k c0 c1 c2 c3 c4 c5 c6 c7 S6W
                obtain ⟨c0, c1, c2, c3, c4, c5, c6, c7⟩ := sx.cells
                have S6W := kept sx
                clear sx
                go_wp2
                go_ret
                exact ⟨rfl, S6W.out.keeps.below (Nat.le_refl _) (by simp)⟩
              · exact absurd hgt hEE.out
            · have CW := kept (fun w => win_of (within_n (bh := bh) hEE.out (of_decide_eq_false hw)) w)
              rcases Int.lt_trichotomy al ah with hlt | heq | hgt
              · have CSI := kept (fun w => single_no (al := al) (ah := ah) (by omega) w)
                have hb : (al == ah) = false := by simp; omega
                clear hlt
                go_wp2_with fail
                refine (CSI.out _).mono ?_
                rintro e wx ⟨rfl, k⟩
                have sx := S6W.out.next k
                clear k c0 c1 c2 c3 c4 c5 c6 c7 S6W
                obtain ⟨c0, c1, c2, c3, c4, c5, c6, c7⟩ := sx.cells
                have S6W := kept sx
                clear sx
                go_wp2_with fail
                refine (CW.out _).mono ?_
                rintro e wx ⟨rfl, k⟩
                have sx := S6W.out.next k
                clear k c0 c1 c2 c3 c4 c5 c6 c7 S6W
                obtain ⟨c0, c1, c2, c3, c4, c5, c6, c7⟩ := sx.cells
                have S6W := kept sx
                clear sx
                go_wp2_with fail
                refine (CO.out _).mono ?_
                rintro e wx ⟨rfl, k⟩
                have sx := S6W.out.next k
                clear k c0 c1 c2 c3 c4 c5 c6 c7 S6W
                obtain ⟨c0, c1, c2, c3, c4, c5, c6, c7⟩ := sx.cells
                have S6W := kept sx
                clear sx
                go_wp2_with fail
                refine (CL.out _).mono ?_
                rintro e wx ⟨rfl, k⟩
                have sx := S6W.out.next k
                clear k c0 c1 c2 c3 c4 c5 c6 c7 S6W
                obtain ⟨c0, c1, c2, c3, c4, c5, c6, c7⟩ := sx.cells
                have S6W := kept sx
                clear sx
                go_wp2_with fail
                refine (N71.out _).mono ?_
                rintro e wx ⟨rfl, k⟩
                have sx := S6W.out.next k
                clear k c0 c1 c2 c3 c4 c5 c6 c7 S6W
                obtain ⟨c0, c1, c2, c3, c4, c5, c6, c7⟩ := sx.cells
                have S6W := kept sx
                clear sx
                go_wp2_with fail
                refine (CN.out _).mono ?_
                rintro e wx ⟨rfl, k⟩
                have sx := S6W.out.next k
                clear k c0 c1 c2 c3 c4 c5 c6 c7 S6W
                obtain ⟨c0, c1, c2, c3, c4, c5, c6, c7⟩ := sx.cells
                have S6W := kept sx
                clear sx
                go_wp2_with fail
                refine (N6.out _).mono ?_
                rintro e wx ⟨rfl, k⟩
                have sx := S6W.out.next k
                clear k c0 c1 c2 c3 c4 c5 c6 c7 S6W
                obtain ⟨c0, c1, c2, c3, c4, c5, c6, c7⟩ := sx.cells
                have S6W := kept sx
                clear sx
                go_wp2
                go_ret
                exact ⟨rfl, S6W.out.keeps.below (Nat.le_refl _) (by simp)⟩
              · have CSI := kept (fun w => single_yes (al := al) (ah := ah) heq w)
                have hb : (al == ah) = true := by simp; exact heq
                clear heq
                go_wp2_with fail
                refine (CSI.out _).mono ?_
                rintro e wx ⟨rfl, k⟩
                have sx := S6W.out.next k
                clear k c0 c1 c2 c3 c4 c5 c6 c7 S6W
                obtain ⟨c0, c1, c2, c3, c4, c5, c6, c7⟩ := sx.cells
                have S6W := kept sx
                clear sx
                go_wp2_with fail
                refine (CW.out _).mono ?_
                rintro e wx ⟨rfl, k⟩
                have sx := S6W.out.next k
                clear k c0 c1 c2 c3 c4 c5 c6 c7 S6W
                obtain ⟨c0, c1, c2, c3, c4, c5, c6, c7⟩ := sx.cells
                have S6W := kept sx
                clear sx
                go_wp2_with fail
                refine (CO.out _).mono ?_
                rintro e wx ⟨rfl, k⟩
                have sx := S6W.out.next k
                clear k c0 c1 c2 c3 c4 c5 c6 c7 S6W
                obtain ⟨c0, c1, c2, c3, c4, c5, c6, c7⟩ := sx.cells
                have S6W := kept sx
                clear sx
                go_wp2_with fail
                refine (CL.out _).mono ?_
                rintro e wx ⟨rfl, k⟩
                have sx := S6W.out.next k
                clear k c0 c1 c2 c3 c4 c5 c6 c7 S6W
                obtain ⟨c0, c1, c2, c3, c4, c5, c6, c7⟩ := sx.cells
                have S6W := kept sx
                clear sx
                go_wp2_with fail
                refine (N71.out _).mono ?_
                rintro e wx ⟨rfl, k⟩
                have sx := S6W.out.next k
                clear k c0 c1 c2 c3 c4 c5 c6 c7 S6W
                obtain ⟨c0, c1, c2, c3, c4, c5, c6, c7⟩ := sx.cells
                have S6W := kept sx
                clear sx
                go_wp2_with fail
                refine (CN.out _).mono ?_
                rintro e wx ⟨rfl, k⟩
                have sx := S6W.out.next k
                clear k c0 c1 c2 c3 c4 c5 c6 c7 S6W
                obtain ⟨c0, c1, c2, c3, c4, c5, c6, c7⟩ := sx.cells
                have S6W := kept sx
                clear sx
                go_wp2_with fail
                refine (N6.out _).mono ?_
                rintro e wx ⟨rfl, k⟩
                have sx := S6W.out.next k
                clear k c0 c1 c2 c3 c4 c5 c6 c7 S6W
                obtain ⟨c0, c1, c2, c3, c4, c5, c6, c7⟩ := sx.cells
                have S6W := kept sx
                clear sx
                go_wp2
                go_ret
                exact ⟨rfl, S6W.out.keeps.below (Nat.le_refl _) (by simp)⟩
              · exact absurd hgt hEE.out
end Go.Proofs.Ytppidnjhdefbiaa
