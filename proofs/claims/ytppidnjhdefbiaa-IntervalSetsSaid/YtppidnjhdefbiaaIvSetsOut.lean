/- Package interval: the law IntervalSets: its walk where the number is not in the first range. -/
import Derived.Test.YtppidnjhdefbiaaIvSetsBase
import Derived.Deep.CutBlock
namespace Go.Proofs.Ytppidnjhdefbiaa
open Go.RowKit
set_option linter.unusedVariables false
set_option linter.unusedSimpArgs false

set_option maxRecDepth 100000 in
set_option maxHeartbeats 40000000 in
theorem sets_false (al ah bl bh ml mh jl jh n : Int) (hm : Iv.meet ⟨al, ah⟩ ⟨bl, bh⟩ = ⟨ml, mh⟩) (hj : Iv.join ⟨al, ah⟩ ⟨bl, bh⟩ = ⟨jl, jh⟩) (hP : Iv.has ⟨al, ah⟩ n = false) (w : World) :
    Calls Try.prog 15 #[.agg #[.int .i64 al, .int .i64 ah], .agg #[.int .i64 bl, .int .i64 bh], .int .i64 n] w fun e w' => e = .returned (.bool true) ∧ Below w.heap.size w w' := by
  have CM := kept (fun w => meet_any al ah bl bh w)
  have CJ := kept (fun w => join_any al ah bl bh w)
  rw [hm] at CM
  rw [hj] at CJ
  obtain ⟨Q, hQ⟩ : ∃ q, Iv.has ⟨bl, bh⟩ n = q := ⟨_, rfl⟩
  have MN := kept (fun (e : mh < ml) => meet_none hm e)
  have JQ := kept hj
  have HA := kept (fun w => hasi_of hP w)
  have hmh : Iv.has ⟨ml, mh⟩ n = (false && Q) := by rw [meet_has hm, hP, hQ]
  have HMQ := kept (fun w => hasi_of hmh w)
  have HJQ := kept (fun (e : Q = true) => fun w => hasi_of (join_has hj (by rw [hQ, e, Bool.or_true])) w)
  have HJP := kept (fun (e : false = true) => fun w => hasi_of (join_has hj (by rw [hP, e, Bool.true_or])) w)
  obtain ⟨E, hE0⟩ : ∃ b, decide (ah < al) = b := ⟨_, rfl⟩
  obtain ⟨D, hD0⟩ : ∃ b, decide (bh < bl) = b := ⟨_, rfl⟩
  have EA := kept (fun w => empty_any al ah w)
  rw [hE0] at EA
  have HE := kept hE0
  have HD := kept hD0
  clear hE0 hD0
  have N6 := kept none66
  have N71 := kept all71
  have CN := kept none_any
  have CL := kept all_any
  have CO := kept (fun w => of_any n w)
  have HPe := kept hP
  have HQe := kept hQ
  clear hm hj hP hQ hmh
  go_enter Try.func15, Try.ntmps15
  go_wp2_with fail
  refine (ivlives _).mono ?_
  rintro e w1 ⟨rfl, k⟩
  have S5W := kept (S5.start k)
  clear k
  obtain ⟨c0, c1, c2, c3⟩ := S5W.out.cells
  go_upto_region 3 with (fail)
  go_cut [7, 8] from 18 to 37 (fun t7 t8 wx => t7 = .bool false ∧ t8 = .bool Q ∧ S5 w wx al ah bl bh)
  case first =>
    rcases Bool.eq_false_or_eq_true (decide (al ≤ n)) with h1 | h1 <;> rcases Bool.eq_false_or_eq_true (decide (bl ≤ n)) with h2 | h2
    all_goals
      go_quiet (fail)
      have s5 := S5W.out.next ((Keeps.refl _ []).drewN nq)
      go_wp2
      go_meet
      exact ⟨by first | (rw [← HPe.out]; done) | (rw [← HPe.out]; simp [Iv.has, h1]), by first | (rw [← HQe.out]; done) | (rw [← HQe.out]; simp [Iv.has, h2]), s5⟩
  case rest =>
    obtain ⟨rfl, rfl, hs⟩ := hcut
    clear c0 c1 c2 c3 S5W
    have S5W := kept hs
    clear hs
    obtain ⟨c0, c1, c2, c3⟩ := S5W.out.cells
    go_wp2
    go_quiet (fail)
    simp only [HE.out, HD.out]
    have s5 := S5W.out.next ((Keeps.refl _ []).drewN nq)
    clear c0 c1 c2 c3 S5W
    have S5W := kept s5
    clear s5
    obtain ⟨c0, c1, c2, c3⟩ := S5W.out.cells
    generalize World.drewN _ nq = W4 at *
    go_upto_region 5 with (fail)
    go_cut [11, 12] from 48 to 53 (fun t11 t12 wx => ∃ gm gj : Nat, t11 = .pointer (some ⟨gm, 0, none⟩) ∧ t12 = .pointer (some ⟨gj, 0, none⟩) ∧ S6 w wx al ah bl bh ml mh jl jh gm gj)
    case first =>
      refine wp_region_held_drew (S := (fun w' => w'.cell? ⟨w.heap.size, 0, none⟩ = some (.int .i64 al) ∧ w'.cell? ⟨w.heap.size, 1, none⟩ = some (.int .i64 ah) ∧ w'.cell? ⟨w.heap.size + 1, 0, none⟩ = some (.int .i64 bl) ∧ w'.cell? ⟨w.heap.size + 1, 1, none⟩ = some (.int .i64 bh))) (by kernel_rfl) ?hSs (fun hHeld => ?_)
      case hSs => exact ⟨c0, c1, c2, c3⟩
      have s5 := S5W.out.next ((Keeps.refl _ []).drew)
      replace S5W := kept s5
      clear s5
      generalize World.drew _ = X0 at *
      refine wpAnyH_take (i := 0) (oi := { dst := some 48, op := Op.load 86 (Operand.tmp 3), type := 86, pos := "law.go:50", after := #[], guard := none }) (v := ?v0) rfl (by kernel_rfl) (by kernel_rfl) (by kernel_rfl) (fun _ _ _ h => h) (Or.inl ⟨by rfl, ?y0⟩) hHeld ?r0
      case y0 => (intro w hSw; (try dsimp only at hSw); go_simp; (try with_reducible rfl))
      try simp only [Act.put, List.setIfInBounds_toArray, List.set_cons_zero, List.set_cons_succ]
      refine wpAnyH_take (i := 1) (oi := { dst := some 49, op := Op.load 86 (Operand.tmp 4), type := 86, pos := "law.go:50", after := #[], guard := none }) (v := ?v1) rfl (by kernel_rfl) (by kernel_rfl) (by kernel_rfl) (fun _ _ _ h => h) (Or.inl ⟨by rfl, ?y1⟩) hHeld ?r1
      case y1 => (intro w hSw; (try dsimp only at hSw); go_simp; (try with_reducible rfl))
      try simp only [Act.put, List.setIfInBounds_toArray, List.set_cons_zero, List.set_cons_succ]
      refine wpAnyH_take (i := 3) (oi := { dst := some 51, op := Op.load 86 (Operand.tmp 3), type := 86, pos := "law.go:50", after := #[], guard := none }) (v := ?v3) rfl (by kernel_rfl) (by kernel_rfl) (by kernel_rfl) (fun _ _ _ h => h) (Or.inl ⟨by rfl, ?y3⟩) hHeld ?r3
      case y3 => (intro w hSw; (try dsimp only at hSw); go_simp; (try with_reducible rfl))
      try simp only [Act.put, List.setIfInBounds_toArray, List.set_cons_zero, List.set_cons_succ]
      refine wpAnyH_take (i := 4) (oi := { dst := some 52, op := Op.load 86 (Operand.tmp 4), type := 86, pos := "law.go:50", after := #[], guard := none }) (v := ?v4) rfl (by kernel_rfl) (by kernel_rfl) (by kernel_rfl) (fun _ _ _ h => h) (Or.inl ⟨by rfl, ?y4⟩) hHeld ?r4
      case y4 => (intro w hSw; (try dsimp only at hSw); go_simp; (try with_reducible rfl))
      try simp only [Act.put, List.setIfInBounds_toArray, List.set_cons_zero, List.set_cons_succ]
      refine wpAnyH_ready (rs := [2, 6, 7]) (by kernel_rfl) (by simp) ?_
      refine AllReadyH.cons (o := { dst := some 50, op := Op.call { callee := Callee.value (Operand.func 62), args := #[Operand.tmp 48, Operand.tmp 49], argTypes := #[86, 86] }, type := 86, pos := "law.go:50", after := #[{ on := 0, ground := Ground.data }, { on := 1, ground := Ground.data }], guard := none }) rfl (fun K hK => ?_) ?_
      · clear hHeld
        go_simp
        (with_reducible refine (CM.out _).mono ?_)
        rintro e X1 ⟨rfl, k⟩
        show K _ _
        have s5 := S5W.out.next k
        clear k
        try clear f0 f1 f2 f3
        try clear d0 d1 d2 d3
        clear c0 c1 c2 c3 S5W
        obtain ⟨c0, c1, c2, c3⟩ := s5.cells
        refine hK.out _ _ ?hS (fun hHeld => ?_)
        case hS => exact ⟨c0, c1, c2, c3⟩
        clear hK K
        try simp only [Act.put, List.setIfInBounds_toArray, List.set_cons_zero, List.set_cons_succ]
        have S5W := kept s5
        clear s5
        refine wpAnyH_ready (rs := [5, 6, 7]) (by kernel_rfl) (by simp) ?_
        refine AllReadyH.cons (o := { dst := some 53, op := Op.call { callee := Callee.value (Operand.func 63), args := #[Operand.tmp 51, Operand.tmp 52], argTypes := #[86, 86] }, type := 86, pos := "law.go:50", after := #[{ on := 3, ground := Ground.data }, { on := 4, ground := Ground.data }, { on := 2, ground := Ground.chain }], guard := none }) rfl (fun K hK => ?_) ?_
        · clear hHeld
          go_simp
          (with_reducible refine (CJ.out _).mono ?_)
          rintro e X2 ⟨rfl, k⟩
          show K _ _
          have s5 := S5W.out.next k
          clear k
          try clear f0 f1 f2 f3
          try clear d0 d1 d2 d3
          clear c0 c1 c2 c3 S5W
          obtain ⟨c0, c1, c2, c3⟩ := s5.cells
          refine hK.out _ _ ?hS (fun hHeld => ?_)
          case hS => exact ⟨c0, c1, c2, c3⟩
          clear hK K
          try simp only [Act.put, List.setIfInBounds_toArray, List.set_cons_zero, List.set_cons_succ]
          have S5W := kept s5
          clear s5
          refine wpAnyH_ready (rs := [6, 7]) (by kernel_rfl) (by simp) ?_
          refine AllReadyH.cons (o := { dst := some 11, op := Op.alloc 86, type := 0, pos := "law.go:50", after := #[], guard := none }) rfl (fun K hK => ?_) ?_
          · clear hHeld
            go_simp
            have s5 := S5W.out.next ((Keeps.refl X2 []).alloc (.cells #[.int .i64 0, .int .i64 0] 86))
            have bm := s5new (X := X2)
            have hge := s5ge S5W.out
            try clear f0 f1 f2 f3
            try clear d0 d1 d2 d3
            clear c0 c1 c2 c3 S5W
            generalize X2.alloc (.cells #[.int .i64 0, .int .i64 0] 86) = X3 at *
            generalize X2.heap.size = gm at *
            have HGM := kept hge
            clear hge
            obtain ⟨c0, c1, c2, c3⟩ := s5.cells
            refine hK.out _ _ ?hS (fun hHeld => ?_)
            case hS => exact ⟨c0, c1, c2, c3⟩
            clear hK K
            try simp only [Act.put, List.setIfInBounds_toArray, List.set_cons_zero, List.set_cons_succ]
            have S5W := kept s5
            clear s5
            have BM := kept bm
            clear bm
            have f0 := BM.out.cell 0
            have f1 := BM.out.cell 1
            have f2 := BM.out.frozen 0
            have f3 := BM.out.frozen 1
            refine wpAnyH_ready (rs := [7]) (by kernel_rfl) (by simp) ?_
            refine AllReadyH.cons (o := { dst := some 12, op := Op.alloc 86, type := 0, pos := "law.go:50", after := #[], guard := none }) rfl (fun K hK => ?_) ?_
            · clear hHeld
              go_simp
              have s5 := S5W.out.next ((Keeps.refl X3 []).alloc (.cells #[.int .i64 0, .int .i64 0] 86))
              have bj := s5new (X := X3)
              have bm := BM.out.keep ((Keeps.refl X3 []).alloc (.cells #[.int .i64 0, .int .i64 0] 86)) (by simp)
              have hne := s5ne BM.out
              have hge := s5ge S5W.out
              try clear f0 f1 f2 f3
              try clear d0 d1 d2 d3
              clear c0 c1 c2 c3 S5W
              clear BM
              generalize X3.alloc (.cells #[.int .i64 0, .int .i64 0] 86) = X4 at *
              generalize X3.heap.size = gj at *
              have HGJ := kept hge
              clear hge
              have HNM := kept hne
              have HNJ := kept (Ne.symm hne)
              clear hne
              obtain ⟨c0, c1, c2, c3⟩ := s5.cells
              refine hK.out _ _ ?hS (fun hHeld => ?_)
              case hS => exact ⟨c0, c1, c2, c3⟩
              clear hK K
              try simp only [Act.put, List.setIfInBounds_toArray, List.set_cons_zero, List.set_cons_succ]
              have S5W := kept s5
              clear s5
              have BM := kept bm
              clear bm
              have f0 := BM.out.cell 0
              have f1 := BM.out.cell 1
              have f2 := BM.out.frozen 0
              have f3 := BM.out.frozen 1
              have BJ := kept bj
              clear bj
              have d0 := BJ.out.cell 0
              have d1 := BJ.out.cell 1
              have d2 := BJ.out.frozen 0
              have d3 := BJ.out.frozen 1
              refine wpAnyH_ready (rs := [8]) (by kernel_rfl) (by simp) ?_
              refine AllReadyH.cons (o := { dst := none, op := Op.store 86 (Operand.tmp 11) (Operand.tmp 50), type := 0, pos := "law.go:50", after := #[{ on := 6, ground := Ground.data }, { on := 2, ground := Ground.data }, { on := 5, ground := Ground.chain }, { on := 0, ground := Ground.phase }, { on := 1, ground := Ground.phase }, { on := 2, ground := Ground.phase }, { on := 3, ground := Ground.textOnly Departure.lateStores }, { on := 4, ground := Ground.textOnly Departure.lateStores }, { on := 5, ground := Ground.textOnly Departure.lateStoresUnsure }, { on := 6, ground := Ground.phase }, { on := 7, ground := Ground.phase }], guard := none }) rfl (fun K hK => ?_) ?_
              · clear hHeld
                go_simp
                obtain ⟨s5, bm⟩ := S5W.out.store BM.out HGM.out ml mh
                have bj := BJ.out.store (HNJ.out) ml mh
                try clear f0 f1 f2 f3
                try clear d0 d1 d2 d3
                clear c0 c1 c2 c3 S5W
                clear BM
                clear BJ
                generalize (X4.setCell ⟨gm, 0, none⟩ (.int .i64 ml)).setCell ⟨gm, 1, none⟩ (.int .i64 mh) = X5 at *
                obtain ⟨c0, c1, c2, c3⟩ := s5.cells
                refine hK.out _ _ ?hS (fun hHeld => ?_)
                case hS => exact ⟨c0, c1, c2, c3⟩
                clear hK K
                try simp only [Act.put, List.setIfInBounds_toArray, List.set_cons_zero, List.set_cons_succ]
                have S5W := kept s5
                clear s5
                have BM := kept bm
                clear bm
                have f0 := BM.out.cell 0
                have f1 := BM.out.cell 1
                have f2 := BM.out.frozen 0
                have f3 := BM.out.frozen 1
                have BJ := kept bj
                clear bj
                have d0 := BJ.out.cell 0
                have d1 := BJ.out.cell 1
                have d2 := BJ.out.frozen 0
                have d3 := BJ.out.frozen 1
                refine wpAnyH_ready (rs := [9]) (by kernel_rfl) (by simp) ?_
                refine AllReadyH.cons (o := { dst := none, op := Op.store 86 (Operand.tmp 12) (Operand.tmp 53), type := 0, pos := "law.go:50", after := #[{ on := 7, ground := Ground.data }, { on := 5, ground := Ground.data }, { on := 8, ground := Ground.chain }, { on := 0, ground := Ground.phase }, { on := 1, ground := Ground.phase }, { on := 2, ground := Ground.phase }, { on := 3, ground := Ground.phase }, { on := 4, ground := Ground.phase }, { on := 5, ground := Ground.phase }, { on := 6, ground := Ground.phase }, { on := 7, ground := Ground.phase }, { on := 8, ground := Ground.phase }], guard := none }) rfl (fun K hK => ?_) ?_
                · clear hHeld
                  go_simp
                  obtain ⟨s5, bj⟩ := S5W.out.store BJ.out HGJ.out jl jh
                  have bm := BM.out.store (HNM.out) jl jh
                  try clear f0 f1 f2 f3
                  try clear d0 d1 d2 d3
                  clear c0 c1 c2 c3 S5W
                  clear BM
                  clear BJ
                  generalize (X5.setCell ⟨gj, 0, none⟩ (.int .i64 jl)).setCell ⟨gj, 1, none⟩ (.int .i64 jh) = X6 at *
                  obtain ⟨c0, c1, c2, c3⟩ := s5.cells
                  refine hK.out _ _ ?hS (fun hHeld => ?_)
                  case hS => exact ⟨c0, c1, c2, c3⟩
                  clear hK K
                  try simp only [Act.put, List.setIfInBounds_toArray, List.set_cons_zero, List.set_cons_succ]
                  have S5W := kept s5
                  clear s5
                  have BM := kept bm
                  clear bm
                  have f0 := BM.out.cell 0
                  have f1 := BM.out.cell 1
                  have f2 := BM.out.frozen 0
                  have f3 := BM.out.frozen 1
                  have BJ := kept bj
                  clear bj
                  have d0 := BJ.out.cell 0
                  have d1 := BJ.out.cell 1
                  have d2 := BJ.out.frozen 0
                  have d3 := BJ.out.frozen 1
                  refine wpAnyH_done (by kernel_rfl) ?_ _
                  go_wp2
                  go_meet
                  exact ⟨_, _, rfl, rfl, s6_of S5W.out BM.out BJ.out⟩
                exact AllReadyH.nil
              exact AllReadyH.nil
            exact AllReadyH.nil
          refine AllReadyH.cons (o := { dst := some 12, op := Op.alloc 86, type := 0, pos := "law.go:50", after := #[], guard := none }) rfl (fun K hK => ?_) ?_
          · clear hHeld
            go_simp
            have s5 := S5W.out.next ((Keeps.refl X2 []).alloc (.cells #[.int .i64 0, .int .i64 0] 86))
            have bj := s5new (X := X2)
            have hge := s5ge S5W.out
            try clear f0 f1 f2 f3
            try clear d0 d1 d2 d3
            clear c0 c1 c2 c3 S5W
            generalize X2.alloc (.cells #[.int .i64 0, .int .i64 0] 86) = X7 at *
            generalize X2.heap.size = gj at *
            have HGJ := kept hge
            clear hge
            obtain ⟨c0, c1, c2, c3⟩ := s5.cells
            refine hK.out _ _ ?hS (fun hHeld => ?_)
            case hS => exact ⟨c0, c1, c2, c3⟩
            clear hK K
            try simp only [Act.put, List.setIfInBounds_toArray, List.set_cons_zero, List.set_cons_succ]
            have S5W := kept s5
            clear s5
            have BJ := kept bj
            clear bj
            have d0 := BJ.out.cell 0
            have d1 := BJ.out.cell 1
            have d2 := BJ.out.frozen 0
            have d3 := BJ.out.frozen 1
            refine wpAnyH_ready (rs := [6]) (by kernel_rfl) (by simp) ?_
            refine AllReadyH.cons (o := { dst := some 11, op := Op.alloc 86, type := 0, pos := "law.go:50", after := #[], guard := none }) rfl (fun K hK => ?_) ?_
            · clear hHeld
              go_simp
              have s5 := S5W.out.next ((Keeps.refl X7 []).alloc (.cells #[.int .i64 0, .int .i64 0] 86))
              have bm := s5new (X := X7)
              have bj := BJ.out.keep ((Keeps.refl X7 []).alloc (.cells #[.int .i64 0, .int .i64 0] 86)) (by simp)
              have hne := s5ne BJ.out
              have hge := s5ge S5W.out
              try clear f0 f1 f2 f3
              try clear d0 d1 d2 d3
              clear c0 c1 c2 c3 S5W
              clear BJ
              generalize X7.alloc (.cells #[.int .i64 0, .int .i64 0] 86) = X8 at *
              generalize X7.heap.size = gm at *
              have HGM := kept hge
              clear hge
              have HNJ := kept hne
              have HNM := kept (Ne.symm hne)
              clear hne
              obtain ⟨c0, c1, c2, c3⟩ := s5.cells
              refine hK.out _ _ ?hS (fun hHeld => ?_)
              case hS => exact ⟨c0, c1, c2, c3⟩
              clear hK K
              try simp only [Act.put, List.setIfInBounds_toArray, List.set_cons_zero, List.set_cons_succ]
              have S5W := kept s5
              clear s5
              have BM := kept bm
              clear bm
              have f0 := BM.out.cell 0
              have f1 := BM.out.cell 1
              have f2 := BM.out.frozen 0
              have f3 := BM.out.frozen 1
              have BJ := kept bj
              clear bj
              have d0 := BJ.out.cell 0
              have d1 := BJ.out.cell 1
              have d2 := BJ.out.frozen 0
              have d3 := BJ.out.frozen 1
              refine wpAnyH_ready (rs := [8]) (by kernel_rfl) (by simp) ?_
              refine AllReadyH.cons (o := { dst := none, op := Op.store 86 (Operand.tmp 11) (Operand.tmp 50), type := 0, pos := "law.go:50", after := #[{ on := 6, ground := Ground.data }, { on := 2, ground := Ground.data }, { on := 5, ground := Ground.chain }, { on := 0, ground := Ground.phase }, { on := 1, ground := Ground.phase }, { on := 2, ground := Ground.phase }, { on := 3, ground := Ground.textOnly Departure.lateStores }, { on := 4, ground := Ground.textOnly Departure.lateStores }, { on := 5, ground := Ground.textOnly Departure.lateStoresUnsure }, { on := 6, ground := Ground.phase }, { on := 7, ground := Ground.phase }], guard := none }) rfl (fun K hK => ?_) ?_
              · clear hHeld
                go_simp
                obtain ⟨s5, bm⟩ := S5W.out.store BM.out HGM.out ml mh
                have bj := BJ.out.store (HNJ.out) ml mh
                try clear f0 f1 f2 f3
                try clear d0 d1 d2 d3
                clear c0 c1 c2 c3 S5W
                clear BM
                clear BJ
                generalize (X8.setCell ⟨gm, 0, none⟩ (.int .i64 ml)).setCell ⟨gm, 1, none⟩ (.int .i64 mh) = X9 at *
                obtain ⟨c0, c1, c2, c3⟩ := s5.cells
                refine hK.out _ _ ?hS (fun hHeld => ?_)
                case hS => exact ⟨c0, c1, c2, c3⟩
                clear hK K
                try simp only [Act.put, List.setIfInBounds_toArray, List.set_cons_zero, List.set_cons_succ]
                have S5W := kept s5
                clear s5
                have BM := kept bm
                clear bm
                have f0 := BM.out.cell 0
                have f1 := BM.out.cell 1
                have f2 := BM.out.frozen 0
                have f3 := BM.out.frozen 1
                have BJ := kept bj
                clear bj
                have d0 := BJ.out.cell 0
                have d1 := BJ.out.cell 1
                have d2 := BJ.out.frozen 0
                have d3 := BJ.out.frozen 1
                refine wpAnyH_ready (rs := [9]) (by kernel_rfl) (by simp) ?_
                refine AllReadyH.cons (o := { dst := none, op := Op.store 86 (Operand.tmp 12) (Operand.tmp 53), type := 0, pos := "law.go:50", after := #[{ on := 7, ground := Ground.data }, { on := 5, ground := Ground.data }, { on := 8, ground := Ground.chain }, { on := 0, ground := Ground.phase }, { on := 1, ground := Ground.phase }, { on := 2, ground := Ground.phase }, { on := 3, ground := Ground.phase }, { on := 4, ground := Ground.phase }, { on := 5, ground := Ground.phase }, { on := 6, ground := Ground.phase }, { on := 7, ground := Ground.phase }, { on := 8, ground := Ground.phase }], guard := none }) rfl (fun K hK => ?_) ?_
                · clear hHeld
                  go_simp
                  obtain ⟨s5, bj⟩ := S5W.out.store BJ.out HGJ.out jl jh
                  have bm := BM.out.store (HNM.out) jl jh
                  try clear f0 f1 f2 f3
                  try clear d0 d1 d2 d3
                  clear c0 c1 c2 c3 S5W
                  clear BM
                  clear BJ
                  generalize (X9.setCell ⟨gj, 0, none⟩ (.int .i64 jl)).setCell ⟨gj, 1, none⟩ (.int .i64 jh) = X10 at *
                  obtain ⟨c0, c1, c2, c3⟩ := s5.cells
                  refine hK.out _ _ ?hS (fun hHeld => ?_)
                  case hS => exact ⟨c0, c1, c2, c3⟩
                  clear hK K
                  try simp only [Act.put, List.setIfInBounds_toArray, List.set_cons_zero, List.set_cons_succ]
                  have S5W := kept s5
                  clear s5
                  have BM := kept bm
                  clear bm
                  have f0 := BM.out.cell 0
                  have f1 := BM.out.cell 1
                  have f2 := BM.out.frozen 0
                  have f3 := BM.out.frozen 1
                  have BJ := kept bj
                  clear bj
                  have d0 := BJ.out.cell 0
                  have d1 := BJ.out.cell 1
                  have d2 := BJ.out.frozen 0
                  have d3 := BJ.out.frozen 1
                  refine wpAnyH_done (by kernel_rfl) ?_ _
                  go_wp2
                  go_meet
                  exact ⟨_, _, rfl, rfl, s6_of S5W.out BM.out BJ.out⟩
                exact AllReadyH.nil
              exact AllReadyH.nil
            exact AllReadyH.nil
          exact AllReadyH.nil
        refine AllReadyH.cons (o := { dst := some 11, op := Op.alloc 86, type := 0, pos := "law.go:50", after := #[], guard := none }) rfl (fun K hK => ?_) ?_
        · clear hHeld
          go_simp
          have s5 := S5W.out.next ((Keeps.refl X1 []).alloc (.cells #[.int .i64 0, .int .i64 0] 86))
          have bm := s5new (X := X1)
          have hge := s5ge S5W.out
          try clear f0 f1 f2 f3
          try clear d0 d1 d2 d3
          clear c0 c1 c2 c3 S5W
          generalize X1.alloc (.cells #[.int .i64 0, .int .i64 0] 86) = X11 at *
          generalize X1.heap.size = gm at *
          have HGM := kept hge
          clear hge
          obtain ⟨c0, c1, c2, c3⟩ := s5.cells
          refine hK.out _ _ ?hS (fun hHeld => ?_)
          case hS => exact ⟨c0, c1, c2, c3⟩
          clear hK K
          try simp only [Act.put, List.setIfInBounds_toArray, List.set_cons_zero, List.set_cons_succ]
          have S5W := kept s5
          clear s5
          have BM := kept bm
          clear bm
          have f0 := BM.out.cell 0
          have f1 := BM.out.cell 1
          have f2 := BM.out.frozen 0
          have f3 := BM.out.frozen 1
          refine wpAnyH_ready (rs := [5, 7]) (by kernel_rfl) (by simp) ?_
          refine AllReadyH.cons (o := { dst := some 53, op := Op.call { callee := Callee.value (Operand.func 63), args := #[Operand.tmp 51, Operand.tmp 52], argTypes := #[86, 86] }, type := 86, pos := "law.go:50", after := #[{ on := 3, ground := Ground.data }, { on := 4, ground := Ground.data }, { on := 2, ground := Ground.chain }], guard := none }) rfl (fun K hK => ?_) ?_
          · clear hHeld
            go_simp
            (with_reducible refine (CJ.out _).mono ?_)
            rintro e X12 ⟨rfl, k⟩
            show K _ _
            have s5 := S5W.out.next k
            have bm := BM.out.keep k (by simp)
            clear k
            try clear f0 f1 f2 f3
            try clear d0 d1 d2 d3
            clear c0 c1 c2 c3 S5W
            clear BM
            obtain ⟨c0, c1, c2, c3⟩ := s5.cells
            refine hK.out _ _ ?hS (fun hHeld => ?_)
            case hS => exact ⟨c0, c1, c2, c3⟩
            clear hK K
            try simp only [Act.put, List.setIfInBounds_toArray, List.set_cons_zero, List.set_cons_succ]
            have S5W := kept s5
            clear s5
            have BM := kept bm
            clear bm
            have f0 := BM.out.cell 0
            have f1 := BM.out.cell 1
            have f2 := BM.out.frozen 0
            have f3 := BM.out.frozen 1
            refine wpAnyH_ready (rs := [7]) (by kernel_rfl) (by simp) ?_
            refine AllReadyH.cons (o := { dst := some 12, op := Op.alloc 86, type := 0, pos := "law.go:50", after := #[], guard := none }) rfl (fun K hK => ?_) ?_
            · clear hHeld
              go_simp
              have s5 := S5W.out.next ((Keeps.refl X12 []).alloc (.cells #[.int .i64 0, .int .i64 0] 86))
              have bj := s5new (X := X12)
              have bm := BM.out.keep ((Keeps.refl X12 []).alloc (.cells #[.int .i64 0, .int .i64 0] 86)) (by simp)
              have hne := s5ne BM.out
              have hge := s5ge S5W.out
              try clear f0 f1 f2 f3
              try clear d0 d1 d2 d3
              clear c0 c1 c2 c3 S5W
              clear BM
              generalize X12.alloc (.cells #[.int .i64 0, .int .i64 0] 86) = X13 at *
              generalize X12.heap.size = gj at *
              have HGJ := kept hge
              clear hge
              have HNM := kept hne
              have HNJ := kept (Ne.symm hne)
              clear hne
              obtain ⟨c0, c1, c2, c3⟩ := s5.cells
              refine hK.out _ _ ?hS (fun hHeld => ?_)
              case hS => exact ⟨c0, c1, c2, c3⟩
              clear hK K
              try simp only [Act.put, List.setIfInBounds_toArray, List.set_cons_zero, List.set_cons_succ]
              have S5W := kept s5
              clear s5
              have BM := kept bm
              clear bm
              have f0 := BM.out.cell 0
              have f1 := BM.out.cell 1
              have f2 := BM.out.frozen 0
              have f3 := BM.out.frozen 1
              have BJ := kept bj
              clear bj
              have d0 := BJ.out.cell 0
              have d1 := BJ.out.cell 1
              have d2 := BJ.out.frozen 0
              have d3 := BJ.out.frozen 1
              refine wpAnyH_ready (rs := [8]) (by kernel_rfl) (by simp) ?_
              refine AllReadyH.cons (o := { dst := none, op := Op.store 86 (Operand.tmp 11) (Operand.tmp 50), type := 0, pos := "law.go:50", after := #[{ on := 6, ground := Ground.data }, { on := 2, ground := Ground.data }, { on := 5, ground := Ground.chain }, { on := 0, ground := Ground.phase }, { on := 1, ground := Ground.phase }, { on := 2, ground := Ground.phase }, { on := 3, ground := Ground.textOnly Departure.lateStores }, { on := 4, ground := Ground.textOnly Departure.lateStores }, { on := 5, ground := Ground.textOnly Departure.lateStoresUnsure }, { on := 6, ground := Ground.phase }, { on := 7, ground := Ground.phase }], guard := none }) rfl (fun K hK => ?_) ?_
              · clear hHeld
                go_simp
                obtain ⟨s5, bm⟩ := S5W.out.store BM.out HGM.out ml mh
                have bj := BJ.out.store (HNJ.out) ml mh
                try clear f0 f1 f2 f3
                try clear d0 d1 d2 d3
                clear c0 c1 c2 c3 S5W
                clear BM
                clear BJ
                generalize (X13.setCell ⟨gm, 0, none⟩ (.int .i64 ml)).setCell ⟨gm, 1, none⟩ (.int .i64 mh) = X14 at *
                obtain ⟨c0, c1, c2, c3⟩ := s5.cells
                refine hK.out _ _ ?hS (fun hHeld => ?_)
                case hS => exact ⟨c0, c1, c2, c3⟩
                clear hK K
                try simp only [Act.put, List.setIfInBounds_toArray, List.set_cons_zero, List.set_cons_succ]
                have S5W := kept s5
                clear s5
                have BM := kept bm
                clear bm
                have f0 := BM.out.cell 0
                have f1 := BM.out.cell 1
                have f2 := BM.out.frozen 0
                have f3 := BM.out.frozen 1
                have BJ := kept bj
                clear bj
                have d0 := BJ.out.cell 0
                have d1 := BJ.out.cell 1
                have d2 := BJ.out.frozen 0
                have d3 := BJ.out.frozen 1
                refine wpAnyH_ready (rs := [9]) (by kernel_rfl) (by simp) ?_
                refine AllReadyH.cons (o := { dst := none, op := Op.store 86 (Operand.tmp 12) (Operand.tmp 53), type := 0, pos := "law.go:50", after := #[{ on := 7, ground := Ground.data }, { on := 5, ground := Ground.data }, { on := 8, ground := Ground.chain }, { on := 0, ground := Ground.phase }, { on := 1, ground := Ground.phase }, { on := 2, ground := Ground.phase }, { on := 3, ground := Ground.phase }, { on := 4, ground := Ground.phase }, { on := 5, ground := Ground.phase }, { on := 6, ground := Ground.phase }, { on := 7, ground := Ground.phase }, { on := 8, ground := Ground.phase }], guard := none }) rfl (fun K hK => ?_) ?_
                · clear hHeld
                  go_simp
                  obtain ⟨s5, bj⟩ := S5W.out.store BJ.out HGJ.out jl jh
                  have bm := BM.out.store (HNM.out) jl jh
                  try clear f0 f1 f2 f3
                  try clear d0 d1 d2 d3
                  clear c0 c1 c2 c3 S5W
                  clear BM
                  clear BJ
                  generalize (X14.setCell ⟨gj, 0, none⟩ (.int .i64 jl)).setCell ⟨gj, 1, none⟩ (.int .i64 jh) = X15 at *
                  obtain ⟨c0, c1, c2, c3⟩ := s5.cells
                  refine hK.out _ _ ?hS (fun hHeld => ?_)
                  case hS => exact ⟨c0, c1, c2, c3⟩
                  clear hK K
                  try simp only [Act.put, List.setIfInBounds_toArray, List.set_cons_zero, List.set_cons_succ]
                  have S5W := kept s5
                  clear s5
                  have BM := kept bm
                  clear bm
                  have f0 := BM.out.cell 0
                  have f1 := BM.out.cell 1
                  have f2 := BM.out.frozen 0
                  have f3 := BM.out.frozen 1
                  have BJ := kept bj
                  clear bj
                  have d0 := BJ.out.cell 0
                  have d1 := BJ.out.cell 1
                  have d2 := BJ.out.frozen 0
                  have d3 := BJ.out.frozen 1
                  refine wpAnyH_done (by kernel_rfl) ?_ _
                  go_wp2
                  go_meet
                  exact ⟨_, _, rfl, rfl, s6_of S5W.out BM.out BJ.out⟩
                exact AllReadyH.nil
              exact AllReadyH.nil
            exact AllReadyH.nil
          refine AllReadyH.cons (o := { dst := some 12, op := Op.alloc 86, type := 0, pos := "law.go:50", after := #[], guard := none }) rfl (fun K hK => ?_) ?_
          · clear hHeld
            go_simp
            have s5 := S5W.out.next ((Keeps.refl X11 []).alloc (.cells #[.int .i64 0, .int .i64 0] 86))
            have bj := s5new (X := X11)
            have bm := BM.out.keep ((Keeps.refl X11 []).alloc (.cells #[.int .i64 0, .int .i64 0] 86)) (by simp)
            have hne := s5ne BM.out
            have hge := s5ge S5W.out
            try clear f0 f1 f2 f3
            try clear d0 d1 d2 d3
            clear c0 c1 c2 c3 S5W
            clear BM
            generalize X11.alloc (.cells #[.int .i64 0, .int .i64 0] 86) = X16 at *
            generalize X11.heap.size = gj at *
            have HGJ := kept hge
            clear hge
            have HNM := kept hne
            have HNJ := kept (Ne.symm hne)
            clear hne
            obtain ⟨c0, c1, c2, c3⟩ := s5.cells
            refine hK.out _ _ ?hS (fun hHeld => ?_)
            case hS => exact ⟨c0, c1, c2, c3⟩
            clear hK K
            try simp only [Act.put, List.setIfInBounds_toArray, List.set_cons_zero, List.set_cons_succ]
            have S5W := kept s5
            clear s5
            have BM := kept bm
            clear bm
            have f0 := BM.out.cell 0
            have f1 := BM.out.cell 1
            have f2 := BM.out.frozen 0
            have f3 := BM.out.frozen 1
            have BJ := kept bj
            clear bj
            have d0 := BJ.out.cell 0
            have d1 := BJ.out.cell 1
            have d2 := BJ.out.frozen 0
            have d3 := BJ.out.frozen 1
            refine wpAnyH_ready (rs := [5]) (by kernel_rfl) (by simp) ?_
            refine AllReadyH.cons (o := { dst := some 53, op := Op.call { callee := Callee.value (Operand.func 63), args := #[Operand.tmp 51, Operand.tmp 52], argTypes := #[86, 86] }, type := 86, pos := "law.go:50", after := #[{ on := 3, ground := Ground.data }, { on := 4, ground := Ground.data }, { on := 2, ground := Ground.chain }], guard := none }) rfl (fun K hK => ?_) ?_
            · clear hHeld
              go_simp
              (with_reducible refine (CJ.out _).mono ?_)
              rintro e X17 ⟨rfl, k⟩
              show K _ _
              have s5 := S5W.out.next k
              have bm := BM.out.keep k (by simp)
              have bj := BJ.out.keep k (by simp)
              clear k
              try clear f0 f1 f2 f3
              try clear d0 d1 d2 d3
              clear c0 c1 c2 c3 S5W
              clear BM
              clear BJ
              obtain ⟨c0, c1, c2, c3⟩ := s5.cells
              refine hK.out _ _ ?hS (fun hHeld => ?_)
              case hS => exact ⟨c0, c1, c2, c3⟩
              clear hK K
              try simp only [Act.put, List.setIfInBounds_toArray, List.set_cons_zero, List.set_cons_succ]
              have S5W := kept s5
              clear s5
              have BM := kept bm
              clear bm
              have f0 := BM.out.cell 0
              have f1 := BM.out.cell 1
              have f2 := BM.out.frozen 0
              have f3 := BM.out.frozen 1
              have BJ := kept bj
              clear bj
              have d0 := BJ.out.cell 0
              have d1 := BJ.out.cell 1
              have d2 := BJ.out.frozen 0
              have d3 := BJ.out.frozen 1
              refine wpAnyH_ready (rs := [8]) (by kernel_rfl) (by simp) ?_
              refine AllReadyH.cons (o := { dst := none, op := Op.store 86 (Operand.tmp 11) (Operand.tmp 50), type := 0, pos := "law.go:50", after := #[{ on := 6, ground := Ground.data }, { on := 2, ground := Ground.data }, { on := 5, ground := Ground.chain }, { on := 0, ground := Ground.phase }, { on := 1, ground := Ground.phase }, { on := 2, ground := Ground.phase }, { on := 3, ground := Ground.textOnly Departure.lateStores }, { on := 4, ground := Ground.textOnly Departure.lateStores }, { on := 5, ground := Ground.textOnly Departure.lateStoresUnsure }, { on := 6, ground := Ground.phase }, { on := 7, ground := Ground.phase }], guard := none }) rfl (fun K hK => ?_) ?_
              · clear hHeld
                go_simp
                obtain ⟨s5, bm⟩ := S5W.out.store BM.out HGM.out ml mh
                have bj := BJ.out.store (HNJ.out) ml mh
                try clear f0 f1 f2 f3
                try clear d0 d1 d2 d3
                clear c0 c1 c2 c3 S5W
                clear BM
                clear BJ
                generalize (X17.setCell ⟨gm, 0, none⟩ (.int .i64 ml)).setCell ⟨gm, 1, none⟩ (.int .i64 mh) = X18 at *
                obtain ⟨c0, c1, c2, c3⟩ := s5.cells
                refine hK.out _ _ ?hS (fun hHeld => ?_)
                case hS => exact ⟨c0, c1, c2, c3⟩
                clear hK K
                try simp only [Act.put, List.setIfInBounds_toArray, List.set_cons_zero, List.set_cons_succ]
                have S5W := kept s5
                clear s5
                have BM := kept bm
                clear bm
                have f0 := BM.out.cell 0
                have f1 := BM.out.cell 1
                have f2 := BM.out.frozen 0
                have f3 := BM.out.frozen 1
                have BJ := kept bj
                clear bj
                have d0 := BJ.out.cell 0
                have d1 := BJ.out.cell 1
                have d2 := BJ.out.frozen 0
                have d3 := BJ.out.frozen 1
                refine wpAnyH_ready (rs := [9]) (by kernel_rfl) (by simp) ?_
                refine AllReadyH.cons (o := { dst := none, op := Op.store 86 (Operand.tmp 12) (Operand.tmp 53), type := 0, pos := "law.go:50", after := #[{ on := 7, ground := Ground.data }, { on := 5, ground := Ground.data }, { on := 8, ground := Ground.chain }, { on := 0, ground := Ground.phase }, { on := 1, ground := Ground.phase }, { on := 2, ground := Ground.phase }, { on := 3, ground := Ground.phase }, { on := 4, ground := Ground.phase }, { on := 5, ground := Ground.phase }, { on := 6, ground := Ground.phase }, { on := 7, ground := Ground.phase }, { on := 8, ground := Ground.phase }], guard := none }) rfl (fun K hK => ?_) ?_
                · clear hHeld
                  go_simp
                  obtain ⟨s5, bj⟩ := S5W.out.store BJ.out HGJ.out jl jh
                  have bm := BM.out.store (HNM.out) jl jh
                  try clear f0 f1 f2 f3
                  try clear d0 d1 d2 d3
                  clear c0 c1 c2 c3 S5W
                  clear BM
                  clear BJ
                  generalize (X18.setCell ⟨gj, 0, none⟩ (.int .i64 jl)).setCell ⟨gj, 1, none⟩ (.int .i64 jh) = X19 at *
                  obtain ⟨c0, c1, c2, c3⟩ := s5.cells
                  refine hK.out _ _ ?hS (fun hHeld => ?_)
                  case hS => exact ⟨c0, c1, c2, c3⟩
                  clear hK K
                  try simp only [Act.put, List.setIfInBounds_toArray, List.set_cons_zero, List.set_cons_succ]
                  have S5W := kept s5
                  clear s5
                  have BM := kept bm
                  clear bm
                  have f0 := BM.out.cell 0
                  have f1 := BM.out.cell 1
                  have f2 := BM.out.frozen 0
                  have f3 := BM.out.frozen 1
                  have BJ := kept bj
                  clear bj
                  have d0 := BJ.out.cell 0
                  have d1 := BJ.out.cell 1
                  have d2 := BJ.out.frozen 0
                  have d3 := BJ.out.frozen 1
                  refine wpAnyH_done (by kernel_rfl) ?_ _
                  go_wp2
                  go_meet
                  exact ⟨_, _, rfl, rfl, s6_of S5W.out BM.out BJ.out⟩
                exact AllReadyH.nil
              exact AllReadyH.nil
            exact AllReadyH.nil
          exact AllReadyH.nil
        refine AllReadyH.cons (o := { dst := some 12, op := Op.alloc 86, type := 0, pos := "law.go:50", after := #[], guard := none }) rfl (fun K hK => ?_) ?_
        · clear hHeld
          go_simp
          have s5 := S5W.out.next ((Keeps.refl X1 []).alloc (.cells #[.int .i64 0, .int .i64 0] 86))
          have bj := s5new (X := X1)
          have hge := s5ge S5W.out
          try clear f0 f1 f2 f3
          try clear d0 d1 d2 d3
          clear c0 c1 c2 c3 S5W
          generalize X1.alloc (.cells #[.int .i64 0, .int .i64 0] 86) = X20 at *
          generalize X1.heap.size = gj at *
          have HGJ := kept hge
          clear hge
          obtain ⟨c0, c1, c2, c3⟩ := s5.cells
          refine hK.out _ _ ?hS (fun hHeld => ?_)
          case hS => exact ⟨c0, c1, c2, c3⟩
          clear hK K
          try simp only [Act.put, List.setIfInBounds_toArray, List.set_cons_zero, List.set_cons_succ]
          have S5W := kept s5
          clear s5
          have BJ := kept bj
          clear bj
          have d0 := BJ.out.cell 0
          have d1 := BJ.out.cell 1
          have d2 := BJ.out.frozen 0
          have d3 := BJ.out.frozen 1
          refine wpAnyH_ready (rs := [5, 6]) (by kernel_rfl) (by simp) ?_
          refine AllReadyH.cons (o := { dst := some 53, op := Op.call { callee := Callee.value (Operand.func 63), args := #[Operand.tmp 51, Operand.tmp 52], argTypes := #[86, 86] }, type := 86, pos := "law.go:50", after := #[{ on := 3, ground := Ground.data }, { on := 4, ground := Ground.data }, { on := 2, ground := Ground.chain }], guard := none }) rfl (fun K hK => ?_) ?_
          · clear hHeld
            go_simp
            (with_reducible refine (CJ.out _).mono ?_)
            rintro e X21 ⟨rfl, k⟩
            show K _ _
            have s5 := S5W.out.next k
            have bj := BJ.out.keep k (by simp)
            clear k
            try clear f0 f1 f2 f3
            try clear d0 d1 d2 d3
            clear c0 c1 c2 c3 S5W
            clear BJ
            obtain ⟨c0, c1, c2, c3⟩ := s5.cells
            refine hK.out _ _ ?hS (fun hHeld => ?_)
            case hS => exact ⟨c0, c1, c2, c3⟩
            clear hK K
            try simp only [Act.put, List.setIfInBounds_toArray, List.set_cons_zero, List.set_cons_succ]
            have S5W := kept s5
            clear s5
            have BJ := kept bj
            clear bj
            have d0 := BJ.out.cell 0
            have d1 := BJ.out.cell 1
            have d2 := BJ.out.frozen 0
            have d3 := BJ.out.frozen 1
            refine wpAnyH_ready (rs := [6]) (by kernel_rfl) (by simp) ?_
            refine AllReadyH.cons (o := { dst := some 11, op := Op.alloc 86, type := 0, pos := "law.go:50", after := #[], guard := none }) rfl (fun K hK => ?_) ?_
            · clear hHeld
              go_simp
              have s5 := S5W.out.next ((Keeps.refl X21 []).alloc (.cells #[.int .i64 0, .int .i64 0] 86))
              have bm := s5new (X := X21)
              have bj := BJ.out.keep ((Keeps.refl X21 []).alloc (.cells #[.int .i64 0, .int .i64 0] 86)) (by simp)
              have hne := s5ne BJ.out
              have hge := s5ge S5W.out
              try clear f0 f1 f2 f3
              try clear d0 d1 d2 d3
              clear c0 c1 c2 c3 S5W
              clear BJ
              generalize X21.alloc (.cells #[.int .i64 0, .int .i64 0] 86) = X22 at *
              generalize X21.heap.size = gm at *
              have HGM := kept hge
              clear hge
              have HNJ := kept hne
              have HNM := kept (Ne.symm hne)
              clear hne
              obtain ⟨c0, c1, c2, c3⟩ := s5.cells
              refine hK.out _ _ ?hS (fun hHeld => ?_)
              case hS => exact ⟨c0, c1, c2, c3⟩
              clear hK K
              try simp only [Act.put, List.setIfInBounds_toArray, List.set_cons_zero, List.set_cons_succ]
              have S5W := kept s5
              clear s5
              have BM := kept bm
              clear bm
              have f0 := BM.out.cell 0
              have f1 := BM.out.cell 1
              have f2 := BM.out.frozen 0
              have f3 := BM.out.frozen 1
              have BJ := kept bj
              clear bj
              have d0 := BJ.out.cell 0
              have d1 := BJ.out.cell 1
              have d2 := BJ.out.frozen 0
              have d3 := BJ.out.frozen 1
              refine wpAnyH_ready (rs := [8]) (by kernel_rfl) (by simp) ?_
              refine AllReadyH.cons (o := { dst := none, op := Op.store 86 (Operand.tmp 11) (Operand.tmp 50), type := 0, pos := "law.go:50", after := #[{ on := 6, ground := Ground.data }, { on := 2, ground := Ground.data }, { on := 5, ground := Ground.chain }, { on := 0, ground := Ground.phase }, { on := 1, ground := Ground.phase }, { on := 2, ground := Ground.phase }, { on := 3, ground := Ground.textOnly Departure.lateStores }, { on := 4, ground := Ground.textOnly Departure.lateStores }, { on := 5, ground := Ground.textOnly Departure.lateStoresUnsure }, { on := 6, ground := Ground.phase }, { on := 7, ground := Ground.phase }], guard := none }) rfl (fun K hK => ?_) ?_
              · clear hHeld
                go_simp
                obtain ⟨s5, bm⟩ := S5W.out.store BM.out HGM.out ml mh
                have bj := BJ.out.store (HNJ.out) ml mh
                try clear f0 f1 f2 f3
                try clear d0 d1 d2 d3
                clear c0 c1 c2 c3 S5W
                clear BM
                clear BJ
                generalize (X22.setCell ⟨gm, 0, none⟩ (.int .i64 ml)).setCell ⟨gm, 1, none⟩ (.int .i64 mh) = X23 at *
                obtain ⟨c0, c1, c2, c3⟩ := s5.cells
                refine hK.out _ _ ?hS (fun hHeld => ?_)
                case hS => exact ⟨c0, c1, c2, c3⟩
                clear hK K
                try simp only [Act.put, List.setIfInBounds_toArray, List.set_cons_zero, List.set_cons_succ]
                have S5W := kept s5
                clear s5
                have BM := kept bm
                clear bm
                have f0 := BM.out.cell 0
                have f1 := BM.out.cell 1
                have f2 := BM.out.frozen 0
                have f3 := BM.out.frozen 1
                have BJ := kept bj
                clear bj
                have d0 := BJ.out.cell 0
                have d1 := BJ.out.cell 1
                have d2 := BJ.out.frozen 0
                have d3 := BJ.out.frozen 1
                refine wpAnyH_ready (rs := [9]) (by kernel_rfl) (by simp) ?_
                refine AllReadyH.cons (o := { dst := none, op := Op.store 86 (Operand.tmp 12) (Operand.tmp 53), type := 0, pos := "law.go:50", after := #[{ on := 7, ground := Ground.data }, { on := 5, ground := Ground.data }, { on := 8, ground := Ground.chain }, { on := 0, ground := Ground.phase }, { on := 1, ground := Ground.phase }, { on := 2, ground := Ground.phase }, { on := 3, ground := Ground.phase }, { on := 4, ground := Ground.phase }, { on := 5, ground := Ground.phase }, { on := 6, ground := Ground.phase }, { on := 7, ground := Ground.phase }, { on := 8, ground := Ground.phase }], guard := none }) rfl (fun K hK => ?_) ?_
                · clear hHeld
                  go_simp
                  obtain ⟨s5, bj⟩ := S5W.out.store BJ.out HGJ.out jl jh
                  have bm := BM.out.store (HNM.out) jl jh
                  try clear f0 f1 f2 f3
                  try clear d0 d1 d2 d3
                  clear c0 c1 c2 c3 S5W
                  clear BM
                  clear BJ
                  generalize (X23.setCell ⟨gj, 0, none⟩ (.int .i64 jl)).setCell ⟨gj, 1, none⟩ (.int .i64 jh) = X24 at *
                  obtain ⟨c0, c1, c2, c3⟩ := s5.cells
                  refine hK.out _ _ ?hS (fun hHeld => ?_)
                  case hS => exact ⟨c0, c1, c2, c3⟩
                  clear hK K
                  try simp only [Act.put, List.setIfInBounds_toArray, List.set_cons_zero, List.set_cons_succ]
                  have S5W := kept s5
                  clear s5
                  have BM := kept bm
                  clear bm
                  have f0 := BM.out.cell 0
                  have f1 := BM.out.cell 1
                  have f2 := BM.out.frozen 0
                  have f3 := BM.out.frozen 1
                  have BJ := kept bj
                  clear bj
                  have d0 := BJ.out.cell 0
                  have d1 := BJ.out.cell 1
                  have d2 := BJ.out.frozen 0
                  have d3 := BJ.out.frozen 1
                  refine wpAnyH_done (by kernel_rfl) ?_ _
                  go_wp2
                  go_meet
                  exact ⟨_, _, rfl, rfl, s6_of S5W.out BM.out BJ.out⟩
                exact AllReadyH.nil
              exact AllReadyH.nil
            exact AllReadyH.nil
          refine AllReadyH.cons (o := { dst := some 11, op := Op.alloc 86, type := 0, pos := "law.go:50", after := #[], guard := none }) rfl (fun K hK => ?_) ?_
          · clear hHeld
            go_simp
            have s5 := S5W.out.next ((Keeps.refl X20 []).alloc (.cells #[.int .i64 0, .int .i64 0] 86))
            have bm := s5new (X := X20)
            have bj := BJ.out.keep ((Keeps.refl X20 []).alloc (.cells #[.int .i64 0, .int .i64 0] 86)) (by simp)
            have hne := s5ne BJ.out
            have hge := s5ge S5W.out
            try clear f0 f1 f2 f3
            try clear d0 d1 d2 d3
            clear c0 c1 c2 c3 S5W
            clear BJ
            generalize X20.alloc (.cells #[.int .i64 0, .int .i64 0] 86) = X25 at *
            generalize X20.heap.size = gm at *
            have HGM := kept hge
            clear hge
            have HNJ := kept hne
            have HNM := kept (Ne.symm hne)
            clear hne
            obtain ⟨c0, c1, c2, c3⟩ := s5.cells
            refine hK.out _ _ ?hS (fun hHeld => ?_)
            case hS => exact ⟨c0, c1, c2, c3⟩
            clear hK K
            try simp only [Act.put, List.setIfInBounds_toArray, List.set_cons_zero, List.set_cons_succ]
            have S5W := kept s5
            clear s5
            have BM := kept bm
            clear bm
            have f0 := BM.out.cell 0
            have f1 := BM.out.cell 1
            have f2 := BM.out.frozen 0
            have f3 := BM.out.frozen 1
            have BJ := kept bj
            clear bj
            have d0 := BJ.out.cell 0
            have d1 := BJ.out.cell 1
            have d2 := BJ.out.frozen 0
            have d3 := BJ.out.frozen 1
            refine wpAnyH_ready (rs := [5]) (by kernel_rfl) (by simp) ?_
            refine AllReadyH.cons (o := { dst := some 53, op := Op.call { callee := Callee.value (Operand.func 63), args := #[Operand.tmp 51, Operand.tmp 52], argTypes := #[86, 86] }, type := 86, pos := "law.go:50", after := #[{ on := 3, ground := Ground.data }, { on := 4, ground := Ground.data }, { on := 2, ground := Ground.chain }], guard := none }) rfl (fun K hK => ?_) ?_
            · clear hHeld
              go_simp
              (with_reducible refine (CJ.out _).mono ?_)
              rintro e X26 ⟨rfl, k⟩
              show K _ _
              have s5 := S5W.out.next k
              have bm := BM.out.keep k (by simp)
              have bj := BJ.out.keep k (by simp)
              clear k
              try clear f0 f1 f2 f3
              try clear d0 d1 d2 d3
              clear c0 c1 c2 c3 S5W
              clear BM
              clear BJ
              obtain ⟨c0, c1, c2, c3⟩ := s5.cells
              refine hK.out _ _ ?hS (fun hHeld => ?_)
              case hS => exact ⟨c0, c1, c2, c3⟩
              clear hK K
              try simp only [Act.put, List.setIfInBounds_toArray, List.set_cons_zero, List.set_cons_succ]
              have S5W := kept s5
              clear s5
              have BM := kept bm
              clear bm
              have f0 := BM.out.cell 0
              have f1 := BM.out.cell 1
              have f2 := BM.out.frozen 0
              have f3 := BM.out.frozen 1
              have BJ := kept bj
              clear bj
              have d0 := BJ.out.cell 0
              have d1 := BJ.out.cell 1
              have d2 := BJ.out.frozen 0
              have d3 := BJ.out.frozen 1
              refine wpAnyH_ready (rs := [8]) (by kernel_rfl) (by simp) ?_
              refine AllReadyH.cons (o := { dst := none, op := Op.store 86 (Operand.tmp 11) (Operand.tmp 50), type := 0, pos := "law.go:50", after := #[{ on := 6, ground := Ground.data }, { on := 2, ground := Ground.data }, { on := 5, ground := Ground.chain }, { on := 0, ground := Ground.phase }, { on := 1, ground := Ground.phase }, { on := 2, ground := Ground.phase }, { on := 3, ground := Ground.textOnly Departure.lateStores }, { on := 4, ground := Ground.textOnly Departure.lateStores }, { on := 5, ground := Ground.textOnly Departure.lateStoresUnsure }, { on := 6, ground := Ground.phase }, { on := 7, ground := Ground.phase }], guard := none }) rfl (fun K hK => ?_) ?_
              · clear hHeld
                go_simp
                obtain ⟨s5, bm⟩ := S5W.out.store BM.out HGM.out ml mh
                have bj := BJ.out.store (HNJ.out) ml mh
                try clear f0 f1 f2 f3
                try clear d0 d1 d2 d3
                clear c0 c1 c2 c3 S5W
                clear BM
                clear BJ
                generalize (X26.setCell ⟨gm, 0, none⟩ (.int .i64 ml)).setCell ⟨gm, 1, none⟩ (.int .i64 mh) = X27 at *
                obtain ⟨c0, c1, c2, c3⟩ := s5.cells
                refine hK.out _ _ ?hS (fun hHeld => ?_)
                case hS => exact ⟨c0, c1, c2, c3⟩
                clear hK K
                try simp only [Act.put, List.setIfInBounds_toArray, List.set_cons_zero, List.set_cons_succ]
                have S5W := kept s5
                clear s5
                have BM := kept bm
                clear bm
                have f0 := BM.out.cell 0
                have f1 := BM.out.cell 1
                have f2 := BM.out.frozen 0
                have f3 := BM.out.frozen 1
                have BJ := kept bj
                clear bj
                have d0 := BJ.out.cell 0
                have d1 := BJ.out.cell 1
                have d2 := BJ.out.frozen 0
                have d3 := BJ.out.frozen 1
                refine wpAnyH_ready (rs := [9]) (by kernel_rfl) (by simp) ?_
                refine AllReadyH.cons (o := { dst := none, op := Op.store 86 (Operand.tmp 12) (Operand.tmp 53), type := 0, pos := "law.go:50", after := #[{ on := 7, ground := Ground.data }, { on := 5, ground := Ground.data }, { on := 8, ground := Ground.chain }, { on := 0, ground := Ground.phase }, { on := 1, ground := Ground.phase }, { on := 2, ground := Ground.phase }, { on := 3, ground := Ground.phase }, { on := 4, ground := Ground.phase }, { on := 5, ground := Ground.phase }, { on := 6, ground := Ground.phase }, { on := 7, ground := Ground.phase }, { on := 8, ground := Ground.phase }], guard := none }) rfl (fun K hK => ?_) ?_
                · clear hHeld
                  go_simp
                  obtain ⟨s5, bj⟩ := S5W.out.store BJ.out HGJ.out jl jh
                  have bm := BM.out.store (HNM.out) jl jh
                  try clear f0 f1 f2 f3
                  try clear d0 d1 d2 d3
                  clear c0 c1 c2 c3 S5W
                  clear BM
                  clear BJ
                  generalize (X27.setCell ⟨gj, 0, none⟩ (.int .i64 jl)).setCell ⟨gj, 1, none⟩ (.int .i64 jh) = X28 at *
                  obtain ⟨c0, c1, c2, c3⟩ := s5.cells
                  refine hK.out _ _ ?hS (fun hHeld => ?_)
                  case hS => exact ⟨c0, c1, c2, c3⟩
                  clear hK K
                  try simp only [Act.put, List.setIfInBounds_toArray, List.set_cons_zero, List.set_cons_succ]
                  have S5W := kept s5
                  clear s5
                  have BM := kept bm
                  clear bm
                  have f0 := BM.out.cell 0
                  have f1 := BM.out.cell 1
                  have f2 := BM.out.frozen 0
                  have f3 := BM.out.frozen 1
                  have BJ := kept bj
                  clear bj
                  have d0 := BJ.out.cell 0
                  have d1 := BJ.out.cell 1
                  have d2 := BJ.out.frozen 0
                  have d3 := BJ.out.frozen 1
                  refine wpAnyH_done (by kernel_rfl) ?_ _
                  go_wp2
                  go_meet
                  exact ⟨_, _, rfl, rfl, s6_of S5W.out BM.out BJ.out⟩
                exact AllReadyH.nil
              exact AllReadyH.nil
            exact AllReadyH.nil
          exact AllReadyH.nil
        exact AllReadyH.nil
      refine AllReadyH.cons (o := { dst := some 11, op := Op.alloc 86, type := 0, pos := "law.go:50", after := #[], guard := none }) rfl (fun K hK => ?_) ?_
      · clear hHeld
        go_simp
        have s5 := S5W.out.next ((Keeps.refl X0 []).alloc (.cells #[.int .i64 0, .int .i64 0] 86))
        have bm := s5new (X := X0)
        have hge := s5ge S5W.out
        try clear f0 f1 f2 f3
        try clear d0 d1 d2 d3
        clear c0 c1 c2 c3 S5W
        generalize X0.alloc (.cells #[.int .i64 0, .int .i64 0] 86) = X29 at *
        generalize X0.heap.size = gm at *
        have HGM := kept hge
        clear hge
        obtain ⟨c0, c1, c2, c3⟩ := s5.cells
        refine hK.out _ _ ?hS (fun hHeld => ?_)
        case hS => exact ⟨c0, c1, c2, c3⟩
        clear hK K
        try simp only [Act.put, List.setIfInBounds_toArray, List.set_cons_zero, List.set_cons_succ]
        have S5W := kept s5
        clear s5
        have BM := kept bm
        clear bm
        have f0 := BM.out.cell 0
        have f1 := BM.out.cell 1
        have f2 := BM.out.frozen 0
        have f3 := BM.out.frozen 1
        refine wpAnyH_ready (rs := [2, 7]) (by kernel_rfl) (by simp) ?_
        refine AllReadyH.cons (o := { dst := some 50, op := Op.call { callee := Callee.value (Operand.func 62), args := #[Operand.tmp 48, Operand.tmp 49], argTypes := #[86, 86] }, type := 86, pos := "law.go:50", after := #[{ on := 0, ground := Ground.data }, { on := 1, ground := Ground.data }], guard := none }) rfl (fun K hK => ?_) ?_
        · clear hHeld
          go_simp
          (with_reducible refine (CM.out _).mono ?_)
          rintro e X30 ⟨rfl, k⟩
          show K _ _
          have s5 := S5W.out.next k
          have bm := BM.out.keep k (by simp)
          clear k
          try clear f0 f1 f2 f3
          try clear d0 d1 d2 d3
          clear c0 c1 c2 c3 S5W
          clear BM
          obtain ⟨c0, c1, c2, c3⟩ := s5.cells
          refine hK.out _ _ ?hS (fun hHeld => ?_)
          case hS => exact ⟨c0, c1, c2, c3⟩
          clear hK K
          try simp only [Act.put, List.setIfInBounds_toArray, List.set_cons_zero, List.set_cons_succ]
          have S5W := kept s5
          clear s5
          have BM := kept bm
          clear bm
          have f0 := BM.out.cell 0
          have f1 := BM.out.cell 1
          have f2 := BM.out.frozen 0
          have f3 := BM.out.frozen 1
          refine wpAnyH_ready (rs := [5, 7]) (by kernel_rfl) (by simp) ?_
          refine AllReadyH.cons (o := { dst := some 53, op := Op.call { callee := Callee.value (Operand.func 63), args := #[Operand.tmp 51, Operand.tmp 52], argTypes := #[86, 86] }, type := 86, pos := "law.go:50", after := #[{ on := 3, ground := Ground.data }, { on := 4, ground := Ground.data }, { on := 2, ground := Ground.chain }], guard := none }) rfl (fun K hK => ?_) ?_
          · clear hHeld
            go_simp
            (with_reducible refine (CJ.out _).mono ?_)
            rintro e X31 ⟨rfl, k⟩
            show K _ _
            have s5 := S5W.out.next k
            have bm := BM.out.keep k (by simp)
            clear k
            try clear f0 f1 f2 f3
            try clear d0 d1 d2 d3
            clear c0 c1 c2 c3 S5W
            clear BM
            obtain ⟨c0, c1, c2, c3⟩ := s5.cells
            refine hK.out _ _ ?hS (fun hHeld => ?_)
            case hS => exact ⟨c0, c1, c2, c3⟩
            clear hK K
            try simp only [Act.put, List.setIfInBounds_toArray, List.set_cons_zero, List.set_cons_succ]
            have S5W := kept s5
            clear s5
            have BM := kept bm
            clear bm
            have f0 := BM.out.cell 0
            have f1 := BM.out.cell 1
            have f2 := BM.out.frozen 0
            have f3 := BM.out.frozen 1
            refine wpAnyH_ready (rs := [7]) (by kernel_rfl) (by simp) ?_
            refine AllReadyH.cons (o := { dst := some 12, op := Op.alloc 86, type := 0, pos := "law.go:50", after := #[], guard := none }) rfl (fun K hK => ?_) ?_
            · clear hHeld
              go_simp
              have s5 := S5W.out.next ((Keeps.refl X31 []).alloc (.cells #[.int .i64 0, .int .i64 0] 86))
              have bj := s5new (X := X31)
              have bm := BM.out.keep ((Keeps.refl X31 []).alloc (.cells #[.int .i64 0, .int .i64 0] 86)) (by simp)
              have hne := s5ne BM.out
              have hge := s5ge S5W.out
              try clear f0 f1 f2 f3
              try clear d0 d1 d2 d3
              clear c0 c1 c2 c3 S5W
              clear BM
              generalize X31.alloc (.cells #[.int .i64 0, .int .i64 0] 86) = X32 at *
              generalize X31.heap.size = gj at *
              have HGJ := kept hge
              clear hge
              have HNM := kept hne
              have HNJ := kept (Ne.symm hne)
              clear hne
              obtain ⟨c0, c1, c2, c3⟩ := s5.cells
              refine hK.out _ _ ?hS (fun hHeld => ?_)
              case hS => exact ⟨c0, c1, c2, c3⟩
              clear hK K
              try simp only [Act.put, List.setIfInBounds_toArray, List.set_cons_zero, List.set_cons_succ]
              have S5W := kept s5
              clear s5
              have BM := kept bm
              clear bm
              have f0 := BM.out.cell 0
              have f1 := BM.out.cell 1
              have f2 := BM.out.frozen 0
              have f3 := BM.out.frozen 1
              have BJ := kept bj
              clear bj
              have d0 := BJ.out.cell 0
              have d1 := BJ.out.cell 1
              have d2 := BJ.out.frozen 0
              have d3 := BJ.out.frozen 1
              refine wpAnyH_ready (rs := [8]) (by kernel_rfl) (by simp) ?_
              refine AllReadyH.cons (o := { dst := none, op := Op.store 86 (Operand.tmp 11) (Operand.tmp 50), type := 0, pos := "law.go:50", after := #[{ on := 6, ground := Ground.data }, { on := 2, ground := Ground.data }, { on := 5, ground := Ground.chain }, { on := 0, ground := Ground.phase }, { on := 1, ground := Ground.phase }, { on := 2, ground := Ground.phase }, { on := 3, ground := Ground.textOnly Departure.lateStores }, { on := 4, ground := Ground.textOnly Departure.lateStores }, { on := 5, ground := Ground.textOnly Departure.lateStoresUnsure }, { on := 6, ground := Ground.phase }, { on := 7, ground := Ground.phase }], guard := none }) rfl (fun K hK => ?_) ?_
              · clear hHeld
                go_simp
                obtain ⟨s5, bm⟩ := S5W.out.store BM.out HGM.out ml mh
                have bj := BJ.out.store (HNJ.out) ml mh
                try clear f0 f1 f2 f3
                try clear d0 d1 d2 d3
                clear c0 c1 c2 c3 S5W
                clear BM
                clear BJ
                generalize (X32.setCell ⟨gm, 0, none⟩ (.int .i64 ml)).setCell ⟨gm, 1, none⟩ (.int .i64 mh) = X33 at *
                obtain ⟨c0, c1, c2, c3⟩ := s5.cells
                refine hK.out _ _ ?hS (fun hHeld => ?_)
                case hS => exact ⟨c0, c1, c2, c3⟩
                clear hK K
                try simp only [Act.put, List.setIfInBounds_toArray, List.set_cons_zero, List.set_cons_succ]
                have S5W := kept s5
                clear s5
                have BM := kept bm
                clear bm
                have f0 := BM.out.cell 0
                have f1 := BM.out.cell 1
                have f2 := BM.out.frozen 0
                have f3 := BM.out.frozen 1
                have BJ := kept bj
                clear bj
                have d0 := BJ.out.cell 0
                have d1 := BJ.out.cell 1
                have d2 := BJ.out.frozen 0
                have d3 := BJ.out.frozen 1
                refine wpAnyH_ready (rs := [9]) (by kernel_rfl) (by simp) ?_
                refine AllReadyH.cons (o := { dst := none, op := Op.store 86 (Operand.tmp 12) (Operand.tmp 53), type := 0, pos := "law.go:50", after := #[{ on := 7, ground := Ground.data }, { on := 5, ground := Ground.data }, { on := 8, ground := Ground.chain }, { on := 0, ground := Ground.phase }, { on := 1, ground := Ground.phase }, { on := 2, ground := Ground.phase }, { on := 3, ground := Ground.phase }, { on := 4, ground := Ground.phase }, { on := 5, ground := Ground.phase }, { on := 6, ground := Ground.phase }, { on := 7, ground := Ground.phase }, { on := 8, ground := Ground.phase }], guard := none }) rfl (fun K hK => ?_) ?_
                · clear hHeld
                  go_simp
                  obtain ⟨s5, bj⟩ := S5W.out.store BJ.out HGJ.out jl jh
                  have bm := BM.out.store (HNM.out) jl jh
                  try clear f0 f1 f2 f3
                  try clear d0 d1 d2 d3
                  clear c0 c1 c2 c3 S5W
                  clear BM
                  clear BJ
                  generalize (X33.setCell ⟨gj, 0, none⟩ (.int .i64 jl)).setCell ⟨gj, 1, none⟩ (.int .i64 jh) = X34 at *
                  obtain ⟨c0, c1, c2, c3⟩ := s5.cells
                  refine hK.out _ _ ?hS (fun hHeld => ?_)
                  case hS => exact ⟨c0, c1, c2, c3⟩
                  clear hK K
                  try simp only [Act.put, List.setIfInBounds_toArray, List.set_cons_zero, List.set_cons_succ]
                  have S5W := kept s5
                  clear s5
                  have BM := kept bm
                  clear bm
                  have f0 := BM.out.cell 0
                  have f1 := BM.out.cell 1
                  have f2 := BM.out.frozen 0
                  have f3 := BM.out.frozen 1
                  have BJ := kept bj
                  clear bj
                  have d0 := BJ.out.cell 0
                  have d1 := BJ.out.cell 1
                  have d2 := BJ.out.frozen 0
                  have d3 := BJ.out.frozen 1
                  refine wpAnyH_done (by kernel_rfl) ?_ _
                  go_wp2
                  go_meet
                  exact ⟨_, _, rfl, rfl, s6_of S5W.out BM.out BJ.out⟩
                exact AllReadyH.nil
              exact AllReadyH.nil
            exact AllReadyH.nil
          refine AllReadyH.cons (o := { dst := some 12, op := Op.alloc 86, type := 0, pos := "law.go:50", after := #[], guard := none }) rfl (fun K hK => ?_) ?_
          · clear hHeld
            go_simp
            have s5 := S5W.out.next ((Keeps.refl X30 []).alloc (.cells #[.int .i64 0, .int .i64 0] 86))
            have bj := s5new (X := X30)
            have bm := BM.out.keep ((Keeps.refl X30 []).alloc (.cells #[.int .i64 0, .int .i64 0] 86)) (by simp)
            have hne := s5ne BM.out
            have hge := s5ge S5W.out
            try clear f0 f1 f2 f3
            try clear d0 d1 d2 d3
            clear c0 c1 c2 c3 S5W
            clear BM
            generalize X30.alloc (.cells #[.int .i64 0, .int .i64 0] 86) = X35 at *
            generalize X30.heap.size = gj at *
            have HGJ := kept hge
            clear hge
            have HNM := kept hne
            have HNJ := kept (Ne.symm hne)
            clear hne
            obtain ⟨c0, c1, c2, c3⟩ := s5.cells
            refine hK.out _ _ ?hS (fun hHeld => ?_)
            case hS => exact ⟨c0, c1, c2, c3⟩
            clear hK K
            try simp only [Act.put, List.setIfInBounds_toArray, List.set_cons_zero, List.set_cons_succ]
            have S5W := kept s5
            clear s5
            have BM := kept bm
            clear bm
            have f0 := BM.out.cell 0
            have f1 := BM.out.cell 1
            have f2 := BM.out.frozen 0
            have f3 := BM.out.frozen 1
            have BJ := kept bj
            clear bj
            have d0 := BJ.out.cell 0
            have d1 := BJ.out.cell 1
            have d2 := BJ.out.frozen 0
            have d3 := BJ.out.frozen 1
            refine wpAnyH_ready (rs := [5]) (by kernel_rfl) (by simp) ?_
            refine AllReadyH.cons (o := { dst := some 53, op := Op.call { callee := Callee.value (Operand.func 63), args := #[Operand.tmp 51, Operand.tmp 52], argTypes := #[86, 86] }, type := 86, pos := "law.go:50", after := #[{ on := 3, ground := Ground.data }, { on := 4, ground := Ground.data }, { on := 2, ground := Ground.chain }], guard := none }) rfl (fun K hK => ?_) ?_
            · clear hHeld
              go_simp
              (with_reducible refine (CJ.out _).mono ?_)
              rintro e X36 ⟨rfl, k⟩
              show K _ _
              have s5 := S5W.out.next k
              have bm := BM.out.keep k (by simp)
              have bj := BJ.out.keep k (by simp)
              clear k
              try clear f0 f1 f2 f3
              try clear d0 d1 d2 d3
              clear c0 c1 c2 c3 S5W
              clear BM
              clear BJ
              obtain ⟨c0, c1, c2, c3⟩ := s5.cells
              refine hK.out _ _ ?hS (fun hHeld => ?_)
              case hS => exact ⟨c0, c1, c2, c3⟩
              clear hK K
              try simp only [Act.put, List.setIfInBounds_toArray, List.set_cons_zero, List.set_cons_succ]
              have S5W := kept s5
              clear s5
              have BM := kept bm
              clear bm
              have f0 := BM.out.cell 0
              have f1 := BM.out.cell 1
              have f2 := BM.out.frozen 0
              have f3 := BM.out.frozen 1
              have BJ := kept bj
              clear bj
              have d0 := BJ.out.cell 0
              have d1 := BJ.out.cell 1
              have d2 := BJ.out.frozen 0
              have d3 := BJ.out.frozen 1
              refine wpAnyH_ready (rs := [8]) (by kernel_rfl) (by simp) ?_
              refine AllReadyH.cons (o := { dst := none, op := Op.store 86 (Operand.tmp 11) (Operand.tmp 50), type := 0, pos := "law.go:50", after := #[{ on := 6, ground := Ground.data }, { on := 2, ground := Ground.data }, { on := 5, ground := Ground.chain }, { on := 0, ground := Ground.phase }, { on := 1, ground := Ground.phase }, { on := 2, ground := Ground.phase }, { on := 3, ground := Ground.textOnly Departure.lateStores }, { on := 4, ground := Ground.textOnly Departure.lateStores }, { on := 5, ground := Ground.textOnly Departure.lateStoresUnsure }, { on := 6, ground := Ground.phase }, { on := 7, ground := Ground.phase }], guard := none }) rfl (fun K hK => ?_) ?_
              · clear hHeld
                go_simp
                obtain ⟨s5, bm⟩ := S5W.out.store BM.out HGM.out ml mh
                have bj := BJ.out.store (HNJ.out) ml mh
                try clear f0 f1 f2 f3
                try clear d0 d1 d2 d3
                clear c0 c1 c2 c3 S5W
                clear BM
                clear BJ
                generalize (X36.setCell ⟨gm, 0, none⟩ (.int .i64 ml)).setCell ⟨gm, 1, none⟩ (.int .i64 mh) = X37 at *
                obtain ⟨c0, c1, c2, c3⟩ := s5.cells
                refine hK.out _ _ ?hS (fun hHeld => ?_)
                case hS => exact ⟨c0, c1, c2, c3⟩
                clear hK K
                try simp only [Act.put, List.setIfInBounds_toArray, List.set_cons_zero, List.set_cons_succ]
                have S5W := kept s5
                clear s5
                have BM := kept bm
                clear bm
                have f0 := BM.out.cell 0
                have f1 := BM.out.cell 1
                have f2 := BM.out.frozen 0
                have f3 := BM.out.frozen 1
                have BJ := kept bj
                clear bj
                have d0 := BJ.out.cell 0
                have d1 := BJ.out.cell 1
                have d2 := BJ.out.frozen 0
                have d3 := BJ.out.frozen 1
                refine wpAnyH_ready (rs := [9]) (by kernel_rfl) (by simp) ?_
                refine AllReadyH.cons (o := { dst := none, op := Op.store 86 (Operand.tmp 12) (Operand.tmp 53), type := 0, pos := "law.go:50", after := #[{ on := 7, ground := Ground.data }, { on := 5, ground := Ground.data }, { on := 8, ground := Ground.chain }, { on := 0, ground := Ground.phase }, { on := 1, ground := Ground.phase }, { on := 2, ground := Ground.phase }, { on := 3, ground := Ground.phase }, { on := 4, ground := Ground.phase }, { on := 5, ground := Ground.phase }, { on := 6, ground := Ground.phase }, { on := 7, ground := Ground.phase }, { on := 8, ground := Ground.phase }], guard := none }) rfl (fun K hK => ?_) ?_
                · clear hHeld
                  go_simp
                  obtain ⟨s5, bj⟩ := S5W.out.store BJ.out HGJ.out jl jh
                  have bm := BM.out.store (HNM.out) jl jh
                  try clear f0 f1 f2 f3
                  try clear d0 d1 d2 d3
                  clear c0 c1 c2 c3 S5W
                  clear BM
                  clear BJ
                  generalize (X37.setCell ⟨gj, 0, none⟩ (.int .i64 jl)).setCell ⟨gj, 1, none⟩ (.int .i64 jh) = X38 at *
                  obtain ⟨c0, c1, c2, c3⟩ := s5.cells
                  refine hK.out _ _ ?hS (fun hHeld => ?_)
                  case hS => exact ⟨c0, c1, c2, c3⟩
                  clear hK K
                  try simp only [Act.put, List.setIfInBounds_toArray, List.set_cons_zero, List.set_cons_succ]
                  have S5W := kept s5
                  clear s5
                  have BM := kept bm
                  clear bm
                  have f0 := BM.out.cell 0
                  have f1 := BM.out.cell 1
                  have f2 := BM.out.frozen 0
                  have f3 := BM.out.frozen 1
                  have BJ := kept bj
                  clear bj
                  have d0 := BJ.out.cell 0
                  have d1 := BJ.out.cell 1
                  have d2 := BJ.out.frozen 0
                  have d3 := BJ.out.frozen 1
                  refine wpAnyH_done (by kernel_rfl) ?_ _
                  go_wp2
                  go_meet
                  exact ⟨_, _, rfl, rfl, s6_of S5W.out BM.out BJ.out⟩
                exact AllReadyH.nil
              exact AllReadyH.nil
            exact AllReadyH.nil
          exact AllReadyH.nil
        refine AllReadyH.cons (o := { dst := some 12, op := Op.alloc 86, type := 0, pos := "law.go:50", after := #[], guard := none }) rfl (fun K hK => ?_) ?_
        · clear hHeld
          go_simp
          have s5 := S5W.out.next ((Keeps.refl X29 []).alloc (.cells #[.int .i64 0, .int .i64 0] 86))
          have bj := s5new (X := X29)
          have bm := BM.out.keep ((Keeps.refl X29 []).alloc (.cells #[.int .i64 0, .int .i64 0] 86)) (by simp)
          have hne := s5ne BM.out
          have hge := s5ge S5W.out
          try clear f0 f1 f2 f3
          try clear d0 d1 d2 d3
          clear c0 c1 c2 c3 S5W
          clear BM
          generalize X29.alloc (.cells #[.int .i64 0, .int .i64 0] 86) = X39 at *
          generalize X29.heap.size = gj at *
          have HGJ := kept hge
          clear hge
          have HNM := kept hne
          have HNJ := kept (Ne.symm hne)
          clear hne
          obtain ⟨c0, c1, c2, c3⟩ := s5.cells
          refine hK.out _ _ ?hS (fun hHeld => ?_)
          case hS => exact ⟨c0, c1, c2, c3⟩
          clear hK K
          try simp only [Act.put, List.setIfInBounds_toArray, List.set_cons_zero, List.set_cons_succ]
          have S5W := kept s5
          clear s5
          have BM := kept bm
          clear bm
          have f0 := BM.out.cell 0
          have f1 := BM.out.cell 1
          have f2 := BM.out.frozen 0
          have f3 := BM.out.frozen 1
          have BJ := kept bj
          clear bj
          have d0 := BJ.out.cell 0
          have d1 := BJ.out.cell 1
          have d2 := BJ.out.frozen 0
          have d3 := BJ.out.frozen 1
          refine wpAnyH_ready (rs := [2]) (by kernel_rfl) (by simp) ?_
          refine AllReadyH.cons (o := { dst := some 50, op := Op.call { callee := Callee.value (Operand.func 62), args := #[Operand.tmp 48, Operand.tmp 49], argTypes := #[86, 86] }, type := 86, pos := "law.go:50", after := #[{ on := 0, ground := Ground.data }, { on := 1, ground := Ground.data }], guard := none }) rfl (fun K hK => ?_) ?_
          · clear hHeld
            go_simp
            (with_reducible refine (CM.out _).mono ?_)
            rintro e X40 ⟨rfl, k⟩
            show K _ _
            have s5 := S5W.out.next k
            have bm := BM.out.keep k (by simp)
            have bj := BJ.out.keep k (by simp)
            clear k
            try clear f0 f1 f2 f3
            try clear d0 d1 d2 d3
            clear c0 c1 c2 c3 S5W
            clear BM
            clear BJ
            obtain ⟨c0, c1, c2, c3⟩ := s5.cells
            refine hK.out _ _ ?hS (fun hHeld => ?_)
            case hS => exact ⟨c0, c1, c2, c3⟩
            clear hK K
            try simp only [Act.put, List.setIfInBounds_toArray, List.set_cons_zero, List.set_cons_succ]
            have S5W := kept s5
            clear s5
            have BM := kept bm
            clear bm
            have f0 := BM.out.cell 0
            have f1 := BM.out.cell 1
            have f2 := BM.out.frozen 0
            have f3 := BM.out.frozen 1
            have BJ := kept bj
            clear bj
            have d0 := BJ.out.cell 0
            have d1 := BJ.out.cell 1
            have d2 := BJ.out.frozen 0
            have d3 := BJ.out.frozen 1
            refine wpAnyH_ready (rs := [5]) (by kernel_rfl) (by simp) ?_
            refine AllReadyH.cons (o := { dst := some 53, op := Op.call { callee := Callee.value (Operand.func 63), args := #[Operand.tmp 51, Operand.tmp 52], argTypes := #[86, 86] }, type := 86, pos := "law.go:50", after := #[{ on := 3, ground := Ground.data }, { on := 4, ground := Ground.data }, { on := 2, ground := Ground.chain }], guard := none }) rfl (fun K hK => ?_) ?_
            · clear hHeld
              go_simp
              (with_reducible refine (CJ.out _).mono ?_)
              rintro e X41 ⟨rfl, k⟩
              show K _ _
              have s5 := S5W.out.next k
              have bm := BM.out.keep k (by simp)
              have bj := BJ.out.keep k (by simp)
              clear k
              try clear f0 f1 f2 f3
              try clear d0 d1 d2 d3
              clear c0 c1 c2 c3 S5W
              clear BM
              clear BJ
              obtain ⟨c0, c1, c2, c3⟩ := s5.cells
              refine hK.out _ _ ?hS (fun hHeld => ?_)
              case hS => exact ⟨c0, c1, c2, c3⟩
              clear hK K
              try simp only [Act.put, List.setIfInBounds_toArray, List.set_cons_zero, List.set_cons_succ]
              have S5W := kept s5
              clear s5
              have BM := kept bm
              clear bm
              have f0 := BM.out.cell 0
              have f1 := BM.out.cell 1
              have f2 := BM.out.frozen 0
              have f3 := BM.out.frozen 1
              have BJ := kept bj
              clear bj
              have d0 := BJ.out.cell 0
              have d1 := BJ.out.cell 1
              have d2 := BJ.out.frozen 0
              have d3 := BJ.out.frozen 1
              refine wpAnyH_ready (rs := [8]) (by kernel_rfl) (by simp) ?_
              refine AllReadyH.cons (o := { dst := none, op := Op.store 86 (Operand.tmp 11) (Operand.tmp 50), type := 0, pos := "law.go:50", after := #[{ on := 6, ground := Ground.data }, { on := 2, ground := Ground.data }, { on := 5, ground := Ground.chain }, { on := 0, ground := Ground.phase }, { on := 1, ground := Ground.phase }, { on := 2, ground := Ground.phase }, { on := 3, ground := Ground.textOnly Departure.lateStores }, { on := 4, ground := Ground.textOnly Departure.lateStores }, { on := 5, ground := Ground.textOnly Departure.lateStoresUnsure }, { on := 6, ground := Ground.phase }, { on := 7, ground := Ground.phase }], guard := none }) rfl (fun K hK => ?_) ?_
              · clear hHeld
                go_simp
                obtain ⟨s5, bm⟩ := S5W.out.store BM.out HGM.out ml mh
                have bj := BJ.out.store (HNJ.out) ml mh
                try clear f0 f1 f2 f3
                try clear d0 d1 d2 d3
                clear c0 c1 c2 c3 S5W
                clear BM
                clear BJ
                generalize (X41.setCell ⟨gm, 0, none⟩ (.int .i64 ml)).setCell ⟨gm, 1, none⟩ (.int .i64 mh) = X42 at *
                obtain ⟨c0, c1, c2, c3⟩ := s5.cells
                refine hK.out _ _ ?hS (fun hHeld => ?_)
                case hS => exact ⟨c0, c1, c2, c3⟩
                clear hK K
                try simp only [Act.put, List.setIfInBounds_toArray, List.set_cons_zero, List.set_cons_succ]
                have S5W := kept s5
                clear s5
                have BM := kept bm
                clear bm
                have f0 := BM.out.cell 0
                have f1 := BM.out.cell 1
                have f2 := BM.out.frozen 0
                have f3 := BM.out.frozen 1
                have BJ := kept bj
                clear bj
                have d0 := BJ.out.cell 0
                have d1 := BJ.out.cell 1
                have d2 := BJ.out.frozen 0
                have d3 := BJ.out.frozen 1
                refine wpAnyH_ready (rs := [9]) (by kernel_rfl) (by simp) ?_
                refine AllReadyH.cons (o := { dst := none, op := Op.store 86 (Operand.tmp 12) (Operand.tmp 53), type := 0, pos := "law.go:50", after := #[{ on := 7, ground := Ground.data }, { on := 5, ground := Ground.data }, { on := 8, ground := Ground.chain }, { on := 0, ground := Ground.phase }, { on := 1, ground := Ground.phase }, { on := 2, ground := Ground.phase }, { on := 3, ground := Ground.phase }, { on := 4, ground := Ground.phase }, { on := 5, ground := Ground.phase }, { on := 6, ground := Ground.phase }, { on := 7, ground := Ground.phase }, { on := 8, ground := Ground.phase }], guard := none }) rfl (fun K hK => ?_) ?_
                · clear hHeld
                  go_simp
                  obtain ⟨s5, bj⟩ := S5W.out.store BJ.out HGJ.out jl jh
                  have bm := BM.out.store (HNM.out) jl jh
                  try clear f0 f1 f2 f3
                  try clear d0 d1 d2 d3
                  clear c0 c1 c2 c3 S5W
                  clear BM
                  clear BJ
                  generalize (X42.setCell ⟨gj, 0, none⟩ (.int .i64 jl)).setCell ⟨gj, 1, none⟩ (.int .i64 jh) = X43 at *
                  obtain ⟨c0, c1, c2, c3⟩ := s5.cells
                  refine hK.out _ _ ?hS (fun hHeld => ?_)
                  case hS => exact ⟨c0, c1, c2, c3⟩
                  clear hK K
                  try simp only [Act.put, List.setIfInBounds_toArray, List.set_cons_zero, List.set_cons_succ]
                  have S5W := kept s5
                  clear s5
                  have BM := kept bm
                  clear bm
                  have f0 := BM.out.cell 0
                  have f1 := BM.out.cell 1
                  have f2 := BM.out.frozen 0
                  have f3 := BM.out.frozen 1
                  have BJ := kept bj
                  clear bj
                  have d0 := BJ.out.cell 0
                  have d1 := BJ.out.cell 1
                  have d2 := BJ.out.frozen 0
                  have d3 := BJ.out.frozen 1
                  refine wpAnyH_done (by kernel_rfl) ?_ _
                  go_wp2
                  go_meet
                  exact ⟨_, _, rfl, rfl, s6_of S5W.out BM.out BJ.out⟩
                exact AllReadyH.nil
              exact AllReadyH.nil
            exact AllReadyH.nil
          exact AllReadyH.nil
        exact AllReadyH.nil
      refine AllReadyH.cons (o := { dst := some 12, op := Op.alloc 86, type := 0, pos := "law.go:50", after := #[], guard := none }) rfl (fun K hK => ?_) ?_
      · clear hHeld
        go_simp
        have s5 := S5W.out.next ((Keeps.refl X0 []).alloc (.cells #[.int .i64 0, .int .i64 0] 86))
        have bj := s5new (X := X0)
        have hge := s5ge S5W.out
        try clear f0 f1 f2 f3
        try clear d0 d1 d2 d3
        clear c0 c1 c2 c3 S5W
        generalize X0.alloc (.cells #[.int .i64 0, .int .i64 0] 86) = X44 at *
        generalize X0.heap.size = gj at *
        have HGJ := kept hge
        clear hge
        obtain ⟨c0, c1, c2, c3⟩ := s5.cells
        refine hK.out _ _ ?hS (fun hHeld => ?_)
        case hS => exact ⟨c0, c1, c2, c3⟩
        clear hK K
        try simp only [Act.put, List.setIfInBounds_toArray, List.set_cons_zero, List.set_cons_succ]
        have S5W := kept s5
        clear s5
        have BJ := kept bj
        clear bj
        have d0 := BJ.out.cell 0
        have d1 := BJ.out.cell 1
        have d2 := BJ.out.frozen 0
        have d3 := BJ.out.frozen 1
        refine wpAnyH_ready (rs := [2, 6]) (by kernel_rfl) (by simp) ?_
        refine AllReadyH.cons (o := { dst := some 50, op := Op.call { callee := Callee.value (Operand.func 62), args := #[Operand.tmp 48, Operand.tmp 49], argTypes := #[86, 86] }, type := 86, pos := "law.go:50", after := #[{ on := 0, ground := Ground.data }, { on := 1, ground := Ground.data }], guard := none }) rfl (fun K hK => ?_) ?_
        · clear hHeld
          go_simp
          (with_reducible refine (CM.out _).mono ?_)
          rintro e X45 ⟨rfl, k⟩
          show K _ _
          have s5 := S5W.out.next k
          have bj := BJ.out.keep k (by simp)
          clear k
          try clear f0 f1 f2 f3
          try clear d0 d1 d2 d3
          clear c0 c1 c2 c3 S5W
          clear BJ
          obtain ⟨c0, c1, c2, c3⟩ := s5.cells
          refine hK.out _ _ ?hS (fun hHeld => ?_)
          case hS => exact ⟨c0, c1, c2, c3⟩
          clear hK K
          try simp only [Act.put, List.setIfInBounds_toArray, List.set_cons_zero, List.set_cons_succ]
          have S5W := kept s5
          clear s5
          have BJ := kept bj
          clear bj
          have d0 := BJ.out.cell 0
          have d1 := BJ.out.cell 1
          have d2 := BJ.out.frozen 0
          have d3 := BJ.out.frozen 1
          refine wpAnyH_ready (rs := [5, 6]) (by kernel_rfl) (by simp) ?_
          refine AllReadyH.cons (o := { dst := some 53, op := Op.call { callee := Callee.value (Operand.func 63), args := #[Operand.tmp 51, Operand.tmp 52], argTypes := #[86, 86] }, type := 86, pos := "law.go:50", after := #[{ on := 3, ground := Ground.data }, { on := 4, ground := Ground.data }, { on := 2, ground := Ground.chain }], guard := none }) rfl (fun K hK => ?_) ?_
          · clear hHeld
            go_simp
            (with_reducible refine (CJ.out _).mono ?_)
            rintro e X46 ⟨rfl, k⟩
            show K _ _
            have s5 := S5W.out.next k
            have bj := BJ.out.keep k (by simp)
            clear k
            try clear f0 f1 f2 f3
            try clear d0 d1 d2 d3
            clear c0 c1 c2 c3 S5W
            clear BJ
            obtain ⟨c0, c1, c2, c3⟩ := s5.cells
            refine hK.out _ _ ?hS (fun hHeld => ?_)
            case hS => exact ⟨c0, c1, c2, c3⟩
            clear hK K
            try simp only [Act.put, List.setIfInBounds_toArray, List.set_cons_zero, List.set_cons_succ]
            have S5W := kept s5
            clear s5
            have BJ := kept bj
            clear bj
            have d0 := BJ.out.cell 0
            have d1 := BJ.out.cell 1
            have d2 := BJ.out.frozen 0
            have d3 := BJ.out.frozen 1
            refine wpAnyH_ready (rs := [6]) (by kernel_rfl) (by simp) ?_
            refine AllReadyH.cons (o := { dst := some 11, op := Op.alloc 86, type := 0, pos := "law.go:50", after := #[], guard := none }) rfl (fun K hK => ?_) ?_
            · clear hHeld
              go_simp
              have s5 := S5W.out.next ((Keeps.refl X46 []).alloc (.cells #[.int .i64 0, .int .i64 0] 86))
              have bm := s5new (X := X46)
              have bj := BJ.out.keep ((Keeps.refl X46 []).alloc (.cells #[.int .i64 0, .int .i64 0] 86)) (by simp)
              have hne := s5ne BJ.out
              have hge := s5ge S5W.out
              try clear f0 f1 f2 f3
              try clear d0 d1 d2 d3
              clear c0 c1 c2 c3 S5W
              clear BJ
              generalize X46.alloc (.cells #[.int .i64 0, .int .i64 0] 86) = X47 at *
              generalize X46.heap.size = gm at *
              have HGM := kept hge
              clear hge
              have HNJ := kept hne
              have HNM := kept (Ne.symm hne)
              clear hne
              obtain ⟨c0, c1, c2, c3⟩ := s5.cells
              refine hK.out _ _ ?hS (fun hHeld => ?_)
              case hS => exact ⟨c0, c1, c2, c3⟩
              clear hK K
              try simp only [Act.put, List.setIfInBounds_toArray, List.set_cons_zero, List.set_cons_succ]
              have S5W := kept s5
              clear s5
              have BM := kept bm
              clear bm
              have f0 := BM.out.cell 0
              have f1 := BM.out.cell 1
              have f2 := BM.out.frozen 0
              have f3 := BM.out.frozen 1
              have BJ := kept bj
              clear bj
              have d0 := BJ.out.cell 0
              have d1 := BJ.out.cell 1
              have d2 := BJ.out.frozen 0
              have d3 := BJ.out.frozen 1
              refine wpAnyH_ready (rs := [8]) (by kernel_rfl) (by simp) ?_
              refine AllReadyH.cons (o := { dst := none, op := Op.store 86 (Operand.tmp 11) (Operand.tmp 50), type := 0, pos := "law.go:50", after := #[{ on := 6, ground := Ground.data }, { on := 2, ground := Ground.data }, { on := 5, ground := Ground.chain }, { on := 0, ground := Ground.phase }, { on := 1, ground := Ground.phase }, { on := 2, ground := Ground.phase }, { on := 3, ground := Ground.textOnly Departure.lateStores }, { on := 4, ground := Ground.textOnly Departure.lateStores }, { on := 5, ground := Ground.textOnly Departure.lateStoresUnsure }, { on := 6, ground := Ground.phase }, { on := 7, ground := Ground.phase }], guard := none }) rfl (fun K hK => ?_) ?_
              · clear hHeld
                go_simp
                obtain ⟨s5, bm⟩ := S5W.out.store BM.out HGM.out ml mh
                have bj := BJ.out.store (HNJ.out) ml mh
                try clear f0 f1 f2 f3
                try clear d0 d1 d2 d3
                clear c0 c1 c2 c3 S5W
                clear BM
                clear BJ
                generalize (X47.setCell ⟨gm, 0, none⟩ (.int .i64 ml)).setCell ⟨gm, 1, none⟩ (.int .i64 mh) = X48 at *
                obtain ⟨c0, c1, c2, c3⟩ := s5.cells
                refine hK.out _ _ ?hS (fun hHeld => ?_)
                case hS => exact ⟨c0, c1, c2, c3⟩
                clear hK K
                try simp only [Act.put, List.setIfInBounds_toArray, List.set_cons_zero, List.set_cons_succ]
                have S5W := kept s5
                clear s5
                have BM := kept bm
                clear bm
                have f0 := BM.out.cell 0
                have f1 := BM.out.cell 1
                have f2 := BM.out.frozen 0
                have f3 := BM.out.frozen 1
                have BJ := kept bj
                clear bj
                have d0 := BJ.out.cell 0
                have d1 := BJ.out.cell 1
                have d2 := BJ.out.frozen 0
                have d3 := BJ.out.frozen 1
                refine wpAnyH_ready (rs := [9]) (by kernel_rfl) (by simp) ?_
                refine AllReadyH.cons (o := { dst := none, op := Op.store 86 (Operand.tmp 12) (Operand.tmp 53), type := 0, pos := "law.go:50", after := #[{ on := 7, ground := Ground.data }, { on := 5, ground := Ground.data }, { on := 8, ground := Ground.chain }, { on := 0, ground := Ground.phase }, { on := 1, ground := Ground.phase }, { on := 2, ground := Ground.phase }, { on := 3, ground := Ground.phase }, { on := 4, ground := Ground.phase }, { on := 5, ground := Ground.phase }, { on := 6, ground := Ground.phase }, { on := 7, ground := Ground.phase }, { on := 8, ground := Ground.phase }], guard := none }) rfl (fun K hK => ?_) ?_
                · clear hHeld
                  go_simp
                  obtain ⟨s5, bj⟩ := S5W.out.store BJ.out HGJ.out jl jh
                  have bm := BM.out.store (HNM.out) jl jh
                  try clear f0 f1 f2 f3
                  try clear d0 d1 d2 d3
                  clear c0 c1 c2 c3 S5W
                  clear BM
                  clear BJ
                  generalize (X48.setCell ⟨gj, 0, none⟩ (.int .i64 jl)).setCell ⟨gj, 1, none⟩ (.int .i64 jh) = X49 at *
                  obtain ⟨c0, c1, c2, c3⟩ := s5.cells
                  refine hK.out _ _ ?hS (fun hHeld => ?_)
                  case hS => exact ⟨c0, c1, c2, c3⟩
                  clear hK K
                  try simp only [Act.put, List.setIfInBounds_toArray, List.set_cons_zero, List.set_cons_succ]
                  have S5W := kept s5
                  clear s5
                  have BM := kept bm
                  clear bm
                  have f0 := BM.out.cell 0
                  have f1 := BM.out.cell 1
                  have f2 := BM.out.frozen 0
                  have f3 := BM.out.frozen 1
                  have BJ := kept bj
                  clear bj
                  have d0 := BJ.out.cell 0
                  have d1 := BJ.out.cell 1
                  have d2 := BJ.out.frozen 0
                  have d3 := BJ.out.frozen 1
                  refine wpAnyH_done (by kernel_rfl) ?_ _
                  go_wp2
                  go_meet
                  exact ⟨_, _, rfl, rfl, s6_of S5W.out BM.out BJ.out⟩
                exact AllReadyH.nil
              exact AllReadyH.nil
            exact AllReadyH.nil
          refine AllReadyH.cons (o := { dst := some 11, op := Op.alloc 86, type := 0, pos := "law.go:50", after := #[], guard := none }) rfl (fun K hK => ?_) ?_
          · clear hHeld
            go_simp
            have s5 := S5W.out.next ((Keeps.refl X45 []).alloc (.cells #[.int .i64 0, .int .i64 0] 86))
            have bm := s5new (X := X45)
            have bj := BJ.out.keep ((Keeps.refl X45 []).alloc (.cells #[.int .i64 0, .int .i64 0] 86)) (by simp)
            have hne := s5ne BJ.out
            have hge := s5ge S5W.out
            try clear f0 f1 f2 f3
            try clear d0 d1 d2 d3
            clear c0 c1 c2 c3 S5W
            clear BJ
            generalize X45.alloc (.cells #[.int .i64 0, .int .i64 0] 86) = X50 at *
            generalize X45.heap.size = gm at *
            have HGM := kept hge
            clear hge
            have HNJ := kept hne
            have HNM := kept (Ne.symm hne)
            clear hne
            obtain ⟨c0, c1, c2, c3⟩ := s5.cells
            refine hK.out _ _ ?hS (fun hHeld => ?_)
            case hS => exact ⟨c0, c1, c2, c3⟩
            clear hK K
            try simp only [Act.put, List.setIfInBounds_toArray, List.set_cons_zero, List.set_cons_succ]
            have S5W := kept s5
            clear s5
            have BM := kept bm
            clear bm
            have f0 := BM.out.cell 0
            have f1 := BM.out.cell 1
            have f2 := BM.out.frozen 0
            have f3 := BM.out.frozen 1
            have BJ := kept bj
            clear bj
            have d0 := BJ.out.cell 0
            have d1 := BJ.out.cell 1
            have d2 := BJ.out.frozen 0
            have d3 := BJ.out.frozen 1
            refine wpAnyH_ready (rs := [5]) (by kernel_rfl) (by simp) ?_
            refine AllReadyH.cons (o := { dst := some 53, op := Op.call { callee := Callee.value (Operand.func 63), args := #[Operand.tmp 51, Operand.tmp 52], argTypes := #[86, 86] }, type := 86, pos := "law.go:50", after := #[{ on := 3, ground := Ground.data }, { on := 4, ground := Ground.data }, { on := 2, ground := Ground.chain }], guard := none }) rfl (fun K hK => ?_) ?_
            · clear hHeld
              go_simp
              (with_reducible refine (CJ.out _).mono ?_)
              rintro e X51 ⟨rfl, k⟩
              show K _ _
              have s5 := S5W.out.next k
              have bm := BM.out.keep k (by simp)
              have bj := BJ.out.keep k (by simp)
              clear k
              try clear f0 f1 f2 f3
              try clear d0 d1 d2 d3
              clear c0 c1 c2 c3 S5W
              clear BM
              clear BJ
              obtain ⟨c0, c1, c2, c3⟩ := s5.cells
              refine hK.out _ _ ?hS (fun hHeld => ?_)
              case hS => exact ⟨c0, c1, c2, c3⟩
              clear hK K
              try simp only [Act.put, List.setIfInBounds_toArray, List.set_cons_zero, List.set_cons_succ]
              have S5W := kept s5
              clear s5
              have BM := kept bm
              clear bm
              have f0 := BM.out.cell 0
              have f1 := BM.out.cell 1
              have f2 := BM.out.frozen 0
              have f3 := BM.out.frozen 1
              have BJ := kept bj
              clear bj
              have d0 := BJ.out.cell 0
              have d1 := BJ.out.cell 1
              have d2 := BJ.out.frozen 0
              have d3 := BJ.out.frozen 1
              refine wpAnyH_ready (rs := [8]) (by kernel_rfl) (by simp) ?_
              refine AllReadyH.cons (o := { dst := none, op := Op.store 86 (Operand.tmp 11) (Operand.tmp 50), type := 0, pos := "law.go:50", after := #[{ on := 6, ground := Ground.data }, { on := 2, ground := Ground.data }, { on := 5, ground := Ground.chain }, { on := 0, ground := Ground.phase }, { on := 1, ground := Ground.phase }, { on := 2, ground := Ground.phase }, { on := 3, ground := Ground.textOnly Departure.lateStores }, { on := 4, ground := Ground.textOnly Departure.lateStores }, { on := 5, ground := Ground.textOnly Departure.lateStoresUnsure }, { on := 6, ground := Ground.phase }, { on := 7, ground := Ground.phase }], guard := none }) rfl (fun K hK => ?_) ?_
              · clear hHeld
                go_simp
                obtain ⟨s5, bm⟩ := S5W.out.store BM.out HGM.out ml mh
                have bj := BJ.out.store (HNJ.out) ml mh
                try clear f0 f1 f2 f3
                try clear d0 d1 d2 d3
                clear c0 c1 c2 c3 S5W
                clear BM
                clear BJ
                generalize (X51.setCell ⟨gm, 0, none⟩ (.int .i64 ml)).setCell ⟨gm, 1, none⟩ (.int .i64 mh) = X52 at *
                obtain ⟨c0, c1, c2, c3⟩ := s5.cells
                refine hK.out _ _ ?hS (fun hHeld => ?_)
                case hS => exact ⟨c0, c1, c2, c3⟩
                clear hK K
                try simp only [Act.put, List.setIfInBounds_toArray, List.set_cons_zero, List.set_cons_succ]
                have S5W := kept s5
                clear s5
                have BM := kept bm
                clear bm
                have f0 := BM.out.cell 0
                have f1 := BM.out.cell 1
                have f2 := BM.out.frozen 0
                have f3 := BM.out.frozen 1
                have BJ := kept bj
                clear bj
                have d0 := BJ.out.cell 0
                have d1 := BJ.out.cell 1
                have d2 := BJ.out.frozen 0
                have d3 := BJ.out.frozen 1
                refine wpAnyH_ready (rs := [9]) (by kernel_rfl) (by simp) ?_
                refine AllReadyH.cons (o := { dst := none, op := Op.store 86 (Operand.tmp 12) (Operand.tmp 53), type := 0, pos := "law.go:50", after := #[{ on := 7, ground := Ground.data }, { on := 5, ground := Ground.data }, { on := 8, ground := Ground.chain }, { on := 0, ground := Ground.phase }, { on := 1, ground := Ground.phase }, { on := 2, ground := Ground.phase }, { on := 3, ground := Ground.phase }, { on := 4, ground := Ground.phase }, { on := 5, ground := Ground.phase }, { on := 6, ground := Ground.phase }, { on := 7, ground := Ground.phase }, { on := 8, ground := Ground.phase }], guard := none }) rfl (fun K hK => ?_) ?_
                · clear hHeld
                  go_simp
                  obtain ⟨s5, bj⟩ := S5W.out.store BJ.out HGJ.out jl jh
                  have bm := BM.out.store (HNM.out) jl jh
                  try clear f0 f1 f2 f3
                  try clear d0 d1 d2 d3
                  clear c0 c1 c2 c3 S5W
                  clear BM
                  clear BJ
                  generalize (X52.setCell ⟨gj, 0, none⟩ (.int .i64 jl)).setCell ⟨gj, 1, none⟩ (.int .i64 jh) = X53 at *
                  obtain ⟨c0, c1, c2, c3⟩ := s5.cells
                  refine hK.out _ _ ?hS (fun hHeld => ?_)
                  case hS => exact ⟨c0, c1, c2, c3⟩
                  clear hK K
                  try simp only [Act.put, List.setIfInBounds_toArray, List.set_cons_zero, List.set_cons_succ]
                  have S5W := kept s5
                  clear s5
                  have BM := kept bm
                  clear bm
                  have f0 := BM.out.cell 0
                  have f1 := BM.out.cell 1
                  have f2 := BM.out.frozen 0
                  have f3 := BM.out.frozen 1
                  have BJ := kept bj
                  clear bj
                  have d0 := BJ.out.cell 0
                  have d1 := BJ.out.cell 1
                  have d2 := BJ.out.frozen 0
                  have d3 := BJ.out.frozen 1
                  refine wpAnyH_done (by kernel_rfl) ?_ _
                  go_wp2
                  go_meet
                  exact ⟨_, _, rfl, rfl, s6_of S5W.out BM.out BJ.out⟩
                exact AllReadyH.nil
              exact AllReadyH.nil
            exact AllReadyH.nil
          exact AllReadyH.nil
        refine AllReadyH.cons (o := { dst := some 11, op := Op.alloc 86, type := 0, pos := "law.go:50", after := #[], guard := none }) rfl (fun K hK => ?_) ?_
        · clear hHeld
          go_simp
          have s5 := S5W.out.next ((Keeps.refl X44 []).alloc (.cells #[.int .i64 0, .int .i64 0] 86))
          have bm := s5new (X := X44)
          have bj := BJ.out.keep ((Keeps.refl X44 []).alloc (.cells #[.int .i64 0, .int .i64 0] 86)) (by simp)
          have hne := s5ne BJ.out
          have hge := s5ge S5W.out
          try clear f0 f1 f2 f3
          try clear d0 d1 d2 d3
          clear c0 c1 c2 c3 S5W
          clear BJ
          generalize X44.alloc (.cells #[.int .i64 0, .int .i64 0] 86) = X54 at *
          generalize X44.heap.size = gm at *
          have HGM := kept hge
          clear hge
          have HNJ := kept hne
          have HNM := kept (Ne.symm hne)
          clear hne
          obtain ⟨c0, c1, c2, c3⟩ := s5.cells
          refine hK.out _ _ ?hS (fun hHeld => ?_)
          case hS => exact ⟨c0, c1, c2, c3⟩
          clear hK K
          try simp only [Act.put, List.setIfInBounds_toArray, List.set_cons_zero, List.set_cons_succ]
          have S5W := kept s5
          clear s5
          have BM := kept bm
          clear bm
          have f0 := BM.out.cell 0
          have f1 := BM.out.cell 1
          have f2 := BM.out.frozen 0
          have f3 := BM.out.frozen 1
          have BJ := kept bj
          clear bj
          have d0 := BJ.out.cell 0
          have d1 := BJ.out.cell 1
          have d2 := BJ.out.frozen 0
          have d3 := BJ.out.frozen 1
          refine wpAnyH_ready (rs := [2]) (by kernel_rfl) (by simp) ?_
          refine AllReadyH.cons (o := { dst := some 50, op := Op.call { callee := Callee.value (Operand.func 62), args := #[Operand.tmp 48, Operand.tmp 49], argTypes := #[86, 86] }, type := 86, pos := "law.go:50", after := #[{ on := 0, ground := Ground.data }, { on := 1, ground := Ground.data }], guard := none }) rfl (fun K hK => ?_) ?_
          · clear hHeld
            go_simp
            (with_reducible refine (CM.out _).mono ?_)
            rintro e X55 ⟨rfl, k⟩
            show K _ _
            have s5 := S5W.out.next k
            have bm := BM.out.keep k (by simp)
            have bj := BJ.out.keep k (by simp)
            clear k
            try clear f0 f1 f2 f3
            try clear d0 d1 d2 d3
            clear c0 c1 c2 c3 S5W
            clear BM
            clear BJ
            obtain ⟨c0, c1, c2, c3⟩ := s5.cells
            refine hK.out _ _ ?hS (fun hHeld => ?_)
            case hS => exact ⟨c0, c1, c2, c3⟩
            clear hK K
            try simp only [Act.put, List.setIfInBounds_toArray, List.set_cons_zero, List.set_cons_succ]
            have S5W := kept s5
            clear s5
            have BM := kept bm
            clear bm
            have f0 := BM.out.cell 0
            have f1 := BM.out.cell 1
            have f2 := BM.out.frozen 0
            have f3 := BM.out.frozen 1
            have BJ := kept bj
            clear bj
            have d0 := BJ.out.cell 0
            have d1 := BJ.out.cell 1
            have d2 := BJ.out.frozen 0
            have d3 := BJ.out.frozen 1
            refine wpAnyH_ready (rs := [5]) (by kernel_rfl) (by simp) ?_
            refine AllReadyH.cons (o := { dst := some 53, op := Op.call { callee := Callee.value (Operand.func 63), args := #[Operand.tmp 51, Operand.tmp 52], argTypes := #[86, 86] }, type := 86, pos := "law.go:50", after := #[{ on := 3, ground := Ground.data }, { on := 4, ground := Ground.data }, { on := 2, ground := Ground.chain }], guard := none }) rfl (fun K hK => ?_) ?_
            · clear hHeld
              go_simp
              (with_reducible refine (CJ.out _).mono ?_)
              rintro e X56 ⟨rfl, k⟩
              show K _ _
              have s5 := S5W.out.next k
              have bm := BM.out.keep k (by simp)
              have bj := BJ.out.keep k (by simp)
              clear k
              try clear f0 f1 f2 f3
              try clear d0 d1 d2 d3
              clear c0 c1 c2 c3 S5W
              clear BM
              clear BJ
              obtain ⟨c0, c1, c2, c3⟩ := s5.cells
              refine hK.out _ _ ?hS (fun hHeld => ?_)
              case hS => exact ⟨c0, c1, c2, c3⟩
              clear hK K
              try simp only [Act.put, List.setIfInBounds_toArray, List.set_cons_zero, List.set_cons_succ]
              have S5W := kept s5
              clear s5
              have BM := kept bm
              clear bm
              have f0 := BM.out.cell 0
              have f1 := BM.out.cell 1
              have f2 := BM.out.frozen 0
              have f3 := BM.out.frozen 1
              have BJ := kept bj
              clear bj
              have d0 := BJ.out.cell 0
              have d1 := BJ.out.cell 1
              have d2 := BJ.out.frozen 0
              have d3 := BJ.out.frozen 1
              refine wpAnyH_ready (rs := [8]) (by kernel_rfl) (by simp) ?_
              refine AllReadyH.cons (o := { dst := none, op := Op.store 86 (Operand.tmp 11) (Operand.tmp 50), type := 0, pos := "law.go:50", after := #[{ on := 6, ground := Ground.data }, { on := 2, ground := Ground.data }, { on := 5, ground := Ground.chain }, { on := 0, ground := Ground.phase }, { on := 1, ground := Ground.phase }, { on := 2, ground := Ground.phase }, { on := 3, ground := Ground.textOnly Departure.lateStores }, { on := 4, ground := Ground.textOnly Departure.lateStores }, { on := 5, ground := Ground.textOnly Departure.lateStoresUnsure }, { on := 6, ground := Ground.phase }, { on := 7, ground := Ground.phase }], guard := none }) rfl (fun K hK => ?_) ?_
              · clear hHeld
                go_simp
                obtain ⟨s5, bm⟩ := S5W.out.store BM.out HGM.out ml mh
                have bj := BJ.out.store (HNJ.out) ml mh
                try clear f0 f1 f2 f3
                try clear d0 d1 d2 d3
                clear c0 c1 c2 c3 S5W
                clear BM
                clear BJ
                generalize (X56.setCell ⟨gm, 0, none⟩ (.int .i64 ml)).setCell ⟨gm, 1, none⟩ (.int .i64 mh) = X57 at *
                obtain ⟨c0, c1, c2, c3⟩ := s5.cells
                refine hK.out _ _ ?hS (fun hHeld => ?_)
                case hS => exact ⟨c0, c1, c2, c3⟩
                clear hK K
                try simp only [Act.put, List.setIfInBounds_toArray, List.set_cons_zero, List.set_cons_succ]
                have S5W := kept s5
                clear s5
                have BM := kept bm
                clear bm
                have f0 := BM.out.cell 0
                have f1 := BM.out.cell 1
                have f2 := BM.out.frozen 0
                have f3 := BM.out.frozen 1
                have BJ := kept bj
                clear bj
                have d0 := BJ.out.cell 0
                have d1 := BJ.out.cell 1
                have d2 := BJ.out.frozen 0
                have d3 := BJ.out.frozen 1
                refine wpAnyH_ready (rs := [9]) (by kernel_rfl) (by simp) ?_
                refine AllReadyH.cons (o := { dst := none, op := Op.store 86 (Operand.tmp 12) (Operand.tmp 53), type := 0, pos := "law.go:50", after := #[{ on := 7, ground := Ground.data }, { on := 5, ground := Ground.data }, { on := 8, ground := Ground.chain }, { on := 0, ground := Ground.phase }, { on := 1, ground := Ground.phase }, { on := 2, ground := Ground.phase }, { on := 3, ground := Ground.phase }, { on := 4, ground := Ground.phase }, { on := 5, ground := Ground.phase }, { on := 6, ground := Ground.phase }, { on := 7, ground := Ground.phase }, { on := 8, ground := Ground.phase }], guard := none }) rfl (fun K hK => ?_) ?_
                · clear hHeld
                  go_simp
                  obtain ⟨s5, bj⟩ := S5W.out.store BJ.out HGJ.out jl jh
                  have bm := BM.out.store (HNM.out) jl jh
                  try clear f0 f1 f2 f3
                  try clear d0 d1 d2 d3
                  clear c0 c1 c2 c3 S5W
                  clear BM
                  clear BJ
                  generalize (X57.setCell ⟨gj, 0, none⟩ (.int .i64 jl)).setCell ⟨gj, 1, none⟩ (.int .i64 jh) = X58 at *
                  obtain ⟨c0, c1, c2, c3⟩ := s5.cells
                  refine hK.out _ _ ?hS (fun hHeld => ?_)
                  case hS => exact ⟨c0, c1, c2, c3⟩
                  clear hK K
                  try simp only [Act.put, List.setIfInBounds_toArray, List.set_cons_zero, List.set_cons_succ]
                  have S5W := kept s5
                  clear s5
                  have BM := kept bm
                  clear bm
                  have f0 := BM.out.cell 0
                  have f1 := BM.out.cell 1
                  have f2 := BM.out.frozen 0
                  have f3 := BM.out.frozen 1
                  have BJ := kept bj
                  clear bj
                  have d0 := BJ.out.cell 0
                  have d1 := BJ.out.cell 1
                  have d2 := BJ.out.frozen 0
                  have d3 := BJ.out.frozen 1
                  refine wpAnyH_done (by kernel_rfl) ?_ _
                  go_wp2
                  go_meet
                  exact ⟨_, _, rfl, rfl, s6_of S5W.out BM.out BJ.out⟩
                exact AllReadyH.nil
              exact AllReadyH.nil
            exact AllReadyH.nil
          exact AllReadyH.nil
        exact AllReadyH.nil
      exact AllReadyH.nil
    case rest =>
      obtain ⟨gm, gj, rfl, rfl, hs⟩ := hcut
      clear c0 c1 c2 c3 S5W CM CJ
      have S6W := kept hs
      clear hs
      obtain ⟨c0, c1, c2, c3, c4, c5, c6, c7⟩ := S6W.out.cells
      go_upto_region 6 with (fail)
      go_cut [98] from 54 to 97 (fun t98 wx => t98 = .bool false ∧ S6 w wx al ah bl bh ml mh jl jh gm gj)
      case first =>
        cases Q
        · have HMN := HMQ
          rcases Bool.eq_false_or_eq_true (decide (mh < ml)) with hM | hM
          · obtain ⟨rfl, rfl⟩ := MN.out (of_decide_eq_true hM)
            refine wp_region_held_drew (S := (fun w' => w'.cell? ⟨w.heap.size, 0, none⟩ = some (.int .i64 al) ∧ w'.cell? ⟨w.heap.size, 1, none⟩ = some (.int .i64 ah) ∧ w'.cell? ⟨gm, 0, none⟩ = some (.int .i64 1) ∧ w'.cell? ⟨gm, 1, none⟩ = some (.int .i64 0) ∧ w'.cell? ⟨gj, 0, none⟩ = some (.int .i64 jl) ∧ w'.cell? ⟨gj, 1, none⟩ = some (.int .i64 jh))) (by kernel_rfl) ?rffthSs (fun hHeld => ?_)
            case rffthSs => exact ⟨c0, c1, c4, c5, c6, c7⟩
            refine wpAnyH_take (i := 0) (oi := { dst := some 54, op := Op.load 86 (Operand.tmp 3), type := 86, pos := "law.go:51", after := #[], guard := none }) (v := ?rfftv0) rfl (by kernel_rfl) (by kernel_rfl) (by kernel_rfl) (fun _ _ _ h => h) (Or.inl ⟨by rfl, ?rffty0⟩) hHeld ?rfftr0
            case rffty0 => (intro w hSw; (try dsimp only at hSw); go_simp; (try with_reducible rfl))
            try simp only [Act.put, List.setIfInBounds_toArray, List.set_cons_zero, List.set_cons_succ]
            refine wpAnyH_take (i := 1) (oi := { dst := some 55, op := Op.move (Operand.tmp 2), type := 2, pos := "law.go:51", after := #[], guard := none }) (v := ?rfftv1) rfl (by kernel_rfl) (by kernel_rfl) (by kernel_rfl) (fun _ _ _ h => h) (Or.inl ⟨by rfl, ?rffty1⟩) hHeld ?rfftr1
            case rffty1 => (intro w hSw; (try dsimp only at hSw); go_simp; (try with_reducible rfl))
            try simp only [Act.put, List.setIfInBounds_toArray, List.set_cons_zero, List.set_cons_succ]
            refine wpAnyH_take (i := 3) (oi := { dst := some 57, op := Op.move (Operand.tmp 7), type := 4, pos := "law.go:51", after := #[], guard := none }) (v := ?rfftv3) rfl (by kernel_rfl) (by kernel_rfl) (by kernel_rfl) (fun _ _ _ h => h) (Or.inl ⟨by rfl, ?rffty3⟩) hHeld ?rfftr3
            case rffty3 => (intro w hSw; (try dsimp only at hSw); go_simp; (try with_reducible rfl))
            try simp only [Act.put, List.setIfInBounds_toArray, List.set_cons_zero, List.set_cons_succ]
            refine wpAnyH_ready (rs := [2]) (by kernel_rfl) (by simp) ?_
            refine AllReadyH.cons (o := { dst := some 56, op := Op.call { callee := Callee.value (Operand.func 64), args := #[Operand.tmp 54, Operand.tmp 55], argTypes := #[86, 2] }, type := 4, pos := "law.go:51", after := #[{ on := 0, ground := Ground.data }, { on := 1, ground := Ground.data }], guard := none }) rfl (fun K hK => ?_) AllReadyH.nil
            go_simp
            (with_reducible refine (HA.out _).mono ?_)
            rintro e wx ⟨rfl, k⟩
            show K _ _
            have sx := S6W.out.later k (by first | exact Keeps.refl _ [] | exact (Keeps.refl _ []).drew)
            clear k c0 c1 c2 c3 c4 c5 c6 c7 S6W
            obtain ⟨c0, c1, c2, c3, c4, c5, c6, c7⟩ := sx.cells
            have S6W := kept sx
            clear sx
            clear hHeld
            refine hK.out _ _ ?rffthS2 (fun hHeld => ?_)
            case rffthS2 => exact ⟨c0, c1, c4, c5, c6, c7⟩
            clear hK K
            try simp only [Act.put, List.setIfInBounds_toArray, List.set_cons_zero, List.set_cons_succ]
            refine wpAnyH_take (i := 4) (oi := { dst := some 58, op := Op.binOp BinOp.neq 4 (Operand.tmp 56) (Operand.tmp 57) 4, type := 4, pos := "law.go:51", after := #[{ on := 2, ground := Ground.data }, { on := 3, ground := Ground.data }], guard := none }) (v := ?rfftv4) rfl (by kernel_rfl) (by kernel_rfl) (by kernel_rfl) (fun _ _ _ h => h) (Or.inl ⟨by rfl, ?rffty4⟩) hHeld ?rfftr4
            case rffty4 => (intro w hSw; (try dsimp only at hSw); go_simp; (try with_reducible rfl))
            try simp only [Act.put, List.setIfInBounds_toArray, List.set_cons_zero, List.set_cons_succ]
            refine wpAnyH_take (i := 5) (oi := { dst := some 59, op := Op.move (Operand.tmp 58), type := 4, pos := "law.go:51", after := #[{ on := 4, ground := Ground.data }, { on := 2, ground := Ground.chain }], guard := none }) (v := ?rfftv5) rfl (by kernel_rfl) (by kernel_rfl) (by kernel_rfl) (fun _ _ _ h => h) (Or.inl ⟨by rfl, ?rffty5⟩) hHeld ?rfftr5
            case rffty5 => (intro w hSw; (try dsimp only at hSw); go_simp; (try with_reducible rfl))
            try simp only [Act.put, List.setIfInBounds_toArray, List.set_cons_zero, List.set_cons_succ]
            refine wpAnyH_take (i := 6) (oi := { dst := some 60, op := Op.load 86 (Operand.tmp 11), type := 86, pos := "law.go:51", after := #[{ on := 5, ground := Ground.guard }], guard := some (5, false) }) (v := ?rfftv6) rfl (by kernel_rfl) (by kernel_rfl) (by kernel_rfl) (fun _ _ _ h => h) (Or.inl ⟨by rfl, ?rffty6⟩) hHeld ?rfftr6
            case rffty6 => (intro w hSw; (try dsimp only at hSw); go_simp; (try with_reducible rfl))
            try simp only [Act.put, List.setIfInBounds_toArray, List.set_cons_zero, List.set_cons_succ]
            refine wpAnyH_take (i := 7) (oi := { dst := some 61, op := Op.move (Operand.tmp 2), type := 2, pos := "law.go:51", after := #[{ on := 5, ground := Ground.guard }], guard := some (5, false) }) (v := ?rfftv7) rfl (by kernel_rfl) (by kernel_rfl) (by kernel_rfl) (fun _ _ _ h => h) (Or.inl ⟨by rfl, ?rffty7⟩) hHeld ?rfftr7
            case rffty7 => (intro w hSw; (try dsimp only at hSw); go_simp; (try with_reducible rfl))
            try simp only [Act.put, List.setIfInBounds_toArray, List.set_cons_zero, List.set_cons_succ]
            refine wpAnyH_take (i := 9) (oi := { dst := some 63, op := Op.move (Operand.tmp 7), type := 4, pos := "law.go:51", after := #[{ on := 5, ground := Ground.guard }], guard := some (5, false) }) (v := ?rfftv9) rfl (by kernel_rfl) (by kernel_rfl) (by kernel_rfl) (fun _ _ _ h => h) (Or.inl ⟨by rfl, ?rffty9⟩) hHeld ?rfftr9
            case rffty9 => (intro w hSw; (try dsimp only at hSw); go_simp; (try with_reducible rfl))
            try simp only [Act.put, List.setIfInBounds_toArray, List.set_cons_zero, List.set_cons_succ]
            refine wpAnyH_ready (rs := [8]) (by kernel_rfl) (by simp) ?_
            refine AllReadyH.cons (o := { dst := some 62, op := Op.call { callee := Callee.value (Operand.func 64), args := #[Operand.tmp 60, Operand.tmp 61], argTypes := #[86, 2] }, type := 4, pos := "law.go:51", after := #[{ on := 6, ground := Ground.data }, { on := 7, ground := Ground.data }, { on := 5, ground := Ground.chain }, { on := 5, ground := Ground.guard }], guard := some (5, false) }) rfl (fun K hK => ?_) AllReadyH.nil
            go_simp
            (with_reducible refine (HMN.out _).mono ?_)
            rintro e wx ⟨rfl, k⟩
            show K _ _
            have sx := S6W.out.later k (by first | exact Keeps.refl _ [] | exact (Keeps.refl _ []).drew)
            clear k c0 c1 c2 c3 c4 c5 c6 c7 S6W
            obtain ⟨c0, c1, c2, c3, c4, c5, c6, c7⟩ := sx.cells
            have S6W := kept sx
            clear sx
            clear hHeld
            refine hK.out _ _ ?rffthS8 (fun hHeld => ?_)
            case rffthS8 => exact ⟨c0, c1, c4, c5, c6, c7⟩
            clear hK K
            try simp only [Act.put, List.setIfInBounds_toArray, List.set_cons_zero, List.set_cons_succ]
            refine wpAnyH_take (i := 10) (oi := { dst := some 64, op := Op.move (Operand.tmp 63), type := 4, pos := "law.go:51", after := #[{ on := 9, ground := Ground.data }, { on := 8, ground := Ground.chain }, { on := 5, ground := Ground.guard }], guard := some (5, false) }) (v := ?rfftv10) rfl (by kernel_rfl) (by kernel_rfl) (by kernel_rfl) (fun _ _ _ h => h) (Or.inl ⟨by rfl, ?rffty10⟩) hHeld ?rfftr10
            case rffty10 => (intro w hSw; (try dsimp only at hSw); go_simp; (try with_reducible rfl))
            try simp only [Act.put, List.setIfInBounds_toArray, List.set_cons_zero, List.set_cons_succ]
            refine wpAnyH_take (i := 11) (oi := { dst := some 65, op := Op.move (Operand.tmp 8), type := 4, pos := "law.go:51", after := #[{ on := 10, ground := Ground.guard }], guard := some (10, true) }) (v := undef) rfl (by kernel_rfl) (by kernel_rfl) (by kernel_rfl) (fun _ _ _ h => h) (Or.inr ⟨by rfl, rfl⟩) hHeld ?_
            try simp only [Act.put, List.setIfInBounds_toArray, List.set_cons_zero, List.set_cons_succ]
            refine wpAnyH_take (i := 12) (oi := { dst := some 66, op := Op.pick (Operand.tmp 64) (Operand.tmp 65) (Operand.const (Value.bool false)), type := 4, pos := "law.go:51", after := #[{ on := 10, ground := Ground.data }, { on := 11, ground := Ground.data }, { on := 5, ground := Ground.guard }], guard := some (5, false) }) (v := ?rfftv12) rfl (by kernel_rfl) (by kernel_rfl) (by kernel_rfl) (fun _ _ _ h => h) (Or.inl ⟨by rfl, ?rffty12⟩) hHeld ?rfftr12
            case rffty12 => (intro w hSw; (try dsimp only at hSw); go_simp; (try with_reducible rfl))
            try simp only [Act.put, List.setIfInBounds_toArray, List.set_cons_zero, List.set_cons_succ]
            refine wpAnyH_take (i := 13) (oi := { dst := some 67, op := Op.binOp BinOp.neq 4 (Operand.tmp 62) (Operand.tmp 66) 4, type := 4, pos := "law.go:51", after := #[{ on := 8, ground := Ground.data }, { on := 12, ground := Ground.data }, { on := 5, ground := Ground.guard }], guard := some (5, false) }) (v := ?rfftv13) rfl (by kernel_rfl) (by kernel_rfl) (by kernel_rfl) (fun _ _ _ h => h) (Or.inl ⟨by rfl, ?rffty13⟩) hHeld ?rfftr13
            case rffty13 => (intro w hSw; (try dsimp only at hSw); go_simp; (try with_reducible rfl))
            try simp only [Act.put, List.setIfInBounds_toArray, List.set_cons_zero, List.set_cons_succ]
            refine wpAnyH_take (i := 14) (oi := { dst := some 68, op := Op.pick (Operand.tmp 59) (Operand.const (Value.bool true)) (Operand.tmp 67), type := 4, pos := "law.go:51", after := #[{ on := 5, ground := Ground.data }, { on := 13, ground := Ground.data }], guard := none }) (v := ?rfftv14) rfl (by kernel_rfl) (by kernel_rfl) (by kernel_rfl) (fun _ _ _ h => h) (Or.inl ⟨by rfl, ?rffty14⟩) hHeld ?rfftr14
            case rffty14 => (intro w hSw; (try dsimp only at hSw); go_simp; (try with_reducible rfl))
            try simp only [Act.put, List.setIfInBounds_toArray, List.set_cons_zero, List.set_cons_succ]
            refine wpAnyH_take (i := 15) (oi := { dst := some 69, op := Op.move (Operand.tmp 68), type := 4, pos := "law.go:51", after := #[{ on := 14, ground := Ground.data }, { on := 10, ground := Ground.chain }], guard := none }) (v := ?rfftv15) rfl (by kernel_rfl) (by kernel_rfl) (by kernel_rfl) (fun _ _ _ h => h) (Or.inl ⟨by rfl, ?rffty15⟩) hHeld ?rfftr15
            case rffty15 => (intro w hSw; (try dsimp only at hSw); go_simp; (try with_reducible rfl))
            try simp only [Act.put, List.setIfInBounds_toArray, List.set_cons_zero, List.set_cons_succ]
            refine wpAnyH_take (i := 16) (oi := { dst := some 70, op := Op.move (Operand.tmp 7), type := 4, pos := "law.go:51", after := #[{ on := 15, ground := Ground.guard }], guard := some (15, false) }) (v := ?rfftv16) rfl (by kernel_rfl) (by kernel_rfl) (by kernel_rfl) (fun _ _ _ h => h) (Or.inl ⟨by rfl, ?rffty16⟩) hHeld ?rfftr16
            case rffty16 => (intro w hSw; (try dsimp only at hSw); go_simp; (try with_reducible rfl))
            try simp only [Act.put, List.setIfInBounds_toArray, List.set_cons_zero, List.set_cons_succ]
            refine wpAnyH_take (i := 17) (oi := { dst := some 71, op := Op.move (Operand.tmp 70), type := 4, pos := "law.go:51", after := #[{ on := 16, ground := Ground.data }, { on := 15, ground := Ground.chain }, { on := 15, ground := Ground.guard }], guard := some (15, false) }) (v := ?rfftv17) rfl (by kernel_rfl) (by kernel_rfl) (by kernel_rfl) (fun _ _ _ h => h) (Or.inl ⟨by rfl, ?rffty17⟩) hHeld ?rfftr17
            case rffty17 => (intro w hSw; (try dsimp only at hSw); go_simp; (try with_reducible rfl))
            try simp only [Act.put, List.setIfInBounds_toArray, List.set_cons_zero, List.set_cons_succ]
            refine wpAnyH_take (i := 18) (oi := { dst := some 72, op := Op.move (Operand.tmp 8), type := 4, pos := "law.go:51", after := #[{ on := 17, ground := Ground.guard }], guard := some (17, false) }) (v := ?rfftv18) rfl (by kernel_rfl) (by kernel_rfl) (by kernel_rfl) (fun _ _ _ h => h) (Or.inl ⟨by rfl, ?rffty18⟩) hHeld ?rfftr18
            case rffty18 => (intro w hSw; (try dsimp only at hSw); go_simp; (try with_reducible rfl))
            try simp only [Act.put, List.setIfInBounds_toArray, List.set_cons_zero, List.set_cons_succ]
            refine wpAnyH_take (i := 19) (oi := { dst := some 73, op := Op.pick (Operand.tmp 71) (Operand.const (Value.bool true)) (Operand.tmp 72), type := 4, pos := "law.go:51", after := #[{ on := 17, ground := Ground.data }, { on := 18, ground := Ground.data }, { on := 15, ground := Ground.guard }], guard := some (15, false) }) (v := ?rfftv19) rfl (by kernel_rfl) (by kernel_rfl) (by kernel_rfl) (fun _ _ _ h => h) (Or.inl ⟨by rfl, ?rffty19⟩) hHeld ?rfftr19
            case rffty19 => (intro w hSw; (try dsimp only at hSw); go_simp; (try with_reducible rfl))
            try simp only [Act.put, List.setIfInBounds_toArray, List.set_cons_zero, List.set_cons_succ]
            refine wpAnyH_take (i := 20) (oi := { dst := some 74, op := Op.move (Operand.tmp 73), type := 4, pos := "law.go:51", after := #[{ on := 19, ground := Ground.data }, { on := 17, ground := Ground.chain }, { on := 15, ground := Ground.guard }], guard := some (15, false) }) (v := ?rfftv20) rfl (by kernel_rfl) (by kernel_rfl) (by kernel_rfl) (fun _ _ _ h => h) (Or.inl ⟨by rfl, ?rffty20⟩) hHeld ?rfftr20
            case rffty20 => (intro w hSw; (try dsimp only at hSw); go_simp; (try with_reducible rfl))
            try simp only [Act.put, List.setIfInBounds_toArray, List.set_cons_zero, List.set_cons_succ]
            refine wpAnyH_take (i := 21) (oi := { dst := some 75, op := Op.load 86 (Operand.tmp 12), type := 86, pos := "law.go:51", after := #[{ on := 20, ground := Ground.guard }], guard := some (20, true) }) (v := undef) rfl (by kernel_rfl) (by kernel_rfl) (by kernel_rfl) (fun _ _ _ h => h) (Or.inr ⟨by rfl, rfl⟩) hHeld ?_
            try simp only [Act.put, List.setIfInBounds_toArray, List.set_cons_zero, List.set_cons_succ]
            refine wpAnyH_take (i := 22) (oi := { dst := some 76, op := Op.move (Operand.tmp 2), type := 2, pos := "law.go:51", after := #[{ on := 20, ground := Ground.guard }], guard := some (20, true) }) (v := undef) rfl (by kernel_rfl) (by kernel_rfl) (by kernel_rfl) (fun _ _ _ h => h) (Or.inr ⟨by rfl, rfl⟩) hHeld ?_
            try simp only [Act.put, List.setIfInBounds_toArray, List.set_cons_zero, List.set_cons_succ]
            refine wpAnyH_take (i := 23) (oi := { dst := some 77, op := Op.call { callee := Callee.value (Operand.func 64), args := #[Operand.tmp 75, Operand.tmp 76], argTypes := #[86, 2] }, type := 4, pos := "law.go:51", after := #[{ on := 21, ground := Ground.data }, { on := 22, ground := Ground.data }, { on := 20, ground := Ground.chain }, { on := 20, ground := Ground.guard }], guard := some (20, true) }) (v := undef) rfl (by kernel_rfl) (by kernel_rfl) (by kernel_rfl) (fun _ _ _ h => h) (Or.inr ⟨by rfl, rfl⟩) hHeld ?_
            try simp only [Act.put, List.setIfInBounds_toArray, List.set_cons_zero, List.set_cons_succ]
            refine wpAnyH_take (i := 24) (oi := { dst := some 78, op := Op.unOp UnOp.not 4 (Operand.tmp 77), type := 4, pos := "law.go:51", after := #[{ on := 23, ground := Ground.data }, { on := 20, ground := Ground.guard }], guard := some (20, true) }) (v := undef) rfl (by kernel_rfl) (by kernel_rfl) (by kernel_rfl) (fun _ _ _ h => h) (Or.inr ⟨by rfl, rfl⟩) hHeld ?_
            try simp only [Act.put, List.setIfInBounds_toArray, List.set_cons_zero, List.set_cons_succ]
            refine wpAnyH_take (i := 25) (oi := { dst := some 79, op := Op.pick (Operand.tmp 74) (Operand.tmp 78) (Operand.const (Value.bool false)), type := 4, pos := "law.go:51", after := #[{ on := 20, ground := Ground.data }, { on := 24, ground := Ground.data }, { on := 15, ground := Ground.guard }], guard := some (15, false) }) (v := ?rfftv25) rfl (by kernel_rfl) (by kernel_rfl) (by kernel_rfl) (fun _ _ _ h => h) (Or.inl ⟨by rfl, ?rffty25⟩) hHeld ?rfftr25
            case rffty25 => (intro w hSw; (try dsimp only at hSw); go_simp; (try with_reducible rfl))
            try simp only [Act.put, List.setIfInBounds_toArray, List.set_cons_zero, List.set_cons_succ]
            refine wpAnyH_take (i := 26) (oi := { dst := some 80, op := Op.pick (Operand.tmp 69) (Operand.const (Value.bool true)) (Operand.tmp 79), type := 4, pos := "law.go:51", after := #[{ on := 15, ground := Ground.data }, { on := 25, ground := Ground.data }], guard := none }) (v := ?rfftv26) rfl (by kernel_rfl) (by kernel_rfl) (by kernel_rfl) (fun _ _ _ h => h) (Or.inl ⟨by rfl, ?rffty26⟩) hHeld ?rfftr26
            case rffty26 => (intro w hSw; (try dsimp only at hSw); go_simp; (try with_reducible rfl))
            try simp only [Act.put, List.setIfInBounds_toArray, List.set_cons_zero, List.set_cons_succ]
            refine wpAnyH_take (i := 27) (oi := { dst := some 81, op := Op.move (Operand.tmp 80), type := 4, pos := "law.go:51", after := #[{ on := 26, ground := Ground.data }, { on := 23, ground := Ground.chain }], guard := none }) (v := ?rfftv27) rfl (by kernel_rfl) (by kernel_rfl) (by kernel_rfl) (fun _ _ _ h => h) (Or.inl ⟨by rfl, ?rffty27⟩) hHeld ?rfftr27
            case rffty27 => (intro w hSw; (try dsimp only at hSw); go_simp; (try with_reducible rfl))
            try simp only [Act.put, List.setIfInBounds_toArray, List.set_cons_zero, List.set_cons_succ]
            refine wpAnyH_take (i := 28) (oi := { dst := some 82, op := Op.load 86 (Operand.tmp 3), type := 86, pos := "law.go:51", after := #[{ on := 27, ground := Ground.guard }], guard := some (27, false) }) (v := ?rfftv28) rfl (by kernel_rfl) (by kernel_rfl) (by kernel_rfl) (fun _ _ _ h => h) (Or.inl ⟨by rfl, ?rffty28⟩) hHeld ?rfftr28
            case rffty28 => (intro w hSw; (try dsimp only at hSw); go_simp; (try with_reducible rfl))
            try simp only [Act.put, List.setIfInBounds_toArray, List.set_cons_zero, List.set_cons_succ]
            refine wpAnyH_take (i := 30) (oi := { dst := some 84, op := Op.move (Operand.tmp 9), type := 4, pos := "law.go:51", after := #[{ on := 27, ground := Ground.guard }], guard := some (27, false) }) (v := ?rfftv30) rfl (by kernel_rfl) (by kernel_rfl) (by kernel_rfl) (fun _ _ _ h => h) (Or.inl ⟨by rfl, ?rffty30⟩) hHeld ?rfftr30
            case rffty30 => (intro w hSw; (try dsimp only at hSw); go_simp; (try with_reducible rfl))
            try simp only [Act.put, List.setIfInBounds_toArray, List.set_cons_zero, List.set_cons_succ]
            refine wpAnyH_ready (rs := [29]) (by kernel_rfl) (by simp) ?_
            refine AllReadyH.cons (o := { dst := some 83, op := Op.call { callee := Callee.value (Operand.func 65), args := #[Operand.tmp 82], argTypes := #[86] }, type := 4, pos := "law.go:51", after := #[{ on := 28, ground := Ground.data }, { on := 27, ground := Ground.chain }, { on := 27, ground := Ground.guard }], guard := some (27, false) }) rfl (fun K hK => ?_) AllReadyH.nil
            go_simp
            (with_reducible refine (EA.out _).mono ?_)
            rintro e wx ⟨rfl, k⟩
            show K _ _
            have sx := S6W.out.later k (by first | exact Keeps.refl _ [] | exact (Keeps.refl _ []).drew)
            clear k c0 c1 c2 c3 c4 c5 c6 c7 S6W
            obtain ⟨c0, c1, c2, c3, c4, c5, c6, c7⟩ := sx.cells
            have S6W := kept sx
            clear sx
            clear hHeld
            refine hK.out _ _ ?rffthS29 (fun hHeld => ?_)
            case rffthS29 => exact ⟨c0, c1, c4, c5, c6, c7⟩
            clear hK K
            try simp only [Act.put, List.setIfInBounds_toArray, List.set_cons_zero, List.set_cons_succ]
            refine wpAnyH_take (i := 31) (oi := { dst := some 85, op := Op.binOp BinOp.neq 4 (Operand.tmp 83) (Operand.tmp 84) 4, type := 4, pos := "law.go:51", after := #[{ on := 29, ground := Ground.data }, { on := 30, ground := Ground.data }, { on := 27, ground := Ground.guard }], guard := some (27, false) }) (v := ?rfftv31) rfl (by kernel_rfl) (by kernel_rfl) (by kernel_rfl) (fun _ _ _ h => h) (Or.inl ⟨by rfl, ?rffty31⟩) hHeld ?rfftr31
            case rffty31 => (intro w hSw; (try dsimp only at hSw); go_simp; (try with_reducible rfl))
            try simp only [Act.put, List.setIfInBounds_toArray, List.set_cons_zero, List.set_cons_succ]
            refine wpAnyH_take (i := 32) (oi := { dst := some 86, op := Op.pick (Operand.tmp 81) (Operand.const (Value.bool true)) (Operand.tmp 85), type := 4, pos := "law.go:51", after := #[{ on := 27, ground := Ground.data }, { on := 31, ground := Ground.data }], guard := none }) (v := ?rfftv32) rfl (by kernel_rfl) (by kernel_rfl) (by kernel_rfl) (fun _ _ _ h => h) (Or.inl ⟨by rfl, ?rffty32⟩) hHeld ?rfftr32
            case rffty32 => (intro w hSw; (try dsimp only at hSw); go_simp; (try with_reducible rfl))
            try simp only [Act.put, List.setIfInBounds_toArray, List.set_cons_zero, List.set_cons_succ]
            refine wpAnyH_take (i := 33) (oi := { dst := some 87, op := Op.move (Operand.tmp 86), type := 4, pos := "law.go:51", after := #[{ on := 32, ground := Ground.data }, { on := 29, ground := Ground.chain }], guard := none }) (v := ?rfftv33) rfl (by kernel_rfl) (by kernel_rfl) (by kernel_rfl) (fun _ _ _ h => h) (Or.inl ⟨by rfl, ?rffty33⟩) hHeld ?rfftr33
            case rffty33 => (intro w hSw; (try dsimp only at hSw); go_simp; (try with_reducible rfl))
            try simp only [Act.put, List.setIfInBounds_toArray, List.set_cons_zero, List.set_cons_succ]
            refine wpAnyH_take (i := 34) (oi := { dst := some 88, op := Op.fieldAddr 86 (Operand.tmp 11) 0, type := 0, pos := "law.go:51", after := #[{ on := 33, ground := Ground.guard }], guard := some (33, false) }) (v := ?rfftv34) rfl (by kernel_rfl) (by kernel_rfl) (by kernel_rfl) (fun _ _ _ h => h) (Or.inl ⟨by rfl, ?rffty34⟩) hHeld ?rfftr34
            case rffty34 => (intro w hSw; (try dsimp only at hSw); go_simp; (try with_reducible rfl))
            try simp only [Act.put, List.setIfInBounds_toArray, List.set_cons_zero, List.set_cons_succ]
            refine wpAnyH_take (i := 35) (oi := { dst := some 89, op := Op.load 2 (Operand.tmp 88), type := 2, pos := "law.go:51", after := #[{ on := 34, ground := Ground.data }, { on := 33, ground := Ground.guard }], guard := some (33, false) }) (v := ?rfftv35) rfl (by kernel_rfl) (by kernel_rfl) (by kernel_rfl) (fun _ _ _ h => h) (Or.inl ⟨by rfl, ?rffty35⟩) hHeld ?rfftr35
            case rffty35 => (intro w hSw; (try dsimp only at hSw); go_simp; (try with_reducible rfl))
            try simp only [Act.put, List.setIfInBounds_toArray, List.set_cons_zero, List.set_cons_succ]
            refine wpAnyH_take (i := 36) (oi := { dst := some 90, op := Op.fieldAddr 86 (Operand.tmp 11) 1, type := 0, pos := "law.go:51", after := #[{ on := 33, ground := Ground.guard }], guard := some (33, false) }) (v := ?rfftv36) rfl (by kernel_rfl) (by kernel_rfl) (by kernel_rfl) (fun _ _ _ h => h) (Or.inl ⟨by rfl, ?rffty36⟩) hHeld ?rfftr36
            case rffty36 => (intro w hSw; (try dsimp only at hSw); go_simp; (try with_reducible rfl))
            try simp only [Act.put, List.setIfInBounds_toArray, List.set_cons_zero, List.set_cons_succ]
            refine wpAnyH_take (i := 37) (oi := { dst := some 91, op := Op.load 2 (Operand.tmp 90), type := 2, pos := "law.go:51", after := #[{ on := 36, ground := Ground.data }, { on := 33, ground := Ground.guard }], guard := some (33, false) }) (v := ?rfftv37) rfl (by kernel_rfl) (by kernel_rfl) (by kernel_rfl) (fun _ _ _ h => h) (Or.inl ⟨by rfl, ?rffty37⟩) hHeld ?rfftr37
            case rffty37 => (intro w hSw; (try dsimp only at hSw); go_simp; (try with_reducible rfl))
            try simp only [Act.put, List.setIfInBounds_toArray, List.set_cons_zero, List.set_cons_succ]
            refine wpAnyH_take (i := 38) (oi := { dst := some 92, op := Op.binOp BinOp.gtr 2 (Operand.tmp 89) (Operand.tmp 91) 2, type := 4, pos := "law.go:51", after := #[{ on := 35, ground := Ground.data }, { on := 37, ground := Ground.data }, { on := 33, ground := Ground.guard }], guard := some (33, false) }) (v := ?rfftv38) rfl (by kernel_rfl) (by kernel_rfl) (by kernel_rfl) (fun _ _ _ h => h) (Or.inl ⟨by rfl, ?rffty38⟩) hHeld ?rfftr38
            case rffty38 => (intro w hSw; (try dsimp only at hSw); go_simp; (try with_reducible rfl))
            try simp only [Act.put, List.setIfInBounds_toArray, List.set_cons_zero, List.set_cons_succ]
            refine wpAnyH_take (i := 39) (oi := { dst := some 93, op := Op.move (Operand.tmp 92), type := 4, pos := "law.go:51", after := #[{ on := 38, ground := Ground.data }, { on := 33, ground := Ground.chain }, { on := 33, ground := Ground.guard }], guard := some (33, false) }) (v := ?rfftv39) rfl (by kernel_rfl) (by kernel_rfl) (by kernel_rfl) (fun _ _ _ h => h) (Or.inl ⟨by rfl, ?rffty39⟩) hHeld ?rfftr39
            case rffty39 => (intro w hSw; (try dsimp only at hSw); go_simp; (try with_reducible rfl))
            try simp only [Act.put, List.setIfInBounds_toArray, List.set_cons_zero, List.set_cons_succ]
            refine wpAnyH_take (i := 40) (oi := { dst := some 94, op := Op.load 86 (Operand.tmp 11), type := 86, pos := "law.go:51", after := #[{ on := 39, ground := Ground.guard }], guard := some (39, true) }) (v := ?rfftv40) rfl (by kernel_rfl) (by kernel_rfl) (by kernel_rfl) (fun _ _ _ h => h) (Or.inl ⟨by rfl, ?rffty40⟩) hHeld ?rfftr40
            case rffty40 => (intro w hSw; (try dsimp only at hSw); go_simp; (try with_reducible rfl))
            try simp only [Act.put, List.setIfInBounds_toArray, List.set_cons_zero, List.set_cons_succ]
            refine wpAnyH_ready (rs := [41]) (by kernel_rfl) (by simp) ?_
            refine AllReadyH.cons (o := { dst := some 95, op := Op.call { callee := Callee.value (Operand.func 66), args := #[], argTypes := #[] }, type := 86, pos := "law.go:51", after := #[{ on := 39, ground := Ground.chain }, { on := 39, ground := Ground.guard }], guard := some (39, true) }) rfl (fun K hK => ?_) AllReadyH.nil
            go_simp
            (with_reducible refine (N6.out _).mono ?_)
            rintro e wx ⟨rfl, k⟩
            show K _ _
            have sx := S6W.out.later k (by first | exact Keeps.refl _ [] | exact (Keeps.refl _ []).drew)
            clear k c0 c1 c2 c3 c4 c5 c6 c7 S6W
            obtain ⟨c0, c1, c2, c3, c4, c5, c6, c7⟩ := sx.cells
            have S6W := kept sx
            clear sx
            clear hHeld
            refine hK.out _ _ ?rffthS41 (fun hHeld => ?_)
            case rffthS41 => exact ⟨c0, c1, c4, c5, c6, c7⟩
            clear hK K
            try simp only [Act.put, List.setIfInBounds_toArray, List.set_cons_zero, List.set_cons_succ]
            refine wpAnyH_take (i := 42) (oi := { dst := some 96, op := Op.binOp BinOp.neq 86 (Operand.tmp 94) (Operand.tmp 95) 86, type := 4, pos := "law.go:51", after := #[{ on := 40, ground := Ground.data }, { on := 41, ground := Ground.data }, { on := 39, ground := Ground.guard }], guard := some (39, true) }) (v := ?rfftv42) rfl (by kernel_rfl) (by kernel_rfl) (by kernel_rfl) (fun _ _ _ h => h) (Or.inl ⟨by rfl, ?rffty42⟩) hHeld ?rfftr42
            case rffty42 => (intro w hSw; (try dsimp only at hSw); go_simp; (try with_reducible rfl))
            try simp only [Act.put, List.setIfInBounds_toArray, List.set_cons_zero, List.set_cons_succ]
            refine wpAnyH_take (i := 43) (oi := { dst := some 97, op := Op.pick (Operand.tmp 93) (Operand.tmp 96) (Operand.const (Value.bool false)), type := 4, pos := "law.go:51", after := #[{ on := 39, ground := Ground.data }, { on := 42, ground := Ground.data }, { on := 33, ground := Ground.guard }], guard := some (33, false) }) (v := ?rfftv43) rfl (by kernel_rfl) (by kernel_rfl) (by kernel_rfl) (fun _ _ _ h => h) (Or.inl ⟨by rfl, ?rffty43⟩) hHeld ?rfftr43
            case rffty43 => (intro w hSw; (try dsimp only at hSw); go_simp; (try with_reducible rfl))
            try simp only [Act.put, List.setIfInBounds_toArray, List.set_cons_zero, List.set_cons_succ]
            refine wpAnyH_take (i := 44) (oi := { dst := some 98, op := Op.pick (Operand.tmp 87) (Operand.const (Value.bool true)) (Operand.tmp 97), type := 4, pos := "law.go:51", after := #[{ on := 33, ground := Ground.data }, { on := 43, ground := Ground.data }], guard := none }) (v := ?rfftv44) rfl (by kernel_rfl) (by kernel_rfl) (by kernel_rfl) (fun _ _ _ h => h) (Or.inl ⟨by rfl, ?rffty44⟩) hHeld ?rfftr44
            case rffty44 => (intro w hSw; (try dsimp only at hSw); go_simp; (try with_reducible rfl))
            try simp only [Act.put, List.setIfInBounds_toArray, List.set_cons_zero, List.set_cons_succ]
            refine wpAnyH_done (by kernel_rfl) ?_ _
            go_wp2
            go_meet
            exact ⟨rfl, S6W.out⟩
          · have hM' := hM
            refine wp_region_held_drew (S := (fun w' => w'.cell? ⟨w.heap.size, 0, none⟩ = some (.int .i64 al) ∧ w'.cell? ⟨w.heap.size, 1, none⟩ = some (.int .i64 ah) ∧ w'.cell? ⟨gm, 0, none⟩ = some (.int .i64 ml) ∧ w'.cell? ⟨gm, 1, none⟩ = some (.int .i64 mh) ∧ w'.cell? ⟨gj, 0, none⟩ = some (.int .i64 jl) ∧ w'.cell? ⟨gj, 1, none⟩ = some (.int .i64 jh))) (by kernel_rfl) ?rfffhSs (fun hHeld => ?_)
            case rfffhSs => exact ⟨c0, c1, c4, c5, c6, c7⟩
            refine wpAnyH_take (i := 0) (oi := { dst := some 54, op := Op.load 86 (Operand.tmp 3), type := 86, pos := "law.go:51", after := #[], guard := none }) (v := ?rfffv0) rfl (by kernel_rfl) (by kernel_rfl) (by kernel_rfl) (fun _ _ _ h => h) (Or.inl ⟨by rfl, ?rfffy0⟩) hHeld ?rfffr0
            case rfffy0 => (intro w hSw; (try dsimp only at hSw); go_simp; (try with_reducible rfl))
            try simp only [Act.put, List.setIfInBounds_toArray, List.set_cons_zero, List.set_cons_succ]
            refine wpAnyH_take (i := 1) (oi := { dst := some 55, op := Op.move (Operand.tmp 2), type := 2, pos := "law.go:51", after := #[], guard := none }) (v := ?rfffv1) rfl (by kernel_rfl) (by kernel_rfl) (by kernel_rfl) (fun _ _ _ h => h) (Or.inl ⟨by rfl, ?rfffy1⟩) hHeld ?rfffr1
            case rfffy1 => (intro w hSw; (try dsimp only at hSw); go_simp; (try with_reducible rfl))
            try simp only [Act.put, List.setIfInBounds_toArray, List.set_cons_zero, List.set_cons_succ]
            refine wpAnyH_take (i := 3) (oi := { dst := some 57, op := Op.move (Operand.tmp 7), type := 4, pos := "law.go:51", after := #[], guard := none }) (v := ?rfffv3) rfl (by kernel_rfl) (by kernel_rfl) (by kernel_rfl) (fun _ _ _ h => h) (Or.inl ⟨by rfl, ?rfffy3⟩) hHeld ?rfffr3
            case rfffy3 => (intro w hSw; (try dsimp only at hSw); go_simp; (try with_reducible rfl))
            try simp only [Act.put, List.setIfInBounds_toArray, List.set_cons_zero, List.set_cons_succ]
            refine wpAnyH_ready (rs := [2]) (by kernel_rfl) (by simp) ?_
            refine AllReadyH.cons (o := { dst := some 56, op := Op.call { callee := Callee.value (Operand.func 64), args := #[Operand.tmp 54, Operand.tmp 55], argTypes := #[86, 2] }, type := 4, pos := "law.go:51", after := #[{ on := 0, ground := Ground.data }, { on := 1, ground := Ground.data }], guard := none }) rfl (fun K hK => ?_) AllReadyH.nil
            go_simp
            (with_reducible refine (HA.out _).mono ?_)
            rintro e wx ⟨rfl, k⟩
            show K _ _
            have sx := S6W.out.later k (by first | exact Keeps.refl _ [] | exact (Keeps.refl _ []).drew)
            clear k c0 c1 c2 c3 c4 c5 c6 c7 S6W
            obtain ⟨c0, c1, c2, c3, c4, c5, c6, c7⟩ := sx.cells
            have S6W := kept sx
            clear sx
            clear hHeld
            refine hK.out _ _ ?rfffhS2 (fun hHeld => ?_)
            case rfffhS2 => exact ⟨c0, c1, c4, c5, c6, c7⟩
            clear hK K
            try simp only [Act.put, List.setIfInBounds_toArray, List.set_cons_zero, List.set_cons_succ]
            refine wpAnyH_take (i := 4) (oi := { dst := some 58, op := Op.binOp BinOp.neq 4 (Operand.tmp 56) (Operand.tmp 57) 4, type := 4, pos := "law.go:51", after := #[{ on := 2, ground := Ground.data }, { on := 3, ground := Ground.data }], guard := none }) (v := ?rfffv4) rfl (by kernel_rfl) (by kernel_rfl) (by kernel_rfl) (fun _ _ _ h => h) (Or.inl ⟨by rfl, ?rfffy4⟩) hHeld ?rfffr4
            case rfffy4 => (intro w hSw; (try dsimp only at hSw); go_simp; (try with_reducible rfl))
            try simp only [Act.put, List.setIfInBounds_toArray, List.set_cons_zero, List.set_cons_succ]
            refine wpAnyH_take (i := 5) (oi := { dst := some 59, op := Op.move (Operand.tmp 58), type := 4, pos := "law.go:51", after := #[{ on := 4, ground := Ground.data }, { on := 2, ground := Ground.chain }], guard := none }) (v := ?rfffv5) rfl (by kernel_rfl) (by kernel_rfl) (by kernel_rfl) (fun _ _ _ h => h) (Or.inl ⟨by rfl, ?rfffy5⟩) hHeld ?rfffr5
            case rfffy5 => (intro w hSw; (try dsimp only at hSw); go_simp; (try with_reducible rfl))
            try simp only [Act.put, List.setIfInBounds_toArray, List.set_cons_zero, List.set_cons_succ]
            refine wpAnyH_take (i := 6) (oi := { dst := some 60, op := Op.load 86 (Operand.tmp 11), type := 86, pos := "law.go:51", after := #[{ on := 5, ground := Ground.guard }], guard := some (5, false) }) (v := ?rfffv6) rfl (by kernel_rfl) (by kernel_rfl) (by kernel_rfl) (fun _ _ _ h => h) (Or.inl ⟨by rfl, ?rfffy6⟩) hHeld ?rfffr6
            case rfffy6 => (intro w hSw; (try dsimp only at hSw); go_simp; (try with_reducible rfl))
            try simp only [Act.put, List.setIfInBounds_toArray, List.set_cons_zero, List.set_cons_succ]
            refine wpAnyH_take (i := 7) (oi := { dst := some 61, op := Op.move (Operand.tmp 2), type := 2, pos := "law.go:51", after := #[{ on := 5, ground := Ground.guard }], guard := some (5, false) }) (v := ?rfffv7) rfl (by kernel_rfl) (by kernel_rfl) (by kernel_rfl) (fun _ _ _ h => h) (Or.inl ⟨by rfl, ?rfffy7⟩) hHeld ?rfffr7
            case rfffy7 => (intro w hSw; (try dsimp only at hSw); go_simp; (try with_reducible rfl))
            try simp only [Act.put, List.setIfInBounds_toArray, List.set_cons_zero, List.set_cons_succ]
            refine wpAnyH_take (i := 9) (oi := { dst := some 63, op := Op.move (Operand.tmp 7), type := 4, pos := "law.go:51", after := #[{ on := 5, ground := Ground.guard }], guard := some (5, false) }) (v := ?rfffv9) rfl (by kernel_rfl) (by kernel_rfl) (by kernel_rfl) (fun _ _ _ h => h) (Or.inl ⟨by rfl, ?rfffy9⟩) hHeld ?rfffr9
            case rfffy9 => (intro w hSw; (try dsimp only at hSw); go_simp; (try with_reducible rfl))
            try simp only [Act.put, List.setIfInBounds_toArray, List.set_cons_zero, List.set_cons_succ]
            refine wpAnyH_ready (rs := [8]) (by kernel_rfl) (by simp) ?_
            refine AllReadyH.cons (o := { dst := some 62, op := Op.call { callee := Callee.value (Operand.func 64), args := #[Operand.tmp 60, Operand.tmp 61], argTypes := #[86, 2] }, type := 4, pos := "law.go:51", after := #[{ on := 6, ground := Ground.data }, { on := 7, ground := Ground.data }, { on := 5, ground := Ground.chain }, { on := 5, ground := Ground.guard }], guard := some (5, false) }) rfl (fun K hK => ?_) AllReadyH.nil
            go_simp
            (with_reducible refine (HMN.out _).mono ?_)
            rintro e wx ⟨rfl, k⟩
            show K _ _
            have sx := S6W.out.later k (by first | exact Keeps.refl _ [] | exact (Keeps.refl _ []).drew)
            clear k c0 c1 c2 c3 c4 c5 c6 c7 S6W
            obtain ⟨c0, c1, c2, c3, c4, c5, c6, c7⟩ := sx.cells
            have S6W := kept sx
            clear sx
            clear hHeld
            refine hK.out _ _ ?rfffhS8 (fun hHeld => ?_)
            case rfffhS8 => exact ⟨c0, c1, c4, c5, c6, c7⟩
            clear hK K
            try simp only [Act.put, List.setIfInBounds_toArray, List.set_cons_zero, List.set_cons_succ]
            refine wpAnyH_take (i := 10) (oi := { dst := some 64, op := Op.move (Operand.tmp 63), type := 4, pos := "law.go:51", after := #[{ on := 9, ground := Ground.data }, { on := 8, ground := Ground.chain }, { on := 5, ground := Ground.guard }], guard := some (5, false) }) (v := ?rfffv10) rfl (by kernel_rfl) (by kernel_rfl) (by kernel_rfl) (fun _ _ _ h => h) (Or.inl ⟨by rfl, ?rfffy10⟩) hHeld ?rfffr10
            case rfffy10 => (intro w hSw; (try dsimp only at hSw); go_simp; (try with_reducible rfl))
            try simp only [Act.put, List.setIfInBounds_toArray, List.set_cons_zero, List.set_cons_succ]
            refine wpAnyH_take (i := 11) (oi := { dst := some 65, op := Op.move (Operand.tmp 8), type := 4, pos := "law.go:51", after := #[{ on := 10, ground := Ground.guard }], guard := some (10, true) }) (v := undef) rfl (by kernel_rfl) (by kernel_rfl) (by kernel_rfl) (fun _ _ _ h => h) (Or.inr ⟨by rfl, rfl⟩) hHeld ?_
            try simp only [Act.put, List.setIfInBounds_toArray, List.set_cons_zero, List.set_cons_succ]
            refine wpAnyH_take (i := 12) (oi := { dst := some 66, op := Op.pick (Operand.tmp 64) (Operand.tmp 65) (Operand.const (Value.bool false)), type := 4, pos := "law.go:51", after := #[{ on := 10, ground := Ground.data }, { on := 11, ground := Ground.data }, { on := 5, ground := Ground.guard }], guard := some (5, false) }) (v := ?rfffv12) rfl (by kernel_rfl) (by kernel_rfl) (by kernel_rfl) (fun _ _ _ h => h) (Or.inl ⟨by rfl, ?rfffy12⟩) hHeld ?rfffr12
            case rfffy12 => (intro w hSw; (try dsimp only at hSw); go_simp; (try with_reducible rfl))
            try simp only [Act.put, List.setIfInBounds_toArray, List.set_cons_zero, List.set_cons_succ]
            refine wpAnyH_take (i := 13) (oi := { dst := some 67, op := Op.binOp BinOp.neq 4 (Operand.tmp 62) (Operand.tmp 66) 4, type := 4, pos := "law.go:51", after := #[{ on := 8, ground := Ground.data }, { on := 12, ground := Ground.data }, { on := 5, ground := Ground.guard }], guard := some (5, false) }) (v := ?rfffv13) rfl (by kernel_rfl) (by kernel_rfl) (by kernel_rfl) (fun _ _ _ h => h) (Or.inl ⟨by rfl, ?rfffy13⟩) hHeld ?rfffr13
            case rfffy13 => (intro w hSw; (try dsimp only at hSw); go_simp; (try with_reducible rfl))
            try simp only [Act.put, List.setIfInBounds_toArray, List.set_cons_zero, List.set_cons_succ]
            refine wpAnyH_take (i := 14) (oi := { dst := some 68, op := Op.pick (Operand.tmp 59) (Operand.const (Value.bool true)) (Operand.tmp 67), type := 4, pos := "law.go:51", after := #[{ on := 5, ground := Ground.data }, { on := 13, ground := Ground.data }], guard := none }) (v := ?rfffv14) rfl (by kernel_rfl) (by kernel_rfl) (by kernel_rfl) (fun _ _ _ h => h) (Or.inl ⟨by rfl, ?rfffy14⟩) hHeld ?rfffr14
            case rfffy14 => (intro w hSw; (try dsimp only at hSw); go_simp; (try with_reducible rfl))
            try simp only [Act.put, List.setIfInBounds_toArray, List.set_cons_zero, List.set_cons_succ]
            refine wpAnyH_take (i := 15) (oi := { dst := some 69, op := Op.move (Operand.tmp 68), type := 4, pos := "law.go:51", after := #[{ on := 14, ground := Ground.data }, { on := 10, ground := Ground.chain }], guard := none }) (v := ?rfffv15) rfl (by kernel_rfl) (by kernel_rfl) (by kernel_rfl) (fun _ _ _ h => h) (Or.inl ⟨by rfl, ?rfffy15⟩) hHeld ?rfffr15
            case rfffy15 => (intro w hSw; (try dsimp only at hSw); go_simp; (try with_reducible rfl))
            try simp only [Act.put, List.setIfInBounds_toArray, List.set_cons_zero, List.set_cons_succ]
            refine wpAnyH_take (i := 16) (oi := { dst := some 70, op := Op.move (Operand.tmp 7), type := 4, pos := "law.go:51", after := #[{ on := 15, ground := Ground.guard }], guard := some (15, false) }) (v := ?rfffv16) rfl (by kernel_rfl) (by kernel_rfl) (by kernel_rfl) (fun _ _ _ h => h) (Or.inl ⟨by rfl, ?rfffy16⟩) hHeld ?rfffr16
            case rfffy16 => (intro w hSw; (try dsimp only at hSw); go_simp; (try with_reducible rfl))
            try simp only [Act.put, List.setIfInBounds_toArray, List.set_cons_zero, List.set_cons_succ]
            refine wpAnyH_take (i := 17) (oi := { dst := some 71, op := Op.move (Operand.tmp 70), type := 4, pos := "law.go:51", after := #[{ on := 16, ground := Ground.data }, { on := 15, ground := Ground.chain }, { on := 15, ground := Ground.guard }], guard := some (15, false) }) (v := ?rfffv17) rfl (by kernel_rfl) (by kernel_rfl) (by kernel_rfl) (fun _ _ _ h => h) (Or.inl ⟨by rfl, ?rfffy17⟩) hHeld ?rfffr17
            case rfffy17 => (intro w hSw; (try dsimp only at hSw); go_simp; (try with_reducible rfl))
            try simp only [Act.put, List.setIfInBounds_toArray, List.set_cons_zero, List.set_cons_succ]
            refine wpAnyH_take (i := 18) (oi := { dst := some 72, op := Op.move (Operand.tmp 8), type := 4, pos := "law.go:51", after := #[{ on := 17, ground := Ground.guard }], guard := some (17, false) }) (v := ?rfffv18) rfl (by kernel_rfl) (by kernel_rfl) (by kernel_rfl) (fun _ _ _ h => h) (Or.inl ⟨by rfl, ?rfffy18⟩) hHeld ?rfffr18
            case rfffy18 => (intro w hSw; (try dsimp only at hSw); go_simp; (try with_reducible rfl))
            try simp only [Act.put, List.setIfInBounds_toArray, List.set_cons_zero, List.set_cons_succ]
            refine wpAnyH_take (i := 19) (oi := { dst := some 73, op := Op.pick (Operand.tmp 71) (Operand.const (Value.bool true)) (Operand.tmp 72), type := 4, pos := "law.go:51", after := #[{ on := 17, ground := Ground.data }, { on := 18, ground := Ground.data }, { on := 15, ground := Ground.guard }], guard := some (15, false) }) (v := ?rfffv19) rfl (by kernel_rfl) (by kernel_rfl) (by kernel_rfl) (fun _ _ _ h => h) (Or.inl ⟨by rfl, ?rfffy19⟩) hHeld ?rfffr19
            case rfffy19 => (intro w hSw; (try dsimp only at hSw); go_simp; (try with_reducible rfl))
            try simp only [Act.put, List.setIfInBounds_toArray, List.set_cons_zero, List.set_cons_succ]
            refine wpAnyH_take (i := 20) (oi := { dst := some 74, op := Op.move (Operand.tmp 73), type := 4, pos := "law.go:51", after := #[{ on := 19, ground := Ground.data }, { on := 17, ground := Ground.chain }, { on := 15, ground := Ground.guard }], guard := some (15, false) }) (v := ?rfffv20) rfl (by kernel_rfl) (by kernel_rfl) (by kernel_rfl) (fun _ _ _ h => h) (Or.inl ⟨by rfl, ?rfffy20⟩) hHeld ?rfffr20
            case rfffy20 => (intro w hSw; (try dsimp only at hSw); go_simp; (try with_reducible rfl))
            try simp only [Act.put, List.setIfInBounds_toArray, List.set_cons_zero, List.set_cons_succ]
            refine wpAnyH_take (i := 21) (oi := { dst := some 75, op := Op.load 86 (Operand.tmp 12), type := 86, pos := "law.go:51", after := #[{ on := 20, ground := Ground.guard }], guard := some (20, true) }) (v := undef) rfl (by kernel_rfl) (by kernel_rfl) (by kernel_rfl) (fun _ _ _ h => h) (Or.inr ⟨by rfl, rfl⟩) hHeld ?_
            try simp only [Act.put, List.setIfInBounds_toArray, List.set_cons_zero, List.set_cons_succ]
            refine wpAnyH_take (i := 22) (oi := { dst := some 76, op := Op.move (Operand.tmp 2), type := 2, pos := "law.go:51", after := #[{ on := 20, ground := Ground.guard }], guard := some (20, true) }) (v := undef) rfl (by kernel_rfl) (by kernel_rfl) (by kernel_rfl) (fun _ _ _ h => h) (Or.inr ⟨by rfl, rfl⟩) hHeld ?_
            try simp only [Act.put, List.setIfInBounds_toArray, List.set_cons_zero, List.set_cons_succ]
            refine wpAnyH_take (i := 23) (oi := { dst := some 77, op := Op.call { callee := Callee.value (Operand.func 64), args := #[Operand.tmp 75, Operand.tmp 76], argTypes := #[86, 2] }, type := 4, pos := "law.go:51", after := #[{ on := 21, ground := Ground.data }, { on := 22, ground := Ground.data }, { on := 20, ground := Ground.chain }, { on := 20, ground := Ground.guard }], guard := some (20, true) }) (v := undef) rfl (by kernel_rfl) (by kernel_rfl) (by kernel_rfl) (fun _ _ _ h => h) (Or.inr ⟨by rfl, rfl⟩) hHeld ?_
            try simp only [Act.put, List.setIfInBounds_toArray, List.set_cons_zero, List.set_cons_succ]
            refine wpAnyH_take (i := 24) (oi := { dst := some 78, op := Op.unOp UnOp.not 4 (Operand.tmp 77), type := 4, pos := "law.go:51", after := #[{ on := 23, ground := Ground.data }, { on := 20, ground := Ground.guard }], guard := some (20, true) }) (v := undef) rfl (by kernel_rfl) (by kernel_rfl) (by kernel_rfl) (fun _ _ _ h => h) (Or.inr ⟨by rfl, rfl⟩) hHeld ?_
            try simp only [Act.put, List.setIfInBounds_toArray, List.set_cons_zero, List.set_cons_succ]
            refine wpAnyH_take (i := 25) (oi := { dst := some 79, op := Op.pick (Operand.tmp 74) (Operand.tmp 78) (Operand.const (Value.bool false)), type := 4, pos := "law.go:51", after := #[{ on := 20, ground := Ground.data }, { on := 24, ground := Ground.data }, { on := 15, ground := Ground.guard }], guard := some (15, false) }) (v := ?rfffv25) rfl (by kernel_rfl) (by kernel_rfl) (by kernel_rfl) (fun _ _ _ h => h) (Or.inl ⟨by rfl, ?rfffy25⟩) hHeld ?rfffr25
            case rfffy25 => (intro w hSw; (try dsimp only at hSw); go_simp; (try with_reducible rfl))
            try simp only [Act.put, List.setIfInBounds_toArray, List.set_cons_zero, List.set_cons_succ]
            refine wpAnyH_take (i := 26) (oi := { dst := some 80, op := Op.pick (Operand.tmp 69) (Operand.const (Value.bool true)) (Operand.tmp 79), type := 4, pos := "law.go:51", after := #[{ on := 15, ground := Ground.data }, { on := 25, ground := Ground.data }], guard := none }) (v := ?rfffv26) rfl (by kernel_rfl) (by kernel_rfl) (by kernel_rfl) (fun _ _ _ h => h) (Or.inl ⟨by rfl, ?rfffy26⟩) hHeld ?rfffr26
            case rfffy26 => (intro w hSw; (try dsimp only at hSw); go_simp; (try with_reducible rfl))
            try simp only [Act.put, List.setIfInBounds_toArray, List.set_cons_zero, List.set_cons_succ]
            refine wpAnyH_take (i := 27) (oi := { dst := some 81, op := Op.move (Operand.tmp 80), type := 4, pos := "law.go:51", after := #[{ on := 26, ground := Ground.data }, { on := 23, ground := Ground.chain }], guard := none }) (v := ?rfffv27) rfl (by kernel_rfl) (by kernel_rfl) (by kernel_rfl) (fun _ _ _ h => h) (Or.inl ⟨by rfl, ?rfffy27⟩) hHeld ?rfffr27
            case rfffy27 => (intro w hSw; (try dsimp only at hSw); go_simp; (try with_reducible rfl))
            try simp only [Act.put, List.setIfInBounds_toArray, List.set_cons_zero, List.set_cons_succ]
            refine wpAnyH_take (i := 28) (oi := { dst := some 82, op := Op.load 86 (Operand.tmp 3), type := 86, pos := "law.go:51", after := #[{ on := 27, ground := Ground.guard }], guard := some (27, false) }) (v := ?rfffv28) rfl (by kernel_rfl) (by kernel_rfl) (by kernel_rfl) (fun _ _ _ h => h) (Or.inl ⟨by rfl, ?rfffy28⟩) hHeld ?rfffr28
            case rfffy28 => (intro w hSw; (try dsimp only at hSw); go_simp; (try with_reducible rfl))
            try simp only [Act.put, List.setIfInBounds_toArray, List.set_cons_zero, List.set_cons_succ]
            refine wpAnyH_take (i := 30) (oi := { dst := some 84, op := Op.move (Operand.tmp 9), type := 4, pos := "law.go:51", after := #[{ on := 27, ground := Ground.guard }], guard := some (27, false) }) (v := ?rfffv30) rfl (by kernel_rfl) (by kernel_rfl) (by kernel_rfl) (fun _ _ _ h => h) (Or.inl ⟨by rfl, ?rfffy30⟩) hHeld ?rfffr30
            case rfffy30 => (intro w hSw; (try dsimp only at hSw); go_simp; (try with_reducible rfl))
            try simp only [Act.put, List.setIfInBounds_toArray, List.set_cons_zero, List.set_cons_succ]
            refine wpAnyH_ready (rs := [29]) (by kernel_rfl) (by simp) ?_
            refine AllReadyH.cons (o := { dst := some 83, op := Op.call { callee := Callee.value (Operand.func 65), args := #[Operand.tmp 82], argTypes := #[86] }, type := 4, pos := "law.go:51", after := #[{ on := 28, ground := Ground.data }, { on := 27, ground := Ground.chain }, { on := 27, ground := Ground.guard }], guard := some (27, false) }) rfl (fun K hK => ?_) AllReadyH.nil
            go_simp
            (with_reducible refine (EA.out _).mono ?_)
            rintro e wx ⟨rfl, k⟩
            show K _ _
            have sx := S6W.out.later k (by first | exact Keeps.refl _ [] | exact (Keeps.refl _ []).drew)
            clear k c0 c1 c2 c3 c4 c5 c6 c7 S6W
            obtain ⟨c0, c1, c2, c3, c4, c5, c6, c7⟩ := sx.cells
            have S6W := kept sx
            clear sx
            clear hHeld
            refine hK.out _ _ ?rfffhS29 (fun hHeld => ?_)
            case rfffhS29 => exact ⟨c0, c1, c4, c5, c6, c7⟩
            clear hK K
            try simp only [Act.put, List.setIfInBounds_toArray, List.set_cons_zero, List.set_cons_succ]
            refine wpAnyH_take (i := 31) (oi := { dst := some 85, op := Op.binOp BinOp.neq 4 (Operand.tmp 83) (Operand.tmp 84) 4, type := 4, pos := "law.go:51", after := #[{ on := 29, ground := Ground.data }, { on := 30, ground := Ground.data }, { on := 27, ground := Ground.guard }], guard := some (27, false) }) (v := ?rfffv31) rfl (by kernel_rfl) (by kernel_rfl) (by kernel_rfl) (fun _ _ _ h => h) (Or.inl ⟨by rfl, ?rfffy31⟩) hHeld ?rfffr31
            case rfffy31 => (intro w hSw; (try dsimp only at hSw); go_simp; (try with_reducible rfl))
            try simp only [Act.put, List.setIfInBounds_toArray, List.set_cons_zero, List.set_cons_succ]
            refine wpAnyH_take (i := 32) (oi := { dst := some 86, op := Op.pick (Operand.tmp 81) (Operand.const (Value.bool true)) (Operand.tmp 85), type := 4, pos := "law.go:51", after := #[{ on := 27, ground := Ground.data }, { on := 31, ground := Ground.data }], guard := none }) (v := ?rfffv32) rfl (by kernel_rfl) (by kernel_rfl) (by kernel_rfl) (fun _ _ _ h => h) (Or.inl ⟨by rfl, ?rfffy32⟩) hHeld ?rfffr32
            case rfffy32 => (intro w hSw; (try dsimp only at hSw); go_simp; (try with_reducible rfl))
            try simp only [Act.put, List.setIfInBounds_toArray, List.set_cons_zero, List.set_cons_succ]
            refine wpAnyH_take (i := 33) (oi := { dst := some 87, op := Op.move (Operand.tmp 86), type := 4, pos := "law.go:51", after := #[{ on := 32, ground := Ground.data }, { on := 29, ground := Ground.chain }], guard := none }) (v := ?rfffv33) rfl (by kernel_rfl) (by kernel_rfl) (by kernel_rfl) (fun _ _ _ h => h) (Or.inl ⟨by rfl, ?rfffy33⟩) hHeld ?rfffr33
            case rfffy33 => (intro w hSw; (try dsimp only at hSw); go_simp; (try with_reducible rfl))
            try simp only [Act.put, List.setIfInBounds_toArray, List.set_cons_zero, List.set_cons_succ]
            refine wpAnyH_take (i := 34) (oi := { dst := some 88, op := Op.fieldAddr 86 (Operand.tmp 11) 0, type := 0, pos := "law.go:51", after := #[{ on := 33, ground := Ground.guard }], guard := some (33, false) }) (v := ?rfffv34) rfl (by kernel_rfl) (by kernel_rfl) (by kernel_rfl) (fun _ _ _ h => h) (Or.inl ⟨by rfl, ?rfffy34⟩) hHeld ?rfffr34
            case rfffy34 => (intro w hSw; (try dsimp only at hSw); go_simp; (try with_reducible rfl))
            try simp only [Act.put, List.setIfInBounds_toArray, List.set_cons_zero, List.set_cons_succ]
            refine wpAnyH_take (i := 35) (oi := { dst := some 89, op := Op.load 2 (Operand.tmp 88), type := 2, pos := "law.go:51", after := #[{ on := 34, ground := Ground.data }, { on := 33, ground := Ground.guard }], guard := some (33, false) }) (v := ?rfffv35) rfl (by kernel_rfl) (by kernel_rfl) (by kernel_rfl) (fun _ _ _ h => h) (Or.inl ⟨by rfl, ?rfffy35⟩) hHeld ?rfffr35
            case rfffy35 => (intro w hSw; (try dsimp only at hSw); go_simp; (try with_reducible rfl))
            try simp only [Act.put, List.setIfInBounds_toArray, List.set_cons_zero, List.set_cons_succ]
            refine wpAnyH_take (i := 36) (oi := { dst := some 90, op := Op.fieldAddr 86 (Operand.tmp 11) 1, type := 0, pos := "law.go:51", after := #[{ on := 33, ground := Ground.guard }], guard := some (33, false) }) (v := ?rfffv36) rfl (by kernel_rfl) (by kernel_rfl) (by kernel_rfl) (fun _ _ _ h => h) (Or.inl ⟨by rfl, ?rfffy36⟩) hHeld ?rfffr36
            case rfffy36 => (intro w hSw; (try dsimp only at hSw); go_simp; (try with_reducible rfl))
            try simp only [Act.put, List.setIfInBounds_toArray, List.set_cons_zero, List.set_cons_succ]
            refine wpAnyH_take (i := 37) (oi := { dst := some 91, op := Op.load 2 (Operand.tmp 90), type := 2, pos := "law.go:51", after := #[{ on := 36, ground := Ground.data }, { on := 33, ground := Ground.guard }], guard := some (33, false) }) (v := ?rfffv37) rfl (by kernel_rfl) (by kernel_rfl) (by kernel_rfl) (fun _ _ _ h => h) (Or.inl ⟨by rfl, ?rfffy37⟩) hHeld ?rfffr37
            case rfffy37 => (intro w hSw; (try dsimp only at hSw); go_simp; (try with_reducible rfl))
            try simp only [Act.put, List.setIfInBounds_toArray, List.set_cons_zero, List.set_cons_succ]
            refine wpAnyH_take (i := 38) (oi := { dst := some 92, op := Op.binOp BinOp.gtr 2 (Operand.tmp 89) (Operand.tmp 91) 2, type := 4, pos := "law.go:51", after := #[{ on := 35, ground := Ground.data }, { on := 37, ground := Ground.data }, { on := 33, ground := Ground.guard }], guard := some (33, false) }) (v := ?rfffv38) rfl (by kernel_rfl) (by kernel_rfl) (by kernel_rfl) (fun _ _ _ h => h) (Or.inl ⟨by rfl, ?rfffy38⟩) hHeld ?rfffr38
            case rfffy38 => (intro w hSw; (try dsimp only at hSw); go_simp; (try with_reducible rfl))
            try simp only [Act.put, List.setIfInBounds_toArray, List.set_cons_zero, List.set_cons_succ]
            refine wpAnyH_take (i := 39) (oi := { dst := some 93, op := Op.move (Operand.tmp 92), type := 4, pos := "law.go:51", after := #[{ on := 38, ground := Ground.data }, { on := 33, ground := Ground.chain }, { on := 33, ground := Ground.guard }], guard := some (33, false) }) (v := ?rfffv39) rfl (by kernel_rfl) (by kernel_rfl) (by kernel_rfl) (fun _ _ _ h => h) (Or.inl ⟨by rfl, ?rfffy39⟩) hHeld ?rfffr39
            case rfffy39 => (intro w hSw; (try dsimp only at hSw); go_simp; (try with_reducible rfl))
            try simp only [Act.put, List.setIfInBounds_toArray, List.set_cons_zero, List.set_cons_succ]
            refine wpAnyH_take (i := 40) (oi := { dst := some 94, op := Op.load 86 (Operand.tmp 11), type := 86, pos := "law.go:51", after := #[{ on := 39, ground := Ground.guard }], guard := some (39, true) }) (v := undef) rfl (by kernel_rfl) (by kernel_rfl) (by kernel_rfl) (fun _ _ _ h => h) (Or.inr ⟨by rfl, rfl⟩) hHeld ?_
            try simp only [Act.put, List.setIfInBounds_toArray, List.set_cons_zero, List.set_cons_succ]
            refine wpAnyH_take (i := 41) (oi := { dst := some 95, op := Op.call { callee := Callee.value (Operand.func 66), args := #[], argTypes := #[] }, type := 86, pos := "law.go:51", after := #[{ on := 39, ground := Ground.chain }, { on := 39, ground := Ground.guard }], guard := some (39, true) }) (v := undef) rfl (by kernel_rfl) (by kernel_rfl) (by kernel_rfl) (fun _ _ _ h => h) (Or.inr ⟨by rfl, rfl⟩) hHeld ?_
            try simp only [Act.put, List.setIfInBounds_toArray, List.set_cons_zero, List.set_cons_succ]
            refine wpAnyH_take (i := 42) (oi := { dst := some 96, op := Op.binOp BinOp.neq 86 (Operand.tmp 94) (Operand.tmp 95) 86, type := 4, pos := "law.go:51", after := #[{ on := 40, ground := Ground.data }, { on := 41, ground := Ground.data }, { on := 39, ground := Ground.guard }], guard := some (39, true) }) (v := undef) rfl (by kernel_rfl) (by kernel_rfl) (by kernel_rfl) (fun _ _ _ h => h) (Or.inr ⟨by rfl, rfl⟩) hHeld ?_
            try simp only [Act.put, List.setIfInBounds_toArray, List.set_cons_zero, List.set_cons_succ]
            refine wpAnyH_take (i := 43) (oi := { dst := some 97, op := Op.pick (Operand.tmp 93) (Operand.tmp 96) (Operand.const (Value.bool false)), type := 4, pos := "law.go:51", after := #[{ on := 39, ground := Ground.data }, { on := 42, ground := Ground.data }, { on := 33, ground := Ground.guard }], guard := some (33, false) }) (v := ?rfffv43) rfl (by kernel_rfl) (by kernel_rfl) (by kernel_rfl) (fun _ _ _ h => h) (Or.inl ⟨by rfl, ?rfffy43⟩) hHeld ?rfffr43
            case rfffy43 => (intro w hSw; (try dsimp only at hSw); go_simp; (try with_reducible rfl))
            try simp only [Act.put, List.setIfInBounds_toArray, List.set_cons_zero, List.set_cons_succ]
            refine wpAnyH_take (i := 44) (oi := { dst := some 98, op := Op.pick (Operand.tmp 87) (Operand.const (Value.bool true)) (Operand.tmp 97), type := 4, pos := "law.go:51", after := #[{ on := 33, ground := Ground.data }, { on := 43, ground := Ground.data }], guard := none }) (v := ?rfffv44) rfl (by kernel_rfl) (by kernel_rfl) (by kernel_rfl) (fun _ _ _ h => h) (Or.inl ⟨by rfl, ?rfffy44⟩) hHeld ?rfffr44
            case rfffy44 => (intro w hSw; (try dsimp only at hSw); go_simp; (try with_reducible rfl))
            try simp only [Act.put, List.setIfInBounds_toArray, List.set_cons_zero, List.set_cons_succ]
            refine wpAnyH_done (by kernel_rfl) ?_ _
            go_wp2
            go_meet
            exact ⟨rfl, S6W.out⟩
        · have HMN := HMQ
          have HJN := kept (HJQ.out rfl)
          rcases Bool.eq_false_or_eq_true (decide (mh < ml)) with hM | hM
          · obtain ⟨rfl, rfl⟩ := MN.out (of_decide_eq_true hM)
            refine wp_region_held_drew (S := (fun w' => w'.cell? ⟨w.heap.size, 0, none⟩ = some (.int .i64 al) ∧ w'.cell? ⟨w.heap.size, 1, none⟩ = some (.int .i64 ah) ∧ w'.cell? ⟨gm, 0, none⟩ = some (.int .i64 1) ∧ w'.cell? ⟨gm, 1, none⟩ = some (.int .i64 0) ∧ w'.cell? ⟨gj, 0, none⟩ = some (.int .i64 jl) ∧ w'.cell? ⟨gj, 1, none⟩ = some (.int .i64 jh))) (by kernel_rfl) ?rftthSs (fun hHeld => ?_)
            case rftthSs => exact ⟨c0, c1, c4, c5, c6, c7⟩
            refine wpAnyH_take (i := 0) (oi := { dst := some 54, op := Op.load 86 (Operand.tmp 3), type := 86, pos := "law.go:51", after := #[], guard := none }) (v := ?rfttv0) rfl (by kernel_rfl) (by kernel_rfl) (by kernel_rfl) (fun _ _ _ h => h) (Or.inl ⟨by rfl, ?rftty0⟩) hHeld ?rfttr0
            case rftty0 => (intro w hSw; (try dsimp only at hSw); go_simp; (try with_reducible rfl))
            try simp only [Act.put, List.setIfInBounds_toArray, List.set_cons_zero, List.set_cons_succ]
            refine wpAnyH_take (i := 1) (oi := { dst := some 55, op := Op.move (Operand.tmp 2), type := 2, pos := "law.go:51", after := #[], guard := none }) (v := ?rfttv1) rfl (by kernel_rfl) (by kernel_rfl) (by kernel_rfl) (fun _ _ _ h => h) (Or.inl ⟨by rfl, ?rftty1⟩) hHeld ?rfttr1
            case rftty1 => (intro w hSw; (try dsimp only at hSw); go_simp; (try with_reducible rfl))
            try simp only [Act.put, List.setIfInBounds_toArray, List.set_cons_zero, List.set_cons_succ]
            refine wpAnyH_take (i := 3) (oi := { dst := some 57, op := Op.move (Operand.tmp 7), type := 4, pos := "law.go:51", after := #[], guard := none }) (v := ?rfttv3) rfl (by kernel_rfl) (by kernel_rfl) (by kernel_rfl) (fun _ _ _ h => h) (Or.inl ⟨by rfl, ?rftty3⟩) hHeld ?rfttr3
            case rftty3 => (intro w hSw; (try dsimp only at hSw); go_simp; (try with_reducible rfl))
            try simp only [Act.put, List.setIfInBounds_toArray, List.set_cons_zero, List.set_cons_succ]
            refine wpAnyH_ready (rs := [2]) (by kernel_rfl) (by simp) ?_
            refine AllReadyH.cons (o := { dst := some 56, op := Op.call { callee := Callee.value (Operand.func 64), args := #[Operand.tmp 54, Operand.tmp 55], argTypes := #[86, 2] }, type := 4, pos := "law.go:51", after := #[{ on := 0, ground := Ground.data }, { on := 1, ground := Ground.data }], guard := none }) rfl (fun K hK => ?_) AllReadyH.nil
            go_simp
            (with_reducible refine (HA.out _).mono ?_)
            rintro e wx ⟨rfl, k⟩
            show K _ _
            have sx := S6W.out.later k (by first | exact Keeps.refl _ [] | exact (Keeps.refl _ []).drew)
            clear k c0 c1 c2 c3 c4 c5 c6 c7 S6W
            obtain ⟨c0, c1, c2, c3, c4, c5, c6, c7⟩ := sx.cells
            have S6W := kept sx
            clear sx
            clear hHeld
            refine hK.out _ _ ?rftthS2 (fun hHeld => ?_)
            case rftthS2 => exact ⟨c0, c1, c4, c5, c6, c7⟩
            clear hK K
            try simp only [Act.put, List.setIfInBounds_toArray, List.set_cons_zero, List.set_cons_succ]
            refine wpAnyH_take (i := 4) (oi := { dst := some 58, op := Op.binOp BinOp.neq 4 (Operand.tmp 56) (Operand.tmp 57) 4, type := 4, pos := "law.go:51", after := #[{ on := 2, ground := Ground.data }, { on := 3, ground := Ground.data }], guard := none }) (v := ?rfttv4) rfl (by kernel_rfl) (by kernel_rfl) (by kernel_rfl) (fun _ _ _ h => h) (Or.inl ⟨by rfl, ?rftty4⟩) hHeld ?rfttr4
            case rftty4 => (intro w hSw; (try dsimp only at hSw); go_simp; (try with_reducible rfl))
            try simp only [Act.put, List.setIfInBounds_toArray, List.set_cons_zero, List.set_cons_succ]
            refine wpAnyH_take (i := 5) (oi := { dst := some 59, op := Op.move (Operand.tmp 58), type := 4, pos := "law.go:51", after := #[{ on := 4, ground := Ground.data }, { on := 2, ground := Ground.chain }], guard := none }) (v := ?rfttv5) rfl (by kernel_rfl) (by kernel_rfl) (by kernel_rfl) (fun _ _ _ h => h) (Or.inl ⟨by rfl, ?rftty5⟩) hHeld ?rfttr5
            case rftty5 => (intro w hSw; (try dsimp only at hSw); go_simp; (try with_reducible rfl))
            try simp only [Act.put, List.setIfInBounds_toArray, List.set_cons_zero, List.set_cons_succ]
            refine wpAnyH_take (i := 6) (oi := { dst := some 60, op := Op.load 86 (Operand.tmp 11), type := 86, pos := "law.go:51", after := #[{ on := 5, ground := Ground.guard }], guard := some (5, false) }) (v := ?rfttv6) rfl (by kernel_rfl) (by kernel_rfl) (by kernel_rfl) (fun _ _ _ h => h) (Or.inl ⟨by rfl, ?rftty6⟩) hHeld ?rfttr6
            case rftty6 => (intro w hSw; (try dsimp only at hSw); go_simp; (try with_reducible rfl))
            try simp only [Act.put, List.setIfInBounds_toArray, List.set_cons_zero, List.set_cons_succ]
            refine wpAnyH_take (i := 7) (oi := { dst := some 61, op := Op.move (Operand.tmp 2), type := 2, pos := "law.go:51", after := #[{ on := 5, ground := Ground.guard }], guard := some (5, false) }) (v := ?rfttv7) rfl (by kernel_rfl) (by kernel_rfl) (by kernel_rfl) (fun _ _ _ h => h) (Or.inl ⟨by rfl, ?rftty7⟩) hHeld ?rfttr7
            case rftty7 => (intro w hSw; (try dsimp only at hSw); go_simp; (try with_reducible rfl))
            try simp only [Act.put, List.setIfInBounds_toArray, List.set_cons_zero, List.set_cons_succ]
            refine wpAnyH_take (i := 9) (oi := { dst := some 63, op := Op.move (Operand.tmp 7), type := 4, pos := "law.go:51", after := #[{ on := 5, ground := Ground.guard }], guard := some (5, false) }) (v := ?rfttv9) rfl (by kernel_rfl) (by kernel_rfl) (by kernel_rfl) (fun _ _ _ h => h) (Or.inl ⟨by rfl, ?rftty9⟩) hHeld ?rfttr9
            case rftty9 => (intro w hSw; (try dsimp only at hSw); go_simp; (try with_reducible rfl))
            try simp only [Act.put, List.setIfInBounds_toArray, List.set_cons_zero, List.set_cons_succ]
            refine wpAnyH_ready (rs := [8]) (by kernel_rfl) (by simp) ?_
            refine AllReadyH.cons (o := { dst := some 62, op := Op.call { callee := Callee.value (Operand.func 64), args := #[Operand.tmp 60, Operand.tmp 61], argTypes := #[86, 2] }, type := 4, pos := "law.go:51", after := #[{ on := 6, ground := Ground.data }, { on := 7, ground := Ground.data }, { on := 5, ground := Ground.chain }, { on := 5, ground := Ground.guard }], guard := some (5, false) }) rfl (fun K hK => ?_) AllReadyH.nil
            go_simp
            (with_reducible refine (HMN.out _).mono ?_)
            rintro e wx ⟨rfl, k⟩
            show K _ _
            have sx := S6W.out.later k (by first | exact Keeps.refl _ [] | exact (Keeps.refl _ []).drew)
            clear k c0 c1 c2 c3 c4 c5 c6 c7 S6W
            obtain ⟨c0, c1, c2, c3, c4, c5, c6, c7⟩ := sx.cells
            have S6W := kept sx
            clear sx
            clear hHeld
            refine hK.out _ _ ?rftthS8 (fun hHeld => ?_)
            case rftthS8 => exact ⟨c0, c1, c4, c5, c6, c7⟩
            clear hK K
            try simp only [Act.put, List.setIfInBounds_toArray, List.set_cons_zero, List.set_cons_succ]
            refine wpAnyH_take (i := 10) (oi := { dst := some 64, op := Op.move (Operand.tmp 63), type := 4, pos := "law.go:51", after := #[{ on := 9, ground := Ground.data }, { on := 8, ground := Ground.chain }, { on := 5, ground := Ground.guard }], guard := some (5, false) }) (v := ?rfttv10) rfl (by kernel_rfl) (by kernel_rfl) (by kernel_rfl) (fun _ _ _ h => h) (Or.inl ⟨by rfl, ?rftty10⟩) hHeld ?rfttr10
            case rftty10 => (intro w hSw; (try dsimp only at hSw); go_simp; (try with_reducible rfl))
            try simp only [Act.put, List.setIfInBounds_toArray, List.set_cons_zero, List.set_cons_succ]
            refine wpAnyH_take (i := 11) (oi := { dst := some 65, op := Op.move (Operand.tmp 8), type := 4, pos := "law.go:51", after := #[{ on := 10, ground := Ground.guard }], guard := some (10, true) }) (v := undef) rfl (by kernel_rfl) (by kernel_rfl) (by kernel_rfl) (fun _ _ _ h => h) (Or.inr ⟨by rfl, rfl⟩) hHeld ?_
            try simp only [Act.put, List.setIfInBounds_toArray, List.set_cons_zero, List.set_cons_succ]
            refine wpAnyH_take (i := 12) (oi := { dst := some 66, op := Op.pick (Operand.tmp 64) (Operand.tmp 65) (Operand.const (Value.bool false)), type := 4, pos := "law.go:51", after := #[{ on := 10, ground := Ground.data }, { on := 11, ground := Ground.data }, { on := 5, ground := Ground.guard }], guard := some (5, false) }) (v := ?rfttv12) rfl (by kernel_rfl) (by kernel_rfl) (by kernel_rfl) (fun _ _ _ h => h) (Or.inl ⟨by rfl, ?rftty12⟩) hHeld ?rfttr12
            case rftty12 => (intro w hSw; (try dsimp only at hSw); go_simp; (try with_reducible rfl))
            try simp only [Act.put, List.setIfInBounds_toArray, List.set_cons_zero, List.set_cons_succ]
            refine wpAnyH_take (i := 13) (oi := { dst := some 67, op := Op.binOp BinOp.neq 4 (Operand.tmp 62) (Operand.tmp 66) 4, type := 4, pos := "law.go:51", after := #[{ on := 8, ground := Ground.data }, { on := 12, ground := Ground.data }, { on := 5, ground := Ground.guard }], guard := some (5, false) }) (v := ?rfttv13) rfl (by kernel_rfl) (by kernel_rfl) (by kernel_rfl) (fun _ _ _ h => h) (Or.inl ⟨by rfl, ?rftty13⟩) hHeld ?rfttr13
            case rftty13 => (intro w hSw; (try dsimp only at hSw); go_simp; (try with_reducible rfl))
            try simp only [Act.put, List.setIfInBounds_toArray, List.set_cons_zero, List.set_cons_succ]
            refine wpAnyH_take (i := 14) (oi := { dst := some 68, op := Op.pick (Operand.tmp 59) (Operand.const (Value.bool true)) (Operand.tmp 67), type := 4, pos := "law.go:51", after := #[{ on := 5, ground := Ground.data }, { on := 13, ground := Ground.data }], guard := none }) (v := ?rfttv14) rfl (by kernel_rfl) (by kernel_rfl) (by kernel_rfl) (fun _ _ _ h => h) (Or.inl ⟨by rfl, ?rftty14⟩) hHeld ?rfttr14
            case rftty14 => (intro w hSw; (try dsimp only at hSw); go_simp; (try with_reducible rfl))
            try simp only [Act.put, List.setIfInBounds_toArray, List.set_cons_zero, List.set_cons_succ]
            refine wpAnyH_take (i := 15) (oi := { dst := some 69, op := Op.move (Operand.tmp 68), type := 4, pos := "law.go:51", after := #[{ on := 14, ground := Ground.data }, { on := 10, ground := Ground.chain }], guard := none }) (v := ?rfttv15) rfl (by kernel_rfl) (by kernel_rfl) (by kernel_rfl) (fun _ _ _ h => h) (Or.inl ⟨by rfl, ?rftty15⟩) hHeld ?rfttr15
            case rftty15 => (intro w hSw; (try dsimp only at hSw); go_simp; (try with_reducible rfl))
            try simp only [Act.put, List.setIfInBounds_toArray, List.set_cons_zero, List.set_cons_succ]
            refine wpAnyH_take (i := 16) (oi := { dst := some 70, op := Op.move (Operand.tmp 7), type := 4, pos := "law.go:51", after := #[{ on := 15, ground := Ground.guard }], guard := some (15, false) }) (v := ?rfttv16) rfl (by kernel_rfl) (by kernel_rfl) (by kernel_rfl) (fun _ _ _ h => h) (Or.inl ⟨by rfl, ?rftty16⟩) hHeld ?rfttr16
            case rftty16 => (intro w hSw; (try dsimp only at hSw); go_simp; (try with_reducible rfl))
            try simp only [Act.put, List.setIfInBounds_toArray, List.set_cons_zero, List.set_cons_succ]
            refine wpAnyH_take (i := 17) (oi := { dst := some 71, op := Op.move (Operand.tmp 70), type := 4, pos := "law.go:51", after := #[{ on := 16, ground := Ground.data }, { on := 15, ground := Ground.chain }, { on := 15, ground := Ground.guard }], guard := some (15, false) }) (v := ?rfttv17) rfl (by kernel_rfl) (by kernel_rfl) (by kernel_rfl) (fun _ _ _ h => h) (Or.inl ⟨by rfl, ?rftty17⟩) hHeld ?rfttr17
            case rftty17 => (intro w hSw; (try dsimp only at hSw); go_simp; (try with_reducible rfl))
            try simp only [Act.put, List.setIfInBounds_toArray, List.set_cons_zero, List.set_cons_succ]
            refine wpAnyH_take (i := 18) (oi := { dst := some 72, op := Op.move (Operand.tmp 8), type := 4, pos := "law.go:51", after := #[{ on := 17, ground := Ground.guard }], guard := some (17, false) }) (v := ?rfttv18) rfl (by kernel_rfl) (by kernel_rfl) (by kernel_rfl) (fun _ _ _ h => h) (Or.inl ⟨by rfl, ?rftty18⟩) hHeld ?rfttr18
            case rftty18 => (intro w hSw; (try dsimp only at hSw); go_simp; (try with_reducible rfl))
            try simp only [Act.put, List.setIfInBounds_toArray, List.set_cons_zero, List.set_cons_succ]
            refine wpAnyH_take (i := 19) (oi := { dst := some 73, op := Op.pick (Operand.tmp 71) (Operand.const (Value.bool true)) (Operand.tmp 72), type := 4, pos := "law.go:51", after := #[{ on := 17, ground := Ground.data }, { on := 18, ground := Ground.data }, { on := 15, ground := Ground.guard }], guard := some (15, false) }) (v := ?rfttv19) rfl (by kernel_rfl) (by kernel_rfl) (by kernel_rfl) (fun _ _ _ h => h) (Or.inl ⟨by rfl, ?rftty19⟩) hHeld ?rfttr19
            case rftty19 => (intro w hSw; (try dsimp only at hSw); go_simp; (try with_reducible rfl))
            try simp only [Act.put, List.setIfInBounds_toArray, List.set_cons_zero, List.set_cons_succ]
            refine wpAnyH_take (i := 20) (oi := { dst := some 74, op := Op.move (Operand.tmp 73), type := 4, pos := "law.go:51", after := #[{ on := 19, ground := Ground.data }, { on := 17, ground := Ground.chain }, { on := 15, ground := Ground.guard }], guard := some (15, false) }) (v := ?rfttv20) rfl (by kernel_rfl) (by kernel_rfl) (by kernel_rfl) (fun _ _ _ h => h) (Or.inl ⟨by rfl, ?rftty20⟩) hHeld ?rfttr20
            case rftty20 => (intro w hSw; (try dsimp only at hSw); go_simp; (try with_reducible rfl))
            try simp only [Act.put, List.setIfInBounds_toArray, List.set_cons_zero, List.set_cons_succ]
            refine wpAnyH_take (i := 21) (oi := { dst := some 75, op := Op.load 86 (Operand.tmp 12), type := 86, pos := "law.go:51", after := #[{ on := 20, ground := Ground.guard }], guard := some (20, true) }) (v := ?rfttv21) rfl (by kernel_rfl) (by kernel_rfl) (by kernel_rfl) (fun _ _ _ h => h) (Or.inl ⟨by rfl, ?rftty21⟩) hHeld ?rfttr21
            case rftty21 => (intro w hSw; (try dsimp only at hSw); go_simp; (try with_reducible rfl))
            try simp only [Act.put, List.setIfInBounds_toArray, List.set_cons_zero, List.set_cons_succ]
            refine wpAnyH_take (i := 22) (oi := { dst := some 76, op := Op.move (Operand.tmp 2), type := 2, pos := "law.go:51", after := #[{ on := 20, ground := Ground.guard }], guard := some (20, true) }) (v := ?rfttv22) rfl (by kernel_rfl) (by kernel_rfl) (by kernel_rfl) (fun _ _ _ h => h) (Or.inl ⟨by rfl, ?rftty22⟩) hHeld ?rfttr22
            case rftty22 => (intro w hSw; (try dsimp only at hSw); go_simp; (try with_reducible rfl))
            try simp only [Act.put, List.setIfInBounds_toArray, List.set_cons_zero, List.set_cons_succ]
            refine wpAnyH_ready (rs := [23]) (by kernel_rfl) (by simp) ?_
            refine AllReadyH.cons (o := { dst := some 77, op := Op.call { callee := Callee.value (Operand.func 64), args := #[Operand.tmp 75, Operand.tmp 76], argTypes := #[86, 2] }, type := 4, pos := "law.go:51", after := #[{ on := 21, ground := Ground.data }, { on := 22, ground := Ground.data }, { on := 20, ground := Ground.chain }, { on := 20, ground := Ground.guard }], guard := some (20, true) }) rfl (fun K hK => ?_) AllReadyH.nil
            go_simp
            (with_reducible refine (HJN.out _).mono ?_)
            rintro e wx ⟨rfl, k⟩
            show K _ _
            have sx := S6W.out.later k (by first | exact Keeps.refl _ [] | exact (Keeps.refl _ []).drew)
            clear k c0 c1 c2 c3 c4 c5 c6 c7 S6W
            obtain ⟨c0, c1, c2, c3, c4, c5, c6, c7⟩ := sx.cells
            have S6W := kept sx
            clear sx
            clear hHeld
            refine hK.out _ _ ?rftthS23 (fun hHeld => ?_)
            case rftthS23 => exact ⟨c0, c1, c4, c5, c6, c7⟩
            clear hK K
            try simp only [Act.put, List.setIfInBounds_toArray, List.set_cons_zero, List.set_cons_succ]
            refine wpAnyH_take (i := 24) (oi := { dst := some 78, op := Op.unOp UnOp.not 4 (Operand.tmp 77), type := 4, pos := "law.go:51", after := #[{ on := 23, ground := Ground.data }, { on := 20, ground := Ground.guard }], guard := some (20, true) }) (v := ?rfttv24) rfl (by kernel_rfl) (by kernel_rfl) (by kernel_rfl) (fun _ _ _ h => h) (Or.inl ⟨by rfl, ?rftty24⟩) hHeld ?rfttr24
            case rftty24 => (intro w hSw; (try dsimp only at hSw); go_simp; (try with_reducible rfl))
            try simp only [Act.put, List.setIfInBounds_toArray, List.set_cons_zero, List.set_cons_succ]
            refine wpAnyH_take (i := 25) (oi := { dst := some 79, op := Op.pick (Operand.tmp 74) (Operand.tmp 78) (Operand.const (Value.bool false)), type := 4, pos := "law.go:51", after := #[{ on := 20, ground := Ground.data }, { on := 24, ground := Ground.data }, { on := 15, ground := Ground.guard }], guard := some (15, false) }) (v := ?rfttv25) rfl (by kernel_rfl) (by kernel_rfl) (by kernel_rfl) (fun _ _ _ h => h) (Or.inl ⟨by rfl, ?rftty25⟩) hHeld ?rfttr25
            case rftty25 => (intro w hSw; (try dsimp only at hSw); go_simp; (try with_reducible rfl))
            try simp only [Act.put, List.setIfInBounds_toArray, List.set_cons_zero, List.set_cons_succ]
            refine wpAnyH_take (i := 26) (oi := { dst := some 80, op := Op.pick (Operand.tmp 69) (Operand.const (Value.bool true)) (Operand.tmp 79), type := 4, pos := "law.go:51", after := #[{ on := 15, ground := Ground.data }, { on := 25, ground := Ground.data }], guard := none }) (v := ?rfttv26) rfl (by kernel_rfl) (by kernel_rfl) (by kernel_rfl) (fun _ _ _ h => h) (Or.inl ⟨by rfl, ?rftty26⟩) hHeld ?rfttr26
            case rftty26 => (intro w hSw; (try dsimp only at hSw); go_simp; (try with_reducible rfl))
            try simp only [Act.put, List.setIfInBounds_toArray, List.set_cons_zero, List.set_cons_succ]
            refine wpAnyH_take (i := 27) (oi := { dst := some 81, op := Op.move (Operand.tmp 80), type := 4, pos := "law.go:51", after := #[{ on := 26, ground := Ground.data }, { on := 23, ground := Ground.chain }], guard := none }) (v := ?rfttv27) rfl (by kernel_rfl) (by kernel_rfl) (by kernel_rfl) (fun _ _ _ h => h) (Or.inl ⟨by rfl, ?rftty27⟩) hHeld ?rfttr27
            case rftty27 => (intro w hSw; (try dsimp only at hSw); go_simp; (try with_reducible rfl))
            try simp only [Act.put, List.setIfInBounds_toArray, List.set_cons_zero, List.set_cons_succ]
            refine wpAnyH_take (i := 28) (oi := { dst := some 82, op := Op.load 86 (Operand.tmp 3), type := 86, pos := "law.go:51", after := #[{ on := 27, ground := Ground.guard }], guard := some (27, false) }) (v := ?rfttv28) rfl (by kernel_rfl) (by kernel_rfl) (by kernel_rfl) (fun _ _ _ h => h) (Or.inl ⟨by rfl, ?rftty28⟩) hHeld ?rfttr28
            case rftty28 => (intro w hSw; (try dsimp only at hSw); go_simp; (try with_reducible rfl))
            try simp only [Act.put, List.setIfInBounds_toArray, List.set_cons_zero, List.set_cons_succ]
            refine wpAnyH_take (i := 30) (oi := { dst := some 84, op := Op.move (Operand.tmp 9), type := 4, pos := "law.go:51", after := #[{ on := 27, ground := Ground.guard }], guard := some (27, false) }) (v := ?rfttv30) rfl (by kernel_rfl) (by kernel_rfl) (by kernel_rfl) (fun _ _ _ h => h) (Or.inl ⟨by rfl, ?rftty30⟩) hHeld ?rfttr30
            case rftty30 => (intro w hSw; (try dsimp only at hSw); go_simp; (try with_reducible rfl))
            try simp only [Act.put, List.setIfInBounds_toArray, List.set_cons_zero, List.set_cons_succ]
            refine wpAnyH_ready (rs := [29]) (by kernel_rfl) (by simp) ?_
            refine AllReadyH.cons (o := { dst := some 83, op := Op.call { callee := Callee.value (Operand.func 65), args := #[Operand.tmp 82], argTypes := #[86] }, type := 4, pos := "law.go:51", after := #[{ on := 28, ground := Ground.data }, { on := 27, ground := Ground.chain }, { on := 27, ground := Ground.guard }], guard := some (27, false) }) rfl (fun K hK => ?_) AllReadyH.nil
            go_simp
            (with_reducible refine (EA.out _).mono ?_)
            rintro e wx ⟨rfl, k⟩
            show K _ _
            have sx := S6W.out.later k (by first | exact Keeps.refl _ [] | exact (Keeps.refl _ []).drew)
            clear k c0 c1 c2 c3 c4 c5 c6 c7 S6W
            obtain ⟨c0, c1, c2, c3, c4, c5, c6, c7⟩ := sx.cells
            have S6W := kept sx
            clear sx
            clear hHeld
            refine hK.out _ _ ?rftthS29 (fun hHeld => ?_)
            case rftthS29 => exact ⟨c0, c1, c4, c5, c6, c7⟩
            clear hK K
            try simp only [Act.put, List.setIfInBounds_toArray, List.set_cons_zero, List.set_cons_succ]
            refine wpAnyH_take (i := 31) (oi := { dst := some 85, op := Op.binOp BinOp.neq 4 (Operand.tmp 83) (Operand.tmp 84) 4, type := 4, pos := "law.go:51", after := #[{ on := 29, ground := Ground.data }, { on := 30, ground := Ground.data }, { on := 27, ground := Ground.guard }], guard := some (27, false) }) (v := ?rfttv31) rfl (by kernel_rfl) (by kernel_rfl) (by kernel_rfl) (fun _ _ _ h => h) (Or.inl ⟨by rfl, ?rftty31⟩) hHeld ?rfttr31
            case rftty31 => (intro w hSw; (try dsimp only at hSw); go_simp; (try with_reducible rfl))
            try simp only [Act.put, List.setIfInBounds_toArray, List.set_cons_zero, List.set_cons_succ]
            refine wpAnyH_take (i := 32) (oi := { dst := some 86, op := Op.pick (Operand.tmp 81) (Operand.const (Value.bool true)) (Operand.tmp 85), type := 4, pos := "law.go:51", after := #[{ on := 27, ground := Ground.data }, { on := 31, ground := Ground.data }], guard := none }) (v := ?rfttv32) rfl (by kernel_rfl) (by kernel_rfl) (by kernel_rfl) (fun _ _ _ h => h) (Or.inl ⟨by rfl, ?rftty32⟩) hHeld ?rfttr32
            case rftty32 => (intro w hSw; (try dsimp only at hSw); go_simp; (try with_reducible rfl))
            try simp only [Act.put, List.setIfInBounds_toArray, List.set_cons_zero, List.set_cons_succ]
            refine wpAnyH_take (i := 33) (oi := { dst := some 87, op := Op.move (Operand.tmp 86), type := 4, pos := "law.go:51", after := #[{ on := 32, ground := Ground.data }, { on := 29, ground := Ground.chain }], guard := none }) (v := ?rfttv33) rfl (by kernel_rfl) (by kernel_rfl) (by kernel_rfl) (fun _ _ _ h => h) (Or.inl ⟨by rfl, ?rftty33⟩) hHeld ?rfttr33
            case rftty33 => (intro w hSw; (try dsimp only at hSw); go_simp; (try with_reducible rfl))
            try simp only [Act.put, List.setIfInBounds_toArray, List.set_cons_zero, List.set_cons_succ]
            refine wpAnyH_take (i := 34) (oi := { dst := some 88, op := Op.fieldAddr 86 (Operand.tmp 11) 0, type := 0, pos := "law.go:51", after := #[{ on := 33, ground := Ground.guard }], guard := some (33, false) }) (v := ?rfttv34) rfl (by kernel_rfl) (by kernel_rfl) (by kernel_rfl) (fun _ _ _ h => h) (Or.inl ⟨by rfl, ?rftty34⟩) hHeld ?rfttr34
            case rftty34 => (intro w hSw; (try dsimp only at hSw); go_simp; (try with_reducible rfl))
            try simp only [Act.put, List.setIfInBounds_toArray, List.set_cons_zero, List.set_cons_succ]
            refine wpAnyH_take (i := 35) (oi := { dst := some 89, op := Op.load 2 (Operand.tmp 88), type := 2, pos := "law.go:51", after := #[{ on := 34, ground := Ground.data }, { on := 33, ground := Ground.guard }], guard := some (33, false) }) (v := ?rfttv35) rfl (by kernel_rfl) (by kernel_rfl) (by kernel_rfl) (fun _ _ _ h => h) (Or.inl ⟨by rfl, ?rftty35⟩) hHeld ?rfttr35
            case rftty35 => (intro w hSw; (try dsimp only at hSw); go_simp; (try with_reducible rfl))
            try simp only [Act.put, List.setIfInBounds_toArray, List.set_cons_zero, List.set_cons_succ]
            refine wpAnyH_take (i := 36) (oi := { dst := some 90, op := Op.fieldAddr 86 (Operand.tmp 11) 1, type := 0, pos := "law.go:51", after := #[{ on := 33, ground := Ground.guard }], guard := some (33, false) }) (v := ?rfttv36) rfl (by kernel_rfl) (by kernel_rfl) (by kernel_rfl) (fun _ _ _ h => h) (Or.inl ⟨by rfl, ?rftty36⟩) hHeld ?rfttr36
            case rftty36 => (intro w hSw; (try dsimp only at hSw); go_simp; (try with_reducible rfl))
            try simp only [Act.put, List.setIfInBounds_toArray, List.set_cons_zero, List.set_cons_succ]
            refine wpAnyH_take (i := 37) (oi := { dst := some 91, op := Op.load 2 (Operand.tmp 90), type := 2, pos := "law.go:51", after := #[{ on := 36, ground := Ground.data }, { on := 33, ground := Ground.guard }], guard := some (33, false) }) (v := ?rfttv37) rfl (by kernel_rfl) (by kernel_rfl) (by kernel_rfl) (fun _ _ _ h => h) (Or.inl ⟨by rfl, ?rftty37⟩) hHeld ?rfttr37
            case rftty37 => (intro w hSw; (try dsimp only at hSw); go_simp; (try with_reducible rfl))
            try simp only [Act.put, List.setIfInBounds_toArray, List.set_cons_zero, List.set_cons_succ]
            refine wpAnyH_take (i := 38) (oi := { dst := some 92, op := Op.binOp BinOp.gtr 2 (Operand.tmp 89) (Operand.tmp 91) 2, type := 4, pos := "law.go:51", after := #[{ on := 35, ground := Ground.data }, { on := 37, ground := Ground.data }, { on := 33, ground := Ground.guard }], guard := some (33, false) }) (v := ?rfttv38) rfl (by kernel_rfl) (by kernel_rfl) (by kernel_rfl) (fun _ _ _ h => h) (Or.inl ⟨by rfl, ?rftty38⟩) hHeld ?rfttr38
            case rftty38 => (intro w hSw; (try dsimp only at hSw); go_simp; (try with_reducible rfl))
            try simp only [Act.put, List.setIfInBounds_toArray, List.set_cons_zero, List.set_cons_succ]
            refine wpAnyH_take (i := 39) (oi := { dst := some 93, op := Op.move (Operand.tmp 92), type := 4, pos := "law.go:51", after := #[{ on := 38, ground := Ground.data }, { on := 33, ground := Ground.chain }, { on := 33, ground := Ground.guard }], guard := some (33, false) }) (v := ?rfttv39) rfl (by kernel_rfl) (by kernel_rfl) (by kernel_rfl) (fun _ _ _ h => h) (Or.inl ⟨by rfl, ?rftty39⟩) hHeld ?rfttr39
            case rftty39 => (intro w hSw; (try dsimp only at hSw); go_simp; (try with_reducible rfl))
            try simp only [Act.put, List.setIfInBounds_toArray, List.set_cons_zero, List.set_cons_succ]
            refine wpAnyH_take (i := 40) (oi := { dst := some 94, op := Op.load 86 (Operand.tmp 11), type := 86, pos := "law.go:51", after := #[{ on := 39, ground := Ground.guard }], guard := some (39, true) }) (v := ?rfttv40) rfl (by kernel_rfl) (by kernel_rfl) (by kernel_rfl) (fun _ _ _ h => h) (Or.inl ⟨by rfl, ?rftty40⟩) hHeld ?rfttr40
            case rftty40 => (intro w hSw; (try dsimp only at hSw); go_simp; (try with_reducible rfl))
            try simp only [Act.put, List.setIfInBounds_toArray, List.set_cons_zero, List.set_cons_succ]
            refine wpAnyH_ready (rs := [41]) (by kernel_rfl) (by simp) ?_
            refine AllReadyH.cons (o := { dst := some 95, op := Op.call { callee := Callee.value (Operand.func 66), args := #[], argTypes := #[] }, type := 86, pos := "law.go:51", after := #[{ on := 39, ground := Ground.chain }, { on := 39, ground := Ground.guard }], guard := some (39, true) }) rfl (fun K hK => ?_) AllReadyH.nil
            go_simp
            (with_reducible refine (N6.out _).mono ?_)
            rintro e wx ⟨rfl, k⟩
            show K _ _
            have sx := S6W.out.later k (by first | exact Keeps.refl _ [] | exact (Keeps.refl _ []).drew)
            clear k c0 c1 c2 c3 c4 c5 c6 c7 S6W
            obtain ⟨c0, c1, c2, c3, c4, c5, c6, c7⟩ := sx.cells
            have S6W := kept sx
            clear sx
            clear hHeld
            refine hK.out _ _ ?rftthS41 (fun hHeld => ?_)
            case rftthS41 => exact ⟨c0, c1, c4, c5, c6, c7⟩
            clear hK K
            try simp only [Act.put, List.setIfInBounds_toArray, List.set_cons_zero, List.set_cons_succ]
            refine wpAnyH_take (i := 42) (oi := { dst := some 96, op := Op.binOp BinOp.neq 86 (Operand.tmp 94) (Operand.tmp 95) 86, type := 4, pos := "law.go:51", after := #[{ on := 40, ground := Ground.data }, { on := 41, ground := Ground.data }, { on := 39, ground := Ground.guard }], guard := some (39, true) }) (v := ?rfttv42) rfl (by kernel_rfl) (by kernel_rfl) (by kernel_rfl) (fun _ _ _ h => h) (Or.inl ⟨by rfl, ?rftty42⟩) hHeld ?rfttr42
            case rftty42 => (intro w hSw; (try dsimp only at hSw); go_simp; (try with_reducible rfl))
            try simp only [Act.put, List.setIfInBounds_toArray, List.set_cons_zero, List.set_cons_succ]
            refine wpAnyH_take (i := 43) (oi := { dst := some 97, op := Op.pick (Operand.tmp 93) (Operand.tmp 96) (Operand.const (Value.bool false)), type := 4, pos := "law.go:51", after := #[{ on := 39, ground := Ground.data }, { on := 42, ground := Ground.data }, { on := 33, ground := Ground.guard }], guard := some (33, false) }) (v := ?rfttv43) rfl (by kernel_rfl) (by kernel_rfl) (by kernel_rfl) (fun _ _ _ h => h) (Or.inl ⟨by rfl, ?rftty43⟩) hHeld ?rfttr43
            case rftty43 => (intro w hSw; (try dsimp only at hSw); go_simp; (try with_reducible rfl))
            try simp only [Act.put, List.setIfInBounds_toArray, List.set_cons_zero, List.set_cons_succ]
            refine wpAnyH_take (i := 44) (oi := { dst := some 98, op := Op.pick (Operand.tmp 87) (Operand.const (Value.bool true)) (Operand.tmp 97), type := 4, pos := "law.go:51", after := #[{ on := 33, ground := Ground.data }, { on := 43, ground := Ground.data }], guard := none }) (v := ?rfttv44) rfl (by kernel_rfl) (by kernel_rfl) (by kernel_rfl) (fun _ _ _ h => h) (Or.inl ⟨by rfl, ?rftty44⟩) hHeld ?rfttr44
            case rftty44 => (intro w hSw; (try dsimp only at hSw); go_simp; (try with_reducible rfl))
            try simp only [Act.put, List.setIfInBounds_toArray, List.set_cons_zero, List.set_cons_succ]
            refine wpAnyH_done (by kernel_rfl) ?_ _
            go_wp2
            go_meet
            exact ⟨rfl, S6W.out⟩
          · have hM' := hM
            refine wp_region_held_drew (S := (fun w' => w'.cell? ⟨w.heap.size, 0, none⟩ = some (.int .i64 al) ∧ w'.cell? ⟨w.heap.size, 1, none⟩ = some (.int .i64 ah) ∧ w'.cell? ⟨gm, 0, none⟩ = some (.int .i64 ml) ∧ w'.cell? ⟨gm, 1, none⟩ = some (.int .i64 mh) ∧ w'.cell? ⟨gj, 0, none⟩ = some (.int .i64 jl) ∧ w'.cell? ⟨gj, 1, none⟩ = some (.int .i64 jh))) (by kernel_rfl) ?rftfhSs (fun hHeld => ?_)
            case rftfhSs => exact ⟨c0, c1, c4, c5, c6, c7⟩
            refine wpAnyH_take (i := 0) (oi := { dst := some 54, op := Op.load 86 (Operand.tmp 3), type := 86, pos := "law.go:51", after := #[], guard := none }) (v := ?rftfv0) rfl (by kernel_rfl) (by kernel_rfl) (by kernel_rfl) (fun _ _ _ h => h) (Or.inl ⟨by rfl, ?rftfy0⟩) hHeld ?rftfr0
            case rftfy0 => (intro w hSw; (try dsimp only at hSw); go_simp; (try with_reducible rfl))
            try simp only [Act.put, List.setIfInBounds_toArray, List.set_cons_zero, List.set_cons_succ]
            refine wpAnyH_take (i := 1) (oi := { dst := some 55, op := Op.move (Operand.tmp 2), type := 2, pos := "law.go:51", after := #[], guard := none }) (v := ?rftfv1) rfl (by kernel_rfl) (by kernel_rfl) (by kernel_rfl) (fun _ _ _ h => h) (Or.inl ⟨by rfl, ?rftfy1⟩) hHeld ?rftfr1
            case rftfy1 => (intro w hSw; (try dsimp only at hSw); go_simp; (try with_reducible rfl))
            try simp only [Act.put, List.setIfInBounds_toArray, List.set_cons_zero, List.set_cons_succ]
            refine wpAnyH_take (i := 3) (oi := { dst := some 57, op := Op.move (Operand.tmp 7), type := 4, pos := "law.go:51", after := #[], guard := none }) (v := ?rftfv3) rfl (by kernel_rfl) (by kernel_rfl) (by kernel_rfl) (fun _ _ _ h => h) (Or.inl ⟨by rfl, ?rftfy3⟩) hHeld ?rftfr3
            case rftfy3 => (intro w hSw; (try dsimp only at hSw); go_simp; (try with_reducible rfl))
            try simp only [Act.put, List.setIfInBounds_toArray, List.set_cons_zero, List.set_cons_succ]
            refine wpAnyH_ready (rs := [2]) (by kernel_rfl) (by simp) ?_
            refine AllReadyH.cons (o := { dst := some 56, op := Op.call { callee := Callee.value (Operand.func 64), args := #[Operand.tmp 54, Operand.tmp 55], argTypes := #[86, 2] }, type := 4, pos := "law.go:51", after := #[{ on := 0, ground := Ground.data }, { on := 1, ground := Ground.data }], guard := none }) rfl (fun K hK => ?_) AllReadyH.nil
            go_simp
            (with_reducible refine (HA.out _).mono ?_)
            rintro e wx ⟨rfl, k⟩
            show K _ _
            have sx := S6W.out.later k (by first | exact Keeps.refl _ [] | exact (Keeps.refl _ []).drew)
            clear k c0 c1 c2 c3 c4 c5 c6 c7 S6W
            obtain ⟨c0, c1, c2, c3, c4, c5, c6, c7⟩ := sx.cells
            have S6W := kept sx
            clear sx
            clear hHeld
            refine hK.out _ _ ?rftfhS2 (fun hHeld => ?_)
            case rftfhS2 => exact ⟨c0, c1, c4, c5, c6, c7⟩
            clear hK K
            try simp only [Act.put, List.setIfInBounds_toArray, List.set_cons_zero, List.set_cons_succ]
            refine wpAnyH_take (i := 4) (oi := { dst := some 58, op := Op.binOp BinOp.neq 4 (Operand.tmp 56) (Operand.tmp 57) 4, type := 4, pos := "law.go:51", after := #[{ on := 2, ground := Ground.data }, { on := 3, ground := Ground.data }], guard := none }) (v := ?rftfv4) rfl (by kernel_rfl) (by kernel_rfl) (by kernel_rfl) (fun _ _ _ h => h) (Or.inl ⟨by rfl, ?rftfy4⟩) hHeld ?rftfr4
            case rftfy4 => (intro w hSw; (try dsimp only at hSw); go_simp; (try with_reducible rfl))
            try simp only [Act.put, List.setIfInBounds_toArray, List.set_cons_zero, List.set_cons_succ]
            refine wpAnyH_take (i := 5) (oi := { dst := some 59, op := Op.move (Operand.tmp 58), type := 4, pos := "law.go:51", after := #[{ on := 4, ground := Ground.data }, { on := 2, ground := Ground.chain }], guard := none }) (v := ?rftfv5) rfl (by kernel_rfl) (by kernel_rfl) (by kernel_rfl) (fun _ _ _ h => h) (Or.inl ⟨by rfl, ?rftfy5⟩) hHeld ?rftfr5
            case rftfy5 => (intro w hSw; (try dsimp only at hSw); go_simp; (try with_reducible rfl))
            try simp only [Act.put, List.setIfInBounds_toArray, List.set_cons_zero, List.set_cons_succ]
            refine wpAnyH_take (i := 6) (oi := { dst := some 60, op := Op.load 86 (Operand.tmp 11), type := 86, pos := "law.go:51", after := #[{ on := 5, ground := Ground.guard }], guard := some (5, false) }) (v := ?rftfv6) rfl (by kernel_rfl) (by kernel_rfl) (by kernel_rfl) (fun _ _ _ h => h) (Or.inl ⟨by rfl, ?rftfy6⟩) hHeld ?rftfr6
            case rftfy6 => (intro w hSw; (try dsimp only at hSw); go_simp; (try with_reducible rfl))
            try simp only [Act.put, List.setIfInBounds_toArray, List.set_cons_zero, List.set_cons_succ]
            refine wpAnyH_take (i := 7) (oi := { dst := some 61, op := Op.move (Operand.tmp 2), type := 2, pos := "law.go:51", after := #[{ on := 5, ground := Ground.guard }], guard := some (5, false) }) (v := ?rftfv7) rfl (by kernel_rfl) (by kernel_rfl) (by kernel_rfl) (fun _ _ _ h => h) (Or.inl ⟨by rfl, ?rftfy7⟩) hHeld ?rftfr7
            case rftfy7 => (intro w hSw; (try dsimp only at hSw); go_simp; (try with_reducible rfl))
            try simp only [Act.put, List.setIfInBounds_toArray, List.set_cons_zero, List.set_cons_succ]
            refine wpAnyH_take (i := 9) (oi := { dst := some 63, op := Op.move (Operand.tmp 7), type := 4, pos := "law.go:51", after := #[{ on := 5, ground := Ground.guard }], guard := some (5, false) }) (v := ?rftfv9) rfl (by kernel_rfl) (by kernel_rfl) (by kernel_rfl) (fun _ _ _ h => h) (Or.inl ⟨by rfl, ?rftfy9⟩) hHeld ?rftfr9
            case rftfy9 => (intro w hSw; (try dsimp only at hSw); go_simp; (try with_reducible rfl))
            try simp only [Act.put, List.setIfInBounds_toArray, List.set_cons_zero, List.set_cons_succ]
            refine wpAnyH_ready (rs := [8]) (by kernel_rfl) (by simp) ?_
            refine AllReadyH.cons (o := { dst := some 62, op := Op.call { callee := Callee.value (Operand.func 64), args := #[Operand.tmp 60, Operand.tmp 61], argTypes := #[86, 2] }, type := 4, pos := "law.go:51", after := #[{ on := 6, ground := Ground.data }, { on := 7, ground := Ground.data }, { on := 5, ground := Ground.chain }, { on := 5, ground := Ground.guard }], guard := some (5, false) }) rfl (fun K hK => ?_) AllReadyH.nil
            go_simp
            (with_reducible refine (HMN.out _).mono ?_)
            rintro e wx ⟨rfl, k⟩
            show K _ _
            have sx := S6W.out.later k (by first | exact Keeps.refl _ [] | exact (Keeps.refl _ []).drew)
            clear k c0 c1 c2 c3 c4 c5 c6 c7 S6W
            obtain ⟨c0, c1, c2, c3, c4, c5, c6, c7⟩ := sx.cells
            have S6W := kept sx
            clear sx
            clear hHeld
            refine hK.out _ _ ?rftfhS8 (fun hHeld => ?_)
            case rftfhS8 => exact ⟨c0, c1, c4, c5, c6, c7⟩
            clear hK K
            try simp only [Act.put, List.setIfInBounds_toArray, List.set_cons_zero, List.set_cons_succ]
            refine wpAnyH_take (i := 10) (oi := { dst := some 64, op := Op.move (Operand.tmp 63), type := 4, pos := "law.go:51", after := #[{ on := 9, ground := Ground.data }, { on := 8, ground := Ground.chain }, { on := 5, ground := Ground.guard }], guard := some (5, false) }) (v := ?rftfv10) rfl (by kernel_rfl) (by kernel_rfl) (by kernel_rfl) (fun _ _ _ h => h) (Or.inl ⟨by rfl, ?rftfy10⟩) hHeld ?rftfr10
            case rftfy10 => (intro w hSw; (try dsimp only at hSw); go_simp; (try with_reducible rfl))
            try simp only [Act.put, List.setIfInBounds_toArray, List.set_cons_zero, List.set_cons_succ]
            refine wpAnyH_take (i := 11) (oi := { dst := some 65, op := Op.move (Operand.tmp 8), type := 4, pos := "law.go:51", after := #[{ on := 10, ground := Ground.guard }], guard := some (10, true) }) (v := undef) rfl (by kernel_rfl) (by kernel_rfl) (by kernel_rfl) (fun _ _ _ h => h) (Or.inr ⟨by rfl, rfl⟩) hHeld ?_
            try simp only [Act.put, List.setIfInBounds_toArray, List.set_cons_zero, List.set_cons_succ]
            refine wpAnyH_take (i := 12) (oi := { dst := some 66, op := Op.pick (Operand.tmp 64) (Operand.tmp 65) (Operand.const (Value.bool false)), type := 4, pos := "law.go:51", after := #[{ on := 10, ground := Ground.data }, { on := 11, ground := Ground.data }, { on := 5, ground := Ground.guard }], guard := some (5, false) }) (v := ?rftfv12) rfl (by kernel_rfl) (by kernel_rfl) (by kernel_rfl) (fun _ _ _ h => h) (Or.inl ⟨by rfl, ?rftfy12⟩) hHeld ?rftfr12
            case rftfy12 => (intro w hSw; (try dsimp only at hSw); go_simp; (try with_reducible rfl))
            try simp only [Act.put, List.setIfInBounds_toArray, List.set_cons_zero, List.set_cons_succ]
            refine wpAnyH_take (i := 13) (oi := { dst := some 67, op := Op.binOp BinOp.neq 4 (Operand.tmp 62) (Operand.tmp 66) 4, type := 4, pos := "law.go:51", after := #[{ on := 8, ground := Ground.data }, { on := 12, ground := Ground.data }, { on := 5, ground := Ground.guard }], guard := some (5, false) }) (v := ?rftfv13) rfl (by kernel_rfl) (by kernel_rfl) (by kernel_rfl) (fun _ _ _ h => h) (Or.inl ⟨by rfl, ?rftfy13⟩) hHeld ?rftfr13
            case rftfy13 => (intro w hSw; (try dsimp only at hSw); go_simp; (try with_reducible rfl))
            try simp only [Act.put, List.setIfInBounds_toArray, List.set_cons_zero, List.set_cons_succ]
            refine wpAnyH_take (i := 14) (oi := { dst := some 68, op := Op.pick (Operand.tmp 59) (Operand.const (Value.bool true)) (Operand.tmp 67), type := 4, pos := "law.go:51", after := #[{ on := 5, ground := Ground.data }, { on := 13, ground := Ground.data }], guard := none }) (v := ?rftfv14) rfl (by kernel_rfl) (by kernel_rfl) (by kernel_rfl) (fun _ _ _ h => h) (Or.inl ⟨by rfl, ?rftfy14⟩) hHeld ?rftfr14
            case rftfy14 => (intro w hSw; (try dsimp only at hSw); go_simp; (try with_reducible rfl))
            try simp only [Act.put, List.setIfInBounds_toArray, List.set_cons_zero, List.set_cons_succ]
            refine wpAnyH_take (i := 15) (oi := { dst := some 69, op := Op.move (Operand.tmp 68), type := 4, pos := "law.go:51", after := #[{ on := 14, ground := Ground.data }, { on := 10, ground := Ground.chain }], guard := none }) (v := ?rftfv15) rfl (by kernel_rfl) (by kernel_rfl) (by kernel_rfl) (fun _ _ _ h => h) (Or.inl ⟨by rfl, ?rftfy15⟩) hHeld ?rftfr15
            case rftfy15 => (intro w hSw; (try dsimp only at hSw); go_simp; (try with_reducible rfl))
            try simp only [Act.put, List.setIfInBounds_toArray, List.set_cons_zero, List.set_cons_succ]
            refine wpAnyH_take (i := 16) (oi := { dst := some 70, op := Op.move (Operand.tmp 7), type := 4, pos := "law.go:51", after := #[{ on := 15, ground := Ground.guard }], guard := some (15, false) }) (v := ?rftfv16) rfl (by kernel_rfl) (by kernel_rfl) (by kernel_rfl) (fun _ _ _ h => h) (Or.inl ⟨by rfl, ?rftfy16⟩) hHeld ?rftfr16
            case rftfy16 => (intro w hSw; (try dsimp only at hSw); go_simp; (try with_reducible rfl))
            try simp only [Act.put, List.setIfInBounds_toArray, List.set_cons_zero, List.set_cons_succ]
            refine wpAnyH_take (i := 17) (oi := { dst := some 71, op := Op.move (Operand.tmp 70), type := 4, pos := "law.go:51", after := #[{ on := 16, ground := Ground.data }, { on := 15, ground := Ground.chain }, { on := 15, ground := Ground.guard }], guard := some (15, false) }) (v := ?rftfv17) rfl (by kernel_rfl) (by kernel_rfl) (by kernel_rfl) (fun _ _ _ h => h) (Or.inl ⟨by rfl, ?rftfy17⟩) hHeld ?rftfr17
            case rftfy17 => (intro w hSw; (try dsimp only at hSw); go_simp; (try with_reducible rfl))
            try simp only [Act.put, List.setIfInBounds_toArray, List.set_cons_zero, List.set_cons_succ]
            refine wpAnyH_take (i := 18) (oi := { dst := some 72, op := Op.move (Operand.tmp 8), type := 4, pos := "law.go:51", after := #[{ on := 17, ground := Ground.guard }], guard := some (17, false) }) (v := ?rftfv18) rfl (by kernel_rfl) (by kernel_rfl) (by kernel_rfl) (fun _ _ _ h => h) (Or.inl ⟨by rfl, ?rftfy18⟩) hHeld ?rftfr18
            case rftfy18 => (intro w hSw; (try dsimp only at hSw); go_simp; (try with_reducible rfl))
            try simp only [Act.put, List.setIfInBounds_toArray, List.set_cons_zero, List.set_cons_succ]
            refine wpAnyH_take (i := 19) (oi := { dst := some 73, op := Op.pick (Operand.tmp 71) (Operand.const (Value.bool true)) (Operand.tmp 72), type := 4, pos := "law.go:51", after := #[{ on := 17, ground := Ground.data }, { on := 18, ground := Ground.data }, { on := 15, ground := Ground.guard }], guard := some (15, false) }) (v := ?rftfv19) rfl (by kernel_rfl) (by kernel_rfl) (by kernel_rfl) (fun _ _ _ h => h) (Or.inl ⟨by rfl, ?rftfy19⟩) hHeld ?rftfr19
            case rftfy19 => (intro w hSw; (try dsimp only at hSw); go_simp; (try with_reducible rfl))
            try simp only [Act.put, List.setIfInBounds_toArray, List.set_cons_zero, List.set_cons_succ]
            refine wpAnyH_take (i := 20) (oi := { dst := some 74, op := Op.move (Operand.tmp 73), type := 4, pos := "law.go:51", after := #[{ on := 19, ground := Ground.data }, { on := 17, ground := Ground.chain }, { on := 15, ground := Ground.guard }], guard := some (15, false) }) (v := ?rftfv20) rfl (by kernel_rfl) (by kernel_rfl) (by kernel_rfl) (fun _ _ _ h => h) (Or.inl ⟨by rfl, ?rftfy20⟩) hHeld ?rftfr20
            case rftfy20 => (intro w hSw; (try dsimp only at hSw); go_simp; (try with_reducible rfl))
            try simp only [Act.put, List.setIfInBounds_toArray, List.set_cons_zero, List.set_cons_succ]
            refine wpAnyH_take (i := 21) (oi := { dst := some 75, op := Op.load 86 (Operand.tmp 12), type := 86, pos := "law.go:51", after := #[{ on := 20, ground := Ground.guard }], guard := some (20, true) }) (v := ?rftfv21) rfl (by kernel_rfl) (by kernel_rfl) (by kernel_rfl) (fun _ _ _ h => h) (Or.inl ⟨by rfl, ?rftfy21⟩) hHeld ?rftfr21
            case rftfy21 => (intro w hSw; (try dsimp only at hSw); go_simp; (try with_reducible rfl))
            try simp only [Act.put, List.setIfInBounds_toArray, List.set_cons_zero, List.set_cons_succ]
            refine wpAnyH_take (i := 22) (oi := { dst := some 76, op := Op.move (Operand.tmp 2), type := 2, pos := "law.go:51", after := #[{ on := 20, ground := Ground.guard }], guard := some (20, true) }) (v := ?rftfv22) rfl (by kernel_rfl) (by kernel_rfl) (by kernel_rfl) (fun _ _ _ h => h) (Or.inl ⟨by rfl, ?rftfy22⟩) hHeld ?rftfr22
            case rftfy22 => (intro w hSw; (try dsimp only at hSw); go_simp; (try with_reducible rfl))
            try simp only [Act.put, List.setIfInBounds_toArray, List.set_cons_zero, List.set_cons_succ]
            refine wpAnyH_ready (rs := [23]) (by kernel_rfl) (by simp) ?_
            refine AllReadyH.cons (o := { dst := some 77, op := Op.call { callee := Callee.value (Operand.func 64), args := #[Operand.tmp 75, Operand.tmp 76], argTypes := #[86, 2] }, type := 4, pos := "law.go:51", after := #[{ on := 21, ground := Ground.data }, { on := 22, ground := Ground.data }, { on := 20, ground := Ground.chain }, { on := 20, ground := Ground.guard }], guard := some (20, true) }) rfl (fun K hK => ?_) AllReadyH.nil
            go_simp
            (with_reducible refine (HJN.out _).mono ?_)
            rintro e wx ⟨rfl, k⟩
            show K _ _
            have sx := S6W.out.later k (by first | exact Keeps.refl _ [] | exact (Keeps.refl _ []).drew)
            clear k c0 c1 c2 c3 c4 c5 c6 c7 S6W
            obtain ⟨c0, c1, c2, c3, c4, c5, c6, c7⟩ := sx.cells
            have S6W := kept sx
            clear sx
            clear hHeld
            refine hK.out _ _ ?rftfhS23 (fun hHeld => ?_)
            case rftfhS23 => exact ⟨c0, c1, c4, c5, c6, c7⟩
            clear hK K
            try simp only [Act.put, List.setIfInBounds_toArray, List.set_cons_zero, List.set_cons_succ]
            refine wpAnyH_take (i := 24) (oi := { dst := some 78, op := Op.unOp UnOp.not 4 (Operand.tmp 77), type := 4, pos := "law.go:51", after := #[{ on := 23, ground := Ground.data }, { on := 20, ground := Ground.guard }], guard := some (20, true) }) (v := ?rftfv24) rfl (by kernel_rfl) (by kernel_rfl) (by kernel_rfl) (fun _ _ _ h => h) (Or.inl ⟨by rfl, ?rftfy24⟩) hHeld ?rftfr24
            case rftfy24 => (intro w hSw; (try dsimp only at hSw); go_simp; (try with_reducible rfl))
            try simp only [Act.put, List.setIfInBounds_toArray, List.set_cons_zero, List.set_cons_succ]
            refine wpAnyH_take (i := 25) (oi := { dst := some 79, op := Op.pick (Operand.tmp 74) (Operand.tmp 78) (Operand.const (Value.bool false)), type := 4, pos := "law.go:51", after := #[{ on := 20, ground := Ground.data }, { on := 24, ground := Ground.data }, { on := 15, ground := Ground.guard }], guard := some (15, false) }) (v := ?rftfv25) rfl (by kernel_rfl) (by kernel_rfl) (by kernel_rfl) (fun _ _ _ h => h) (Or.inl ⟨by rfl, ?rftfy25⟩) hHeld ?rftfr25
            case rftfy25 => (intro w hSw; (try dsimp only at hSw); go_simp; (try with_reducible rfl))
            try simp only [Act.put, List.setIfInBounds_toArray, List.set_cons_zero, List.set_cons_succ]
            refine wpAnyH_take (i := 26) (oi := { dst := some 80, op := Op.pick (Operand.tmp 69) (Operand.const (Value.bool true)) (Operand.tmp 79), type := 4, pos := "law.go:51", after := #[{ on := 15, ground := Ground.data }, { on := 25, ground := Ground.data }], guard := none }) (v := ?rftfv26) rfl (by kernel_rfl) (by kernel_rfl) (by kernel_rfl) (fun _ _ _ h => h) (Or.inl ⟨by rfl, ?rftfy26⟩) hHeld ?rftfr26
            case rftfy26 => (intro w hSw; (try dsimp only at hSw); go_simp; (try with_reducible rfl))
            try simp only [Act.put, List.setIfInBounds_toArray, List.set_cons_zero, List.set_cons_succ]
            refine wpAnyH_take (i := 27) (oi := { dst := some 81, op := Op.move (Operand.tmp 80), type := 4, pos := "law.go:51", after := #[{ on := 26, ground := Ground.data }, { on := 23, ground := Ground.chain }], guard := none }) (v := ?rftfv27) rfl (by kernel_rfl) (by kernel_rfl) (by kernel_rfl) (fun _ _ _ h => h) (Or.inl ⟨by rfl, ?rftfy27⟩) hHeld ?rftfr27
            case rftfy27 => (intro w hSw; (try dsimp only at hSw); go_simp; (try with_reducible rfl))
            try simp only [Act.put, List.setIfInBounds_toArray, List.set_cons_zero, List.set_cons_succ]
            refine wpAnyH_take (i := 28) (oi := { dst := some 82, op := Op.load 86 (Operand.tmp 3), type := 86, pos := "law.go:51", after := #[{ on := 27, ground := Ground.guard }], guard := some (27, false) }) (v := ?rftfv28) rfl (by kernel_rfl) (by kernel_rfl) (by kernel_rfl) (fun _ _ _ h => h) (Or.inl ⟨by rfl, ?rftfy28⟩) hHeld ?rftfr28
            case rftfy28 => (intro w hSw; (try dsimp only at hSw); go_simp; (try with_reducible rfl))
            try simp only [Act.put, List.setIfInBounds_toArray, List.set_cons_zero, List.set_cons_succ]
            refine wpAnyH_take (i := 30) (oi := { dst := some 84, op := Op.move (Operand.tmp 9), type := 4, pos := "law.go:51", after := #[{ on := 27, ground := Ground.guard }], guard := some (27, false) }) (v := ?rftfv30) rfl (by kernel_rfl) (by kernel_rfl) (by kernel_rfl) (fun _ _ _ h => h) (Or.inl ⟨by rfl, ?rftfy30⟩) hHeld ?rftfr30
            case rftfy30 => (intro w hSw; (try dsimp only at hSw); go_simp; (try with_reducible rfl))
            try simp only [Act.put, List.setIfInBounds_toArray, List.set_cons_zero, List.set_cons_succ]
            refine wpAnyH_ready (rs := [29]) (by kernel_rfl) (by simp) ?_
            refine AllReadyH.cons (o := { dst := some 83, op := Op.call { callee := Callee.value (Operand.func 65), args := #[Operand.tmp 82], argTypes := #[86] }, type := 4, pos := "law.go:51", after := #[{ on := 28, ground := Ground.data }, { on := 27, ground := Ground.chain }, { on := 27, ground := Ground.guard }], guard := some (27, false) }) rfl (fun K hK => ?_) AllReadyH.nil
            go_simp
            (with_reducible refine (EA.out _).mono ?_)
            rintro e wx ⟨rfl, k⟩
            show K _ _
            have sx := S6W.out.later k (by first | exact Keeps.refl _ [] | exact (Keeps.refl _ []).drew)
            clear k c0 c1 c2 c3 c4 c5 c6 c7 S6W
            obtain ⟨c0, c1, c2, c3, c4, c5, c6, c7⟩ := sx.cells
            have S6W := kept sx
            clear sx
            clear hHeld
            refine hK.out _ _ ?rftfhS29 (fun hHeld => ?_)
            case rftfhS29 => exact ⟨c0, c1, c4, c5, c6, c7⟩
            clear hK K
            try simp only [Act.put, List.setIfInBounds_toArray, List.set_cons_zero, List.set_cons_succ]
            refine wpAnyH_take (i := 31) (oi := { dst := some 85, op := Op.binOp BinOp.neq 4 (Operand.tmp 83) (Operand.tmp 84) 4, type := 4, pos := "law.go:51", after := #[{ on := 29, ground := Ground.data }, { on := 30, ground := Ground.data }, { on := 27, ground := Ground.guard }], guard := some (27, false) }) (v := ?rftfv31) rfl (by kernel_rfl) (by kernel_rfl) (by kernel_rfl) (fun _ _ _ h => h) (Or.inl ⟨by rfl, ?rftfy31⟩) hHeld ?rftfr31
            case rftfy31 => (intro w hSw; (try dsimp only at hSw); go_simp; (try with_reducible rfl))
            try simp only [Act.put, List.setIfInBounds_toArray, List.set_cons_zero, List.set_cons_succ]
            refine wpAnyH_take (i := 32) (oi := { dst := some 86, op := Op.pick (Operand.tmp 81) (Operand.const (Value.bool true)) (Operand.tmp 85), type := 4, pos := "law.go:51", after := #[{ on := 27, ground := Ground.data }, { on := 31, ground := Ground.data }], guard := none }) (v := ?rftfv32) rfl (by kernel_rfl) (by kernel_rfl) (by kernel_rfl) (fun _ _ _ h => h) (Or.inl ⟨by rfl, ?rftfy32⟩) hHeld ?rftfr32
            case rftfy32 => (intro w hSw; (try dsimp only at hSw); go_simp; (try with_reducible rfl))
            try simp only [Act.put, List.setIfInBounds_toArray, List.set_cons_zero, List.set_cons_succ]
            refine wpAnyH_take (i := 33) (oi := { dst := some 87, op := Op.move (Operand.tmp 86), type := 4, pos := "law.go:51", after := #[{ on := 32, ground := Ground.data }, { on := 29, ground := Ground.chain }], guard := none }) (v := ?rftfv33) rfl (by kernel_rfl) (by kernel_rfl) (by kernel_rfl) (fun _ _ _ h => h) (Or.inl ⟨by rfl, ?rftfy33⟩) hHeld ?rftfr33
            case rftfy33 => (intro w hSw; (try dsimp only at hSw); go_simp; (try with_reducible rfl))
            try simp only [Act.put, List.setIfInBounds_toArray, List.set_cons_zero, List.set_cons_succ]
            refine wpAnyH_take (i := 34) (oi := { dst := some 88, op := Op.fieldAddr 86 (Operand.tmp 11) 0, type := 0, pos := "law.go:51", after := #[{ on := 33, ground := Ground.guard }], guard := some (33, false) }) (v := ?rftfv34) rfl (by kernel_rfl) (by kernel_rfl) (by kernel_rfl) (fun _ _ _ h => h) (Or.inl ⟨by rfl, ?rftfy34⟩) hHeld ?rftfr34
            case rftfy34 => (intro w hSw; (try dsimp only at hSw); go_simp; (try with_reducible rfl))
            try simp only [Act.put, List.setIfInBounds_toArray, List.set_cons_zero, List.set_cons_succ]
            refine wpAnyH_take (i := 35) (oi := { dst := some 89, op := Op.load 2 (Operand.tmp 88), type := 2, pos := "law.go:51", after := #[{ on := 34, ground := Ground.data }, { on := 33, ground := Ground.guard }], guard := some (33, false) }) (v := ?rftfv35) rfl (by kernel_rfl) (by kernel_rfl) (by kernel_rfl) (fun _ _ _ h => h) (Or.inl ⟨by rfl, ?rftfy35⟩) hHeld ?rftfr35
            case rftfy35 => (intro w hSw; (try dsimp only at hSw); go_simp; (try with_reducible rfl))
            try simp only [Act.put, List.setIfInBounds_toArray, List.set_cons_zero, List.set_cons_succ]
            refine wpAnyH_take (i := 36) (oi := { dst := some 90, op := Op.fieldAddr 86 (Operand.tmp 11) 1, type := 0, pos := "law.go:51", after := #[{ on := 33, ground := Ground.guard }], guard := some (33, false) }) (v := ?rftfv36) rfl (by kernel_rfl) (by kernel_rfl) (by kernel_rfl) (fun _ _ _ h => h) (Or.inl ⟨by rfl, ?rftfy36⟩) hHeld ?rftfr36
            case rftfy36 => (intro w hSw; (try dsimp only at hSw); go_simp; (try with_reducible rfl))
            try simp only [Act.put, List.setIfInBounds_toArray, List.set_cons_zero, List.set_cons_succ]
            refine wpAnyH_take (i := 37) (oi := { dst := some 91, op := Op.load 2 (Operand.tmp 90), type := 2, pos := "law.go:51", after := #[{ on := 36, ground := Ground.data }, { on := 33, ground := Ground.guard }], guard := some (33, false) }) (v := ?rftfv37) rfl (by kernel_rfl) (by kernel_rfl) (by kernel_rfl) (fun _ _ _ h => h) (Or.inl ⟨by rfl, ?rftfy37⟩) hHeld ?rftfr37
            case rftfy37 => (intro w hSw; (try dsimp only at hSw); go_simp; (try with_reducible rfl))
            try simp only [Act.put, List.setIfInBounds_toArray, List.set_cons_zero, List.set_cons_succ]
            refine wpAnyH_take (i := 38) (oi := { dst := some 92, op := Op.binOp BinOp.gtr 2 (Operand.tmp 89) (Operand.tmp 91) 2, type := 4, pos := "law.go:51", after := #[{ on := 35, ground := Ground.data }, { on := 37, ground := Ground.data }, { on := 33, ground := Ground.guard }], guard := some (33, false) }) (v := ?rftfv38) rfl (by kernel_rfl) (by kernel_rfl) (by kernel_rfl) (fun _ _ _ h => h) (Or.inl ⟨by rfl, ?rftfy38⟩) hHeld ?rftfr38
            case rftfy38 => (intro w hSw; (try dsimp only at hSw); go_simp; (try with_reducible rfl))
            try simp only [Act.put, List.setIfInBounds_toArray, List.set_cons_zero, List.set_cons_succ]
            refine wpAnyH_take (i := 39) (oi := { dst := some 93, op := Op.move (Operand.tmp 92), type := 4, pos := "law.go:51", after := #[{ on := 38, ground := Ground.data }, { on := 33, ground := Ground.chain }, { on := 33, ground := Ground.guard }], guard := some (33, false) }) (v := ?rftfv39) rfl (by kernel_rfl) (by kernel_rfl) (by kernel_rfl) (fun _ _ _ h => h) (Or.inl ⟨by rfl, ?rftfy39⟩) hHeld ?rftfr39
            case rftfy39 => (intro w hSw; (try dsimp only at hSw); go_simp; (try with_reducible rfl))
            try simp only [Act.put, List.setIfInBounds_toArray, List.set_cons_zero, List.set_cons_succ]
            refine wpAnyH_take (i := 40) (oi := { dst := some 94, op := Op.load 86 (Operand.tmp 11), type := 86, pos := "law.go:51", after := #[{ on := 39, ground := Ground.guard }], guard := some (39, true) }) (v := undef) rfl (by kernel_rfl) (by kernel_rfl) (by kernel_rfl) (fun _ _ _ h => h) (Or.inr ⟨by rfl, rfl⟩) hHeld ?_
            try simp only [Act.put, List.setIfInBounds_toArray, List.set_cons_zero, List.set_cons_succ]
            refine wpAnyH_take (i := 41) (oi := { dst := some 95, op := Op.call { callee := Callee.value (Operand.func 66), args := #[], argTypes := #[] }, type := 86, pos := "law.go:51", after := #[{ on := 39, ground := Ground.chain }, { on := 39, ground := Ground.guard }], guard := some (39, true) }) (v := undef) rfl (by kernel_rfl) (by kernel_rfl) (by kernel_rfl) (fun _ _ _ h => h) (Or.inr ⟨by rfl, rfl⟩) hHeld ?_
            try simp only [Act.put, List.setIfInBounds_toArray, List.set_cons_zero, List.set_cons_succ]
            refine wpAnyH_take (i := 42) (oi := { dst := some 96, op := Op.binOp BinOp.neq 86 (Operand.tmp 94) (Operand.tmp 95) 86, type := 4, pos := "law.go:51", after := #[{ on := 40, ground := Ground.data }, { on := 41, ground := Ground.data }, { on := 39, ground := Ground.guard }], guard := some (39, true) }) (v := undef) rfl (by kernel_rfl) (by kernel_rfl) (by kernel_rfl) (fun _ _ _ h => h) (Or.inr ⟨by rfl, rfl⟩) hHeld ?_
            try simp only [Act.put, List.setIfInBounds_toArray, List.set_cons_zero, List.set_cons_succ]
            refine wpAnyH_take (i := 43) (oi := { dst := some 97, op := Op.pick (Operand.tmp 93) (Operand.tmp 96) (Operand.const (Value.bool false)), type := 4, pos := "law.go:51", after := #[{ on := 39, ground := Ground.data }, { on := 42, ground := Ground.data }, { on := 33, ground := Ground.guard }], guard := some (33, false) }) (v := ?rftfv43) rfl (by kernel_rfl) (by kernel_rfl) (by kernel_rfl) (fun _ _ _ h => h) (Or.inl ⟨by rfl, ?rftfy43⟩) hHeld ?rftfr43
            case rftfy43 => (intro w hSw; (try dsimp only at hSw); go_simp; (try with_reducible rfl))
            try simp only [Act.put, List.setIfInBounds_toArray, List.set_cons_zero, List.set_cons_succ]
            refine wpAnyH_take (i := 44) (oi := { dst := some 98, op := Op.pick (Operand.tmp 87) (Operand.const (Value.bool true)) (Operand.tmp 97), type := 4, pos := "law.go:51", after := #[{ on := 33, ground := Ground.data }, { on := 43, ground := Ground.data }], guard := none }) (v := ?rftfv44) rfl (by kernel_rfl) (by kernel_rfl) (by kernel_rfl) (fun _ _ _ h => h) (Or.inl ⟨by rfl, ?rftfy44⟩) hHeld ?rftfr44
            case rftfy44 => (intro w hSw; (try dsimp only at hSw); go_simp; (try with_reducible rfl))
            try simp only [Act.put, List.setIfInBounds_toArray, List.set_cons_zero, List.set_cons_succ]
            refine wpAnyH_done (by kernel_rfl) ?_ _
            go_wp2
            go_meet
            exact ⟨rfl, S6W.out⟩
      case rest =>
        obtain ⟨rfl, hs⟩ := hcut
        clear c0 c1 c2 c3 c4 c5 c6 c7 S6W
        have S6W := kept hs
        clear hs
        obtain ⟨c0, c1, c2, c3, c4, c5, c6, c7⟩ := S6W.out.cells
        rcases Bool.eq_false_or_eq_true E with rfl | rfl
        · have hEE := kept (of_decide_eq_true HE.out)
          have CW := kept (fun w => win_of (within_e (bl := bl) (bh := bh) hEE.out) w)
          have CSI := kept (fun w => single_no (al := al) (ah := ah) (by have := hEE.out; omega) w)
          have hb : (al == ah) = false := by simp; have := hEE.out; omega
          rcases Bool.eq_false_or_eq_true D with rfl | rfl
          · obtain ⟨rfl, rfl⟩ := join_ED JQ.out hEE.out (of_decide_eq_true HD.out)
            go_wp2
            go_region_held3 (fun w' => w'.cell? ⟨gj, 0, none⟩ = some (.int .i64 1) ∧ w'.cell? ⟨gj, 1, none⟩ = some (.int .i64 0)) (first | exact ⟨c6, c7⟩ | go_keep) (first | (go_at_call 66; (with_reducible refine (N6.out _).mono ?_); rintro e wx ⟨rfl, k⟩; have sx := S6W.out.later k (by first | exact Keeps.refl _ [] | exact (Keeps.refl _ []).drew); clear k c0 c1 c2 c3 c4 c5 c6 c7 S6W; obtain ⟨c0, c1, c2, c3, c4, c5, c6, c7⟩ := sx.cells; have S6W := kept sx; clear sx))
            go_wp2_with fail
            refine (CSI.out _).mono ?_
            rintro e wx ⟨rfl, k⟩
            have sx := S6W.out.next k
            clear k c0 c1 c2 c3 c4 c5 c6 c7 S6W
            obtain ⟨c0, c1, c2, c3, c4, c5, c6, c7⟩ := sx.cells
            have S6W := kept sx
            clear sx
            go_wp2_with fail
            refine (CW.out _).mono ?_
            rintro e wx ⟨rfl, k⟩
            have sx := S6W.out.next k
            clear k c0 c1 c2 c3 c4 c5 c6 c7 S6W
            obtain ⟨c0, c1, c2, c3, c4, c5, c6, c7⟩ := sx.cells
            have S6W := kept sx
            clear sx
            go_wp2_with fail
            refine (CO.out _).mono ?_
            rintro e wx ⟨rfl, k⟩
            have sx := S6W.out.next k
            clear k c0 c1 c2 c3 c4 c5 c6 c7 S6W
            obtain ⟨c0, c1, c2, c3, c4, c5, c6, c7⟩ := sx.cells
            have S6W := kept sx
            clear sx
            go_wp2_with fail
            refine (CL.out _).mono ?_
            rintro e wx ⟨rfl, k⟩
            have sx := S6W.out.next k
            clear k c0 c1 c2 c3 c4 c5 c6 c7 S6W
            obtain ⟨c0, c1, c2, c3, c4, c5, c6, c7⟩ := sx.cells
            have S6W := kept sx
            clear sx
            go_wp2_with fail
            refine (N71.out _).mono ?_
            rintro e wx ⟨rfl, k⟩
            have sx := S6W.out.next k
            clear k c0 c1 c2 c3 c4 c5 c6 c7 S6W
            obtain ⟨c0, c1, c2, c3, c4, c5, c6, c7⟩ := sx.cells
            have S6W := kept sx
            clear sx
            go_wp2_with fail
            refine (CN.out _).mono ?_
            rintro e wx ⟨rfl, k⟩
            have sx := S6W.out.next k
            clear k c0 c1 c2 c3 c4 c5 c6 c7 S6W
            obtain ⟨c0, c1, c2, c3, c4, c5, c6, c7⟩ := sx.cells
            have S6W := kept sx
            clear sx
            go_wp2_with fail
            refine (N6.out _).mono ?_
            rintro e wx ⟨rfl, k⟩
            have sx := S6W.out.next k
            clear k c0 c1 c2 c3 c4 c5 c6 c7 S6W
            obtain ⟨c0, c1, c2, c3, c4, c5, c6, c7⟩ := sx.cells
            have S6W := kept sx
            clear sx
            go_wp2
            go_ret
            exact ⟨rfl, S6W.out.keeps.below (Nat.le_refl _) (by simp)⟩
          · obtain ⟨rfl, rfl⟩ := join_E JQ.out hEE.out (of_decide_eq_false HD.out)
            go_wp2_with fail
            refine (CSI.out _).mono ?_
            rintro e wx ⟨rfl, k⟩
            have sx := S6W.out.next k
            clear k c0 c1 c2 c3 c4 c5 c6 c7 S6W
            obtain ⟨c0, c1, c2, c3, c4, c5, c6, c7⟩ := sx.cells
            have S6W := kept sx
            clear sx
            go_wp2_with fail
            refine (CW.out _).mono ?_
            rintro e wx ⟨rfl, k⟩
            have sx := S6W.out.next k
            clear k c0 c1 c2 c3 c4 c5 c6 c7 S6W
            obtain ⟨c0, c1, c2, c3, c4, c5, c6, c7⟩ := sx.cells
            have S6W := kept sx
            clear sx
            go_wp2_with fail
            refine (CO.out _).mono ?_
            rintro e wx ⟨rfl, k⟩
            have sx := S6W.out.next k
            clear k c0 c1 c2 c3 c4 c5 c6 c7 S6W
            obtain ⟨c0, c1, c2, c3, c4, c5, c6, c7⟩ := sx.cells
            have S6W := kept sx
            clear sx
            go_wp2_with fail
            refine (CL.out _).mono ?_
            rintro e wx ⟨rfl, k⟩
            have sx := S6W.out.next k
            clear k c0 c1 c2 c3 c4 c5 c6 c7 S6W
            obtain ⟨c0, c1, c2, c3, c4, c5, c6, c7⟩ := sx.cells
            have S6W := kept sx
            clear sx
            go_wp2_with fail
            refine (N71.out _).mono ?_
            rintro e wx ⟨rfl, k⟩
            have sx := S6W.out.next k
            clear k c0 c1 c2 c3 c4 c5 c6 c7 S6W
            obtain ⟨c0, c1, c2, c3, c4, c5, c6, c7⟩ := sx.cells
            have S6W := kept sx
            clear sx
            go_wp2_with fail
            refine (CN.out _).mono ?_
            rintro e wx ⟨rfl, k⟩
            have sx := S6W.out.next k
            clear k c0 c1 c2 c3 c4 c5 c6 c7 S6W
            obtain ⟨c0, c1, c2, c3, c4, c5, c6, c7⟩ := sx.cells
            have S6W := kept sx
            clear sx
            go_wp2_with fail
            refine (N6.out _).mono ?_
            rintro e wx ⟨rfl, k⟩
            have sx := S6W.out.next k
            clear k c0 c1 c2 c3 c4 c5 c6 c7 S6W
            obtain ⟨c0, c1, c2, c3, c4, c5, c6, c7⟩ := sx.cells
            have S6W := kept sx
            clear sx
            go_wp2
            go_ret
            exact ⟨rfl, S6W.out.keeps.below (Nat.le_refl _) (by simp)⟩
        · have hEE := kept (of_decide_eq_false HE.out)
          go_upto_block 0 with (fail)
          go_cut [5] from 99 to 170 (fun t5 wx => t5 = undef ∧ S6 w wx al ah bl bh ml mh jl jh gm gj)
          case first =>
            rcases Bool.eq_false_or_eq_true D with rfl | rfl
            · obtain ⟨rfl, rfl⟩ := join_D JQ.out hEE.out (of_decide_eq_true HD.out)
              go_wp2
              go_meet
              exact ⟨rfl, S6W.out⟩
            · obtain ⟨hj1, hj2⟩ := join_N JQ.out hEE.out (of_decide_eq_false HD.out)
              rcases (show bl < al ∨ al ≤ bl by omega) with hl | hl
              · rcases (show ah < bh ∨ bh ≤ ah by omega) with hh | hh
                · obtain rfl : bl = jl := by rw [← hj1]; omega
                  obtain rfl : bh = jh := by rw [← hj2]; omega
                  clear hj1 hj2
                  have g1 : decide (al < bl) = false := by simp; omega
                  have g2 : (bl == al) = false := by simp; omega
                  have g2a : (bl != al) = true := by simp; omega
                  have g2b : ¬ bl = al := by omega
                  have g3 : decide (bh < ah) = false := by simp; omega
                  have g4 : (bh == ah) = false := by simp; omega
                  have g4a : (bh != ah) = true := by simp; omega
                  have g4b : ¬ bh = ah := by omega
                  clear hl hh
                  go_wp2
                  go_meet
                  exact ⟨rfl, S6W.out⟩
                · obtain rfl : bl = jl := by rw [← hj1]; omega
                  obtain rfl : ah = jh := by rw [← hj2]; omega
                  clear hj1 hj2
                  have g1 : decide (al < bl) = false := by simp; omega
                  have g2 : (bl == al) = false := by simp; omega
                  have g2a : (bl != al) = true := by simp; omega
                  have g2b : ¬ bl = al := by omega
                  have g3 : decide (ah < bh) = false := by simp; omega
                  clear hl hh
                  go_wp2
                  go_meet
                  exact ⟨rfl, S6W.out⟩
              · rcases (show ah < bh ∨ bh ≤ ah by omega) with hh | hh
                · obtain rfl : al = jl := by rw [← hj1]; omega
                  obtain rfl : bh = jh := by rw [← hj2]; omega
                  clear hj1 hj2
                  have g1 : decide (bl < al) = false := by simp; omega
                  have g3 : decide (bh < ah) = false := by simp; omega
                  have g4 : (bh == ah) = false := by simp; omega
                  have g4a : (bh != ah) = true := by simp; omega
                  have g4b : ¬ bh = ah := by omega
                  clear hl hh
                  go_wp2
                  go_meet
                  exact ⟨rfl, S6W.out⟩
                · obtain rfl : al = jl := by rw [← hj1]; omega
                  obtain rfl : ah = jh := by rw [← hj2]; omega
                  clear hj1 hj2
                  have g1 : decide (bl < al) = false := by simp; omega
                  have g3 : decide (ah < bh) = false := by simp; omega
                  clear hl hh
                  go_wp2
                  go_meet
                  exact ⟨rfl, S6W.out⟩
          case rest =>
            obtain ⟨rfl, hs⟩ := hcut
            clear c0 c1 c2 c3 c4 c5 c6 c7 S6W
            have S6W := kept hs
            clear hs
            obtain ⟨c0, c1, c2, c3, c4, c5, c6, c7⟩ := S6W.out.cells
            rcases Bool.eq_false_or_eq_true (decide (bl ≤ al)) with hw | hw
            · have CW := kept (fun w => win_of (within_y (bh := bh) hEE.out (of_decide_eq_true hw)) w)
              rcases Int.lt_trichotomy al ah with hlt | heq | hgt
              · have CSI := kept (fun w => single_no (al := al) (ah := ah) (by omega) w)
                have hb : (al == ah) = false := by simp; omega
                clear hlt
                go_wp2_with fail
                refine (CSI.out _).mono ?_
                rintro e wx ⟨rfl, k⟩
                have sx := S6W.out.next k
                clear k c0 c1 c2 c3 c4 c5 c6 c7 S6W
                obtain ⟨c0, c1, c2, c3, c4, c5, c6, c7⟩ := sx.cells
                have S6W := kept sx
                clear sx
                go_wp2_with fail
                refine (CW.out _).mono ?_
                rintro e wx ⟨rfl, k⟩
                have sx := S6W.out.next k
                clear k c0 c1 c2 c3 c4 c5 c6 c7 S6W
                obtain ⟨c0, c1, c2, c3, c4, c5, c6, c7⟩ := sx.cells
                have S6W := kept sx
                clear sx
                go_wp2_with fail
                refine (CO.out _).mono ?_
                rintro e wx ⟨rfl, k⟩
                have sx := S6W.out.next k
                clear k c0 c1 c2 c3 c4 c5 c6 c7 S6W
                obtain ⟨c0, c1, c2, c3, c4, c5, c6, c7⟩ := sx.cells
                have S6W := kept sx
                clear sx
                go_wp2_with fail
                refine (CL.out _).mono ?_
                rintro e wx ⟨rfl, k⟩
                have sx := S6W.out.next k
                clear k c0 c1 c2 c3 c4 c5 c6 c7 S6W
                obtain ⟨c0, c1, c2, c3, c4, c5, c6, c7⟩ := sx.cells
                have S6W := kept sx
                clear sx
                go_wp2_with fail
                refine (N71.out _).mono ?_
                rintro e wx ⟨rfl, k⟩
                have sx := S6W.out.next k
                clear k c0 c1 c2 c3 c4 c5 c6 c7 S6W
                obtain ⟨c0, c1, c2, c3, c4, c5, c6, c7⟩ := sx.cells
                have S6W := kept sx
                clear sx
                go_wp2_with fail
                refine (CN.out _).mono ?_
                rintro e wx ⟨rfl, k⟩
                have sx := S6W.out.next k
                clear k c0 c1 c2 c3 c4 c5 c6 c7 S6W
                obtain ⟨c0, c1, c2, c3, c4, c5, c6, c7⟩ := sx.cells
                have S6W := kept sx
                clear sx
                go_wp2_with fail
                refine (N6.out _).mono ?_
                rintro e wx ⟨rfl, k⟩
                have sx := S6W.out.next k
                clear k c0 c1 c2 c3 c4 c5 c6 c7 S6W
                obtain ⟨c0, c1, c2, c3, c4, c5, c6, c7⟩ := sx.cells
                have S6W := kept sx
                clear sx
                go_wp2
                go_ret
                exact ⟨rfl, S6W.out.keeps.below (Nat.le_refl _) (by simp)⟩
              · have CSI := kept (fun w => single_yes (al := al) (ah := ah) heq w)
                have hb : (al == ah) = true := by simp; exact heq
                clear heq
                go_wp2_with fail
                refine (CSI.out _).mono ?_
                rintro e wx ⟨rfl, k⟩
                have sx := S6W.out.next k
                clear k c0 c1 c2 c3 c4 c5 c6 c7 S6W
                obtain ⟨c0, c1, c2, c3, c4, c5, c6, c7⟩ := sx.cells
                have S6W := kept sx
                clear sx
                go_wp2_with fail
                refine (CW.out _).mono ?_
                rintro e wx ⟨rfl, k⟩
                have sx := S6W.out.next k
                clear k c0 c1 c2 c3 c4 c5 c6 c7 S6W
                obtain ⟨c0, c1, c2, c3, c4, c5, c6, c7⟩ := sx.cells
                have S6W := kept sx
                clear sx
                go_wp2_with fail
                refine (CO.out _).mono ?_
                rintro e wx ⟨rfl, k⟩
                have sx := S6W.out.next k
                clear k c0 c1 c2 c3 c4 c5 c6 c7 S6W
                obtain ⟨c0, c1, c2, c3, c4, c5, c6, c7⟩ := sx.cells
                have S6W := kept sx
                clear sx
                go_wp2_with fail
                refine (CL.out _).mono ?_
                rintro e wx ⟨rfl, k⟩
                have sx := S6W.out.next k
                clear k c0 c1 c2 c3 c4 c5 c6 c7 S6W
                obtain ⟨c0, c1, c2, c3, c4, c5, c6, c7⟩ := sx.cells
                have S6W := kept sx
                clear sx
                go_wp2_with fail
                refine (N71.out _).mono ?_
                rintro e wx ⟨rfl, k⟩
                have sx := S6W.out.next k
                clear k c0 c1 c2 c3 c4 c5 c6 c7 S6W
                obtain ⟨c0, c1, c2, c3, c4, c5, c6, c7⟩ := sx.cells
                have S6W := kept sx
                clear sx
                go_wp2_with fail
                refine (CN.out _).mono ?_
                rintro e wx ⟨rfl, k⟩
                have sx := S6W.out.next k
                clear k c0 c1 c2 c3 c4 c5 c6 c7 S6W
                obtain ⟨c0, c1, c2, c3, c4, c5, c6, c7⟩ := sx.cells
                have S6W := kept sx
                clear sx
                go_wp2_with fail
                refine (N6.out _).mono ?_
                rintro e wx ⟨rfl, k⟩
                have sx := S6W.out.next k
                clear k c0 c1 c2 c3 c4 c5 c6 c7 S6W
                obtain ⟨c0, c1, c2, c3, c4, c5, c6, c7⟩ := sx.cells
                have S6W := kept sx
                clear sx
                go_wp2
                go_ret
                exact ⟨rfl, S6W.out.keeps.below (Nat.le_refl _) (by simp)⟩
              · exact absurd hgt hEE.out
            · have CW := kept (fun w => win_of (within_n (bh := bh) hEE.out (of_decide_eq_false hw)) w)
              rcases Int.lt_trichotomy al ah with hlt | heq | hgt
              · have CSI := kept (fun w => single_no (al := al) (ah := ah) (by omega) w)
                have hb : (al == ah) = false := by simp; omega
                clear hlt
                go_wp2_with fail
                refine (CSI.out _).mono ?_
                rintro e wx ⟨rfl, k⟩
                have sx := S6W.out.next k
                clear k c0 c1 c2 c3 c4 c5 c6 c7 S6W
                obtain ⟨c0, c1, c2, c3, c4, c5, c6, c7⟩ := sx.cells
                have S6W := kept sx
                clear sx
                go_wp2_with fail
                refine (CW.out _).mono ?_
                rintro e wx ⟨rfl, k⟩
                have sx := S6W.out.next k
                clear k c0 c1 c2 c3 c4 c5 c6 c7 S6W
                obtain ⟨c0, c1, c2, c3, c4, c5, c6, c7⟩ := sx.cells
                have S6W := kept sx
                clear sx
                go_wp2_with fail
                refine (CO.out _).mono ?_
                rintro e wx ⟨rfl, k⟩
                have sx := S6W.out.next k
                clear k c0 c1 c2 c3 c4 c5 c6 c7 S6W
                obtain ⟨c0, c1, c2, c3, c4, c5, c6, c7⟩ := sx.cells
                have S6W := kept sx
                clear sx
                go_wp2_with fail
                refine (CL.out _).mono ?_
                rintro e wx ⟨rfl, k⟩
                have sx := S6W.out.next k
                clear k c0 c1 c2 c3 c4 c5 c6 c7 S6W
                obtain ⟨c0, c1, c2, c3, c4, c5, c6, c7⟩ := sx.cells
                have S6W := kept sx
                clear sx
                go_wp2_with fail
                refine (N71.out _).mono ?_
                rintro e wx ⟨rfl, k⟩
                have sx := S6W.out.next k
                clear k c0 c1 c2 c3 c4 c5 c6 c7 S6W
                obtain ⟨c0, c1, c2, c3, c4, c5, c6, c7⟩ := sx.cells
                have S6W := kept sx
                clear sx
                go_wp2_with fail
                refine (CN.out _).mono ?_
                rintro e wx ⟨rfl, k⟩
                have sx := S6W.out.next k
                clear k c0 c1 c2 c3 c4 c5 c6 c7 S6W
                obtain ⟨c0, c1, c2, c3, c4, c5, c6, c7⟩ := sx.cells
                have S6W := kept sx
                clear sx
                go_wp2_with fail
                refine (N6.out _).mono ?_
                rintro e wx ⟨rfl, k⟩
                have sx := S6W.out.next k
                clear k c0 c1 c2 c3 c4 c5 c6 c7 S6W
                obtain ⟨c0, c1, c2, c3, c4, c5, c6, c7⟩ := sx.cells
                have S6W := kept sx
                clear sx
                go_wp2
                go_ret
                exact ⟨rfl, S6W.out.keeps.below (Nat.le_refl _) (by simp)⟩
              · have CSI := kept (fun w => single_yes (al := al) (ah := ah) heq w)
                have hb : (al == ah) = true := by simp; exact heq
                clear heq
                go_wp2_with fail
                refine (CSI.out _).mono ?_
                rintro e wx ⟨rfl, k⟩
                have sx := S6W.out.next k
                clear k c0 c1 c2 c3 c4 c5 c6 c7 S6W
                obtain ⟨c0, c1, c2, c3, c4, c5, c6, c7⟩ := sx.cells
                have S6W := kept sx
                clear sx
                go_wp2_with fail
                refine (CW.out _).mono ?_
                rintro e wx ⟨rfl, k⟩
                have sx := S6W.out.next k
                clear k c0 c1 c2 c3 c4 c5 c6 c7 S6W
                obtain ⟨c0, c1, c2, c3, c4, c5, c6, c7⟩ := sx.cells
                have S6W := kept sx
                clear sx
                go_wp2_with fail
                refine (CO.out _).mono ?_
                rintro e wx ⟨rfl, k⟩
                have sx := S6W.out.next k
                clear k c0 c1 c2 c3 c4 c5 c6 c7 S6W
                obtain ⟨c0, c1, c2, c3, c4, c5, c6, c7⟩ := sx.cells
                have S6W := kept sx
                clear sx
                go_wp2_with fail
                refine (CL.out _).mono ?_
                rintro e wx ⟨rfl, k⟩
                have sx := S6W.out.next k
                clear k c0 c1 c2 c3 c4 c5 c6 c7 S6W
                obtain ⟨c0, c1, c2, c3, c4, c5, c6, c7⟩ := sx.cells
                have S6W := kept sx
                clear sx
                go_wp2_with fail
                refine (N71.out _).mono ?_
                rintro e wx ⟨rfl, k⟩
                have sx := S6W.out.next k
                clear k c0 c1 c2 c3 c4 c5 c6 c7 S6W
                obtain ⟨c0, c1, c2, c3, c4, c5, c6, c7⟩ := sx.cells
                have S6W := kept sx
                clear sx
                go_wp2_with fail
                refine (CN.out _).mono ?_
                rintro e wx ⟨rfl, k⟩
                have sx := S6W.out.next k
                clear k c0 c1 c2 c3 c4 c5 c6 c7 S6W
                obtain ⟨c0, c1, c2, c3, c4, c5, c6, c7⟩ := sx.cells
                have S6W := kept sx
                clear sx
                go_wp2_with fail
                refine (N6.out _).mono ?_
                rintro e wx ⟨rfl, k⟩
                have sx := S6W.out.next k
                clear k c0 c1 c2 c3 c4 c5 c6 c7 S6W
                obtain ⟨c0, c1, c2, c3, c4, c5, c6, c7⟩ := sx.cells
                have S6W := kept sx
                clear sx
                go_wp2
                go_ret
                exact ⟨rfl, S6W.out.keeps.below (Nat.le_refl _) (by simp)⟩
              · exact absurd hgt hEE.out
end Go.Proofs.Ytppidnjhdefbiaa
