/- The walk of the law FactsPlay. -/
import Derived.Test.YtppidnjhdefbiaaFactsPlayEarly
import Derived.Test.YtppidnjhdefbiaaFactsRefLeast
import Derived.Deep.DeepCutAuto
namespace Go.Proofs.Ytppidnjhdefbiaa
open Go.RowKit
set_option linter.unusedVariables false

theorem snoc_cases {α : Type} (l : List α) : l = [] ∨ ∃ L b, l = L ++ [b] := by
  rcases List.eq_nil_or_concat l with h | ⟨L, b, h⟩
  · exact .inl h
  · exact .inr ⟨L, b, by simpa using h⟩

theorem blk_ne {w : World} {g g' : Nat} {t t' : TypeId} {cs cs' : Array Value} (h : Blk w g t cs) (h' : Blk w g' t' cs') (hne : t ≠ t') : g ≠ g' := by
  rintro rfl
  unfold Blk at h h'
  rw [h] at h'
  injection h' with h'
  injection h' with _ ht
  exact hne ht
theorem act_after {w W w4 : World} {g n x : Nat} {L L2 L' : List Chain.Fct} {M M2 M' : List Nat} {v8 v9 lv mv : Value} {cs : Array Value} (P : PlayS w W g n L M L2 M2 v8 v9 lv mv) (B : Blk W x 60 cs) (h : Added W w.heap.size g lv mv n L' M' w4) : Blk w4 x 60 cs := by
  obtain ⟨lv', _, k, _⟩ := h
  refine B.keep k ?_
  have h1 := blk_ne B P.s.blk (by decide)
  have h2 := own_ne P.s.facts B (by decide)
  simp [h1]
  exact h2
theorem info36 : (Try.prog.info? 36).map (fun i => (i.zero, i.size, i.bytes)) = some (some (.agg #[.int .i64 0, .int .i64 0, .int .i64 0]), 3, 24) := by kernel_rfl
theorem take_len {α : Type} {L : List α} {m : Nat} (h : m ≤ L.length) : (L.take m).length = m := by rw [List.length_take]; omega
theorem flat_len (L : List Chain.Fct) : (L.flatMap fctCells).length = L.length * 3 := by
  induction L with
  | nil => rfl
  | cons f L ih => rw [List.flatMap_cons, List.length_append, ih]; simp [fctCells]; omega

theorem PlayS.cut {w wr : World} {g n m c9 : Nat} {a9 : Option Addr} {L1 L2 : List Chain.Fct} {M1 M2 : List Nat} {v8 lv mv : Value} (h : PlayS w wr g n L1 M1 L2 (M2 ++ [m]) v8 (.slice a9 (M2 ++ [m]).length c9) lv mv) : PlayS w wr g n L1 M1 L2 M2 v8 (.slice a9 M2.length c9) lv mv := by
  have h1 := h.m
  rw [List.length_append, List.length_singleton] at h1
  have h2 := own_cut h1 (Nat.le_succ M2.length)
  refine ⟨h.keeps, h.s, h.f, by simpa using h2, ?_⟩
  intro i hi
  have := h.ap i hi
  cases a9 <;> first | exact this | (simp [Value.ownBlock]; done)

set_option maxRecDepth 100000 in
set_option maxHeartbeats 40000000 in
theorem play_main (n : Nat) (al : Option Addr) (ll cl : Nat) (z0 z1 z2 z3 : Nat → Int) (hn : n ≤ 40) (hl : ll ≤ 80) (w : World) (hs : Sees4 w al ll z0 z1 z2 z3) :
    Calls Try.prog 11 #[.int .i64 n, .slice al ll cl] w fun e w' => e = .returned (.bool true) ∧ Below w.heap.size w w' := by
  have HL := kept hs
  clear hs
  go_enter Try.func11, Try.ntmps11
  go_wp2_with fail
  refine (factslives _).mono ?_
  rintro e w1 ⟨rfl, k1⟩
  have K1 := kept (show Keeps w w1 [] from k1)
  clear k1
  go_wp2_with fail
  refine (new_yes _ n (by omega)).mono ?_
  rintro e w2 ⟨rfl, hw2⟩
  have P0 := kept (play_start K1.out n)
  rw [← hw2] at P0
  clear hw2 K1
  generalize w1.heap.size = g at *
  go_wp2
  go_loopw [8, 9, 85] (fun v8 v9 x wr => ∃ (i : Nat) (L : List Chain.Fct) (M : List Nat), i ≤ ll ∧ x = .int .i64 i ∧ PlayInv w wr g n L M v8 v9 i) (fun _ _ x _ => ll - (intOf x).toNat)
  case atStart => exact ⟨0, [], [], by omega, rfl, P0.out⟩
  case round =>
    obtain ⟨i, L, M, hi, rfl, ⟨lv, mv, P⟩, hF, hS, hle, hLi, hMi⟩ := hrel
    have HP := kept P
    have HF := kept hF
    have HS := kept hS
    have HLE := kept hle
    clear P hF hS hle P0
    by_cases hlt : i < ll
    · obtain ⟨bl, ol, rfl, hbl, hcl⟩ := (HL.out.keep HP.out.keeps).resolve_left (by omega)
      obtain ⟨q0, q1, q2, q3⟩ := hcl i hlt
      clear hcl
      obtain ⟨K, hK⟩ : ∃ K, K = z0 i := ⟨_, rfl⟩
      obtain ⟨A, hA⟩ : ∃ A, A = z1 i := ⟨_, rfl⟩
      obtain ⟨C, hC⟩ : ∃ C, C = z2 i := ⟨_, rfl⟩
      obtain ⟨c, hc⟩ : ∃ c, c = z3 i := ⟨_, rfl⟩
      rw [← hK] at q0
      rw [← hA] at q1
      rw [← hC] at q2
      rw [← hc] at q3
      clear hK hA hC hc
      have TW := kept (HP.out.calm ((Keeps.refl wr []).alloc (Obj.cells #[.int .i64 K, .int .i64 A, .int .i64 C, .int .i64 c] 60)))
      have BW := kept (show Blk (wr.alloc (Obj.cells #[.int .i64 K, .int .i64 A, .int .i64 C, .int .i64 c] 60)) wr.heap.size 60 #[.int .i64 K, .int .i64 A, .int .i64 C, .int .i64 c] from Blk.new wr _ _)
      obtain ⟨a8, c8, rfl, hc8, hd8⟩ := own_form HP.out.f
      obtain ⟨a9, c9, rfl, hc9, hd9⟩ := own_form HP.out.m
      generalize hx : wr.heap.size = x at *
      go_upto_region 15 with fail
      clear q0 q1 q2 q3
      generalize hW : wr.alloc (Obj.cells #[.int .i64 K, .int .i64 A, .int .i64 C, .int .i64 c] 60) = W at *
      have p0 : W.cell? ⟨x, 0, none⟩ = some (.int .i64 K) := BW.out.cell 0
      have p1 : W.cell? ⟨x, 1, none⟩ = some (.int .i64 A) := BW.out.cell 1
      have p2 : W.cell? ⟨x, 2, none⟩ = some (.int .i64 C) := BW.out.cell 2
      have p3 : W.cell? ⟨x, 3, none⟩ = some (.int .i64 c) := BW.out.cell 3
      clear hW
      obtain ⟨inb, hin⟩ : ∃ b, b = (hasB A n && hasB C n) := ⟨_, rfl⟩
      have HIN := kept hin
      clear hin
      go_cut [12] (fun s wx => s = .bool inb ∧ W = wx)
      case first =>
        rcases Bool.eq_false_or_eq_true (decide (0 ≤ A)) with hA0 | hA0
        · rcases Bool.eq_false_or_eq_true (decide (A < n)) with hA1 | hA1
          · rcases Bool.eq_false_or_eq_true (decide (0 ≤ C)) with hC0 | hC0
            · rcases Bool.eq_false_or_eq_true (decide (C < n)) with hC1 | hC1
              · have hb : inb = true := by rw [HIN.out]; simp at hA0 hA1 hC0 hC1; simp [hasB]; omega
                go_wp2
                go_meet
                exact ⟨by rw [hb], rfl⟩
              · have hb : inb = false := by rw [HIN.out]; simp at hA0 hA1 hC0 hC1; simp [hasB]; omega
                go_wp2
                go_meet
                exact ⟨by rw [hb], rfl⟩
            · have hb : inb = false := by rw [HIN.out]; simp at hA0 hA1 hC0; simp [hasB]; omega
              go_wp2
              go_meet
              exact ⟨by rw [hb], rfl⟩
          · have hb : inb = false := by rw [HIN.out]; simp at hA0 hA1; simp [hasB]; omega
            go_wp2
            go_meet
            exact ⟨by rw [hb], rfl⟩
        · have hb : inb = false := by rw [HIN.out]; simp at hA0; simp [hasB]; omega
          go_wp2
          go_meet
          exact ⟨by rw [hb], rfl⟩
      case rest =>
        obtain ⟨rfl, hwx⟩ := hcut
        subst hwx
        by_cases hK0 : K = 0
        · as_aux_lemma =>
            subst hK0
            go_wp2_with fail
            refine (push_any TW.out.s (by omega) (by omega) TW.out.keeps.size).mono ?_
            rintro e w4 ⟨rfl, hP⟩
            obtain ⟨mv', T⟩ := TW.out.push hP
            have T4 := kept T
            clear hP T
            obtain ⟨i3, hi3, hy0, hy1, hy2⟩ := info_parts info3
            have HM := kept T4.out.m
            go_wp2_with (at_builtin; refine wpList_append_own_at _ rfl (.tmp 172) (.tmp 175) 58 rfl w.heap.size 3 i3 _ 1 8 Try.underlying58 hi3 hy0 hy1 hy2 rfl (by decide) _ _ _ rfl (HM.out.alloc _) ⟨w4.heap.size, 0, none⟩ 1 1 [.int .i64 L.length] rfl rfl ?c1 ?c2 ?c3 ?c4 ?c5 ?_)
            case c1 =>
              intro j u hj
              match j, hj with
              | 0, hj => simp at hj; subst hj; simp [Addr.add]
            case c2 => intro u hu; simp at hu; subst hu; rfl
            case c3 => unfold maxLen; omega
            case c4 => omega
            case c5 => have := T4.out.keeps.size; simp; omega
            intro v' w5 hown hg hnz hat
            clear hnz
            have T5 := kept (T4.out.marks (M2' := M ++ [L.length]) (v9' := v') ((Keeps.refl w4 []).alloc (Obj.cells #[.int .i64 L.length] 3)) (by simpa using hown) hg (fun k hk => by
              rcases hat with h1 | h1
              · exact .inl (h1 ▸ hk)
              · rw [h1] at hk; simp at hk; exact .inr (by omega)))
            obtain ⟨a9', c9', rfl, _, _⟩ := own_form T5.out.m
            rw [List.length_append, List.length_singleton] at T5
            clear hown hg hat
            all_goals
              clear hi3 hy0 hy1 hy2
              have CD := depth_any T5.out.s
              rw [List.length_append, List.length_singleton] at CD
              have CD := kept CD
              go_wp2_with fail
              refine (len_any T5.out.s).mono ?_
              rintro e w6 ⟨rfl, rfl⟩
              go_wp2_with fail
              refine CD.out.mono ?_
              rintro e w6 ⟨rfl, rfl⟩
              go_wp2
              go_roundw
              case rel => exact ⟨i + 1, L, M ++ [L.length], by omega, by go_num, ⟨_, _, T5.out⟩, HF.out, sorted_snoc HS.out HLE.out, (fun m hm => by simp at hm; rcases hm with hm | rfl; (exact HLE.out m hm); exact Nat.le_refl _), by omega, by simp; omega⟩
              case measure => simp [intOf]; omega
        have hk0 : (K == 0) = false := by simp [hK0]
        by_cases hK1 : K = 1
        · as_aux_lemma =>
            subst hK1
            rcases snoc_cases M with hM | ⟨M0, m, hM⟩
            · subst hM
              go_wp2_with fail
              refine (pop_none TW.out.s).mono ?_
              rintro e w4 ⟨rfl, rfl⟩
              go_wp2_with fail
              refine (len_any TW.out.s).mono ?_
              rintro e w6 ⟨rfl, rfl⟩
              go_wp2_with fail
              refine (depth_any TW.out.s).mono ?_
              rintro e w6 ⟨rfl, rfl⟩
              go_wp2
              go_roundw
              case rel => exact ⟨i + 1, L, [], by omega, by go_num, ⟨_, _, TW.out⟩, HF.out, HS.out, HLE.out, by omega, by simp⟩
              case measure => simp [intOf]; omega
            · have hlen : M.length = M0.length + 1 := by rw [hM]; simp
              simp only [hlen]
              rw [hlen] at hMi hc9
              have hm : m ≤ L.length := HLE.out m (by rw [hM]; simp)
              have hS0 := kept (sorted_cut (M := M0) (k := m) (by rw [← hM]; exact HS.out))
              subst hM
              have CP := kept (pop_any TW.out.s hm (by omega) (by omega))
              go_wp2_with fail
              refine CP.out.mono ?_
              rintro e w4 ⟨rfl, hP⟩
              obtain ⟨lv', mv', T⟩ := TW.out.pop hP
              have T4 := kept T
              have HM9 := T.m
              rw [hlen] at HM9
              obtain ⟨g9, c9', hv9, hb9, hl9⟩ := HM9.form (by omega)
              simp at hv9
              obtain ⟨rfl, rfl⟩ := hv9
              have r0 := HM9.cellAt M0.length (by omega)
              simp at r0
              have HC9 := kept (own_cut HM9 (show M0.length ≤ M0.length + 1 by omega))
              have hlt9 := (own_lt HM9 (show Value.ownBlock (.slice (some ⟨g9, 0, none⟩) (M0.length + 1) c9) = some g9 from rfl)).1
              have hne9 : ¬ g9 = w4.heap.size := by omega
              obtain ⟨i36, h36, hy0, hy1, hy2⟩ := info_parts info36
              have hE : (w4.alloc (Obj.cells #[] 36)).ownsRow w.heap.size 36 3 (.slice (some ⟨w4.heap.size, 0, none⟩) 0 0) 0 [] := ⟨rfl, .inr ⟨w4.heap.size, 0, #[], rfl, T.keeps.size, Blk.new w4 36 #[], by omega, by simp [maxLen], rfl, rfl⟩⟩
              have HE := kept hE
              have HV := kept T.f
              have HLT := kept (take_len hm)
              have hsz := T.keeps.size
              clear hP T CP HM9 hlen hE hlt9
              rcases HV.out.2 with ⟨hv, hL0⟩ | ⟨g8, cap8, cur, hv, hg8, hh8, hr8⟩
              · simp at hv
                obtain ⟨rfl, rfl, rfl⟩ := hv
                obtain rfl : m = 0 := by simpa using hm
                simp only [List.length_nil]
                go_wp2_with (at_builtin; refine wpList_append_own_none rfl (.tmp 189) (.tmp 196) 31 rfl w.heap.size 36 i36 3 Try.underlying31 h36 _ 0 [] rfl HE.out rfl ?_)
                have P5 := kept (T4.out.calm ((Keeps.refl w4 []).alloc (Obj.cells #[] 36)))
                have P6 := kept (PlayS.mk (w := w) (L1 := []) (M1 := M0) (L2 := []) (M2 := M0) (v9 := .slice (some ⟨g9, 0, none⟩) M0.length c9) P5.out.keeps P5.out.s HE.out (by simpa using own_keep HC9.out ((Keeps.refl w4 []).alloc (Obj.cells #[] 36)) (by simp)) P5.out.ap)
                have CL := kept (len_any P6.out.s)
                have CD := kept (depth_any P6.out.s)
                refine CL.out.mono ?_
                rintro e w6 ⟨rfl, rfl⟩
                go_wp2_with fail
                refine CD.out.mono ?_
                rintro e w6 ⟨rfl, rfl⟩
                go_wp2
                go_roundw
                case rel => exact ⟨i + 1, [], M0, by omega, by go_num, ⟨_, _, P6.out⟩, (by intro f hf; cases hf), hS0.out.1, (fun q hq => by have := hS0.out.2 q hq; simpa using this), by simp, by omega⟩
                case measure => simp [intOf]; omega
              · simp at hv
                obtain ⟨rfl, rfl⟩ := hv
                have hne8 : ¬ g8 = w4.heap.size := by have := Blk.lt hh8; omega
                go_wp2_with (at_builtin; refine wpList_append_own_at _ rfl (.tmp 189) (.tmp 196) 31 rfl w.heap.size 36 i36 _ 3 24 Try.underlying31 h36 hy0 hy1 hy2 rfl (by decide) _ _ _ rfl HE.out ⟨g8, 0, none⟩ m c8 ((L.take m).flatMap fctCells) rfl (by rw [flat_len, HLT.out]) ?c1 ?c2 ?c3 ?c4 ?c5 ?_)
                case c1 =>
                  intro j u hj
                  have hjl : j < ((L.take m).flatMap fctCells).length := by
                    rcases Nat.lt_or_ge j ((L.take m).flatMap fctCells).length with h1 | h1
                    · exact h1
                    · rw [List.getElem?_eq_none h1] at hj; cases hj
                  have h2 := (own_cut HV.out hm).cellAt j (by rw [flat_len, HLT.out] at hjl; omega)
                  rw [take_flat] at h2
                  have h3 : (w4.alloc (Obj.cells #[] 36)).cell? ⟨g8, 0 + j, none⟩ = w4.cell? ⟨g8, 0 + j, none⟩ := World.cell?_of_block (a := ⟨g8, 0 + j, none⟩) (((Keeps.refl w4 []).alloc (Obj.cells #[] 36)).block g8 (Blk.lt hh8) (by simp))
                  rw [Nat.zero_add] at h3
                  have h4 : (⟨g8, 0, none⟩ : Addr).add j = ⟨g8, j, none⟩ := by
                    unfold Addr.add
                    split
                    · rename_i h; obtain ⟨rfl, _⟩ := h; rfl
                    · simp
                  first | (rw [h4]; exact h3.trans (h2.trans hj)) | (show World.cell? _ ((⟨g8, 0, none⟩ : Addr).add j) = _; rw [h4]; exact h3.trans (h2.trans hj))
                case c2 =>
                  intro u hu
                  obtain ⟨f, _, hf⟩ := List.mem_flatMap.1 hu
                  simp [fctCells] at hf
                  rcases hf with rfl | rfl | rfl <;> rfl
                case c3 => unfold maxLen; omega
                case c4 => omega
                case c5 => simp; omega
                intro v' w5 hown hg hnz hat
                clear hnz
                have hat' : ∀ k, v'.ownBlock = some k → w4.heap.size ≤ k := by
                  intro k hk
                  rcases hat with h1 | h1
                  · rw [h1] at hk; simp [Value.ownBlock] at hk; omega
                  · rw [h1] at hk; simp at hk; omega
                have T5 := kept (T4.out.facts (L2' := L.take m) (v8' := v') ((Keeps.refl w4 []).alloc (Obj.cells #[] 36)) (by rw [HLT.out]; exact hown) hg (fun k hk => .inr (by simp [Value.ownBlock] at hk; omega)))
                obtain ⟨a8', c8', rfl, _, _⟩ := own_form T5.out.f
                have T6 := kept T5.out.cut
                clear hown hg hat h36 hy0 hy1 hy2
                have CL := kept (len_any T6.out.s)
                have CD := kept (depth_any T6.out.s)
                have CL' := CL.out
                rw [HLT.out] at CL'
                have CLL := kept CL'
                clear CL' CL
                go_wp2_with fail
                refine CLL.out.mono ?_
                rintro e w6 ⟨rfl, rfl⟩
                go_wp2_with fail
                refine CD.out.mono ?_
                rintro e w6 ⟨rfl, rfl⟩
                go_wp2
                go_roundw
                case rel => exact ⟨i + 1, L.take m, M0, by omega, by go_num, ⟨_, _, by have h := T6.out; rw [HLT.out] at h; exact h⟩, fits_take HF.out m, hS0.out.1, (fun q hq => by rw [HLT.out]; exact hS0.out.2 q hq), by rw [HLT.out]; omega, by omega⟩
                case measure => simp [intOf]; omega
        have hk1 : (K == 1) = false := by simp [hK1]
        by_cases hK2 : K = 2 ∨ K = 3 ∨ K = 4
        · obtain ⟨mayb, hmay⟩ : ∃ b, b = (inb && decide (-1152921504606846976 ≤ c) && decide (c ≤ 1152921504606846976)) := ⟨_, rfl⟩
          have HMAY := kept hmay
          clear hmay
          rcases hK2 with rfl | rfl | rfl
          all_goals as_aux_lemma =>
            go_upto_region 36 with fail
            go_cut [14] (fun s wx => s = .bool mayb ∧ W = wx)
            case first =>
              rcases Bool.eq_false_or_eq_true inb with hb0 | hb0
              · subst hb0
                rcases Bool.eq_false_or_eq_true (decide (-1152921504606846976 ≤ c)) with hc0 | hc0
                · rcases Bool.eq_false_or_eq_true (decide (c ≤ 1152921504606846976)) with hc1 | hc1
                  · have hb : mayb = true := by rw [HMAY.out, hc0, hc1]; rfl
                    go_wp2
                    go_meet
                    exact ⟨by rw [hb], rfl⟩
                  · have hb : mayb = false := by rw [HMAY.out, hc0, hc1]; rfl
                    go_wp2
                    go_meet
                    exact ⟨by rw [hb], rfl⟩
                · have hb : mayb = false := by rw [HMAY.out, hc0]; rfl
                  go_wp2
                  go_meet
                  exact ⟨by rw [hb], rfl⟩
              · subst hb0
                have hb : mayb = false := by rw [HMAY.out]; rfl
                go_wp2
                go_meet
                exact ⟨by rw [hb], rfl⟩
            case rest =>
              obtain ⟨rfl, hwx⟩ := hcut
              subst hwx
              rcases Bool.eq_false_or_eq_true mayb with hb0 | hb0
              · subst hb0
                obtain ⟨hyA, hyC, hc1, hc2⟩ : hasB A n = true ∧ hasB C n = true ∧ -1152921504606846976 ≤ c ∧ c ≤ 1152921504606846976 := by
                  have h := HMAY.out
                  rw [HIN.out] at h
                  simpa [and_assoc] using h.symm
                obtain ⟨a, rfl⟩ := Int.eq_ofNat_of_zero_le (show 0 ≤ A by simp [hasB] at hyA; exact hyA.1)
                obtain ⟨b, rfl⟩ := Int.eq_ofNat_of_zero_le (show 0 ≤ C by simp [hasB] at hyC; exact hyC.1)
                have hal : a < n := by simp [hasB] at hyA; exact hyA
                have hbl : b < n := by simp [hasB] at hyC; exact hyC
                have CA := kept (add_yes TW.out.s a b c hyA hyC hc1 hc2 (by omega) TW.out.keeps.size)
                clear hyA hyC
                go_wp2_with fail
                refine CA.out.mono ?_
                rintro e w4 ⟨rfl, hP⟩
                have B4 := kept (act_after TW.out BW.out hP)
                obtain ⟨lv', T⟩ := TW.out.add hP
                have T4 := kept T
                clear hP T CA p0 p1 p2 p3
                have p1 : w4.cell? ⟨x, 1, none⟩ = some (.int .i64 a) := B4.out.cell 1
                have p2 : w4.cell? ⟨x, 2, none⟩ = some (.int .i64 b) := B4.out.cell 2
                have p3 : w4.cell? ⟨x, 3, none⟩ = some (.int .i64 c) := B4.out.cell 3
                obtain ⟨i36, h36, hy0, hy1, hy2⟩ := info_parts info36
                have HF4 := kept T4.out.f
                go_wp2_with (at_builtin; refine wpList_append_own_at _ rfl (.tmp 228) (.tmp 236) 31 rfl w.heap.size 36 i36 _ 3 24 Try.underlying31 h36 hy0 hy1 hy2 rfl (by decide) _ _ _ rfl (HF4.out.alloc _) ⟨w4.heap.size, 0, none⟩ 1 1 [.int .i64 a, .int .i64 b, .int .i64 c] rfl rfl ?c1 ?c2 ?c3 ?c4 ?c5 ?_)
                case c1 =>
                  intro j u hj
                  match j, hj with
                  | 0, hj => simp at hj; subst hj; simp [Addr.add]
                  | 1, hj => simp at hj; subst hj; simp [Addr.add]
                  | 2, hj => simp at hj; subst hj; simp [Addr.add]
                case c2 => intro u hu; simp at hu; rcases hu with rfl | rfl | rfl <;> rfl
                case c3 => unfold maxLen; omega
                case c4 => omega
                case c5 => have := T4.out.keeps.size; simp; omega
                intro v' w5 hown hg hnz hat
                clear hnz hat
                have T5 := kept (T4.out.facts (x := .slice a8 L.length c8) (L2' := L ++ [⟨a, b, c⟩]) (v8' := v') ((Keeps.refl w4 []).alloc (Obj.cells #[.int .i64 a, .int .i64 b, .int .i64 c] 36)) (by simpa [fctCells] using hown) hg (fun k hk => .inl hk))
                obtain ⟨a8', c8', rfl, _, _⟩ := own_form T5.out.f
                rw [List.length_append, List.length_singleton] at T5
                clear hown hg h36 hy0 hy1 hy2 p1 p2 p3
                have CL := len_any T5.out.s
                rw [List.length_append, List.length_singleton] at CL
                have CL := kept CL
                go_wp2_with fail
                refine CL.out.mono ?_
                rintro e w6 ⟨rfl, rfl⟩
                go_wp2_with fail
                refine (depth_any T5.out.s).mono ?_
                rintro e w6 ⟨rfl, rfl⟩
                go_wp2
                go_roundw
                case rel => exact ⟨i + 1, L ++ [⟨a, b, c⟩], M, by omega, by go_num, ⟨_, _, T5.out⟩, fits_snoc HF.out hal hbl hc1 hc2, HS.out, (fun q hq => by have := HLE.out q hq; simp; omega), by simp; omega, by omega⟩
                case measure => simp [intOf]; omega
              · subst hb0
                have CA := kept (add_no TW.out.s A C c (by unfold mayB; rw [← HIN.out, ← HMAY.out]; rfl))
                go_wp2_with fail
                refine CA.out.mono ?_
                rintro e w4 ⟨rfl, rfl⟩
                go_wp2_with fail
                refine (len_any TW.out.s).mono ?_
                rintro e w6 ⟨rfl, rfl⟩
                go_wp2_with fail
                refine (depth_any TW.out.s).mono ?_
                rintro e w6 ⟨rfl, rfl⟩
                go_wp2
                go_roundw
                case rel => exact ⟨i + 1, L, M, by omega, by go_num, ⟨_, _, TW.out⟩, HF.out, HS.out, HLE.out, by omega, by omega⟩
                case measure => simp [intOf]; omega
        have hk2 : (K == 2) = false := by simp; omega
        have hk3 : (K == 3) = false := by simp; omega
        have hk4 : (K == 4) = false := by simp; omega
        clear hK0 hK1 hK2
        rcases Bool.eq_false_or_eq_true inb with hb0 | hb0
        · as_aux_lemma =>
            subst hb0
            obtain ⟨hyA, hyC⟩ : hasB A n = true ∧ hasB C n = true := by
              have h := HIN.out
              simpa using h.symm
            obtain ⟨a, rfl⟩ := Int.eq_ofNat_of_zero_le (show 0 ≤ A by simp [hasB] at hyA; exact hyA.1)
            obtain ⟨b, rfl⟩ := Int.eq_ofNat_of_zero_le (show 0 ≤ C by simp [hasB] at hyC; exact hyC.1)
            have hal : a < n := by simp [hasB] at hyA; exact hyA
            have hbl : b < n := by simp [hasB] at hyC; exact hyC
            clear hyA hyC
            have CR := kept (refleast_any TW.out.f a b hal hbl (by omega) (by omega) TW.out.keeps.size HF.out)
            go_wp2_with fail
            refine CR.out.mono ?_
            rintro e w4 ⟨rfl, k4⟩
            have T4 := kept (TW.out.calm k4)
            have B4 := kept (BW.out.keep k4 (by simp))
            clear k4 CR p0 p1 p2 p3
            have p1 : w4.cell? ⟨x, 1, none⟩ = some (.int .i64 a) := B4.out.cell 1
            have p2 : w4.cell? ⟨x, 2, none⟩ = some (.int .i64 b) := B4.out.cell 2
            have CL := kept (least_any T4.out.s a b hal hbl (by omega) (by omega) T4.out.keeps.size HF.out)
            go_wp2_with fail
            refine CL.out.mono ?_
            rintro e w5 ⟨rfl, k5⟩
            have T5 := kept (T4.out.calm k5)
            have B5 := kept (B4.out.keep k5 (by simp))
            clear k5 CL p1 p2 T4 B4
            have p1 : w5.cell? ⟨x, 1, none⟩ = some (.int .i64 a) := B5.out.cell 1
            have p2 : w5.cell? ⟨x, 2, none⟩ = some (.int .i64 b) := B5.out.cell 2
            have p3 : w5.cell? ⟨x, 3, none⟩ = some (.int .i64 c) := B5.out.cell 3
            have CF := kept (follows_of (P := 0) (leastV L a b) c _ a b w5 (fun w' => Keeps w5 w' []) (least_any T5.out.s a b hal hbl (by omega) (by omega) T5.out.keeps.size HF.out))
            generalize leastV L a b = r at *
            rcases r with _ | s
            · go_wp2_with fail
              refine CF.out.mono ?_
              rintro e w6 ⟨rfl, k6⟩
              have T6 := kept (T5.out.calm k6)
              have B6 := kept (B5.out.keep k6 (by simp))
              clear k6 CF p1 p2 p3
              have hfb : followsB none c = false := rfl
              go_wp2_with fail
              refine (len_any T6.out.s).mono ?_
              rintro e w7 ⟨rfl, rfl⟩
              go_wp2_with fail
              refine (depth_any T6.out.s).mono ?_
              rintro e w7 ⟨rfl, rfl⟩
              go_wp2
              go_roundw
              case rel => exact ⟨i + 1, L, M, by omega, by go_num, ⟨_, _, T6.out⟩, HF.out, HS.out, HLE.out, by omega, by omega⟩
              case measure => simp [intOf]; omega
            · rcases Bool.eq_false_or_eq_true (decide (s ≤ c)) with hsc | hsc
              all_goals
                have hfb : followsB (some s) c = decide (s ≤ c) := rfl
                rw [hsc] at hfb
                go_wp2_with fail
                refine CF.out.mono ?_
                rintro e w6 ⟨rfl, k6⟩
                have T6 := kept (T5.out.calm k6)
                have B6 := kept (B5.out.keep k6 (by simp))
                clear k6 CF p1 p2 p3
                have p3 : w6.cell? ⟨x, 3, none⟩ = some (.int .i64 c) := B6.out.cell 3
                go_wp2_with fail
                refine (len_any T6.out.s).mono ?_
                rintro e w7 ⟨rfl, rfl⟩
                go_wp2_with fail
                refine (depth_any T6.out.s).mono ?_
                rintro e w7 ⟨rfl, rfl⟩
                go_wp2
                go_roundw
                case rel => exact ⟨i + 1, L, M, by omega, by go_num, ⟨_, _, T6.out⟩, HF.out, HS.out, HLE.out, by omega, by omega⟩
                case measure => simp [intOf]; omega
        · as_aux_lemma =>
            subst hb0
            have hno : hasB A n = false ∨ hasB C n = false := by
              have h := HIN.out
              rcases Bool.eq_false_or_eq_true (hasB A n) with h1 | h1
              · right; rw [h1] at h; simpa using h.symm
              · exact .inl h1
            have CL := kept (least_no TW.out.s.blk A C hno)
            have CF := kept (follows_of (P := 0) none c _ A C W (fun w' => W = w') (least_no TW.out.s.blk A C hno))
            clear hno
            go_wp2_with fail
            refine CL.out.mono ?_
            rintro e w5 ⟨rfl, rfl⟩
            go_wp2_with fail
            refine CF.out.mono ?_
            rintro e w6 ⟨rfl, rfl⟩
            have hfb : followsB none c = false := rfl
            go_wp2_with fail
            refine (len_any TW.out.s).mono ?_
            rintro e w7 ⟨rfl, rfl⟩
            go_wp2_with fail
            refine (depth_any TW.out.s).mono ?_
            rintro e w7 ⟨rfl, rfl⟩
            go_wp2
            go_roundw
            case rel => exact ⟨i + 1, L, M, by omega, by go_num, ⟨_, _, TW.out⟩, HF.out, HS.out, HLE.out, by omega, by omega⟩
            case measure => simp [intOf]; omega
    · go_wp2
      go_ret
      exact ⟨rfl, HP.out.keeps.below (Nat.le_refl _) (by simp)⟩
end Go.Proofs.Ytppidnjhdefbiaa
