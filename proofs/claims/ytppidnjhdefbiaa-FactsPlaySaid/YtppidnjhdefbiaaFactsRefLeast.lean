/- The document's answer for layer 25 (facts): the contract of Least. -/
import Derived.Test.YtppidnjhdefbiaaFactsRef
namespace Go.Proofs.Ytppidnjhdefbiaa
open Go.RowKit
set_option linter.unusedVariables false

theorem row_new {w W : World} {B n : Nat} {e : TypeId} {zs : Array Value} {xs : List Value} (hB : B ≤ w.heap.size) (hn : n ≤ 1024) (hz : zs.toList = xs) (hl : xs.length = n) (hW : W.heap[w.heap.size]? = some (.cells zs e (0, 0))) :
    W.ownsRow B e 1 (.slice (some ⟨w.heap.size, 0, none⟩) n n) n xs := by
  have hs : zs.size = n := by rw [← hl, ← hz]; simp
  refine ⟨by omega, .inr ⟨w.heap.size, n, zs, rfl, hB, hW, Nat.le_refl _, by unfold maxLen; omega, by omega, ?_⟩⟩
  rw [hz, List.take_of_length_le (by omega)]

theorem pair_new1 {w : World} {B n : Nat} {zS zB : Array Value} {X : Nat → Option Int} (hB : B ≤ w.heap.size) (hn : n ≤ 1024) (h1 : zS.toList = sumCells X n) (h2 : zB.toList = okCells X n) :
    Pair ((w.alloc (.cells zS 2)).alloc (.cells zB 4)) B n w.heap.size n (w.heap.size + 1) n X := by
  constructor
  · exact (row_new (W := w.alloc (.cells zS 2)) hB hn h1 (sum_len _ _) (Blk.new w 2 zS)).alloc _
  · have := row_new (w := w.alloc (.cells zS 2)) (B := B) (by simp; omega) hn h2 (ok_len _ _) (Blk.new (w.alloc (.cells zS 2)) 4 zB)
    simpa using this
theorem pair_new2 {w : World} {B n : Nat} {zS zB : Array Value} {X : Nat → Option Int} (hB : B ≤ w.heap.size) (hn : n ≤ 1024) (h1 : zS.toList = sumCells X n) (h2 : zB.toList = okCells X n) :
    Pair ((w.alloc (.cells zB 4)).alloc (.cells zS 2)) B n (w.heap.size + 1) n w.heap.size n X := by
  constructor
  · have := row_new (w := w.alloc (.cells zB 4)) (B := B) (by simp; omega) hn h1 (sum_len _ _) (Blk.new (w.alloc (.cells zB 4)) 2 zS)
    simpa using this
  · exact (row_new (W := w.alloc (.cells zB 4)) hB hn h2 (ok_len _ _) (Blk.new w 4 zB)).alloc _

/-- the first row of truths -/
theorem pair_first {w : World} {B n gs cs go co : Nat} (h : Pair w B n gs cs go co (fun _ => none)) (u : Nat) (hu : u < n) : Pair (w.setCell ⟨go, u, none⟩ (.bool true)) B n gs cs go co (fun v => if v = u then some 0 else none) := by
  have hne := pair_ne h
  constructor
  · have k : Keeps w (w.setCell ⟨go, u, none⟩ (.bool true)) [go] := (Keeps.refl w _).setCell (.inl (by simp)) _
    have := own_keep h.1 k (fun k hk hm => by simp [Value.ownBlock] at hk hm; omega)
    rw [sum_congr (Y := fun v => if v = u then some 0 else none) (fun v _ => by by_cases e : v = u <;> simp [e])] at this
    exact this
  · have := (h.2.stored u (.bool true)).1
    rw [ok_set _ n u 0 hu] at this
    exact this

/-- what the outer loop keeps -/
def RefOut (w wr : World) (B n b gs cs go co : Nat) (L : List Chain.Fct) (k : Nat) : Prop := Pair wr B n gs cs go co (Chain.E L b k) ∧ Keeps w wr []

/-- what the document's Least leaves -/
def RefLeasts (w : World) (r : Option Int) (e : Ending) (w' : World) : Prop := e = .returned (.tuple #[.int .i64 (r.getD 0), .bool r.isSome]) ∧ Keeps w w' []

theorem relax_snoc2 (X init : Nat → Option Int) (L : List Chain.Fct) (k : Nat) (h : k < L.length) : Chain.relax X (L.take (k + 1)) init = Chain.upd X (Chain.relax X (L.take k) init) L[k] := by
  unfold Chain.relax
  rw [List.take_succ_eq_append_getElem h, List.foldl_append]
  rfl

/-- what the inner loop keeps -/
structure RefIn (w wr : World) (B n gs cs go co g2 o2 : Nat) (X : Nat → Option Int) (L : List Chain.Fct) (i : Nat) : Prop where
  now : Pair wr B n gs cs go co X
  nxt : Pair wr B n g2 n o2 n (Chain.relax X (L.take i) (fun _ => none))
  ns : gs ≠ g2
  no : go ≠ o2
  keeps : Keeps w wr []
  gsz : w.heap.size ≤ g2
  osz : w.heap.size ≤ o2

theorem RefIn.calm {w wr w' : World} {B n gs cs go co g2 o2 i : Nat} {X : Nat → Option Int} {L : List Chain.Fct} (h : RefIn w wr B n gs cs go co g2 o2 X L i) (k : Keeps wr w' []) : RefIn w w' B n gs cs go co g2 o2 X L i :=
  ⟨pair_keep h.now k, pair_keep h.nxt k, h.ns, h.no, keep_own h.keeps k (by simp), h.gsz, h.osz⟩
theorem RefIn.same {w wr : World} {B n gs cs go co g2 o2 i : Nat} {X : Nat → Option Int} {L : List Chain.Fct} (h : RefIn w wr B n gs cs go co g2 o2 X L i) (hi : i < L.length)
    (hc : X (L[i]).b = none ∨ ∃ s t, X (L[i]).b = some s ∧ Chain.relax X (L.take i) (fun _ => none) (L[i]).a = some t ∧ ¬ s + (L[i]).c < t) : RefIn w wr B n gs cs go co g2 o2 X L (i + 1) := by
  refine ⟨h.now, ?_, h.ns, h.no, h.keeps, h.gsz, h.osz⟩
  rw [relax_snoc2 X _ L i hi, upd_same _ _ _ hc]
  exact h.nxt
theorem RefIn.turn {w wr : World} {B n gs cs go co g2 o2 i : Nat} {X : Nat → Option Int} {L : List Chain.Fct} (h : RefIn w wr B n gs cs go co g2 o2 X L i) (hi : i < L.length) (s : Int) (ha : (L[i]).a < n)
    (hs : X (L[i]).b = some s) (hc : Chain.relax X (L.take i) (fun _ => none) (L[i]).a = none ∨ ∃ t, Chain.relax X (L.take i) (fun _ => none) (L[i]).a = some t ∧ s + (L[i]).c < t) :
    RefIn w ((wr.setCell ⟨g2, (L[i]).a, none⟩ (.int .i64 (s + (L[i]).c))).setCell ⟨o2, (L[i]).a, none⟩ (.bool true)) B n gs cs go co g2 o2 X L (i + 1) := by
  have k : Keeps wr ((wr.setCell ⟨g2, (L[i]).a, none⟩ (.int .i64 (s + (L[i]).c))).setCell ⟨o2, (L[i]).a, none⟩ (.bool true)) [g2, o2] := ((Keeps.refl wr _).setCell (.inl (by simp)) _).setCell (.inl (by simp)) _
  have e1 : gs ≠ o2 := by
    rintro rfl
    exact own_apart h.now.1 h.nxt.2 (by decide) (k := gs) rfl rfl
  have e2 : go ≠ g2 := by
    rintro rfl
    exact own_apart h.now.2 h.nxt.1 (by decide) (k := go) rfl rfl
  refine ⟨⟨own_keep h.now.1 k (fun q hq hm => ?_), own_keep h.now.2 k (fun q hq hm => ?_)⟩, ?_, h.ns, h.no, keep_own h.keeps k (fun q hq => ?_), h.gsz, h.osz⟩
  · simp [Value.ownBlock] at hq hm
    subst hq
    rcases hm with hm | hm
    · exact h.ns hm
    · exact e1 hm
  · simp [Value.ownBlock] at hq hm
    subst hq
    rcases hm with hm | hm
    · exact e2 hm
    · exact h.no hm
  · rw [relax_snoc2 X _ L i hi, upd_turn _ _ _ s hs hc]
    exact pair_set h.nxt _ _ ha
  · simp at hq
    rcases hq with rfl | rfl
    · exact h.gsz
    · exact h.osz

set_option maxRecDepth 100000 in
set_option maxHeartbeats 8000000 in
theorem refleast_any {w : World} {B n : Nat} {al : Option Addr} {cl : Nat} {L : List Chain.Fct} (hl : w.ownsRow B 36 3 (.slice al L.length cl) L.length (L.flatMap fctCells)) (a b : Nat) (ha : a < n) (hb : b < n) (hn : n ≤ 1024) (hL : L.length ≤ 8192) (hBw : B ≤ w.heap.size) (hf : Fits L n) :
    Calls Try.prog 44 #[.slice al L.length cl, .int .i64 n, .int .i64 a, .int .i64 b] w (RefLeasts w (leastV L a b)) := by
  obtain ⟨i2, hi2, hy0, hy1, hy2⟩ := info_parts info2
  obtain ⟨i4, hi4, hz0, hz1, hz2⟩ := info_parts info4
  obtain ⟨zS, hzS⟩ : ∃ z, z = madeCells #[.int .i64 0] n := ⟨_, rfl⟩
  obtain ⟨zB, hzB⟩ : ∃ z, z = madeCells #[.bool false] n := ⟨_, rfl⟩
  have hmS : ∀ W, (Instr.makeSlice 32 (.int .i64 n) (.int .i64 n)).run Try.prog W = .ok (.slice (some ⟨W.heap.size, 0, none⟩) n n) (W.alloc (.cells zS 2)) := by
    intro W
    have := run_make (P := Try.prog) (w := W) 32 2 i2 _ Try.underlying32 hi2 hy0 .i64 .i64 n n (by omega) (Int.le_refl _) (by rw [hy2]; omega) (by omega)
    rw [hy1] at this
    simpa [hzS, Value.cells] using this
  have hmB : ∀ W, (Instr.makeSlice 118 (.int .i64 n) (.int .i64 n)).run Try.prog W = .ok (.slice (some ⟨W.heap.size, 0, none⟩) n n) (W.alloc (.cells zB 4)) := by
    intro W
    have := run_make (P := Try.prog) (w := W) 118 4 i4 _ Try.underlying118 hi4 hz0 .i64 .i64 n n (by omega) (Int.le_refl _) (by rw [hz2]; omega) (by omega)
    rw [hz1] at this
    simpa [hzB, Value.cells] using this
  have hS : Hid (zS.toList = sumCells (fun _ => none) n) := by rw [hzS]; exact made_sums n
  have hB : Hid (zB.toList = okCells (fun _ => none) n) := by rw [hzB]; exact made_oks n
  have HL := kept hl
  have HF := kept hf
  clear hl hf hzS hzB hi2 hi4 hy0 hy1 hy2 hz0 hz1 hz2
  have HP1 := kept (pair_new1 (w := w) hBw hn hS.out hB.out)
  have HP2 := kept (pair_new2 (w := w) hBw hn hS.out hB.out)
  have c1 := HP1.out.2.cellAt b (by omega)
  rw [ok_at _ hb] at c1
  have f1 := HP1.out.2.frozenAt b
  have c2 := HP2.out.2.cellAt b (by omega)
  rw [ok_at _ hb] at c2
  have f2 := HP2.out.2.frozenAt b
  have hS1 : zS.toList = sumCells (Chain.E L b 0) n := by
    rw [hS.out]
    exact sum_congr (fun v _ => by show _ = (if v = b then some (0 : Int) else none).getD 0; by_cases e : v = b <;> simp [e])
  have hB1 : (zB.setIfInBounds b (.bool true)).toList = okCells (Chain.E L b 0) n := by
    rw [Array.toList_setIfInBounds, hB.out]
    exact ok_set _ n b 0 hb
  have E1 : Hid (RefOut w ((w.alloc (.cells zS 2)).alloc (.cells (zB.setIfInBounds b (.bool true)) 4)).drew B n b w.heap.size n (w.heap.size + 1) n L 0) :=
    ⟨pair_keep (pair_new1 hBw hn hS1 hB1) ((Keeps.refl _ []).drew), ((((Keeps.refl w []).alloc _).alloc _).drew)⟩
  have E2 : Hid (RefOut w ((w.alloc (.cells (zB.setIfInBounds b (.bool true)) 4)).alloc (.cells zS 2)).drew B n b (w.heap.size + 1) n w.heap.size n L 0) :=
    ⟨pair_keep (pair_new2 hBw hn hS1 hB1) ((Keeps.refl _ []).drew), ((((Keeps.refl w []).alloc _).alloc _).drew)⟩
  clear hS1 hB1
  have hMs : Hid ((Chain.M L b 0 a).isSome = ((a : Int) == (b : Int))) := by
    show (if a = b then some (0 : Int) else none).isSome = _
    by_cases e : a = b
    · subst e; simp
    · rw [if_neg e]; simp; omega
  have hMg : Hid ((Chain.M L b 0 a).getD 0 = 0) := by
    show (if a = b then some (0 : Int) else none).getD 0 = _
    by_cases e : a = b
    · rw [if_pos e]; rfl
    · rw [if_neg e]; rfl
  go_enter Try.func44, Try.ntmps44
  go_wp2
  go_region
  all_goals
    go_wp2
    go_loopw [10, 11, 12, 13, 29] (fun bt fd sm th i wr => ∃ (k gs cs go co : Nat), k ≤ 6 ∧ i = .int .i64 k ∧ sm = .slice (some ⟨gs, 0, none⟩) n cs ∧ th = .slice (some ⟨go, 0, none⟩) n co ∧ bt = .int .i64 ((Chain.M L b k a).getD 0) ∧ fd = .bool (Chain.M L b k a).isSome ∧ RefOut w wr B n b gs cs go co L k) (fun _ _ _ _ i _ => 6 - (intOf i).toNat)
    case atStart =>
      first
        | exact ⟨0, _, _, _, _, by omega, rfl, rfl, rfl, by rw [hMg.out], by rw [hMs.out], E1.out⟩
        | exact ⟨0, _, _, _, _, by omega, rfl, rfl, rfl, by rw [hMg.out], by rw [hMs.out], E2.out⟩
    case round =>
      obtain ⟨k, gs, cs, go, co, hk, rfl, rfl, rfl, rfl, rfl, hO⟩ := hrel
      obtain ⟨wo, rfl⟩ : ∃ wo : World, wo = wr := ⟨_, rfl⟩
      have HO := kept hO
      clear hO E1 E2 HP1 HP2 c1 f1 c2 f2
      by_cases hlt : k < 6
      · have BW := kept (Nat.le_trans hBw HO.out.2.size)
        have HP1 := kept (pair_new1 (w := wo) BW.out hn hS.out hB.out)
        have HP2 := kept (pair_new2 (w := wo) BW.out hn hS.out hB.out)
        go_wp2
        go_region
        · have HI0 : Hid (RefIn w (((wo.alloc (.cells zS 2)).alloc (.cells zB 4)).drew) B n gs cs go co (wo.heap.size) (wo.heap.size + 1) (Chain.E L b k) L 0) := by
            have kk : Keeps wo (((wo.alloc (.cells zS 2)).alloc (.cells zB 4)).drew) [] := (((Keeps.refl wo []).alloc _).alloc _).drew
            have l1 := (own_lt HO.out.1.1 (k := gs) rfl).1
            have l2 := (own_lt HO.out.1.2 (k := go) rfl).1
            have l3 := HO.out.2.size
            exact ⟨pair_keep HO.out.1 kk, pair_keep HP1.out ((Keeps.refl _ []).drew), by omega, by omega, keep_own HO.out.2 kk (by simp), by omega, by omega⟩
          generalize ho2 : wo.heap.size + 1 = o2 at *
          generalize hg2 : wo.heap.size = g2 at *
          clear hg2 ho2
          go_wp2
          go_loopw [37] (fun x wr => ∃ (i : Nat), i ≤ L.length ∧ x = .int .i64 i ∧ RefIn w wr B n gs cs go co g2 o2 (Chain.E L b k) L i) (fun x _ => L.length - (intOf x).toNat)
          case atStart => exact ⟨0, by omega, rfl, HI0.out⟩
          case round =>
            obtain ⟨i, hi, rfl, hI⟩ := hrel
            have HI := kept hI
            clear hI HI0
            by_cases hlt2 : i < L.length
            · have hLr := own_keep HL.out HI.out.keeps (by simp)
              obtain ⟨bl, cl', hv, _, hll⟩ := hLr.form (by omega)
              cases hv
              have hfk : L[i]? = some L[i] := List.getElem?_eq_getElem hlt2
              obtain ⟨f, hfd⟩ : ∃ f, f = L[i] := ⟨_, rfl⟩
              rw [← hfd] at hfk
              obtain ⟨hfa, hfb, hc1, hc2⟩ := HF.out L[i] (List.getElem_mem hlt2)
              rw [← hfd] at hfa hfb hc1 hc2
              have q0 := hLr.cellAt (i * 3) (by omega)
              have q1 := hLr.cellAt (i * 3 + 1) (by omega)
              have q2 := hLr.cellAt (i * 3 + 2) (by omega)
              rw [show i * 3 = i * 3 + 0 by omega, fct_at L i 0 f hfk (by omega)] at q0
              rw [fct_at L i 1 f hfk (by omega)] at q1
              rw [fct_at L i 2 f hfk (by omega)] at q2
              simp [fctCells] at q0 q1 q2
              have n0 := HI.out.now.2.cellAt f.b (by omega)
              have n1 := HI.out.now.1.cellAt f.b (by omega)
              rw [ok_at _ hfb] at n0
              rw [sum_at _ hfb] at n1
              have m0 := HI.out.nxt.2.cellAt f.a (by omega)
              have m1 := HI.out.nxt.1.cellAt f.a (by omega)
              rw [ok_at _ hfa] at m0
              rw [sum_at _ hfa] at m1
              have z0 := HI.out.nxt.2.frozenAt f.a
              have z1 := HI.out.nxt.1.frozenAt f.a
              have l1 := (own_lt HI.out.now.1 (k := gs) rfl).1
              have l2 := (own_lt HI.out.now.2 (k := go) rfl).1
              have l3 := (own_lt HI.out.nxt.1 (k := g2) rfl).1
              have l4 := (own_lt HI.out.nxt.2 (k := o2) rfl).1
              have hgo2 : g2 ≠ o2 := pair_ne HI.out.nxt
              have HFD := kept hfd
              clear hLr hfk hfd
              rcases hXb : Chain.E L b k f.b with _ | s
              · have HE := kept (HI.out.same hlt2 (.inl (by rw [← HFD.out]; exact hXb)))
                rw [hXb] at n0 n1
                simp at n0 n1
                clear hXb
                go_wp2
                go_roundw
                case rel => exact ⟨i + 1, by omega, by go_num, HE.out.calm ((Keeps.refl wr []).alloc _)⟩
                case measure => simp [intOf]; omega
              · have hs := Chain.E_bound L b 1152921504606846976 (by omega) (fun f hf => (HF.out f hf).2.2) k f.b s hXb
                have hs1 : -6917529027641081856 ≤ s := by omega
                have hs2 : s ≤ 6917529027641081856 := by omega
                clear hs
                rw [hXb] at n0 n1
                simp at n0 n1
                rcases hRa : Chain.relax (Chain.E L b k) (L.take i) (fun _ => none) f.a with _ | t
                · have HE := kept (HI.out.turn hlt2 s (by rw [← HFD.out]; exact hfa) (by rw [← HFD.out]; exact hXb) (.inl (by rw [← HFD.out]; exact hRa)))
                  rw [hRa] at m0 m1
                  simp at m0 m1
                  rw [← HFD.out] at HE
                  clear hXb hRa
                  go_wp2
                  go_region
                  go_wp2
                  go_region
                  go_wp2
                  go_roundw
                  case rel => exact ⟨i + 1, by omega, by go_num, HE.out.calm ((((Keeps.refl _ []).alloc _).drew).drew)⟩
                  case measure => simp [intOf]; omega
                · rw [hRa] at m0 m1
                  simp at m0 m1
                  by_cases hst : s + f.c < t
                  · have HE := kept (HI.out.turn hlt2 s (by rw [← HFD.out]; exact hfa) (by rw [← HFD.out]; exact hXb) (.inr ⟨t, by rw [← HFD.out]; exact hRa, by rw [← HFD.out]; exact hst⟩))
                    rw [← HFD.out] at HE
                    clear hXb hRa
                    go_wp2
                    go_region
                    go_wp2
                    go_region
                    go_wp2
                    go_roundw
                    case rel => exact ⟨i + 1, by omega, by go_num, HE.out.calm ((((Keeps.refl _ []).alloc _).drew).drew)⟩
                    case measure => simp [intOf]; omega
                  · have HE := kept (HI.out.same hlt2 (.inr ⟨s, t, by rw [← HFD.out]; exact hXb, by rw [← HFD.out]; exact hRa, by rw [← HFD.out]; exact hst⟩))
                    clear hXb hRa
                    have hstb : decide (s + f.c < t) = false := by simpa using hst
                    go_wp2
                    go_region
                    go_wp2
                    go_roundw
                    case rel =>
                      have hkt : decide ((k : Int) < 6) = true := by simp; omega
                      try simp only [hkt]
                      first | exact ⟨i + 1, by omega, by go_num, HE.out.calm (((Keeps.refl _ []).alloc _).drew)⟩ | ((repeat apply Exists.intro); exact ⟨⟨i + 1, by omega, by go_num, HE.out.calm (((Keeps.refl _ []).alloc _).drew)⟩, rfl⟩)
                    case measure => simp [intOf]; omega
            · have hin : i = L.length := by omega
              subst hin
              have hnx := HI.out.nxt
              rw [List.take_length] at hnx
              have HN := kept (show Pair wr B n g2 n o2 n (Chain.E L b (k + 1)) from hnx)
              have HR : Hid (RefOut w wr B n b g2 n o2 n L (k + 1)) := ⟨HN.out, HI.out.keeps⟩
              have m0 := HN.out.2.cellAt a (by omega)
              have m1 := HN.out.1.cellAt a (by omega)
              rw [ok_at _ ha] at m0
              rw [sum_at _ ha] at m1
              clear hnx hlt2 hi
              have hM1 : Chain.M L b (k + 1) a = Chain.omin (Chain.M L b k a) (Chain.E L b (k + 1) a) := rfl
              rcases hE : Chain.E L b (k + 1) a with _ | y
              · rw [hE] at m0 m1 hM1
                rw [Chain.omin_none_right] at hM1
                simp at m0 m1
                have HM1 := kept hM1
                clear hM1 hE
                go_wp2
                go_roundw
                case rel => exact ⟨k + 1, g2, n, o2, n, by omega, by go_num, rfl, rfl, by rw [HM1.out], by rw [HM1.out], HR.out⟩
                case measure => simp [intOf]; omega
              · rw [hE] at m0 m1 hM1
                simp at m0 m1
                rcases hMk : Chain.M L b k a with _ | x
                · rw [hMk] at hM1
                  have HM1 := kept (show Chain.M L b (k + 1) a = some y from hM1)
                  clear hM1 hE
                  go_wp2
                  go_roundw
                  case rel => exact ⟨k + 1, g2, n, o2, n, by omega, by go_num, rfl, rfl, by first | (rw [HM1.out]; done) | (rw [HM1.out]; rfl), by first | (rw [HM1.out]; done) | (rw [HM1.out]; rfl), HR.out⟩
                  case measure => simp [intOf]; omega
                · rw [hMk] at hM1
                  by_cases hyx : y < x
                  · have HM1 := kept (show Chain.M L b (k + 1) a = some y by rw [hM1]; simp [Chain.omin, hyx])
                    clear hM1 hE
                    go_wp2
                    go_roundw
                    case rel => exact ⟨k + 1, g2, n, o2, n, by omega, by go_num, rfl, rfl, by first | (rw [HM1.out]; done) | (rw [HM1.out]; rfl), by first | (rw [HM1.out]; done) | (rw [HM1.out]; rfl), HR.out⟩
                    case measure => simp [intOf]; omega
                  · have HM1 := kept (show Chain.M L b (k + 1) a = some x by rw [hM1]; simp [Chain.omin, hyx])
                    clear hM1 hE
                    go_wp2
                    go_roundw
                    case rel => exact ⟨k + 1, g2, n, o2, n, by omega, by go_num, rfl, rfl, by first | (rw [HM1.out]; done) | (rw [HM1.out]; rfl), by first | (rw [HM1.out]; done) | (rw [HM1.out]; rfl), HR.out⟩
                    case measure => simp [intOf]; omega
        · have HI0 : Hid (RefIn w (((wo.alloc (.cells zB 4)).alloc (.cells zS 2)).drew) B n gs cs go co (wo.heap.size + 1) (wo.heap.size) (Chain.E L b k) L 0) := by
            have kk : Keeps wo (((wo.alloc (.cells zB 4)).alloc (.cells zS 2)).drew) [] := (((Keeps.refl wo []).alloc _).alloc _).drew
            have l1 := (own_lt HO.out.1.1 (k := gs) rfl).1
            have l2 := (own_lt HO.out.1.2 (k := go) rfl).1
            have l3 := HO.out.2.size
            exact ⟨pair_keep HO.out.1 kk, pair_keep HP2.out ((Keeps.refl _ []).drew), by omega, by omega, keep_own HO.out.2 kk (by simp), by omega, by omega⟩
          generalize hg2 : wo.heap.size + 1 = g2 at *
          generalize ho2 : wo.heap.size = o2 at *
          clear hg2 ho2
          go_wp2
          go_loopw [37] (fun x wr => ∃ (i : Nat), i ≤ L.length ∧ x = .int .i64 i ∧ RefIn w wr B n gs cs go co g2 o2 (Chain.E L b k) L i) (fun x _ => L.length - (intOf x).toNat)
          case atStart => exact ⟨0, by omega, rfl, HI0.out⟩
          case round =>
            obtain ⟨i, hi, rfl, hI⟩ := hrel
            have HI := kept hI
            clear hI HI0
            by_cases hlt2 : i < L.length
            · have hLr := own_keep HL.out HI.out.keeps (by simp)
              obtain ⟨bl, cl', hv, _, hll⟩ := hLr.form (by omega)
              cases hv
              have hfk : L[i]? = some L[i] := List.getElem?_eq_getElem hlt2
              obtain ⟨f, hfd⟩ : ∃ f, f = L[i] := ⟨_, rfl⟩
              rw [← hfd] at hfk
              obtain ⟨hfa, hfb, hc1, hc2⟩ := HF.out L[i] (List.getElem_mem hlt2)
              rw [← hfd] at hfa hfb hc1 hc2
              have q0 := hLr.cellAt (i * 3) (by omega)
              have q1 := hLr.cellAt (i * 3 + 1) (by omega)
              have q2 := hLr.cellAt (i * 3 + 2) (by omega)
              rw [show i * 3 = i * 3 + 0 by omega, fct_at L i 0 f hfk (by omega)] at q0
              rw [fct_at L i 1 f hfk (by omega)] at q1
              rw [fct_at L i 2 f hfk (by omega)] at q2
              simp [fctCells] at q0 q1 q2
              have n0 := HI.out.now.2.cellAt f.b (by omega)
              have n1 := HI.out.now.1.cellAt f.b (by omega)
              rw [ok_at _ hfb] at n0
              rw [sum_at _ hfb] at n1
              have m0 := HI.out.nxt.2.cellAt f.a (by omega)
              have m1 := HI.out.nxt.1.cellAt f.a (by omega)
              rw [ok_at _ hfa] at m0
              rw [sum_at _ hfa] at m1
              have z0 := HI.out.nxt.2.frozenAt f.a
              have z1 := HI.out.nxt.1.frozenAt f.a
              have l1 := (own_lt HI.out.now.1 (k := gs) rfl).1
              have l2 := (own_lt HI.out.now.2 (k := go) rfl).1
              have l3 := (own_lt HI.out.nxt.1 (k := g2) rfl).1
              have l4 := (own_lt HI.out.nxt.2 (k := o2) rfl).1
              have hgo2 : g2 ≠ o2 := pair_ne HI.out.nxt
              have HFD := kept hfd
              clear hLr hfk hfd
              rcases hXb : Chain.E L b k f.b with _ | s
              · have HE := kept (HI.out.same hlt2 (.inl (by rw [← HFD.out]; exact hXb)))
                rw [hXb] at n0 n1
                simp at n0 n1
                clear hXb
                go_wp2
                go_roundw
                case rel => exact ⟨i + 1, by omega, by go_num, HE.out.calm ((Keeps.refl wr []).alloc _)⟩
                case measure => simp [intOf]; omega
              · have hs := Chain.E_bound L b 1152921504606846976 (by omega) (fun f hf => (HF.out f hf).2.2) k f.b s hXb
                have hs1 : -6917529027641081856 ≤ s := by omega
                have hs2 : s ≤ 6917529027641081856 := by omega
                clear hs
                rw [hXb] at n0 n1
                simp at n0 n1
                rcases hRa : Chain.relax (Chain.E L b k) (L.take i) (fun _ => none) f.a with _ | t
                · have HE := kept (HI.out.turn hlt2 s (by rw [← HFD.out]; exact hfa) (by rw [← HFD.out]; exact hXb) (.inl (by rw [← HFD.out]; exact hRa)))
                  rw [hRa] at m0 m1
                  simp at m0 m1
                  rw [← HFD.out] at HE
                  clear hXb hRa
                  go_wp2
                  go_region
                  go_wp2
                  go_region
                  go_wp2
                  go_roundw
                  case rel => exact ⟨i + 1, by omega, by go_num, HE.out.calm ((((Keeps.refl _ []).alloc _).drew).drew)⟩
                  case measure => simp [intOf]; omega
                · rw [hRa] at m0 m1
                  simp at m0 m1
                  by_cases hst : s + f.c < t
                  · have HE := kept (HI.out.turn hlt2 s (by rw [← HFD.out]; exact hfa) (by rw [← HFD.out]; exact hXb) (.inr ⟨t, by rw [← HFD.out]; exact hRa, by rw [← HFD.out]; exact hst⟩))
                    rw [← HFD.out] at HE
                    clear hXb hRa
                    go_wp2
                    go_region
                    go_wp2
                    go_region
                    go_wp2
                    go_roundw
                    case rel => exact ⟨i + 1, by omega, by go_num, HE.out.calm ((((Keeps.refl _ []).alloc _).drew).drew)⟩
                    case measure => simp [intOf]; omega
                  · have HE := kept (HI.out.same hlt2 (.inr ⟨s, t, by rw [← HFD.out]; exact hXb, by rw [← HFD.out]; exact hRa, by rw [← HFD.out]; exact hst⟩))
                    clear hXb hRa
                    have hstb : decide (s + f.c < t) = false := by simpa using hst
                    go_wp2
                    go_region
                    go_wp2
                    go_roundw
                    case rel =>
                      have hkt : decide ((k : Int) < 6) = true := by simp; omega
                      try simp only [hkt]
                      first | exact ⟨i + 1, by omega, by go_num, HE.out.calm (((Keeps.refl _ []).alloc _).drew)⟩ | ((repeat apply Exists.intro); exact ⟨⟨i + 1, by omega, by go_num, HE.out.calm (((Keeps.refl _ []).alloc _).drew)⟩, rfl⟩)
                    case measure => simp [intOf]; omega
            · have hin : i = L.length := by omega
              subst hin
              have hnx := HI.out.nxt
              rw [List.take_length] at hnx
              have HN := kept (show Pair wr B n g2 n o2 n (Chain.E L b (k + 1)) from hnx)
              have HR : Hid (RefOut w wr B n b g2 n o2 n L (k + 1)) := ⟨HN.out, HI.out.keeps⟩
              have m0 := HN.out.2.cellAt a (by omega)
              have m1 := HN.out.1.cellAt a (by omega)
              rw [ok_at _ ha] at m0
              rw [sum_at _ ha] at m1
              clear hnx hlt2 hi
              have hM1 : Chain.M L b (k + 1) a = Chain.omin (Chain.M L b k a) (Chain.E L b (k + 1) a) := rfl
              rcases hE : Chain.E L b (k + 1) a with _ | y
              · rw [hE] at m0 m1 hM1
                rw [Chain.omin_none_right] at hM1
                simp at m0 m1
                have HM1 := kept hM1
                clear hM1 hE
                go_wp2
                go_roundw
                case rel => exact ⟨k + 1, g2, n, o2, n, by omega, by go_num, rfl, rfl, by rw [HM1.out], by rw [HM1.out], HR.out⟩
                case measure => simp [intOf]; omega
              · rw [hE] at m0 m1 hM1
                simp at m0 m1
                rcases hMk : Chain.M L b k a with _ | x
                · rw [hMk] at hM1
                  have HM1 := kept (show Chain.M L b (k + 1) a = some y from hM1)
                  clear hM1 hE
                  go_wp2
                  go_roundw
                  case rel => exact ⟨k + 1, g2, n, o2, n, by omega, by go_num, rfl, rfl, by first | (rw [HM1.out]; done) | (rw [HM1.out]; rfl), by first | (rw [HM1.out]; done) | (rw [HM1.out]; rfl), HR.out⟩
                  case measure => simp [intOf]; omega
                · rw [hMk] at hM1
                  by_cases hyx : y < x
                  · have HM1 := kept (show Chain.M L b (k + 1) a = some y by rw [hM1]; simp [Chain.omin, hyx])
                    clear hM1 hE
                    go_wp2
                    go_roundw
                    case rel => exact ⟨k + 1, g2, n, o2, n, by omega, by go_num, rfl, rfl, by first | (rw [HM1.out]; done) | (rw [HM1.out]; rfl), by first | (rw [HM1.out]; done) | (rw [HM1.out]; rfl), HR.out⟩
                    case measure => simp [intOf]; omega
                  · have HM1 := kept (show Chain.M L b (k + 1) a = some x by rw [hM1]; simp [Chain.omin, hyx])
                    clear hM1 hE
                    go_wp2
                    go_roundw
                    case rel => exact ⟨k + 1, g2, n, o2, n, by omega, by go_num, rfl, rfl, by first | (rw [HM1.out]; done) | (rw [HM1.out]; rfl), by first | (rw [HM1.out]; done) | (rw [HM1.out]; rfl), HR.out⟩
                    case measure => simp [intOf]; omega
      · have hk6 : k = 6 := by omega
        subst hk6
        have HV : Hid (leastV L a b = Chain.M L b 6 a) := congrFun (Chain.N_eq_M L b 6) a
        go_wp2
        go_ret2
        exact ⟨by rw [HV.out]; rfl, HO.out.2⟩
end Go.Proofs.Ytppidnjhdefbiaa
