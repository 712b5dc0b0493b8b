/- The document's guard: Is, Leads; contracts. -/
import Derived.Test.YtjllbchfojonhaaGreatDoorGA
import Derived.BigQuiet
namespace Go.Proofs.YtjllbchfojonhaaGreatDoor
open Go.RowKit
set_option linter.unusedVariables false
set_option linter.unusedSimpArgs false

def isB (x : InstM) (op : Int) (l : List Int) : Bool := (x.op == op) && decide (x.args.2 = l)
theorem list_eq_of {l m : List Int} (h0 : l.length = m.length) (h : ∀ t, t < m.length → l[t]! = m[t]!) : l = m := by
  apply List.ext_getElem h0
  intro i h1 h2
  have := h i h2
  rwa [getElem!_pos l i h1, getElem!_pos m i h2] at this
theorem isB_yes {x : InstM} {op : Int} {l : List Int} (h1 : x.op = op) (h2 : x.args.2.length = l.length) (h3 : ∀ t, t < l.length → x.args.2[t]! = l[t]!) : isB x op l = true := by
  unfold isB; rw [h1, beq_self_eq_true, Bool.true_and, decide_eq_true_eq]; exact list_eq_of h2 h3
theorem isB_no1 {x : InstM} {op : Int} {l : List Int} (h : ¬ x.op = op) : isB x op l = false := by
  unfold isB; rw [show (x.op == op) = false by simpa using h, Bool.false_and]
theorem isB_no2 {x : InstM} {op : Int} {l : List Int} (h : ¬ x.args.2.length = l.length) : isB x op l = false := by
  unfold isB; rw [decide_eq_false (fun e => h (by rw [e])), Bool.and_false]
theorem isB_no3 {x : InstM} {op : Int} {l : List Int} {t : Nat} (h : ¬ x.args.2[t]! = l[t]!) : isB x op l = false := by
  unfold isB; rw [decide_eq_false (fun e => h (by rw [e])), Bool.and_false]

set_option maxRecDepth 100000 in
set_option maxHeartbeats 200000000 in
theorem is15_any (x : InstM) (op : Int) (q : IntsM) (w : World) (hx : InstAt w x) (hq : IntsAt w q) : Calls Tryz.prog 15 #[.agg #[.int .i64 x.op, .int .i64 x.dst, x.args.1, .int .i64 x.num], .int .i64 op, q.1] w fun e w' => e = .returned (.bool (isB x op q.2)) ∧ Keeps w w' [] := by
  obtain ⟨a, ca, e1, hl1, hm1, hc1⟩ := Row.open_ (M := Int) (cells := intCells) (show Row w 1 x.args.1 (x.args.2.map intCells) from hx)
  obtain ⟨b, cb, e2, hl2, hm2, hc2⟩ := Row.open_ (M := Int) (cells := intCells) (show Row w 1 q.1 (q.2.map intCells) from hq)
  rw [e1, e2]
  have hnb : q.2.length ≤ 9223372036854775807 := by unfold maxLen at hm2; omega
  have Y1 := kept (fun h1 h2 h3 => isB_yes (x := x) (op := op) (l := q.2) h1 h2 h3)
  have N1 := kept (fun h => isB_no1 (x := x) (op := op) (l := q.2) h)
  have N2 := kept (fun h => isB_no2 (x := x) (op := op) (l := q.2) h)
  have N3 := kept (fun t h => isB_no3 (x := x) (op := op) (l := q.2) (t := t) h)
  generalize isB x op q.2 = R at *
  have HC1 := kept hc1
  have HC2 := kept hc2
  clear hc1 hc2 hx hq e1 e2 hl1 hl2 hm1 hm2
  generalize hn1 : x.args.2.length = n1 at *
  generalize hn2 : q.2.length = n2 at *
  have HN1 := kept hn1
  have HN2 := kept hn2
  clear hn1 hn2
  generalize hxo : x.op = xo at *
  generalize x.dst = xd at *
  generalize x.num = xn at *
  clear hxo
  have hk0 : Keeps w (w.alloc (.cells #[.int .i64 xo, .int .i64 xd, .slice a n1 ca, .int .i64 xn] 43)) [] := (Keeps.refl _ []).alloc _
  have bb0 := Blk.new w 43 #[.int .i64 xo, .int .i64 xd, .slice a n1 ca, .int .i64 xn]
  have Bl := kept bb0
  have HK := kept hk0
  obtain ⟨l0, l1, l2, l3⟩ := Bl.out.c4
  simp at l0 l1 l2 l3
  clear hk0 bb0
  by_cases ho : xo = op
  · subst ho
    by_cases hl : n1 = n2
    · subst hl
      go_enter Tryz.func15, Tryz.ntmps15
      go_wp2
      clear l0 l1 l2 l3
      generalize (w.alloc (.cells #[.int .i64 xo, .int .i64 xd, .slice a n1 ca, .int .i64 xn] 43)) = W0 at *
      have Bl_W0 := Bl
      have TW0 := HK
      clear HK
      have HK := kept (Keeps.refl W0 [])
      obtain ⟨l0, l1, l2, l3⟩ := Bl.out.c4
      simp at l0 l1 l2 l3
      go_loopw [22] (fun i' wx => ∃ j : Nat, j ≤ n1 ∧ i' = .int .i64 j ∧ Keeps W0 wx [] ∧ Hid (∀ t, t < j → x.args.2[t]! = q.2[t]!)) (fun i' _ => n1 - (intOf i').toNat)
      case atStart => exact ⟨0, Nat.zero_le _, rfl, Keeps.refl _ _, fun t ht => absurd ht (Nat.not_lt_zero _)⟩
      case round =>
        obtain ⟨j, hj, rfl, hr, hno⟩ := hrel
        have HNO := kept hno.out
        clear hno
        clear l0 l1 l2 l3
        clear Bl HK
        have HK := kept hr
        have Bl := kept (Bl_W0.out.keep hr (by simp))
        clear hr
        obtain ⟨l0, l1, l2, l3⟩ := Bl.out.c4
        simp at l0 l1 l2 l3
        by_cases hlt : j < n1
        · have hltz : (j : Int) < (n1 : Int) := by omega
          obtain ⟨b1, o1, rfl, hb1, hcell1⟩ := HC1.out j (by first | exact hlt | (rw [HN1.out]; exact hlt))
          obtain ⟨b2, o2, rfl, hb2, hcell2⟩ := HC2.out j (by first | exact hlt | (rw [HN2.out]; exact hlt))
          have y1 := (TW0.out.and_then HK.out).cellOf (hcell1 0 _ rfl)
          have y2 := (TW0.out.and_then HK.out).cellOf (hcell2 0 _ rfl)
          simp only [Nat.mul_one, Nat.add_zero] at y1 y2
          clear hcell1 hcell2 HC1 HC2
          have HZ := kept (show x.args.2[j]! = x.args.2[j]! from rfl)
          generalize hz1 : x.args.2[j]! = z1 at y1
          generalize hz2 : q.2[j]! = z2 at y2
          have HZ1 := kept hz1
          have HZ2 := kept hz2
          clear hz1 hz2 HZ
          by_cases hz : z1 = z2
          · subst hz
            go_wp2
            go_quiet (fail)
            generalize hQ : wr.drewN _ = Q at *
            have KQ : Keeps wr Q [] := by rw [← hQ]; exact (Keeps.refl wr []).drewN _
            have HKQ := kept (HK.out.and_then KQ)
            clear hQ KQ
            go_wp2
            go_roundw
            case rel => exact ⟨j + 1, by omega, by go_num, HKQ.out, fun t ht => by rcases Nat.lt_succ_iff_lt_or_eq.1 ht with h | h; exact HNO.out t h; rw [h, HZ1.out, HZ2.out]⟩
            case measure => simp [intOf]; omega
          · have hzb : (z1 == z2) = false := by simpa using hz
            go_wp2
            go_quiet (fail)
            generalize hQ : wr.drewN _ = Q at *
            have KQ : Keeps wr Q [] := by rw [← hQ]; exact (Keeps.refl wr []).drewN _
            have HKQ := kept (HK.out.and_then KQ)
            clear hQ KQ
            go_wp2
            go_ret
            exact ⟨ret_bool (N3.out j (by rw [HZ1.out, HZ2.out]; exact hz)).symm, TW0.out.and_then HKQ.out⟩
        · have hltz : ¬ (j : Int) < (n1 : Int) := by omega
          go_wp2
          go_ret
          exact ⟨ret_bool (Y1.out (by first | rfl | trivial) (by first | rfl | trivial) (fun t ht => HNO.out t (by have h9 := HN2.out; omega))).symm, (TW0.out.and_then HK.out)⟩
    · have hlb : ((n1 : Int) == (n2 : Int)) = false := by simp; omega
      have hlz : ¬ (n1 : Int) = (n2 : Int) := by omega
      go_enter Tryz.func15, Tryz.ntmps15
      go_wp2
      go_ret
      exact ⟨ret_bool (N2.out hl).symm, HK.out⟩
  · have hob : (xo == op) = false := by simpa using ho
    go_enter Tryz.func15, Tryz.ntmps15
    go_wp2
    go_ret
    exact ⟨ret_bool (N1.out ho).symm, HK.out⟩
def leadsM (y : BlockM) (b : Int) : Bool := (y.kind == 0 && y.to0 == b) || (y.kind == 1 && (y.to0 == b || y.to1 == b))

set_option maxRecDepth 100000 in
set_option maxHeartbeats 200000000 in
theorem leads_any (f : FuncM) (a : Nat) (b : Int) (w : World) (hf : FuncAt w f) (ha : a < f.nb) : Calls Tryz.prog 39 #[f.val, .int .i64 (a : Nat), .int .i64 b] w fun e w' => e = .returned (.bool (leadsM f.blocks.2[a]! b)) ∧ Keeps w w' [] := by
  obtain ⟨a0, c0, e0, -, -, hc0⟩ := hf.vars.open_
  obtain ⟨a1, c1, e1, -, -, hc1⟩ := (show Row w 1 f.params.1 (f.params.2.map intCells) from hf.params).open_
  obtain ⟨a2, c2, e2, -, -, hc2⟩ := hf.blocks.open_
  have hval : f.val = .agg #[.slice a0 f.nv c0, .slice a1 f.np c1, .slice a2 f.nb c2] := by unfold FuncM.val FuncM.nv FuncM.np FuncM.nb; rw [e0, e1, e2]
  have h1 : #[f.vars.1, f.params.1, f.blocks.1] = #[.slice a0 f.nv c0, .slice a1 f.np c1, .slice a2 f.nb c2] := by unfold FuncM.nv FuncM.np FuncM.nb; rw [e0, e1, e2]
  have HF := kept hf
  have HC0 := kept hc0
  have HC1 := kept hc1
  have HC2 := kept hc2
  have HNV := kept (show f.vars.2.length = f.nv from rfl)
  have HNP := kept (show f.params.2.length = f.np from rfl)
  have HNB := kept (show f.blocks.2.length = f.nb from rfl)
  rw [hval]
  clear hval h1 e0 e1 e2 hc0 hc1 hc2 hf
  obtain ⟨bb, off, e8, hbb, hbc⟩ := HC2.out a (by rw [HNB.out]; exact ha)
  subst e8
  generalize f.blocks.2[a]! = y at *
  have HL := kept (show leadsM y b = ((y.kind == 0 && y.to0 == b) || (y.kind == 1 && (y.to0 == b || y.to1 == b))) from rfl)
  generalize leadsM y b = R at *
  have H3 := kept (hbc 3 _ rfl)
  have H4 := kept (hbc 4 _ rfl)
  have H5 := kept (hbc 5 _ rfl)
  have H6 := kept (hbc 6 _ rfl)
  generalize y.kind = yk at *
  generalize y.var = yv at *
  generalize y.to0 = y0 at *
  generalize y.to1 = y1 at *
  clear hbc HC2
  have haz : (a : Int) < (f.nb : Int) := by omega
  have hk0 : Keeps w (w.alloc (.cells #[.slice a0 f.nv c0, .slice a1 f.np c1, .slice (some ⟨bb, off, none⟩) f.nb c2] 26)) [] := (Keeps.refl _ []).alloc _
  have bb0 := Blk.new w 26 #[.slice a0 f.nv c0, .slice a1 f.np c1, .slice (some ⟨bb, off, none⟩) f.nb c2]
  have Bl := kept bb0
  have HK := kept hk0
  obtain ⟨l0, l1, l2⟩ := Bl.out.c3
  simp at l0 l1 l2
  have n3 := HK.out.cellOf H3.out
  have n4 := HK.out.cellOf H4.out
  have n5 := HK.out.cellOf H5.out
  have n6 := HK.out.cellOf H6.out
  clear hk0 bb0
  by_cases hk0 : yk = 0
  · subst hk0
    by_cases ht0 : y0 = b
    · subst ht0
      go_enter Tryz.func39, Tryz.ntmps39
      go_wp2
      go_ret
      exact ⟨ret_bool (by rw [HL.out]; simp [*]), HK.out.alloc _⟩
    · have ht0b : (y0 == b) = false := by simpa using ht0
      go_enter Tryz.func39, Tryz.ntmps39
      go_wp2
      go_ret
      exact ⟨ret_bool (by rw [HL.out]; simp [*]), HK.out.alloc _⟩
  · have hk0b : (yk == 0) = false := by simpa using hk0
    by_cases hk1 : yk = 1
    · subst hk1
      by_cases ht0 : y0 = b
      · subst ht0
        go_enter Tryz.func39, Tryz.ntmps39
        go_wp2
        go_ret
        exact ⟨ret_bool (by rw [HL.out]; simp [*]), HK.out.alloc _⟩
      · have ht0b : (y0 == b) = false := by simpa using ht0
        by_cases ht1 : y1 = b
        · subst ht1
          go_enter Tryz.func39, Tryz.ntmps39
          go_wp2
          go_ret
          exact ⟨ret_bool (by rw [HL.out]; simp [*]), HK.out.alloc _⟩
        · have ht1b : (y1 == b) = false := by simpa using ht1
          go_enter Tryz.func39, Tryz.ntmps39
          go_wp2
          go_ret
          exact ⟨ret_bool (by rw [HL.out]; simp [*]), HK.out.alloc _⟩
    · have hk1b : (yk == 1) = false := by simpa using hk1
      go_enter Tryz.func39, Tryz.ntmps39
      go_wp2
      go_ret
      exact ⟨ret_bool (by rw [HL.out]; simp [*]), HK.out.alloc _⟩
end Go.Proofs.YtjllbchfojonhaaGreatDoor
