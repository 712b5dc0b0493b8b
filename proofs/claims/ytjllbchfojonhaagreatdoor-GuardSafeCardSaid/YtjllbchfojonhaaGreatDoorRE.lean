/- A block is entered, phis and all; contract. -/
import Derived.Test.YtjllbchfojonhaaGreatDoorRK
import Derived.Test.YtjllbchfojonhaaGreatDoorGU
import Derived.Deep.RegionHeldLaw
import Derived.Deep.Cut
import Derived.Deep.CutRange
namespace Go.Proofs.YtjllbchfojonhaaGreatDoor
open Go.RowKit
set_option linter.unusedVariables false
set_option linter.unusedSimpArgs false
/-! entering a block with phis, plainly -/
/-- what the scan from the last pair down tq j has found -/
def scA (p : PhiM) (b j : Nat) : Int := (((List.range' j (p.froms.2.length - j)).find? fun i => p.froms.2[i]! == (b : Int)).map fun i => p.args.2[i]!).getD (-1)
theorem sc_end (p : PhiM) (b : Nat) : scA p b p.froms.2.length = -1 := by unfold scA; rw [Nat.sub_self]; rfl
theorem sc_step {p : PhiM} {b j : Nat} (hj : j < p.froms.2.length) : scA p b j = if p.froms.2[j]! = (b : Int) then p.args.2[j]! else scA p b (j + 1) := by
  unfold scA
  rw [show p.froms.2.length - j = (p.froms.2.length - (j + 1)) + 1 by omega, List.range'_succ, List.find?_cons]
  by_cases h : p.froms.2[j]! = (b : Int)
  · rw [if_pos h, h]; simp
  · rw [if_neg h, show (p.froms.2[j]! == (b : Int)) = false by simpa using h]
theorem sc_phi (p : PhiM) (b : Nat) : scA p b 0 = (phiArg p b).getD (-1) := by
  unfold scA phiArg; rw [Nat.sub_zero, ← List.range_eq_range']
/-- a phi of a joined program, entered from block b -/
structure PhiE (n b : Nat) (p : PhiM) : Prop where
  dst : 0 ≤ p.dst ∧ p.dst < (n : Int)
  len : p.args.2.length = p.froms.2.length
  arg : ∃ a : Nat, a < n ∧ phiArg p b = some (a : Int)
def phiZ (b : Nat) (p : PhiM) : Int := scA p b 0
theorem phiE_z {n b : Nat} {p : PhiM} (h : PhiE n b p) : ∃ a : Nat, a < n ∧ phiZ b p = (a : Int) ∧ phiArg p b = some (a : Int) := by
  obtain ⟨a, ha, e⟩ := h.arg
  exact ⟨a, ha, by unfold phiZ; rw [sc_phi, e]; rfl, e⟩
def phiS (old s : StM) (p : PhiM) (a : Int) : StM := ((s.setI p.dst (old.I a)).setB p.dst (old.B a)).setA p.dst (old.A a)
theorem phis_snoc {ps : List PhiM} {old s : StM} {n b k : Nat} (hk : k < ps.length) (h : PhiE n b ps[k]!) : phisRun (ps.take (k + 1)) old s b = phiS old (phisRun (ps.take k) old s b) ps[k]! (phiZ b ps[k]!) := by
  obtain ⟨a, _, e1, e2⟩ := phiE_z h
  unfold phisRun
  rw [List.take_succ_eq_append_getElem hk, List.foldl_append, List.foldl_cons, List.foldl_nil, ← getElem!_pos ps k hk, e2, e1]; rfl
theorem enter_all {blk : Nat → BlockM} {s : StM} {tq n : Nat} (h : ∀ p ∈ (blk tq).phis.2, PhiE n s.block p) : enterM blk s tq = { phisRun (blk tq).phis.2 s s s.block with block := tq, pc := 0 } := by
  unfold enterM
  rw [if_pos]
  rw [List.all_eq_true]
  intro p hp
  obtain ⟨a, _, e⟩ := (h p hp).arg
  rw [e]; rfl
theorem own_mono {w : World} {base base' n size : Nat} {e : TypeId} {v : Value} {xs : List Value} (h : w.ownsRow base e size v n xs) (hb : base' ≤ base) : w.ownsRow base' e size v n xs := by
 refine ⟨h.1, ?_⟩
 rcases h.2 with h2 | ⟨g, cap, cur, h1, h2, r⟩
 ·exact .inl h2
 ·exact .inr ⟨g, cap, cur, h1, Nat.le_trans hb h2, r⟩
theorem blk_here (W : World) (t : TypeId) (cs : Array Value) {g : Nat} (hg : W.heap.size = g) : Blk (W.alloc (.cells cs t)) g t cs := by
 subst hg; exact Blk.new W t cs
theorem run_copy (w : World) (base g : Nat) (hbase : base ≤ g) (t ty e : TypeId) (i : TypeInfo) (z : Value) (bytes : Nat) (h1 : Tryz.prog.underlying t = some (.slice e)) (h2 : Tryz.prog.info? e = some i) (h3 : i.zero = some z) (h4 : i.size = 1) (h5 : i.bytes = bytes) (h6 : z.cells.size = 1)
  (hB : Blk w g e #[]) (ad : Addr) (m c : Nat) (news : List Value) (hn : news.length = m) (hc : ∀ j u, news[j]? = some u → w.cell? (ad.add j) = some u) (h1c : ∀ u ∈ news, u.oneCell' = true)
  (b1 : m ≤ maxLen) (b2 : m * bytes ≤ 140737488355328) :
  ∃ v' w', (Builtin.append_ #[t, t] ty #[.slice (some ⟨g, 0, none⟩) 0 0, .slice (some ad) m c]).run Tryz.prog w = .ok v' w' ∧ w'.ownsRow base e 1 v' m news ∧ Keeps w w' [] := by
 by_cases hm : m = 0
 ·subst hm
  obtain rfl : news = [] := List.eq_nil_of_length_eq_zero hn
  refine ⟨.slice (some ⟨g, 0, none⟩) 0 0, w, ?_, ⟨rfl, .inr ⟨g, 0, #[], rfl, hbase, hB, Nat.le_refl _, by simp [maxLen], rfl, rfl⟩⟩, Keeps.refl _ _⟩
  simp [Builtin.append_, run_underlying h1, sizeOf, typeInfo, h2, Builtin.lenOf, Builtin.firstCells, loadCells, loadCellsFrom, storeCells]
 ·obtain ⟨v', w', hr, r1, r2⟩ := run_append_arg_grows (P := Tryz.prog) w t ty e i z 1 bytes h1 h2 h3 h4 h5 h6 (by decide) ⟨g, 0, none⟩ 0 0 [] rfl (by simp) ad m c news (by omega) hc (by omega) (by omega) (by simpa using b2)
  refine ⟨v', w', hr, ?_, (Keeps.refl w []).grown r2 (fun k hk => by cases hk)⟩
  have hg : g < w.heap.size := hB.lt
  rw [Nat.zero_add, List.nil_append] at r1
  exact own_mono r1 (by omega)
theorem step_copy {ops : Array Oper} {o : Oper} {a : Act} {w : World} {K : Act → World → Prop} {Q : Exit → Act → World → Prop} {E : Prop}
  (hg : o.guard = none) (s x : Operand) (t : TypeId) (hop : o.op = .call ⟨.builtin .append, #[s, x], #[t, t]⟩) (base g : Nat) (hbase : base ≤ g)
  (e : TypeId) (i : TypeInfo) (z : Value) (bytes : Nat) (h1 : Tryz.prog.underlying t = some (.slice e)) (h2 : Tryz.prog.info? e = some i) (h3 : i.zero = some z) (h4 : i.size = 1) (h5 : i.bytes = bytes) (h6 : z.cells.size = 1)
  (hs : a.eval s = .slice (some ⟨g, 0, none⟩) 0 0) (hB : Blk w g e #[]) (ad : Addr) (m c : Nat) (news : List Value) (hx : a.eval x = .slice (some ad) m c) (hn : news.length = m) (hc : ∀ j u, news[j]? = some u → w.cell? (ad.add j) = some u) (h1c : ∀ u ∈ news, u.oneCell' = true)
  (b1 : m ≤ maxLen) (b2 : m * bytes ≤ 140737488355328)
  (hK : ∀ v' w', w'.ownsRow base e 1 v' m news → Keeps w w' [] → K (a.put o.dst v') w') :
  if Region.wanted o (yielded ops a.tmps) = true then Oper.wp Tryz.prog o a w K Q else E := by
 have hw : Region.wanted o (yielded ops a.tmps) = true := by simp [Region.wanted, hg]
 rw [if_pos hw]
 obtain ⟨v', w', hrun, r1, r2⟩ := run_copy w base g hbase t o.type e i z bytes h1 h2 h3 h4 h5 h6 hB ad m c news hn hc h1c b1 b2
 unfold Oper.wp
 simp [execOp, hop, resolve, invoke, builtin, hs, hx, hrun, Result.andThen]
 exact hK v' w' r1 r2
theorem stateC_goes (R : RepM) (f : FuncM) (n : Nat) (s : StM) (tb : Nat) : ((stateC R f n s).setIfInBounds 7 (.int .i64 (tb : Nat))).setIfInBounds 8 (.int .i64 0) = stateC R f n { s with block := tb, pc := 0 } := by simp [stateC]
def phiV (b : Nat) (p : PhiM) : Value := .int .i64 (phiZ b p)
theorem mapI_at {l : List Int} {z n : Nat} (hl : l.length = n) (hz : z < n) : (l.map (Value.int .i64))[z]? = some (.int .i64 l[z]!) := by
 subst hl; rw [List.getElem?_map, List.getElem?_eq_getElem hz, getElem!_pos l z hz]; rfl
theorem mapB_at {l : List Bool} {z n : Nat} (hl : l.length = n) (hz : z < n) : (l.map Value.bool)[z]? = some (.bool l[z]!) := by
 subst hl; rw [List.getElem?_map, List.getElem?_eq_getElem hz, getElem!_pos l z hz]; rfl
theorem keep_cell {w w' : World} {S : List Nat} (h : Keeps w w' S) {p : Addr} {v : Value} (hp : p.block ∉ S) (hc : w.cell? p = some v) : w'.cell? p = some v := by
 have hlt : p.block < w.heap.size := World.block_lt_of_cell? w _ hc
 unfold World.cell? at hc ⊢
 rw [h.block _ hlt hp]; exact hc
theorem phiV_snoc {ps : List PhiM} {b k : Nat} (hk : k < ps.length) : (ps.take k).map (phiV b) ++ [.int .i64 (phiZ b ps[k]!)] = (ps.take (k + 1)).map (phiV b) := by
 rw [List.take_succ_eq_append_getElem hk, List.map_append, getElem!_pos ps k hk]; rfl
set_option maxRecDepth 100000 in
set_option maxHeartbeats 200000000 in
theorem enter_phis (wB W : World) (g : Nat) (R : RepM) (f : FuncM) (n : Nat) (s : StM) (h : WAt wB W g R f n s) (hf : FuncAt wB f) (tb : Nat) (ht : tb < f.blocks.2.length) (hn : n ≤ 1000) (hps : f.blocks.2[tb]!.phis.2.length ≤ 100000) (hok : ∀ p ∈ f.blocks.2[tb]!.phis.2, PhiE n s.block p) :
    Calls Tryz.prog 50 #[.pointer (some ⟨g, 0, none⟩), .int .i64 (tb : Nat)] W (RunRet wB g f n (enterM (fun b => f.blocks.2[b]!) s tb)) := by
  rw [enter_all (blk := fun b => f.blocks.2[b]!) (s := s) (tq := tb) hok]
  have HW := kept h
  have HLI := kept h.bi.2.2
  have HLB := kept h.bb.2.2
  have HLA := kept h.ba.2.2
  have hWg := h.blk.lt
  have hWi := h.bi.2.1.lt
  have hWb := h.bb.2.1.lt
  have hWa := h.ba.2.1.lt
  obtain ⟨a2, cc2, e2, -, -, hc2⟩ := hf.blocks.open_
  obtain ⟨b, off, rfl, hb, hcell⟩ := hc2 tb ht
  have hBA := hf.block _ (bang_mem ht)
  obtain ⟨pa, pc, pe, -, -, hpc⟩ := hBA.phis.open_
  have HPA := kept hBA.phi
  have q1 : wB.cell? ⟨b, off + tb * 7 + 1, none⟩ = some (.slice pa f.blocks.2[tb]!.phis.2.length pc) := (hcell 1 _ rfl).trans (by rw [← pe])
  show Calls _ _ _ _ (RunRet wB g f n { phisRun f.blocks.2[tb]!.phis.2 s s s.block with block := tb, pc := 0 })
  have HOK := kept hok
  have HPC := kept hpc
  clear hok hpc hBA hcell pe
  generalize f.blocks.2[tb]!.phis.2 = ps at *
  obtain ⟨np, hnp⟩ : ∃ np, ps.length = np := ⟨_, rfl⟩
  rw [hnp] at q1 hps HPC
  have HNP := kept hnp
  clear hnp
  have HQ := kept q1
  have c2 := h.c2
  rw [e2] at c2
  have HE2 := kept e2
  have q1 := h.k.cellOf HQ.out
  clear hc2 h hf hb
  generalize hnb : f.blocks.2.length = nb at *
  have HNB := kept hnb
  clear hnb e2
  obtain ⟨i3, hi3, he3⟩ := Option.map_eq_some_iff.1 info3
  simp only [Prod.mk.injEq] at he3
  obtain ⟨hz3, hs3, hb3⟩ := he3
  go_enter Tryz.func50, Tryz.ntmps50
  go_wp2
  clear c2 q1
  go_loopw [4, 24] (fun a' i' wx => ∃ k : Nat, k ≤ np ∧ i' = .int .i64 k ∧ wx.ownsRow W.heap.size 3 1 a' k ((ps.take k).map (phiV s.block)) ∧ Keeps W wx []) (fun _ i' _ => np - (intOf i').toNat)
  case atStart => exact ⟨0, Nat.zero_le _, rfl, World.ownsRow_nil _ _ _ _, Keeps.refl _ _⟩
  case round =>
    obtain ⟨k, hk, rfl, hO, hr⟩ := hrel
    have OO := kept hO
    have HK := kept hr
    clear hO hr
    obtain ⟨oa, oc, rfl, -, -⟩ := own_form OO.out
    by_cases hlk : k < np
    · have hlkz : (k : Int) < (np : Int) := by omega
      have hkp : k < ps.length := by rw [HNP.out]; exact hlk
      obtain ⟨pb, po, rfl, -, hcp⟩ := HPC.out k (by first | exact hkp | exact hlk)
      have HE := kept (HOK.out _ (bang_mem hkp))
      have hpa := HPA.out _ (bang_mem hkp)
      have HSN := kept (phiV_snoc (b := s.block) hkp)
      obtain ⟨z, hz, hz2, -⟩ := phiE_z HE.out
      obtain ⟨aa, ac, ea, -, -, hca⟩ := hpa.1.open_
      obtain ⟨fa, fc, ef, hfl, hfm, hcf⟩ := hpa.2.open_
      have hfew : (ps[k]!).froms.2.length ≤ 9223372036854775807 := by unfold maxLen at hfm; omega
      clear hfl hfm
      have n0 := ((HW.out.keep HK.out).k.cellOf (hcp 0 _ rfl))
      have n1 := ((HW.out.keep HK.out).k.cellOf (hcp 1 _ rfl))
      have n2 := ((HW.out.keep HK.out).k.cellOf (hcp 2 _ rfl))
      rw [ea] at n1
      rw [ef] at n2
      have HFL := kept HE.out.len
      rw [HFL.out] at n1 hca
      have HCA := kept hca
      have HCF := kept hcf
      have HZ := kept hz2
      rw [hz2] at HSN
      simp only [Nat.add_zero] at n0
      clear hca hcf ea ef hcp hpa hz2
      have HS := kept (fun j (hj : j < (ps[k]!).froms.2.length) => sc_step (b := s.block) hj)
      have HSE := kept (sc_end ps[k]! s.block)
      have HZA := kept (show scA ps[k]! s.block 0 = (z : Int) from HZ.out)
      generalize ps[k]! = p at *
      obtain ⟨lf, hlf⟩ : ∃ lf, p.froms.2.length = lf := ⟨_, rfl⟩
      rw [hlf] at n1 n2 HCA HCF HS HSE hfew
      have HLF := kept hlf
      clear hlf
      have bb0 := Blk.new wr 95 #[.int .i64 p.dst, .slice aa lf ac, .slice fa lf fc]
      have hk0 : Keeps wr (wr.alloc (.cells #[.int .i64 p.dst, .slice aa lf ac, .slice fa lf fc] 95)) [] := (Keeps.refl _ []).alloc _
      have HK2 := kept (HK.out.and_then hk0)
      have Bl := kept bb0
      have OO2 := kept (own_keep OO.out hk0 (by simp))
      obtain ⟨l0, l1, l2⟩ := Bl.out.c3
      simp at l0 l1 l2
      clear bb0 hk0
      go_upto_region 4 with (fail)
      clear n0 n1 n2 l0 l1 l2
      generalize hW1 : wr.alloc (.cells #[.int .i64 p.dst, .slice aa lf ac, .slice fa lf fc] 95) = W1 at *
      generalize hpq : wr.heap.size = bp at *
      have HBP := kept hpq
      clear hpq hW1
      obtain ⟨l0, l1, l2⟩ := Bl.out.c3
      simp at l0 l1 l2
      go_wp2
      clear l0 l1 l2
      go_loopw [7, 8] (fun a' i' wx => ∃ (j : Nat) (y : Int), j ≤ lf ∧ y + 1 = (j : Int) ∧ i' = .int .i64 y ∧ a' = .int .i64 (scA p s.block j) ∧ Keeps W1 wx []) (fun _ i' _ => (intOf i' + 1).toNat)
      case atStart => exact ⟨lf, (lf : Int) - 1, Nat.le_refl _, by omega, by go_num, by rw [HSE.out], Keeps.refl _ _⟩
      case round =>
        obtain ⟨j, y, hj, hy, rfl, rfl, hr⟩ := hrel
        have HR3 := kept hr
        have HK3 := kept (HK2.out.and_then hr)
        have B3 := kept (Bl.out.keep hr (by simp))
        have OO3 := kept (own_keep OO2.out hr (by simp))
        clear hr
        obtain ⟨l0, l1, l2⟩ := B3.out.c3
        simp at l0 l1 l2
        rcases Nat.eq_zero_or_pos j with rfl | hjp
        · obtain rfl : y = -1 := by omega
          rw [HZA.out]
          have hz0 : ¬ (z : Int) < 0 := by omega
          clear l0 l1 l2
          have HSZ := kept HK3.out.size
          go_wp2_with (first | (at_builtin; go_must (refine wpList_append_row rfl (.tmp 62) (.tmp 64) 23 rfl W.heap.size 3 i3 (.int .i64 0) 1 8 Tryz.underlying23 hi3 hz3 hs3 hb3 rfl (by decide) (.slice oa k oc) k ((ps.take k).map (phiV s.block)) rfl (own_keep OO3.out ((Keeps.refl wr []).alloc _) (by simp)) (.slice (some ⟨wr.heap.size, 0, none⟩) 1 1) [[.int .i64 (z : Nat)]] rfl (row_single (Blk.new wr 3 _)) (by simp) (by simp [Value.oneCell']) (by simp; unfold maxLen; omega) (by simp; omega) (by rw [size_alloc1]; have h9 := HSZ.out; omega) ?_); intro v1 w4 hown hgrow; have hKx := kept (keeps_grown HK3.out OO3.out (Nat.le_refl _) hgrow); have hO4 := kept hown; clear hown hgrow))
          go_roundw
          case rel => exact ⟨k + 1, by omega, by go_num, by have h9 := hO4.out; rw [← HSN.out]; simpa using h9, hKx.out⟩
          case measure => simp [intOf]; omega
        · obtain ⟨jj, rfl⟩ : ∃ jj, j = jj + 1 := ⟨j - 1, by omega⟩
          obtain rfl : y = (jj : Int) := by omega
          have hjz : (0 : Int) ≤ (jj : Int) := by omega
          have hjl : (jj : Int) < (lf : Int) := by omega
          have HS1 := kept (HS.out jj (by omega))
          have hjf : jj < lf := by omega
          obtain ⟨fb, fo, rfl, -, hcf⟩ := (HCF.out.resolve_left (by omega))
          obtain ⟨ab, ao, rfl, -, hca⟩ := (HCA.out.resolve_left (by omega))
          have hkB : Keeps wB wr [] := (HW.out.keep HK3.out).k
          have f0 := hkB.cellOf (hcf jj (by omega))
          have x0 := hkB.cellOf (hca jj (by omega))
          have c7 := (HW.out.keep HK3.out).c7
          clear hca hcf hkB
          generalize p.froms.2[jj]! = fj at *
          generalize p.args.2[jj]! = aj at *
          by_cases he : fj = (s.block : Int)
          · rw [if_pos he] at HS1
            have heq : (fj == (s.block : Int)) = true := by simpa using he
            clear he
            go_wp2
            go_region
            go_wp2
            go_roundw
            case rel => exact ⟨jj, (jj : Int) - 1, by omega, by omega, by go_num, by rw [HS1.out], by first | exact HR3.out | exact HR3.out.drew⟩
            case measure => first | (simp [intOf]; omega) | simp [intOf]
          · rw [if_neg he] at HS1
            have heq : (fj == (s.block : Int)) = false := by simpa using he
            clear he
            go_wp2
            go_region
            go_wp2
            go_roundw
            case rel => exact ⟨jj, (jj : Int) - 1, by omega, by omega, by go_num, by rw [HS1.out], by first | exact HR3.out | exact HR3.out.drew⟩
            case measure => first | (simp [intOf]; omega) | simp [intOf]
    · have hlkz : ¬ (k : Int) < (np : Int) := by omega
      obtain rfl : k = np := by omega
      go_wp2
      have OO1 := OO.out
      rw [show ps.take k = ps by rw [List.take_of_length_le (by rw [HNP.out]; omega)]] at OO1
      have OA := kept OO1
      clear OO1
      have HSZ := kept HK.out.size
      have HWW := kept (HW.out.keep HK.out)
      obtain ⟨W1, hW1⟩ : ∃ W1 : World, W1 = wr := ⟨_, rfl⟩
      subst hW1
      have kd : Keeps W1 (World.drew W1) [] := (Keeps.refl W1 []).drew
      have c3w := HWW.out.c3
      have c4w := HWW.out.c4
      have c5w := HWW.out.c5
      have HD := kept (HWW.out.keep kd)
      have c3 := HD.out.c3
      have c4 := HD.out.c4
      have c5 := HD.out.c5
      have HNI := kept (show ∀ j u, (s.ints.map (Value.int .i64))[j]? = some u → W1.cell? ((⟨R.gi, 0, none⟩ : Addr).add j) = some u from fun j u hu => by rw [add_plain, Nat.zero_add, HWW.out.bi.2.1.cell]; unfold i64C; rw [List.getElem?_toArray]; exact hu)
      have HNBo := kept (show ∀ j u, (s.bools.map Value.bool)[j]? = some u → W1.cell? ((⟨R.gb, 0, none⟩ : Addr).add j) = some u from fun j u hu => by rw [add_plain, Nat.zero_add, HWW.out.bb.2.1.cell]; unfold bitsR; rw [List.getElem?_toArray]; exact hu)
      have HNA := kept (show ∀ j u, (s.arrs.map (Value.int .i64))[j]? = some u → W1.cell? ((⟨R.ga, 0, none⟩ : Addr).add j) = some u from fun j u hu => by rw [add_plain, Nat.zero_add, HWW.out.ba.2.1.cell]; unfold i64C; rw [List.getElem?_toArray]; exact hu)
      have HNIL := kept (show (s.ints.map (Value.int .i64)).length = n by rw [List.length_map]; exact HD.out.bi.2.2)
      have HNBoL := kept (show (s.bools.map Value.bool).length = n by rw [List.length_map]; exact HD.out.bb.2.2)
      have HNAL := kept (show (s.arrs.map (Value.int .i64)).length = n by rw [List.length_map]; exact HD.out.ba.2.2)
      have HNIO := kept (show ∀ u ∈ s.ints.map (Value.int .i64), u.oneCell' = true from fun u hu => by obtain ⟨x, _, rfl⟩ := List.mem_map.1 hu; rfl)
      have HNBoO := kept (show ∀ u ∈ s.bools.map Value.bool, u.oneCell' = true from fun u hu => by obtain ⟨x, _, rfl⟩ := List.mem_map.1 hu; rfl)
      have HNAO := kept (show ∀ u ∈ s.arrs.map (Value.int .i64), u.oneCell' = true from fun u hu => by obtain ⟨x, _, rfl⟩ := List.mem_map.1 hu; rfl)
      obtain ⟨i2', hi2, he2⟩ := Option.map_eq_some_iff.1 info2
      obtain ⟨i4', hi4, he4⟩ := Option.map_eq_some_iff.1 info4r
      obtain ⟨i3', hi3', he3'⟩ := Option.map_eq_some_iff.1 info3
      simp only [Prod.mk.injEq] at he2 he3' he4
      obtain ⟨hz2, hs2, hb2⟩ := he2
      obtain ⟨hz3', hs3', hb3'⟩ := he3'
      obtain ⟨hz4, hs4, hb4⟩ := he4
      have hn9 : n ≤ 1000 := hn
      go_cut [9, 10, 11] from 67 to 84 (fun a9 a10 a11 wx => ∃ v9 v10 v11 : Value, a9 = v9 ∧ a10 = v10 ∧ a11 = v11 ∧ wx.ownsRow W.heap.size 2 1 v9 n (s.ints.map (Value.int .i64)) ∧ wx.ownsRow W.heap.size 4 1 v10 n (s.bools.map Value.bool) ∧ wx.ownsRow W.heap.size 3 1 v11 n (s.arrs.map (Value.int .i64)) ∧ Keeps W1 wx [])
      case first =>
        clear kd HD c3 c4 c5 OO
        go_region_held_law (fun w' => w'.cell? ⟨g, 3, none⟩ = some (.slice (some ⟨R.gi, 0, none⟩) n n) ∧ w'.cell? ⟨g, 4, none⟩ = some (.slice (some ⟨R.gb, 0, none⟩) n n) ∧ w'.cell? ⟨g, 5, none⟩ = some (.slice (some ⟨R.ga, 0, none⟩) n n)) (exact ⟨Keeps.cellOf (by repeat' first | with_reducible exact Keeps.refl _ _ | with_reducible apply Keeps.drew | with_reducible apply Keeps.alloc | (with_reducible refine Keeps.and_then ?_ (by assumption))) c3w, Keeps.cellOf (by repeat' first | with_reducible exact Keeps.refl _ _ | with_reducible apply Keeps.drew | with_reducible apply Keeps.alloc | (with_reducible refine Keeps.and_then ?_ (by assumption))) c4w, Keeps.cellOf (by repeat' first | with_reducible exact Keeps.refl _ _ | with_reducible apply Keeps.drew | with_reducible apply Keeps.alloc | (with_reducible refine Keeps.and_then ?_ (by assumption))) c5w⟩) (first | (refine step_copy rfl (.tmp 67) (.tmp 71) 64 rfl W.heap.size _ (by have h9 := HSZ.out; (try have h2 := hkp2.size); (try simp at h2); (try have h3 := hkp3.size); (try simp at h3); (try have h4 := hkp4.size); (try simp at h4); first | omega | (simp; omega)) 2 i2' (.int .i64 0) 8 Tryz.underlying64 hi2 hz2 hs2 hb2 rfl rfl (by repeat' first | with_reducible exact blk_here _ _ _ (by simp) | with_reducible refine Blk.keep ?_ ((Keeps.refl _ []).drew) (by simp) | with_reducible refine Blk.keep ?_ ((Keeps.refl _ []).alloc _) (by simp) | with_reducible refine Blk.keep ?_ (by assumption) (by simp)) ⟨R.gi, 0, none⟩ n n _ rfl HNIL.out (fun j u hu => Keeps.cellOf (by repeat' first | with_reducible exact Keeps.refl _ _ | with_reducible apply Keeps.drew | with_reducible apply Keeps.alloc | (with_reducible refine Keeps.and_then ?_ (by assumption))) (HNI.out j u hu)) HNIO.out (by unfold maxLen; omega) (by omega) ?_; intro v2' w2' hown2 hkp2) | (refine step_copy rfl (.tmp 73) (.tmp 77) 39 rfl W.heap.size _ (by have h9 := HSZ.out; (try have h2 := hkp2.size); (try simp at h2); (try have h3 := hkp3.size); (try simp at h3); (try have h4 := hkp4.size); (try simp at h4); first | omega | (simp; omega)) 4 i4' (.bool false) 1 Tryz.underlying39 hi4 hz4 hs4 hb4 rfl rfl (by repeat' first | with_reducible exact blk_here _ _ _ (by simp) | with_reducible refine Blk.keep ?_ ((Keeps.refl _ []).drew) (by simp) | with_reducible refine Blk.keep ?_ ((Keeps.refl _ []).alloc _) (by simp) | with_reducible refine Blk.keep ?_ (by assumption) (by simp)) ⟨R.gb, 0, none⟩ n n _ rfl HNBoL.out (fun j u hu => Keeps.cellOf (by repeat' first | with_reducible exact Keeps.refl _ _ | with_reducible apply Keeps.drew | with_reducible apply Keeps.alloc | (with_reducible refine Keeps.and_then ?_ (by assumption))) (HNBo.out j u hu)) HNBoO.out (by unfold maxLen; omega) (by omega) ?_; intro v4' w4' hown4 hkp4) | (refine step_copy rfl (.tmp 79) (.tmp 83) 23 rfl W.heap.size _ (by have h9 := HSZ.out; (try have h2 := hkp2.size); (try simp at h2); (try have h3 := hkp3.size); (try simp at h3); (try have h4 := hkp4.size); (try simp at h4); first | omega | (simp; omega)) 3 i3' (.int .i64 0) 8 Tryz.underlying23 hi3' hz3' hs3' hb3' rfl rfl (by repeat' first | with_reducible exact blk_here _ _ _ (by simp) | with_reducible refine Blk.keep ?_ ((Keeps.refl _ []).drew) (by simp) | with_reducible refine Blk.keep ?_ ((Keeps.refl _ []).alloc _) (by simp) | with_reducible refine Blk.keep ?_ (by assumption) (by simp)) ⟨R.ga, 0, none⟩ n n _ rfl HNAL.out (fun j u hu => Keeps.cellOf (by repeat' first | with_reducible exact Keeps.refl _ _ | with_reducible apply Keeps.drew | with_reducible apply Keeps.alloc | (with_reducible refine Keeps.and_then ?_ (by assumption))) (HNA.out j u hu)) HNAO.out (by unfold maxLen; omega) (by omega) ?_; intro v3' w3' hown3 hkp3))
        all_goals (first | go_wp2 | skip)
        all_goals (try (rename_i hq; have hq2 := Option.some.inj (show (some 84 : Option Nat) = some _ from hq); subst hq2; clear hq))
        all_goals (try simp only [Act.put, List.setIfInBounds_toArray, List.set_cons_zero, List.set_cons_succ])
        all_goals go_meet
        all_goals exact ⟨_, _, _, rfl, rfl, rfl, own_keep (S := []) hown2 (by repeat' first | with_reducible exact Keeps.refl _ _ | with_reducible apply Keeps.drew | with_reducible apply Keeps.alloc | (with_reducible refine Keeps.and_then ?_ (by assumption))) (by simp), own_keep (S := []) hown4 (by repeat' first | with_reducible exact Keeps.refl _ _ | with_reducible apply Keeps.drew | with_reducible apply Keeps.alloc | (with_reducible refine Keeps.and_then ?_ (by assumption))) (by simp), own_keep (S := []) hown3 (by repeat' first | with_reducible exact Keeps.refl _ _ | with_reducible apply Keeps.drew | with_reducible apply Keeps.alloc | (with_reducible refine Keeps.and_then ?_ (by assumption))) (by simp), (by repeat' first | with_reducible exact Keeps.refl _ _ | with_reducible apply Keeps.drew | with_reducible apply Keeps.alloc | (with_reducible refine Keeps.and_then ?_ (by assumption)))⟩
      case rest =>
        obtain ⟨t9, t10, t11, e9, e10, e11, hc1, hc2, hc3, hcut⟩ := hcut
        have e9 := e9.symm
        have e10 := e10.symm
        have e11 := e11.symm
        subst e9 e10 e11
        have HX := kept (HWW.out.keep hcut)
        have O9 := kept hc1
        have O10 := kept hc2
        have O11 := kept hc3
        have OG := kept (own_keep OA.out hcut (by simp))
        clear hc1 hc2 hc3 hcut c3 c4 c5 c3w c4w c5w HD kd HNI HNBo HNA HNIL HNBoL HNAL HNIO HNBoO HNAO OO OA HWW HSZ HK
        have c2 := HX.out.c2
        rw [HE2.out] at c2
        have q1 := HX.out.k.cellOf HQ.out
        go_wp2
        clear c2 q1
        go_loopw [95] (fun i' wx => ∃ j : Nat, j ≤ k ∧ i' = .int .i64 j ∧ WAt wB wx g R f n (phisRun (ps.take j) s s s.block) ∧ wx.ownsRow W.heap.size 2 1 t9 n (s.ints.map (Value.int .i64)) ∧ wx.ownsRow W.heap.size 4 1 t10 n (s.bools.map Value.bool) ∧ wx.ownsRow W.heap.size 3 1 t11 n (s.arrs.map (Value.int .i64)) ∧ wx.ownsRow W.heap.size 3 1 (.slice oa k oc) k (ps.map (phiV s.block))) (fun i' _ => k - (intOf i').toNat)
        case atStart => exact ⟨0, Nat.zero_le _, rfl, HX.out, O9.out, O10.out, O11.out, OG.out⟩
        case round =>
          obtain ⟨j, hj, rfl, hX, h9, h10, h11, hG⟩ := hrel
          clear HX O9 O10 O11 OG
          have HX := kept hX
          have O9 := kept h9
          have O10 := kept h10
          have O11 := kept h11
          have OG := kept hG
          clear hX h9 h10 h11 hG
          by_cases hlj : j < k
          · have hljz : (j : Int) < (k : Int) := by omega
            have hkp : j < ps.length := by rw [HNP.out]; exact hlj
            obtain ⟨pb, po, rfl, -, hcp⟩ := HPC.out j (by first | exact hkp | exact hlj)
            have HE := kept (HOK.out _ (bang_mem hkp))
            have hpa := HPA.out _ (bang_mem hkp)
            have HSN := kept (phis_snoc (old := s) (s := s) hkp HE.out)
            obtain ⟨z, hz, hz2, -⟩ := phiE_z HE.out
            obtain ⟨aa, ac, ea, -, -, hca⟩ := hpa.1.open_
            obtain ⟨fa, fc, ef, -, -, hcf⟩ := hpa.2.open_
            have n0 := (HX.out.k.cellOf (hcp 0 _ rfl))
            have n1 := (HX.out.k.cellOf (hcp 1 _ rfl))
            have n2 := (HX.out.k.cellOf (hcp 2 _ rfl))
            rw [ea] at n1
            rw [ef] at n2
            rw [HE.out.len] at n1
            rw [hz2] at HSN
            simp only [Nat.add_zero] at n0
            clear hca hcf ea ef hcp hpa
            have hgv : (ps.map (phiV s.block))[j]? = some (.int .i64 (z : Nat)) := by rw [List.getElem?_map, List.getElem?_eq_getElem hkp, ← getElem!_pos ps j hkp]; show some (phiV s.block ps[j]!) = _; unfold phiV; rw [hz2]
            have HGV := kept hgv
            clear hgv hz2
            have HSN2 := HSN
            have hd := HE.out.dst
            clear HE HSN
            generalize ps[j]! = p at *
            obtain ⟨d, hd0⟩ : ∃ d : Nat, p.dst = d := ⟨p.dst.toNat, by omega⟩
            have hdn : d < n := by omega
            have HSN := HSN2
            clear HSN2
            have HD0 := kept hd0
            rw [hd0] at n0
            clear hd hd0
            generalize p.froms.2.length = lf at *
            have bb0 := Blk.new wr 95 #[.int .i64 d, .slice aa lf ac, .slice fa lf fc]
            have hk0 : Keeps wr (wr.alloc (.cells #[.int .i64 d, .slice aa lf ac, .slice fa lf fc] 95)) [] := (Keeps.refl _ []).alloc _
            have Bl := kept bb0
            obtain ⟨l0, l1, l2⟩ := Bl.out.c3
            simp at l0 l1 l2
            have hpl : wr.heap.size = wr.heap.size := rfl
            go_upto_region 19 with (fail)
            clear n0 n1 n2 l0 l1 l2 bb0 hpl
            replace HX := kept (HX.out.keep hk0)
            replace O9 := kept (own_keep O9.out hk0 (by simp))
            replace O10 := kept (own_keep O10.out hk0 (by simp))
            replace O11 := kept (own_keep O11.out hk0 (by simp))
            replace OG := kept (own_keep OG.out hk0 (by simp))
            clear hk0
            have HBN := kept (show ∀ q, q < wr.heap.size → wr.heap.size ≠ q from fun q h e => by omega)
            have hbi : wr.heap.size ≠ R.gi := fun e => by have := blk_ne Bl.out HX.out.bi.2.1 (by decide); exact this e
            have hbb : wr.heap.size ≠ R.gb := fun e => by have := blk_ne Bl.out HX.out.bb.2.1 (by decide); exact this e
            have hba : wr.heap.size ≠ R.ga := fun e => by have := blk_ne Bl.out HX.out.ba.2.1 (by decide); exact this e
            clear HBN
            generalize wr.alloc (.cells #[.int .i64 d, .slice aa lf ac, .slice fa lf fc] 95) = Z1 at *
            generalize wr.heap.size = bp at *
            have hgi : g ≠ R.gi := blk_ne HX.out.blk HX.out.bi.2.1 (by decide)
            have hgb : g ≠ R.gb := blk_ne HX.out.blk HX.out.bb.2.1 (by decide)
            have hga : g ≠ R.ga := blk_ne HX.out.blk HX.out.ba.2.1 (by decide)
            obtain ⟨gg, cg, eg, hgg, hgo, hgc⟩ := own_at OG.out (by omega)
            simp only [Value.slice.injEq] at eg
            obtain ⟨rfl, -, rfl⟩ := eg
            obtain ⟨u1, v1, rfl, hu1, ho1, hc1⟩ := own_at O9.out (by omega)
            obtain ⟨u2, v2, rfl, hu2, ho2, hc2⟩ := own_at O10.out (by omega)
            obtain ⟨u3, v3, rfl, hu3, ho3, hc3⟩ := own_at O11.out (by omega)
            have HG1 := kept (show Z1.cell? ⟨gg, j, none⟩ = some (.int .i64 (z : Nat)) from (hgc j hlj).trans HGV.out)
            have HG2 := kept (show Z1.cell? ⟨u1, z, none⟩ = some (.int .i64 (s.I (z : Nat))) from (hc1 z hz).trans (mapI_at HLI.out hz))
            have HG3 := kept (show Z1.cell? ⟨u2, z, none⟩ = some (.bool (s.B (z : Nat))) from (hc2 z hz).trans (mapB_at HLB.out hz))
            have HG4 := kept (show Z1.cell? ⟨u3, z, none⟩ = some (.int .i64 (s.A (z : Nat))) from (hc3 z hz).trans (mapI_at HLA.out hz))
            clear hgc hc1 hc2 hc3 hgo ho1 ho2 ho3 HGV
            obtain ⟨vI, hvI⟩ : ∃ v, s.I (z : Nat) = v := ⟨_, rfl⟩
            obtain ⟨vB, hvB⟩ : ∃ v, s.B (z : Nat) = v := ⟨_, rfl⟩
            obtain ⟨vA, hvA⟩ : ∃ v, s.A (z : Nat) = v := ⟨_, rfl⟩
            rw [hvI] at HG2
            rw [hvB] at HG3
            rw [hvA] at HG4
            have HVI := kept hvI
            have HVB := kept hvB
            have HVA := kept hvA
            clear hvI hvB hvA
            obtain ⟨l0, l1, l2⟩ := Bl.out.c3
            simp at l0 l1 l2
            clear l1 l2
            have hLT := kept (show R.gi < W.heap.size ∧ R.gb < W.heap.size ∧ R.ga < W.heap.size ∧ W.heap.size ≤ gg ∧ W.heap.size ≤ u1 ∧ W.heap.size ≤ u2 ∧ W.heap.size ≤ u3 from ⟨hWi, hWb, hWa, hgg, hu1, hu2, hu3⟩)
            have HNG := kept (show g ≠ R.gi ∧ g ≠ R.gb ∧ g ≠ R.ga ∧ bp ≠ R.gi ∧ bp ≠ R.gb ∧ bp ≠ R.ga from ⟨hgi, hgb, hga, hbi, hbb, hba⟩)
            clear hWi hWb hWa hgg hu1 hu2 hu3 hgi hgb hga hbi hbb hba Bl
            have c3 := HX.out.c3
            have c4 := HX.out.c4
            have c5 := HX.out.c5
            have e0 := HG1.out
            have e1 := HG2.out
            have e2 := HG3.out
            have e3 := HG4.out
            clear HG1 HG2 HG3 HG4
            refine wp_region_held_drew (S := (fun w' => w'.cell? ⟨g, 3, none⟩ = some (.slice (some ⟨R.gi, 0, none⟩) n n) ∧ w'.cell? ⟨g, 4, none⟩ = some (.slice (some ⟨R.gb, 0, none⟩) n n) ∧ w'.cell? ⟨g, 5, none⟩ = some (.slice (some ⟨R.ga, 0, none⟩) n n) ∧ w'.cell? ⟨bp, 0, none⟩ = some (.int .i64 (d : Nat)) ∧ w'.cell? ⟨gg, j, none⟩ = some (.int .i64 (z : Nat)) ∧ w'.cell? ⟨u1, z, none⟩ = some (.int .i64 vI) ∧ w'.cell? ⟨u2, z, none⟩ = some (.bool vB) ∧ w'.cell? ⟨u3, z, none⟩ = some (.int .i64 vA))) (by kernel_rfl) ?ghS (fun hHeld => ?_)
            case ghS => exact ⟨c3, c4, c5, l0, e0, e1, e2, e3⟩
            replace c3 := Keeps.cellOf ((Keeps.refl Z1 []).drew) c3
            replace c4 := Keeps.cellOf ((Keeps.refl Z1 []).drew) c4
            replace c5 := Keeps.cellOf ((Keeps.refl Z1 []).drew) c5
            replace l0 := Keeps.cellOf ((Keeps.refl Z1 []).drew) l0
            replace e0 := Keeps.cellOf ((Keeps.refl Z1 []).drew) e0
            replace e1 := Keeps.cellOf ((Keeps.refl Z1 []).drew) e1
            replace e2 := Keeps.cellOf ((Keeps.refl Z1 []).drew) e2
            replace e3 := Keeps.cellOf ((Keeps.refl Z1 []).drew) e3
            replace HX := kept (HX.out.keep ((Keeps.refl Z1 []).drew))
            replace O9 := kept (own_keep O9.out ((Keeps.refl Z1 []).drew) (by simp))
            replace O10 := kept (own_keep O10.out ((Keeps.refl Z1 []).drew) (by simp))
            replace O11 := kept (own_keep O11.out ((Keeps.refl Z1 []).drew) (by simp))
            replace OG := kept (own_keep OG.out ((Keeps.refl Z1 []).drew) (by simp))
            generalize World.drew Z1 = X0 at *
            refine tp 0 100 rfl hHeld ?_
            refine tp 1 101 rfl hHeld ?_
            refine tp 2 102 rfl hHeld ?_
            refine tp 3 103 rfl hHeld ?_
            refine tp 4 104 rfl hHeld ?_
            refine tp 5 105 rfl hHeld ?_
            refine tp 6 106 rfl hHeld ?_
            refine tp 7 107 rfl hHeld ?_
            refine tp 8 108 rfl hHeld ?_
            refine tp 9 109 rfl hHeld ?_
            refine tp 10 110 rfl hHeld ?_
            refine tp 11 111 rfl hHeld ?_
            refine tp 12 112 rfl hHeld ?_
            refine tp 13 113 rfl hHeld ?_
            refine tp 14 114 rfl hHeld ?_
            refine tp 15 115 rfl hHeld ?_
            refine tp 16 116 rfl hHeld ?_
            refine tp 17 117 rfl hHeld ?_
            refine tp 18 118 rfl hHeld ?_
            refine tp 19 119 rfl hHeld ?_
            refine tp 20 120 rfl hHeld ?_
            refine tp 21 121 rfl hHeld ?_
            refine tp 22 122 rfl hHeld ?_
            refine tp 23 123 rfl hHeld ?_
            refine tp 24 124 rfl hHeld ?_
            refine tp 25 125 rfl hHeld ?_
            refine tp 26 126 rfl hHeld ?_
            refine tp 27 127 rfl hHeld ?_
            refine tp 28 128 rfl hHeld ?_
            refine tp 29 129 rfl hHeld ?_
            refine tp 30 130 rfl hHeld ?_
            refine tp 31 131 rfl hHeld ?_
            refine tp 32 132 rfl hHeld ?_
            refine tp 33 133 rfl hHeld ?_
            refine tp 34 134 rfl hHeld ?_
            refine tp 35 135 rfl hHeld ?_
            refine tp 36 136 rfl hHeld ?_
            refine tp 37 137 rfl hHeld ?_
            refine tp 38 138 rfl hHeld ?_
            refine tp 39 139 rfl hHeld ?_
            refine t1 40 fun K hK => ?_
            clear hHeld
            have gd := HX.out.int_at hdn
            have gz := HX.out.bi.2.1.frozen d
            go_simp
            show K _ _
            have k3 : Keeps X0 (X0.setCell ⟨R.gi, d, none⟩ (.int .i64 vI)) [R.gi] := keeps_set1 _ _ _ _
            clear gd gz
            replace O9 := kept (own_keep O9.out k3 (fun b hb => by have h9 := (own_lt O9.out hb).2; have h8 := hLT.out; simp; omega))
            replace O10 := kept (own_keep O10.out k3 (fun b hb => by have h9 := (own_lt O10.out hb).2; have h8 := hLT.out; simp; omega))
            replace O11 := kept (own_keep O11.out k3 (fun b hb => by have h9 := (own_lt O11.out hb).2; have h8 := hLT.out; simp; omega))
            replace OG := kept (own_keep OG.out k3 (fun b hb => by have h9 := (own_lt OG.out hb).2; have h8 := hLT.out; simp; omega))
            replace HX := kept (HX.out.setI d vI)
            replace c3 := keep_cell k3 (by have h8 := hLT.out; have h7 := HNG.out; simp; omega) c3
            replace c4 := keep_cell k3 (by have h8 := hLT.out; have h7 := HNG.out; simp; omega) c4
            replace c5 := keep_cell k3 (by have h8 := hLT.out; have h7 := HNG.out; simp; omega) c5
            replace l0 := keep_cell k3 (by have h8 := hLT.out; have h7 := HNG.out; simp; omega) l0
            replace e0 := keep_cell k3 (by have h8 := hLT.out; have h7 := HNG.out; simp; omega) e0
            replace e1 := keep_cell k3 (by have h8 := hLT.out; have h7 := HNG.out; simp; omega) e1
            replace e2 := keep_cell k3 (by have h8 := hLT.out; have h7 := HNG.out; simp; omega) e2
            replace e3 := keep_cell k3 (by have h8 := hLT.out; have h7 := HNG.out; simp; omega) e3
            clear k3
            generalize X0.setCell ⟨R.gi, d, none⟩ (.int .i64 vI) = X1 at *
            refine hK.out _ _ ?gh40 (fun hHeld => ?_)
            case gh40 => exact ⟨c3, c4, c5, l0, e0, e1, e2, e3⟩
            clear hK K
            try simp only [Act.put, sA, sB, sC]
            refine tp 41 140 rfl hHeld ?_
            refine t1 42 fun K hK => ?_
            clear hHeld
            have gd := HX.out.bool_at hdn
            have gz := HX.out.bb.2.1.frozen d
            go_simp
            show K _ _
            have k3 : Keeps X1 (X1.setCell ⟨R.gb, d, none⟩ (.bool vB)) [R.gb] := keeps_set1 _ _ _ _
            clear gd gz
            replace O9 := kept (own_keep O9.out k3 (fun b hb => by have h9 := (own_lt O9.out hb).2; have h8 := hLT.out; simp; omega))
            replace O10 := kept (own_keep O10.out k3 (fun b hb => by have h9 := (own_lt O10.out hb).2; have h8 := hLT.out; simp; omega))
            replace O11 := kept (own_keep O11.out k3 (fun b hb => by have h9 := (own_lt O11.out hb).2; have h8 := hLT.out; simp; omega))
            replace OG := kept (own_keep OG.out k3 (fun b hb => by have h9 := (own_lt OG.out hb).2; have h8 := hLT.out; simp; omega))
            replace HX := kept (HX.out.setB d vB)
            replace c3 := keep_cell k3 (by have h8 := hLT.out; have h7 := HNG.out; simp; omega) c3
            replace c4 := keep_cell k3 (by have h8 := hLT.out; have h7 := HNG.out; simp; omega) c4
            replace c5 := keep_cell k3 (by have h8 := hLT.out; have h7 := HNG.out; simp; omega) c5
            replace l0 := keep_cell k3 (by have h8 := hLT.out; have h7 := HNG.out; simp; omega) l0
            replace e0 := keep_cell k3 (by have h8 := hLT.out; have h7 := HNG.out; simp; omega) e0
            replace e1 := keep_cell k3 (by have h8 := hLT.out; have h7 := HNG.out; simp; omega) e1
            replace e2 := keep_cell k3 (by have h8 := hLT.out; have h7 := HNG.out; simp; omega) e2
            replace e3 := keep_cell k3 (by have h8 := hLT.out; have h7 := HNG.out; simp; omega) e3
            clear k3
            generalize X1.setCell ⟨R.gb, d, none⟩ (.bool vB) = X2 at *
            refine hK.out _ _ ?gh42 (fun hHeld => ?_)
            case gh42 => exact ⟨c3, c4, c5, l0, e0, e1, e2, e3⟩
            clear hK K
            try simp only [Act.put, sA, sB, sC]
            refine tp 43 141 rfl hHeld ?_
            refine t1 44 fun K hK => ?_
            clear hHeld
            have gd := HX.out.arr_at hdn
            have gz := HX.out.ba.2.1.frozen d
            go_simp
            show K _ _
            have k3 : Keeps X2 (X2.setCell ⟨R.ga, d, none⟩ (.int .i64 vA)) [R.ga] := keeps_set1 _ _ _ _
            clear gd gz
            replace O9 := kept (own_keep O9.out k3 (fun b hb => by have h9 := (own_lt O9.out hb).2; have h8 := hLT.out; simp; omega))
            replace O10 := kept (own_keep O10.out k3 (fun b hb => by have h9 := (own_lt O10.out hb).2; have h8 := hLT.out; simp; omega))
            replace O11 := kept (own_keep O11.out k3 (fun b hb => by have h9 := (own_lt O11.out hb).2; have h8 := hLT.out; simp; omega))
            replace OG := kept (own_keep OG.out k3 (fun b hb => by have h9 := (own_lt OG.out hb).2; have h8 := hLT.out; simp; omega))
            replace HX := kept (HX.out.setA d vA)
            replace c3 := keep_cell k3 (by have h8 := hLT.out; have h7 := HNG.out; simp; omega) c3
            replace c4 := keep_cell k3 (by have h8 := hLT.out; have h7 := HNG.out; simp; omega) c4
            replace c5 := keep_cell k3 (by have h8 := hLT.out; have h7 := HNG.out; simp; omega) c5
            replace l0 := keep_cell k3 (by have h8 := hLT.out; have h7 := HNG.out; simp; omega) l0
            replace e0 := keep_cell k3 (by have h8 := hLT.out; have h7 := HNG.out; simp; omega) e0
            replace e1 := keep_cell k3 (by have h8 := hLT.out; have h7 := HNG.out; simp; omega) e1
            replace e2 := keep_cell k3 (by have h8 := hLT.out; have h7 := HNG.out; simp; omega) e2
            replace e3 := keep_cell k3 (by have h8 := hLT.out; have h7 := HNG.out; simp; omega) e3
            clear k3
            generalize X2.setCell ⟨R.ga, d, none⟩ (.int .i64 vA) = X3 at *
            refine hK.out _ _ ?gh44 (fun hHeld => ?_)
            case gh44 => exact ⟨c3, c4, c5, l0, e0, e1, e2, e3⟩
            clear hK K
            try simp only [Act.put, sA, sB, sC]
            refine wpAnyH_done (by kernel_rfl) ?_ _
            clear hHeld c3 c4 c5 l0 e0 e1 e2 e3
            go_wp2
            go_roundw
            case rel => exact ⟨j + 1, by omega, by go_num, by rw [HSN.out]; unfold phiS; rw [HD0.out, HVI.out, HVB.out, HVA.out]; exact HX.out, O9.out, O10.out, O11.out, OG.out⟩
            case measure => simp [intOf]; omega
          · have hljz : ¬ (j : Int) < (k : Int) := by omega
            obtain rfl : j = k := by omega
            have hX2 := HX.out
            rw [show ps.take j = ps by rw [List.take_of_length_le (by rw [HNP.out]; omega)]] at hX2
            clear HX
            have HX := kept hX2
            clear hX2
            generalize phisRun ps s s s.block = sE at *
            have f7 := HX.out.fz 7
            have f8 := HX.out.fz 8
            have c7 := HX.out.c7
            have c8 := HX.out.c8
            go_wp2
            first | (change bodyPost Tryz.prog Tryz.f50 _ Exit.normal _ _; refine bodyPost_end (v := .tuple #[]) (by have h : Tryz.f50.results = #[] := (by kernel_rfl); simp [results, h]) rfl ⟨rfl, R, ?_⟩) | (change bodyPost Tryz.prog Tryz.f50 _ Exit.ret _ _; refine bodyPost_ret (v := .tuple #[]) (by have h : Tryz.f50.results = #[] := (by kernel_rfl); simp [results, h]) rfl ⟨rfl, R, ?_⟩)
            exact HX.out.turn (keeps_set2 _ _ _ _ _ _) (by rw [← stateC_goes R f n sE tb]; exact (HX.out.blk.set_ 7 _).set_ 8 _) rfl rfl rfl rfl rfl HX.out.ck
end Go.Proofs.YtjllbchfojonhaaGreatDoor
