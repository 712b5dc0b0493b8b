/- slices.Backward over a row of pairs: its value and its closure's contract, for every loop body that keeps what lay below and the boxes of rows of pairs. -/
import Derived.Test.YtjllbchfojonhaaGreatDoorMK0
import Derived.RangeFuncNested
import Derived.RangeFuncBound
import Derived.RangeFuncCalls
import Derived.RangeFuncLeaves
import Derived.Shelf.Abstract
import Derived.Shelf.RegionOpen
import Derived.OwnWalkIn
import Derived.TacticsInMore
import Derived.LoopNIn
import Derived.LoopIn
namespace Go.Proofs.YtjllbchfojonhaaGreatDoor
open Go.RowKit Go.Shelf
set_option linter.unusedVariables false
set_option linter.unusedSimpArgs false
attribute [local go_sem] Oper.semAt_some

/-- what has come when k rounds are over -/
def bwU {n : Nat} (k : Nat) (h : k ≤ n) : List (Fin n) := (List.finRange n).reverse.take k
theorem bwU_len {n k : Nat} (h : k ≤ n) : (bwU k h).length = k := by simp [bwU]; omega
theorem bwU_snoc {n m : Nat} (h : m < n) (h1 : n - (m + 1) ≤ n) (h2 : n - m ≤ n) : bwU (n - m) h2 = bwU (n - (m + 1)) h1 ++ [⟨m, h⟩] := by
 unfold bwU
 have e : n - m = n - (m + 1) + 1 := by omega
 rw [e, List.take_add_one]
 congr 1
 rw [List.getElem?_reverse (by simp; omega), List.getElem?_eq_getElem (by simp; omega)]
 simp
 omega
theorem bwU_all {n : Nat} : bwU n (Nat.le_refl n) = (List.finRange n).reverse := by unfold bwU; rw [List.take_of_length_le (by simp)]
/-- what a loop's body keeps: what lay below n0, and the boxes of rows of pairs -/
def BwK (n0 : Nat) (W W' : World) : Prop := Below n0 W W' ∧ TyK 51 W W'
theorem BwK.refl (n0 : Nat) (W : World) : BwK n0 W W := ⟨Below.refl _ _, TyK.refl _ _⟩
theorem BwK.trans {n0 : Nat} {A B C : World} (h : BwK n0 A B) (k : BwK n0 B C) : BwK n0 A C := ⟨h.1.trans k.1, h.2.trans k.2⟩
theorem tyK_put {T : TypeId} {W : World} {l : Nat} {o o' : Obj} (h : W.heap[l]? = some o) (ho : o.isCells = false) : TyK T W (W.putObj l o') := fun b cs hb => by
 refine (World.putObj_heap_other (fun e => ?_)).trans hb
 subst e
 rw [show W.heap[b]? = _ from hb] at h; cases h; cases ho
theorem bwK_b {n0 : Nat} {w : World} (hn : n0 ≤ w.heap.size) (W : World) (l : Nat) (o o' : Obj) (hl : w.heap.size ≤ l) (h : W.heap[l]? = some o) (ho : o.isCells = false) (hw : o.isWalk = false) : BwK n0 W (W.putObj l o') := ⟨belowK_b hn W l o o' hl h ho hw, tyK_put h ho⟩
def bwE (zs : List (Nat × Nat)) (x : Fin zs.length) : Array Value := #[.int .i64 (x.1 : Int), .agg #[.int .i64 (zs[x.1]!.1 : Int), .int .i64 (zs[x.1]!.2 : Int)]]

set_option maxRecDepth 100000 in
set_option maxHeartbeats 20000000 in
theorem back72_in (F : Fence) (n : Nat) (h72 : F.fn 72) (hro : F.round = none) (hn : 1 ≤ n) (l Bs n0 b off cap : Nat) (zs : List (Nat × Nat)) (hz : zs.length ≤ 1000000) (hb : b < n0) (J Jx : List (Fin zs.length) → World → Prop)
  (hY : ∀ pre x W, J pre W → pre.length < zs.length → YieldAt F (n - 1) Tryz.prog l (bwE zs x) W fun e W' =>
   (e = .returned (.bool true) ∧ J (pre ++ [x]) W' ∧ BwK n0 W W') ∨ (e = .returned (.bool false) ∧ Jx (pre ++ [x]) W'))
  (W : World) (hBs : Blk W Bs 51 #[.slice (some ⟨b, off, none⟩) zs.length cap]) (hc : ∀ j, j < zs.length → W.cell? ⟨b, off + j * 2, none⟩ = some (.int .i64 (zs[j]!.1 : Int)) ∧ W.cell? ⟨b, off + j * 2 + 1, none⟩ = some (.int .i64 (zs[j]!.2 : Int))) (h0 : J [] W) :
  CallsIn F n Tryz.prog 72 #[.func (.yield l) #[] #[], .pointer (some ⟨Bs, 0, none⟩)] W fun e W' => (∃ v, e = .returned v) ∧
   ((∃ ys, ys = (List.finRange zs.length).reverse ∧ J ys W') ∨ (∃ pre, (∃ k h, pre = bwU (n := zs.length) k h) ∧ Jx pre W')) := by
 refine callsIn_of_wp Tryz.func72 rfl h72 ?_ hro
 have cB := hBs.cell 0
 simp at cB
 simp only [Tryz.ntmps72, List.size_toArray, List.length_cons, List.length_nil, Nat.reduceAdd, Nat.reduceSub, Array.replicate_succ, Array.replicate_zero, List.push_toArray, List.append_toArray, List.nil_append, List.cons_append]
 gi_wp2
 gi_loopw [3] (fun i wr => ∃ (m : Nat) (hm : m ≤ zs.length), i = .int .i64 ((m : Int) - 1) ∧ J (bwU (zs.length - m) (by omega)) wr ∧ BwK n0 W wr)
  (fun i _ => (intOf i + 1).toNat)
 case atStart => exact ⟨zs.length, Nat.le_refl _, by go_num, by rw [show bwU (zs.length - zs.length) _ = ([] : List (Fin zs.length)) by unfold bwU; simp]; exact h0, BwK.refl _ _⟩
 case round =>
  obtain ⟨m, hm, rfl, hJs, hnx⟩ := hrel
  cases m with
  | zero =>
   gi_wp2
   go_end0
   exact ⟨⟨_, rfl⟩, .inl ⟨_, rfl, by rw [← bwU_all]; exact hJs⟩⟩
  | succ m =>
   rw [show ((m + 1 : Nat) : Int) - 1 = (m : Int) by omega]
   have hlt : m < zs.length := hm
   obtain ⟨fn, tmps, assign, body, hy, hR⟩ := hY _ ⟨m, hlt⟩ wr hJs (by rw [bwU_len]; omega)
   unfold bwE at hy
   dsimp only at hy
   have hB2 := hnx.2 _ _ hBs
   have cB2 := hB2.cell 0
   simp at cB2
   have c1 := (hnx.1.cell (p := ⟨b, off + m * 2, none⟩) hb).trans (hc m hlt).1
   have c2 := (hnx.1.cell (p := ⟨b, off + m * 2 + 1, none⟩) hb).trans (hc m hlt).2
   have hmz : (m : Int) < (zs.length : Int) := by omega
   generalize (zs[m]!.1 : Int) = p1 at *
   generalize (zs[m]!.2 : Int) = p2 at *
   gi_wp2
   refine hR.mono ?_
   rintro e W3 (⟨rfl, hJ3, hk3⟩ | ⟨rfl, hJx3⟩)
   ·gi_wp2
    go_roundw
    case rel => exact ⟨m, by omega, by go_num, by rw [bwU_snoc hlt (by omega) (by omega)]; exact hJ3, hnx.trans hk3⟩
    case measure => simp [intOf]
   ·gi_wp2
    refine bodyPost_ret (results_none rfl _ _ _) rfl ?_
    exact ⟨⟨_, rfl⟩, .inr ⟨_, ⟨zs.length - m, by omega, (bwU_snoc hlt (by omega) (by omega)).symm⟩, hJx3⟩⟩
set_option maxRecDepth 100000 in
set_option maxHeartbeats 2000000 in
theorem back72_nil (F : Fence) (n : Nat) (h72 : F.fn 72) (hro : F.round = none) (l Bs : Nat) (a : Option Addr) (cap : Nat) (J : List (Fin 0) → World → Prop) (W : World) (hBs : Blk W Bs 51 #[.slice a 0 cap]) (h0 : J [] W) :
  CallsIn F n Tryz.prog 72 #[.func (.yield l) #[] #[], .pointer (some ⟨Bs, 0, none⟩)] W fun e W' => (∃ v, e = .returned v) ∧ J [] W' := by
 refine callsIn_of_wp Tryz.func72 rfl h72 ?_ hro
 have cB := hBs.cell 0
 simp at cB
 simp only [Tryz.ntmps72, List.size_toArray, List.length_cons, List.length_nil, Nat.reduceAdd, Nat.reduceSub, Array.replicate_succ, Array.replicate_zero, List.push_toArray, List.append_toArray, List.nil_append, List.cons_append]
 gi_wp2
 gi_loopw [3] (fun i wr => i = .int .i64 (-1) ∧ J [] wr) (fun _ _ => 0)
 case atStart => exact ⟨by go_num, h0⟩
 case round =>
  obtain ⟨rfl, hJs⟩ := hrel
  gi_wp2
  go_end0
  exact ⟨⟨_, rfl⟩, hJs⟩
/-- a row of pairs, below n0 -/
theorem back_stops (F : Fence) (n : Nat) (h72 : F.fn 72) (hro : F.round = none) (hn : 1 ≤ n) (Bs n0 : Nat) (sv : Value) (zs : List (Nat × Nat)) (hz : zs.length ≤ 1000000) (w w1 : World) (hr : Row w1 2 sv (zs.map prC)) (hw1 : w1.heap.size = n0) (hbw : Below n0 w1 w) (hBs : Blk w Bs 51 #[sv]) :
  SeqStopsK F n Tryz.prog 72 #[.pointer (some ⟨Bs, 0, none⟩)] (bwE zs) (BwK n0) (fun ys => ys = (List.finRange zs.length).reverse) (fun _ => True) zs.length w := fun l J Jx W hW _ _ hY h0 => by
 obtain ⟨a, c, e, hl, hm, hc⟩ := hr.open_
 have hB' : Blk W Bs 51 #[sv] := (hW.block Bs hBs.lt).trans hBs
 rw [e] at hB'
 rcases Nat.eq_zero_or_pos zs.length with h | h
 ·obtain rfl : zs = [] := List.eq_nil_of_length_eq_zero h
  exact (back72_nil F n h72 hro l Bs a c J W hB' h0).mono fun e W' ⟨he, hj⟩ => ⟨he, .inl ⟨_, rfl, hj⟩⟩
 ·obtain ⟨b, off, rfl, -, -⟩ := hc 0 h
  have hb : b < n0 := by obtain ⟨b', o', e', hb', _⟩ := hc 0 h; cases e'; omega
  have hk : Below n0 w1 W := hbw.trans (hW.mono (by have := hbw.size; omega))
  refine (back72_in F n h72 hro hn l Bs n0 b off c zs hz hb J Jx hY W hB' (fun j hj => ?_) h0).mono ?_
  ·obtain ⟨b', o', e', hb', hcj⟩ := hc j hj
   cases e'
   have h1 := hcj 0 (.int .i64 (zs[j]!.1 : Int)) rfl
   have h2 := hcj 1 (.int .i64 (zs[j]!.2 : Int)) rfl
   exact ⟨(hk.cell (p := ⟨b, off + j * 2, none⟩) hb).trans h1, (hk.cell (p := ⟨b, off + j * 2 + 1, none⟩) hb).trans h2⟩
  ·rintro e W' ⟨he, ⟨ys, rfl, hj⟩ | ⟨pre, _, hj⟩⟩
   ·exact ⟨he, .inl ⟨_, rfl, hj⟩⟩
   ·exact ⟨he, .inr ⟨_, trivial, hj⟩⟩
theorem back44_any (a : Option Addr) (n c : Nat) (w : World) : Calls Tryz.prog 44 #[.slice a n c] w fun e w' => e = .returned (.func (.func 72) #[] #[.pointer (some ⟨w.heap.size, 0, none⟩)]) ∧ w' = w.alloc (.cells #[.slice a n c] 51) := by
 go_enter Tryz.func44, Tryz.ntmps44
 go_wp2
 go_ret
 exact ⟨rfl, rfl⟩
end Go.Proofs.YtjllbchfojonhaaGreatDoor
