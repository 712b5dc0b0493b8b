/- Package ops: the table of the operations, and the contracts of kinds, is, of, Word. -/
import Derived.Test.YtjllbchfojonhaaDoorMem
import Derived.Test.YtjllbchfojonhaaDoorOpened
import Derived.Laws.Tables
import Derived.Laws.Rows
namespace Go.Proofs.YtjllbchfojonhaaDoor
open Go.RowKit
set_option linter.unusedVariables false

/-- an operation's word, what it takes, what it makes -/
def kword : Nat → ByteArray
  | 0 => ⟨#[99, 111, 110, 115, 116]⟩
  | 1 => ⟨#[99, 111, 112, 121]⟩
  | 2 => ⟨#[97, 100, 100]⟩
  | 3 => ⟨#[115, 117, 98]⟩
  | 4 => ⟨#[109, 117, 108]⟩
  | 5 => ⟨#[100, 105, 118]⟩
  | 6 => ⟨#[114, 101, 109]⟩
  | 7 => ⟨#[101, 113]⟩
  | 8 => ⟨#[108, 116]⟩
  | 9 => ⟨#[108, 101]⟩
  | 10 => ⟨#[110, 111, 116]⟩
  | 11 => ⟨#[97, 110, 100]⟩
  | 12 => ⟨#[108, 101, 110]⟩
  | 13 => ⟨#[108, 111, 97, 100]⟩
  | 14 => ⟨#[115, 116, 111, 114, 101]⟩
  | 15 => ⟨#[110, 101, 119]⟩
  | 16 => ⟨#[110, 105, 108]⟩
  | 17 => ⟨#[111, 117, 116]⟩
  | 18 => ⟨#[99, 104, 107, 105, 100, 120]⟩
  | 19 => ⟨#[99, 104, 107, 110, 105, 108]⟩
  | 20 => ⟨#[99, 104, 107, 100, 105, 118]⟩
  | 21 => ⟨#[99, 104, 107, 97, 100, 100]⟩
  | 22 => ⟨#[99, 104, 107, 115, 117, 98]⟩
  | 23 => ⟨#[99, 104, 107, 109, 117, 108]⟩
  | 24 => ⟨#[99, 104, 107, 108, 101, 110]⟩
  | 25 => ⟨#[112, 105]⟩
  | 26 => ⟨#[112, 105, 108, 101, 110]⟩
  | _ => ⟨#[]⟩
def ktakes : Nat → ByteArray
  | 0 => ⟨#[]⟩
  | 1 => ⟨#[105]⟩
  | 2 => ⟨#[105, 105]⟩
  | 3 => ⟨#[105, 105]⟩
  | 4 => ⟨#[105, 105]⟩
  | 5 => ⟨#[105, 105]⟩
  | 6 => ⟨#[105, 105]⟩
  | 7 => ⟨#[105, 105]⟩
  | 8 => ⟨#[105, 105]⟩
  | 9 => ⟨#[105, 105]⟩
  | 10 => ⟨#[98]⟩
  | 11 => ⟨#[98, 98]⟩
  | 12 => ⟨#[97]⟩
  | 13 => ⟨#[97, 105]⟩
  | 14 => ⟨#[97, 105, 105]⟩
  | 15 => ⟨#[105]⟩
  | 16 => ⟨#[]⟩
  | 17 => ⟨#[105]⟩
  | 18 => ⟨#[97, 105]⟩
  | 19 => ⟨#[97]⟩
  | 20 => ⟨#[105]⟩
  | 21 => ⟨#[105, 105]⟩
  | 22 => ⟨#[105, 105]⟩
  | 23 => ⟨#[105, 105]⟩
  | 24 => ⟨#[105]⟩
  | 25 => ⟨#[105, 105]⟩
  | 26 => ⟨#[105, 97]⟩
  | _ => ⟨#[]⟩
def kmakes : Nat → ByteArray
  | 0 => ⟨#[105]⟩
  | 1 => ⟨#[105]⟩
  | 2 => ⟨#[105]⟩
  | 3 => ⟨#[105]⟩
  | 4 => ⟨#[105]⟩
  | 5 => ⟨#[105]⟩
  | 6 => ⟨#[105]⟩
  | 7 => ⟨#[98]⟩
  | 8 => ⟨#[98]⟩
  | 9 => ⟨#[98]⟩
  | 10 => ⟨#[98]⟩
  | 11 => ⟨#[98]⟩
  | 12 => ⟨#[105]⟩
  | 13 => ⟨#[105]⟩
  | 14 => ⟨#[]⟩
  | 15 => ⟨#[97]⟩
  | 16 => ⟨#[97]⟩
  | 17 => ⟨#[]⟩
  | 18 => ⟨#[]⟩
  | 19 => ⟨#[]⟩
  | 20 => ⟨#[]⟩
  | 21 => ⟨#[]⟩
  | 22 => ⟨#[]⟩
  | 23 => ⟨#[]⟩
  | 24 => ⟨#[]⟩
  | 25 => ⟨#[105]⟩
  | 26 => ⟨#[105]⟩
  | _ => ⟨#[]⟩
/-- the whole table, cell by cell -/
def kcells : Array Value := #[.string ⟨#[99, 111, 110, 115, 116]⟩, .string ⟨#[]⟩, .string ⟨#[105]⟩, .string ⟨#[99, 111, 112, 121]⟩, .string ⟨#[105]⟩, .string ⟨#[105]⟩, .string ⟨#[97, 100, 100]⟩, .string ⟨#[105, 105]⟩, .string ⟨#[105]⟩, .string ⟨#[115, 117, 98]⟩, .string ⟨#[105, 105]⟩, .string ⟨#[105]⟩, .string ⟨#[109, 117, 108]⟩, .string ⟨#[105, 105]⟩, .string ⟨#[105]⟩, .string ⟨#[100, 105, 118]⟩, .string ⟨#[105, 105]⟩, .string ⟨#[105]⟩, .string ⟨#[114, 101, 109]⟩, .string ⟨#[105, 105]⟩, .string ⟨#[105]⟩, .string ⟨#[101, 113]⟩, .string ⟨#[105, 105]⟩, .string ⟨#[98]⟩, .string ⟨#[108, 116]⟩, .string ⟨#[105, 105]⟩, .string ⟨#[98]⟩, .string ⟨#[108, 101]⟩, .string ⟨#[105, 105]⟩, .string ⟨#[98]⟩, .string ⟨#[110, 111, 116]⟩, .string ⟨#[98]⟩, .string ⟨#[98]⟩, .string ⟨#[97, 110, 100]⟩, .string ⟨#[98, 98]⟩, .string ⟨#[98]⟩, .string ⟨#[108, 101, 110]⟩, .string ⟨#[97]⟩, .string ⟨#[105]⟩, .string ⟨#[108, 111, 97, 100]⟩, .string ⟨#[97, 105]⟩, .string ⟨#[105]⟩, .string ⟨#[115, 116, 111, 114, 101]⟩, .string ⟨#[97, 105, 105]⟩, .string ⟨#[]⟩, .string ⟨#[110, 101, 119]⟩, .string ⟨#[105]⟩, .string ⟨#[97]⟩, .string ⟨#[110, 105, 108]⟩, .string ⟨#[]⟩, .string ⟨#[97]⟩, .string ⟨#[111, 117, 116]⟩, .string ⟨#[105]⟩, .string ⟨#[]⟩, .string ⟨#[99, 104, 107, 105, 100, 120]⟩, .string ⟨#[97, 105]⟩, .string ⟨#[]⟩, .string ⟨#[99, 104, 107, 110, 105, 108]⟩, .string ⟨#[97]⟩, .string ⟨#[]⟩, .string ⟨#[99, 104, 107, 100, 105, 118]⟩, .string ⟨#[105]⟩, .string ⟨#[]⟩, .string ⟨#[99, 104, 107, 97, 100, 100]⟩, .string ⟨#[105, 105]⟩, .string ⟨#[]⟩, .string ⟨#[99, 104, 107, 115, 117, 98]⟩, .string ⟨#[105, 105]⟩, .string ⟨#[]⟩, .string ⟨#[99, 104, 107, 109, 117, 108]⟩, .string ⟨#[105, 105]⟩, .string ⟨#[]⟩, .string ⟨#[99, 104, 107, 108, 101, 110]⟩, .string ⟨#[105]⟩, .string ⟨#[]⟩, .string ⟨#[112, 105]⟩, .string ⟨#[105, 105]⟩, .string ⟨#[105]⟩, .string ⟨#[112, 105, 108, 101, 110]⟩, .string ⟨#[105, 97]⟩, .string ⟨#[105]⟩]
set_option maxRecDepth 100000 in
theorem kidx_0 (w : World) : (Instr.index 158 (.agg kcells) (.int .i64 0)).run Tryd.prog w = .ok (.agg #[.string ⟨#[99, 111, 110, 115, 116]⟩, .string ⟨#[]⟩, .string ⟨#[105]⟩]) w := by kernel_rfl
set_option maxRecDepth 100000 in
theorem kidx_1 (w : World) : (Instr.index 158 (.agg kcells) (.int .i64 1)).run Tryd.prog w = .ok (.agg #[.string ⟨#[99, 111, 112, 121]⟩, .string ⟨#[105]⟩, .string ⟨#[105]⟩]) w := by kernel_rfl
set_option maxRecDepth 100000 in
theorem kidx_2 (w : World) : (Instr.index 158 (.agg kcells) (.int .i64 2)).run Tryd.prog w = .ok (.agg #[.string ⟨#[97, 100, 100]⟩, .string ⟨#[105, 105]⟩, .string ⟨#[105]⟩]) w := by kernel_rfl
set_option maxRecDepth 100000 in
theorem kidx_3 (w : World) : (Instr.index 158 (.agg kcells) (.int .i64 3)).run Tryd.prog w = .ok (.agg #[.string ⟨#[115, 117, 98]⟩, .string ⟨#[105, 105]⟩, .string ⟨#[105]⟩]) w := by kernel_rfl
set_option maxRecDepth 100000 in
theorem kidx_4 (w : World) : (Instr.index 158 (.agg kcells) (.int .i64 4)).run Tryd.prog w = .ok (.agg #[.string ⟨#[109, 117, 108]⟩, .string ⟨#[105, 105]⟩, .string ⟨#[105]⟩]) w := by kernel_rfl
set_option maxRecDepth 100000 in
theorem kidx_5 (w : World) : (Instr.index 158 (.agg kcells) (.int .i64 5)).run Tryd.prog w = .ok (.agg #[.string ⟨#[100, 105, 118]⟩, .string ⟨#[105, 105]⟩, .string ⟨#[105]⟩]) w := by kernel_rfl
set_option maxRecDepth 100000 in
theorem kidx_6 (w : World) : (Instr.index 158 (.agg kcells) (.int .i64 6)).run Tryd.prog w = .ok (.agg #[.string ⟨#[114, 101, 109]⟩, .string ⟨#[105, 105]⟩, .string ⟨#[105]⟩]) w := by kernel_rfl
set_option maxRecDepth 100000 in
theorem kidx_7 (w : World) : (Instr.index 158 (.agg kcells) (.int .i64 7)).run Tryd.prog w = .ok (.agg #[.string ⟨#[101, 113]⟩, .string ⟨#[105, 105]⟩, .string ⟨#[98]⟩]) w := by kernel_rfl
set_option maxRecDepth 100000 in
theorem kidx_8 (w : World) : (Instr.index 158 (.agg kcells) (.int .i64 8)).run Tryd.prog w = .ok (.agg #[.string ⟨#[108, 116]⟩, .string ⟨#[105, 105]⟩, .string ⟨#[98]⟩]) w := by kernel_rfl
set_option maxRecDepth 100000 in
theorem kidx_9 (w : World) : (Instr.index 158 (.agg kcells) (.int .i64 9)).run Tryd.prog w = .ok (.agg #[.string ⟨#[108, 101]⟩, .string ⟨#[105, 105]⟩, .string ⟨#[98]⟩]) w := by kernel_rfl
set_option maxRecDepth 100000 in
theorem kidx_10 (w : World) : (Instr.index 158 (.agg kcells) (.int .i64 10)).run Tryd.prog w = .ok (.agg #[.string ⟨#[110, 111, 116]⟩, .string ⟨#[98]⟩, .string ⟨#[98]⟩]) w := by kernel_rfl
set_option maxRecDepth 100000 in
theorem kidx_11 (w : World) : (Instr.index 158 (.agg kcells) (.int .i64 11)).run Tryd.prog w = .ok (.agg #[.string ⟨#[97, 110, 100]⟩, .string ⟨#[98, 98]⟩, .string ⟨#[98]⟩]) w := by kernel_rfl
set_option maxRecDepth 100000 in
theorem kidx_12 (w : World) : (Instr.index 158 (.agg kcells) (.int .i64 12)).run Tryd.prog w = .ok (.agg #[.string ⟨#[108, 101, 110]⟩, .string ⟨#[97]⟩, .string ⟨#[105]⟩]) w := by kernel_rfl
set_option maxRecDepth 100000 in
theorem kidx_13 (w : World) : (Instr.index 158 (.agg kcells) (.int .i64 13)).run Tryd.prog w = .ok (.agg #[.string ⟨#[108, 111, 97, 100]⟩, .string ⟨#[97, 105]⟩, .string ⟨#[105]⟩]) w := by kernel_rfl
set_option maxRecDepth 100000 in
theorem kidx_14 (w : World) : (Instr.index 158 (.agg kcells) (.int .i64 14)).run Tryd.prog w = .ok (.agg #[.string ⟨#[115, 116, 111, 114, 101]⟩, .string ⟨#[97, 105, 105]⟩, .string ⟨#[]⟩]) w := by kernel_rfl
set_option maxRecDepth 100000 in
theorem kidx_15 (w : World) : (Instr.index 158 (.agg kcells) (.int .i64 15)).run Tryd.prog w = .ok (.agg #[.string ⟨#[110, 101, 119]⟩, .string ⟨#[105]⟩, .string ⟨#[97]⟩]) w := by kernel_rfl
set_option maxRecDepth 100000 in
theorem kidx_16 (w : World) : (Instr.index 158 (.agg kcells) (.int .i64 16)).run Tryd.prog w = .ok (.agg #[.string ⟨#[110, 105, 108]⟩, .string ⟨#[]⟩, .string ⟨#[97]⟩]) w := by kernel_rfl
set_option maxRecDepth 100000 in
theorem kidx_17 (w : World) : (Instr.index 158 (.agg kcells) (.int .i64 17)).run Tryd.prog w = .ok (.agg #[.string ⟨#[111, 117, 116]⟩, .string ⟨#[105]⟩, .string ⟨#[]⟩]) w := by kernel_rfl
set_option maxRecDepth 100000 in
theorem kidx_18 (w : World) : (Instr.index 158 (.agg kcells) (.int .i64 18)).run Tryd.prog w = .ok (.agg #[.string ⟨#[99, 104, 107, 105, 100, 120]⟩, .string ⟨#[97, 105]⟩, .string ⟨#[]⟩]) w := by kernel_rfl
set_option maxRecDepth 100000 in
theorem kidx_19 (w : World) : (Instr.index 158 (.agg kcells) (.int .i64 19)).run Tryd.prog w = .ok (.agg #[.string ⟨#[99, 104, 107, 110, 105, 108]⟩, .string ⟨#[97]⟩, .string ⟨#[]⟩]) w := by kernel_rfl
set_option maxRecDepth 100000 in
theorem kidx_20 (w : World) : (Instr.index 158 (.agg kcells) (.int .i64 20)).run Tryd.prog w = .ok (.agg #[.string ⟨#[99, 104, 107, 100, 105, 118]⟩, .string ⟨#[105]⟩, .string ⟨#[]⟩]) w := by kernel_rfl
set_option maxRecDepth 100000 in
theorem kidx_21 (w : World) : (Instr.index 158 (.agg kcells) (.int .i64 21)).run Tryd.prog w = .ok (.agg #[.string ⟨#[99, 104, 107, 97, 100, 100]⟩, .string ⟨#[105, 105]⟩, .string ⟨#[]⟩]) w := by kernel_rfl
set_option maxRecDepth 100000 in
theorem kidx_22 (w : World) : (Instr.index 158 (.agg kcells) (.int .i64 22)).run Tryd.prog w = .ok (.agg #[.string ⟨#[99, 104, 107, 115, 117, 98]⟩, .string ⟨#[105, 105]⟩, .string ⟨#[]⟩]) w := by kernel_rfl
set_option maxRecDepth 100000 in
theorem kidx_23 (w : World) : (Instr.index 158 (.agg kcells) (.int .i64 23)).run Tryd.prog w = .ok (.agg #[.string ⟨#[99, 104, 107, 109, 117, 108]⟩, .string ⟨#[105, 105]⟩, .string ⟨#[]⟩]) w := by kernel_rfl
set_option maxRecDepth 100000 in
theorem kidx_24 (w : World) : (Instr.index 158 (.agg kcells) (.int .i64 24)).run Tryd.prog w = .ok (.agg #[.string ⟨#[99, 104, 107, 108, 101, 110]⟩, .string ⟨#[105]⟩, .string ⟨#[]⟩]) w := by kernel_rfl
set_option maxRecDepth 100000 in
theorem kidx_25 (w : World) : (Instr.index 158 (.agg kcells) (.int .i64 25)).run Tryd.prog w = .ok (.agg #[.string ⟨#[112, 105]⟩, .string ⟨#[105, 105]⟩, .string ⟨#[105]⟩]) w := by kernel_rfl
set_option maxRecDepth 100000 in
theorem kidx_26 (w : World) : (Instr.index 158 (.agg kcells) (.int .i64 26)).run Tryd.prog w = .ok (.agg #[.string ⟨#[112, 105, 108, 101, 110]⟩, .string ⟨#[105, 97]⟩, .string ⟨#[105]⟩]) w := by kernel_rfl
set_option maxRecDepth 100000 in
theorem kindex (k : Nat) (hk : k < 27) (w : World) : (Instr.index 158 (.agg kcells) (.int .i64 k)).run Tryd.prog w = .ok (.agg #[.string (kword k), .string (ktakes k), .string (kmakes k)]) w :=
  match k, hk with
  | 0, _ => kidx_0 w
  | 1, _ => kidx_1 w
  | 2, _ => kidx_2 w
  | 3, _ => kidx_3 w
  | 4, _ => kidx_4 w
  | 5, _ => kidx_5 w
  | 6, _ => kidx_6 w
  | 7, _ => kidx_7 w
  | 8, _ => kidx_8 w
  | 9, _ => kidx_9 w
  | 10, _ => kidx_10 w
  | 11, _ => kidx_11 w
  | 12, _ => kidx_12 w
  | 13, _ => kidx_13 w
  | 14, _ => kidx_14 w
  | 15, _ => kidx_15 w
  | 16, _ => kidx_16 w
  | 17, _ => kidx_17 w
  | 18, _ => kidx_18 w
  | 19, _ => kidx_19 w
  | 20, _ => kidx_20 w
  | 21, _ => kidx_21 w
  | 22, _ => kidx_22 w
  | 23, _ => kidx_23 w
  | 24, _ => kidx_24 w
  | 25, _ => kidx_25 w
  | 26, _ => kidx_26 w
  | n + 27, h => absurd h (by omega)

theorem is_yes (k : Nat) (hk : k < 27) (w : World) : Calls Tryd.prog 109 #[.int .i64 k] w fun e w' => e = .returned (.bool true) ∧ w = w' := by
  go_enter Tryd.func109, Tryd.ntmps109
  go_wp2
  go_ret
  exact ⟨ret_bool (by simp; omega), rfl⟩
theorem is_no (op : Int) (h : op < 0 ∨ 27 ≤ op) (w : World) : Calls Tryd.prog 109 #[.int .i64 op] w fun e w' => e = .returned (.bool false) ∧ w = w' := by
  rcases Bool.eq_false_or_eq_true (decide (0 ≤ op)) with h0 | h0
  · have h1 : ¬ op < 27 := by simp at h0; omega
    clear h
    go_enter Tryd.func109, Tryd.ntmps109
    go_wp2
    go_ret
    exact ⟨by first | rfl | simp [h1], rfl⟩
  · clear h
    go_enter Tryd.func109, Tryd.ntmps109
    go_wp2
    go_ret
    exact ⟨rfl, rfl⟩

theorem keeps_row (w : World) (o : Obj) (cs : Array Value) : Keeps w ((w.alloc o).setRow w.heap.size cs) [] :=
  ⟨rfl, rfl, rfl, by simp, fun k hk _ => (setRow_other _ _ _ _ (by omega)).trans (Below.heap_alloc w o k hk)⟩

theorem wpList_build_cells {P : Program} {ops : Array Oper} {rest : List Oper} {o : Oper} {a : Act} {w : World} {Q : Exit → Act → World → Prop} (hg : o.guard = none) (t : TypeId) (parts : Array (Nat × Operand)) (ho : o.op = .build t parts) (cells : Array Value)
    (hc : P.built t (parts.map fun (i, x) => (i, a.eval x)).toList = some cells) (h : wpList P ops Q rest (a.put o.dst (.agg cells)) w) : wpList P ops Q (o :: rest) a w :=
  wpList_build hg t parts ho (by rw [hc]; rfl) (by rw [hc]; exact h)

set_option maxRecDepth 100000 in
set_option maxHeartbeats 8000000 in
theorem kinds_any (w : World) : Calls Tryd.prog 110 #[] w fun e w' => e = .returned (.agg kcells) ∧ Keeps w w' [] := by
  go_enter Tryd.func110, Tryd.ntmps110
  go_wp2_with (first | (refine wpList_build_cells rfl 158 _ rfl kcells (by kernel_rfl) ?_) | (refine wpList_store_row rfl 158 _ _ rfl w.heap.size kcells rfl rfl 158 _ (heap_alloc_new w _) (by kernel_rfl) (by kernel_rfl) (by kernel_rfl) ?_))
  exact bodyPost_ret (v := .agg kcells) (results_cell_row Tryd.results110 _ _ w.heap.size 158 kcells (0, 0) _ rfl (setRow_heap _ _ _ _ _ _ (heap_alloc_new w _)) Tryd.underlying158 rfl (by kernel_rfl)) rfl ⟨rfl, keeps_row w _ _⟩
end Go.Proofs.YtjllbchfojonhaaDoor
