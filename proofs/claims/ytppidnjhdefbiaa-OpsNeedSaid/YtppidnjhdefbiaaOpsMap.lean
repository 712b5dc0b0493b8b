/- Package ops: a map of numbers that a call makes, entry by entry. -/
import Derived.Test.YtppidnjhdefbiaaFactsMem
import Derived.MapKept
namespace Go.Proofs.Ytppidnjhdefbiaa
open Go.RowKit
open Go.MapKept (run_getObj_map run_setObj_map run_checkKey run_findKey heap_set IsKey)
set_option linter.unusedVariables false
set_option linter.unusedSimpArgs false

theorem run_put (W : World) (b : Nat) (es : Array MapEntry) (cl : Nat) (hb : W.heap[b]? = some (.map es cl)) (key val : Int) (hf : Instr.findNow (.int .i64) (.int .i64 key) es.toList 0 = some none) :
    (Instr.mapUpdate 80 (.map (some b)) (.int .i64 key) (.int .i64 val)).run Try.prog W = .ok () { W with heap := W.heap.setIfInBounds b (.map (es.push ⟨.int .i64 key, .int .i64 val, cl⟩) (cl + 1)) } := by
  have hk : ∀ w, (Instr.findKey 44 (.int .i64 key) es.toList).run Try.prog w = .ok none w := fun w => run_findKey Try.underlying44 hf
  have hc : ∀ w, (Instr.checkKey false 10000 44 (.int .i64 key)).run Try.prog w = .ok () w := fun w => Go.MapKept.run_checkKey Try.underlying44 (by simp [IsKey]) false 9999
  have hg := Go.MapKept.run_getObj_map (P := Try.prog) hb
  have hs := Go.MapKept.run_setObj_map (P := Try.prog) (.map (es.push ⟨.int .i64 key, .int .i64 val, cl⟩) (cl + 1)) hb
  unfold Instr.mapUpdate
  simp only [Sem.run_bind, run_underlying Try.underlying80, Result.andThen_ok, hg, hc, hk]
  exact hs

/-- where the key is none of them -/
theorem run_look (W : World) (b : Nat) (es : Array MapEntry) (cl : Nat) (hb : W.heap[b]? = some (.map es cl)) (key : Int) (q : Option (Nat × Value)) (hf : Instr.findNow (.int .i64) (.int .i64 key) es.toList 0 = some q) :
    (Instr.lookup 80 (.map (some b)) (.int .i64 key) true).run Try.prog W = .ok (match q with | some (_, v) => .tuple #[v, .bool true] | none => .tuple #[.int .i64 0, .bool false]) W := by
  have hk : ∀ w, (Instr.findKey 44 (.int .i64 key) es.toList).run Try.prog w = .ok q w := fun w => run_findKey Try.underlying44 hf
  have hc : ∀ e w, (Instr.checkKey e 10000 44 (.int .i64 key)).run Try.prog w = .ok () w := fun e w => Go.MapKept.run_checkKey Try.underlying44 (by simp [IsKey]) e 9999
  have hg := Go.MapKept.run_getObj_map (P := Try.prog) hb
  have hz : ∀ w, (zeroValue 44).run Try.prog w = .ok (.int .i64 0) w := fun w => by kernel_rfl
  unfold Instr.lookup
  simp only [Sem.run_bind, run_underlying Try.underlying80, Result.andThen_ok, hg, Sem.run_pure, hc, hk, if_true]
  cases q with
  | none => simp only [Sem.run_bind, Result.andThen_ok, hz, Sem.run_pure]
  | some p => obtain ⟨i, v⟩ := p; simp only [Sem.run_bind, Result.andThen_ok, Sem.run_pure]
theorem wpList_put {ops : Array Oper} {rest : List Oper} {o : Oper} {a : Act} {Q : Exit → Act → World → Prop} (w : World) (hg : o.guard = none) (m x v : Operand) (hop : o.op = Op.insert 80 m x v)
    (b : Nat) (es : Array MapEntry) (cl : Nat) (key val : Int) (hm : a.eval m = .map (some b)) (hx : a.eval x = .int .i64 key) (hv : a.eval v = .int .i64 val) (hb : w.heap[b]? = some (.map es cl)) (hf : Instr.findNow (.int .i64) (.int .i64 key) es.toList 0 = some none)
    (hK : ∀ w', w'.heap[b]? = some (.map (es.push ⟨.int .i64 key, .int .i64 val, cl⟩) (cl + 1)) → Keeps w w' [b] → wpList Try.prog ops Q rest (a.put o.dst undef) w') : wpList Try.prog ops Q (o :: rest) a w := by
  refine wpList_plain hg fun K' hK' => ?_
  have hrun := run_put w b es cl hb key val hf
  unfold Oper.wp
  simp [execOp, hop, hm, hx, hv, hrun, Result.andThen]
  refine hK' _ _ (hK _ (heap_set hb).1 ⟨rfl, rfl, rfl, by simp, fun i hi hn => (heap_set hb).2 i (by simpa using hn)⟩)
end Go.Proofs.Ytppidnjhdefbiaa
