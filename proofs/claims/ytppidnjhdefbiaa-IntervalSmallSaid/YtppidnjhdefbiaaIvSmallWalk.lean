/- The law IntervalSmall: its walk, joined. -/
import Derived.Test.YtppidnjhdefbiaaIvSmallA
import Derived.Test.YtppidnjhdefbiaaIvSmallB
import Derived.Test.YtppidnjhdefbiaaIvSmallC
import Derived.Test.YtppidnjhdefbiaaIvSmallD
import Derived.Test.YtppidnjhdefbiaaIvSmallE
namespace Go.Proofs.Ytppidnjhdefbiaa
open Go.RowKit
set_option linter.unusedVariables false

theorem inI_of_wf {n : Int} (h : (Lit.int .i64 n).wf = true) : inI n = true := by
  rw [inI_iff]
  simpa [Lit.wf, IntKind.min, IntKind.max, IntKind.signed, IntKind.bits] using h
theorem u8_of_wf {n : Int} (h : (Lit.int .u8 n).wf = true) : 0 ≤ n ∧ n ≤ 255 := by
  simpa [Lit.wf, IntKind.min, IntKind.max, IntKind.signed, IntKind.bits] using h

theorem walkIntervalSmall (op num p q l m n k : Int) (w0 : (Lit.int .i64 op).wf = true) (w1 : (Lit.int .i64 num).wf = true) (w2 : (Lit.int .i64 p).wf = true) (w3 : (Lit.int .i64 q).wf = true) (w4 : (Lit.int .u8 l).wf = true) (w5 : (Lit.int .u8 m).wf = true) (w6 : (Lit.int .u8 n).wf = true) (w7 : (Lit.int .u8 k).wf = true) (w : World) :
    Calls Try.prog 16 #[.int .i64 op, .int .i64 num, .int .i64 p, .int .i64 q, .int .u8 l, .int .u8 m, .int .u8 n, .int .u8 k] w fun e w' => e = .returned (.bool true) ∧ Below w.heap.size w w' := by
  have hp := inI_of_wf w2
  have hq := inI_of_wf w3
  obtain ⟨hl0, hl⟩ := u8_of_wf w4
  obtain ⟨hm0, hm⟩ := u8_of_wf w5
  obtain ⟨hn0, hn⟩ := u8_of_wf w6
  obtain ⟨hk0, hk⟩ := u8_of_wf w7
  by_cases n5 : op = 5
  · subst n5; exact ismall_div num p q l m n k hp hq hl0 hl hm0 hm hn0 hn hk0 hk w
  by_cases n7 : op = 7
  · subst n7; exact ismall_eq num p q l m n k hp hq hl0 hl hm0 hm hn0 hn hk0 hk w
  by_cases n8 : op = 8
  · subst n8; exact ismall_lt num p q l m n k hp hq hl0 hl hm0 hm hn0 hn hk0 hk w
  by_cases n9 : op = 9
  · subst n9; exact ismall_le num p q l m n k hp hq hl0 hl hm0 hm hn0 hn hk0 hk w
  exact ismall_other op num p q l m n k (by omega) hp hq hl0 hl hm0 hm hn0 hn hk0 hk w
end Go.Proofs.Ytppidnjhdefbiaa
