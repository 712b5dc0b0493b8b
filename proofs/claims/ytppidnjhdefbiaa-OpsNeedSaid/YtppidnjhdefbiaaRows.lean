/-
  No cell of these rows narrows 'for every input' (looked for: loops, veiled, ifaces, maps, wideKeys, modest, calm, conditions, laid).
  DERIVED. THE GIVEN ROWS OF THIS SEAT. 16 by the template 'for every input the law returns true; each argument reads behind the call as it read before'; 0 by the template 'total and deterministic' (their statements: YtppidnjhdefbiaaTotals.lean).
  GIVEN WITH THE SEED: the statements are not yours to turn. If you find one false, say at which input.
  Laid BY PROGRAM, IN A SANDBOX (cutbox-rows.mjs): the forced cells as the released guide's own fill.sh prints them over the translation 1140c6e035472004… (all of the seat's roots in one cut). By AI agents, Wed Nov 11 2026. No macro, syntax, notation, axiom, sorry.
-/
import Derived.Test.YtppidnjhdefbiaaChecked
import GoSem.Claim
import GoSem.ClaimJoined
import GoSem.ClaimMapViews
import Derived.JoinedTies
import Derived.KernelRfl
namespace Go.Proofs.Ytppidnjhdefbiaa
/- THE CELL 'sum', in the pinned program and in every row, IS THE sha256 OF THE DUMP (.gsa) THAT YtppidnjhdefbiaaProg.lean LOADS. Nothing in Lean hashes anything: it is a label: what it is worth is what the hold of that sum in a sandbox is worth. -/
noncomputable def Try.pinned : Pinned := { name := "ytppidnjhdefbiaa", sum := "1140c6e035472004e47eb3e624929fc63ec10a8d4ce3917ae334773581947c64", checked := Try.checked }
namespace Rows
def none {H : Type} : Left H := { results := [], args := [] }

/-- 'checkreinlaw02.ArithDivides': WHATEVER THE INPUT: true; the input reads as it did. -/
def arithDividesSpec : ChangeSpec := { name := "arithDivides", fn := fun _ => fun
  | [d1, d2] => { results := [.lit (.bool true)], args := [d1, d2] }
  | _ => none }
def arithDividesRow : OpenClaim := { program := "ytppidnjhdefbiaa", sum := "1140c6e035472004e47eb3e624929fc63ec10a8d4ce3917ae334773581947c64", func := "checkrein/checkreinlaw02.ArithDivides", spec := "arithDivides", apart := false }
def ArithDividesSaid : Prop := arithDividesRow.holds Try.pinned (OpenSpec.ofChange arithDividesSpec)

/-- ITS FALSE NEIGHBOUR: 'it returns false'. Refute it at one input. -/
def arithDividesWrong : ChangeSpec := { name := "arithDivides", fn := fun _ => fun
  | [d1, d2] => { results := [.lit (.bool false)], args := [d1, d2] }
  | _ => none }
def ArithDividesWrongFalsely : Prop := arithDividesRow.holds Try.pinned (OpenSpec.ofChange arithDividesWrong)

/-- 'checkreinlaw02.ArithSat': WHATEVER THE INPUT: true; the input reads as it did. -/
def arithSatSpec : ChangeSpec := { name := "arithSat", fn := fun _ => fun
  | [d1, d2] => { results := [.lit (.bool true)], args := [d1, d2] }
  | _ => none }
def arithSatRow : OpenClaim := { program := "ytppidnjhdefbiaa", sum := "1140c6e035472004e47eb3e624929fc63ec10a8d4ce3917ae334773581947c64", func := "checkrein/checkreinlaw02.ArithSat", spec := "arithSat", apart := false }
def ArithSatSaid : Prop := arithSatRow.holds Try.pinned (OpenSpec.ofChange arithSatSpec)

/-- ITS FALSE NEIGHBOUR: 'it returns false'. Refute it at one input. -/
def arithSatWrong : ChangeSpec := { name := "arithSat", fn := fun _ => fun
  | [d1, d2] => { results := [.lit (.bool false)], args := [d1, d2] }
  | _ => none }
def ArithSatWrongFalsely : Prop := arithSatRow.holds Try.pinned (OpenSpec.ofChange arithSatWrong)

/-- 'checkreinlaw02.ArithTells': WHATEVER THE INPUT: true; the input reads as it did. -/
def arithTellsSpec : ChangeSpec := { name := "arithTells", fn := fun _ => fun
  | [d1, d2] => { results := [.lit (.bool true)], args := [d1, d2] }
  | _ => none }
def arithTellsRow : OpenClaim := { program := "ytppidnjhdefbiaa", sum := "1140c6e035472004e47eb3e624929fc63ec10a8d4ce3917ae334773581947c64", func := "checkrein/checkreinlaw02.ArithTells", spec := "arithTells", apart := false }
def ArithTellsSaid : Prop := arithTellsRow.holds Try.pinned (OpenSpec.ofChange arithTellsSpec)

/-- ITS FALSE NEIGHBOUR: 'it returns false'. Refute it at one input. -/
def arithTellsWrong : ChangeSpec := { name := "arithTells", fn := fun _ => fun
  | [d1, d2] => { results := [.lit (.bool false)], args := [d1, d2] }
  | _ => none }
def ArithTellsWrongFalsely : Prop := arithTellsRow.holds Try.pinned (OpenSpec.ofChange arithTellsWrong)

/-- 'checkreinlaw25.FactsSound': WHATEVER THE INPUT: true; the input reads as it did. -/
def factsSoundSpec : ChangeSpec := { name := "factsSound", fn := fun _ => fun
  | [d1, d2, d3, d4] => { results := [.lit (.bool true)], args := [d1, d2, d3, d4] }
  | _ => none }
def factsSoundRow : OpenClaim := { program := "ytppidnjhdefbiaa", sum := "1140c6e035472004e47eb3e624929fc63ec10a8d4ce3917ae334773581947c64", func := "checkrein/checkreinlaw25.FactsSound", spec := "factsSound", apart := false }
def FactsSoundSaid : Prop := factsSoundRow.holds Try.pinned (OpenSpec.ofChange factsSoundSpec)

/-- ITS FALSE NEIGHBOUR: 'it returns false'. Refute it at one input. -/
def factsSoundWrong : ChangeSpec := { name := "factsSound", fn := fun _ => fun
  | [d1, d2, d3, d4] => { results := [.lit (.bool false)], args := [d1, d2, d3, d4] }
  | _ => none }
def FactsSoundWrongFalsely : Prop := factsSoundRow.holds Try.pinned (OpenSpec.ofChange factsSoundWrong)

/-- 'checkreinlaw25.FactsChain': WHATEVER THE INPUT: true; the input reads as it did. -/
def factsChainSpec : ChangeSpec := { name := "factsChain", fn := fun _ => fun
  | [d1, d2] => { results := [.lit (.bool true)], args := [d1, d2] }
  | _ => none }
def factsChainRow : OpenClaim := { program := "ytppidnjhdefbiaa", sum := "1140c6e035472004e47eb3e624929fc63ec10a8d4ce3917ae334773581947c64", func := "checkrein/checkreinlaw25.FactsChain", spec := "factsChain", apart := false }
def FactsChainSaid : Prop := factsChainRow.holds Try.pinned (OpenSpec.ofChange factsChainSpec)

/-- ITS FALSE NEIGHBOUR: 'it returns false'. Refute it at one input. -/
def factsChainWrong : ChangeSpec := { name := "factsChain", fn := fun _ => fun
  | [d1, d2] => { results := [.lit (.bool false)], args := [d1, d2] }
  | _ => none }
def FactsChainWrongFalsely : Prop := factsChainRow.holds Try.pinned (OpenSpec.ofChange factsChainWrong)

/-- 'checkreinlaw25.FactsBack': WHATEVER THE INPUT: true; the input reads as it did. -/
def factsBackSpec : ChangeSpec := { name := "factsBack", fn := fun _ => fun
  | [d1, d2, d3, d4, d5] => { results := [.lit (.bool true)], args := [d1, d2, d3, d4, d5] }
  | _ => none }
def factsBackRow : OpenClaim := { program := "ytppidnjhdefbiaa", sum := "1140c6e035472004e47eb3e624929fc63ec10a8d4ce3917ae334773581947c64", func := "checkrein/checkreinlaw25.FactsBack", spec := "factsBack", apart := false }
def FactsBackSaid : Prop := factsBackRow.holds Try.pinned (OpenSpec.ofChange factsBackSpec)

/-- ITS FALSE NEIGHBOUR: 'it returns false'. Refute it at one input. -/
def factsBackWrong : ChangeSpec := { name := "factsBack", fn := fun _ => fun
  | [d1, d2, d3, d4, d5] => { results := [.lit (.bool false)], args := [d1, d2, d3, d4, d5] }
  | _ => none }
def FactsBackWrongFalsely : Prop := factsBackRow.holds Try.pinned (OpenSpec.ofChange factsBackWrong)

/-- 'checkreinlaw25.FactsFull': WHATEVER THE INPUT: true; the input reads as it did. -/
def factsFullSpec : ChangeSpec := { name := "factsFull", fn := fun _ => fun
  | [d] => { results := [.lit (.bool true)], args := [d] }
  | _ => none }
def factsFullRow : OpenClaim := { program := "ytppidnjhdefbiaa", sum := "1140c6e035472004e47eb3e624929fc63ec10a8d4ce3917ae334773581947c64", func := "checkrein/checkreinlaw25.FactsFull", spec := "factsFull", apart := false }
def FactsFullSaid : Prop := factsFullRow.holds Try.pinned (OpenSpec.ofChange factsFullSpec)

/-- ITS FALSE NEIGHBOUR: 'it returns false'. Refute it at one input. -/
def factsFullWrong : ChangeSpec := { name := "factsFull", fn := fun _ => fun
  | [d] => { results := [.lit (.bool false)], args := [d] }
  | _ => none }
def FactsFullWrongFalsely : Prop := factsFullRow.holds Try.pinned (OpenSpec.ofChange factsFullWrong)

/-- 'checkreinlaw03.OpsWords': WHATEVER THE INPUT: true; the input reads as it did. -/
def opsWordsSpec : ChangeSpec := { name := "opsWords", fn := fun _ => fun
  | [d] => { results := [.lit (.bool true)], args := [d] }
  | _ => none }
def opsWordsRow : OpenClaim := { program := "ytppidnjhdefbiaa", sum := "1140c6e035472004e47eb3e624929fc63ec10a8d4ce3917ae334773581947c64", func := "checkrein/checkreinlaw03.OpsWords", spec := "opsWords", unfollowed := true, recurses := true, apart := false }
def OpsWordsSaid : Prop := opsWordsRow.holds Try.pinned (OpenSpec.ofChange opsWordsSpec)

/-- ITS FALSE NEIGHBOUR: 'it returns false'. Refute it at one input. -/
def opsWordsWrong : ChangeSpec := { name := "opsWords", fn := fun _ => fun
  | [d] => { results := [.lit (.bool false)], args := [d] }
  | _ => none }
def OpsWordsWrongFalsely : Prop := opsWordsRow.holds Try.pinned (OpenSpec.ofChange opsWordsWrong)

/-- 'checkreinlaw25.FactsPlay': WHATEVER THE INPUT: true; the input reads as it did. -/
def factsPlaySpec : ChangeSpec := { name := "factsPlay", fn := fun _ => fun
  | [d1, d2] => { results := [.lit (.bool true)], args := [d1, d2] }
  | _ => none }
def factsPlayRow : OpenClaim := { program := "ytppidnjhdefbiaa", sum := "1140c6e035472004e47eb3e624929fc63ec10a8d4ce3917ae334773581947c64", func := "checkrein/checkreinlaw25.FactsPlay", spec := "factsPlay", apart := false }
def FactsPlaySaid : Prop := factsPlayRow.holds Try.pinned (OpenSpec.ofChange factsPlaySpec)

/-- ITS FALSE NEIGHBOUR: 'it returns false'. Refute it at one input. -/
def factsPlayWrong : ChangeSpec := { name := "factsPlay", fn := fun _ => fun
  | [d1, d2] => { results := [.lit (.bool false)], args := [d1, d2] }
  | _ => none }
def FactsPlayWrongFalsely : Prop := factsPlayRow.holds Try.pinned (OpenSpec.ofChange factsPlayWrong)

/-- 'checkreinlaw03.OpsTell': WHATEVER THE INPUT: true; the input reads as it did. -/
def opsTellSpec : ChangeSpec := { name := "opsTell", fn := fun _ => fun
  | [d] => { results := [.lit (.bool true)], args := [d] }
  | _ => none }
def opsTellRow : OpenClaim := { program := "ytppidnjhdefbiaa", sum := "1140c6e035472004e47eb3e624929fc63ec10a8d4ce3917ae334773581947c64", func := "checkrein/checkreinlaw03.OpsTell", spec := "opsTell", unfollowed := true, recurses := true, apart := false }
def OpsTellSaid : Prop := opsTellRow.holds Try.pinned (OpenSpec.ofChange opsTellSpec)

/-- ITS FALSE NEIGHBOUR: 'it returns false'. Refute it at one input. -/
def opsTellWrong : ChangeSpec := { name := "opsTell", fn := fun _ => fun
  | [d] => { results := [.lit (.bool false)], args := [d] }
  | _ => none }
def OpsTellWrongFalsely : Prop := opsTellRow.holds Try.pinned (OpenSpec.ofChange opsTellWrong)

/-- 'checkreinlaw02.ArithOps': WHATEVER THE INPUT: true; the input reads as it did. -/
def arithOpsSpec : ChangeSpec := { name := "arithOps", fn := fun _ => fun
  | [d1, d2, d3] => { results := [.lit (.bool true)], args := [d1, d2, d3] }
  | _ => none }
def arithOpsRow : OpenClaim := { program := "ytppidnjhdefbiaa", sum := "1140c6e035472004e47eb3e624929fc63ec10a8d4ce3917ae334773581947c64", func := "checkrein/checkreinlaw02.ArithOps", spec := "arithOps", apart := false }
def ArithOpsSaid : Prop := arithOpsRow.holds Try.pinned (OpenSpec.ofChange arithOpsSpec)

/-- ITS FALSE NEIGHBOUR: 'it returns false'. Refute it at one input. -/
def arithOpsWrong : ChangeSpec := { name := "arithOps", fn := fun _ => fun
  | [d1, d2, d3] => { results := [.lit (.bool false)], args := [d1, d2, d3] }
  | _ => none }
def ArithOpsWrongFalsely : Prop := arithOpsRow.holds Try.pinned (OpenSpec.ofChange arithOpsWrong)

/-- 'checkreinlaw03.OpsNeed': WHATEVER THE INPUT: true; the input reads as it did. -/
def opsNeedSpec : ChangeSpec := { name := "opsNeed", fn := fun _ => fun
  | [d] => { results := [.lit (.bool true)], args := [d] }
  | _ => none }
def opsNeedRow : OpenClaim := { program := "ytppidnjhdefbiaa", sum := "1140c6e035472004e47eb3e624929fc63ec10a8d4ce3917ae334773581947c64", func := "checkrein/checkreinlaw03.OpsNeed", spec := "opsNeed", unfollowed := true, recurses := true, apart := false }
def OpsNeedSaid : Prop := opsNeedRow.holds Try.pinned (OpenSpec.ofChange opsNeedSpec)

/-- ITS FALSE NEIGHBOUR: 'it returns false'. Refute it at one input. -/
def opsNeedWrong : ChangeSpec := { name := "opsNeed", fn := fun _ => fun
  | [d] => { results := [.lit (.bool false)], args := [d] }
  | _ => none }
def OpsNeedWrongFalsely : Prop := opsNeedRow.holds Try.pinned (OpenSpec.ofChange opsNeedWrong)

/-- 'checkreinlaw21.IntervalSets': WHATEVER THE INPUT: true; the input reads as it did. -/
def intervalSetsSpec : ChangeSpec := { name := "intervalSets", fn := fun _ => fun
  | [d1, d2, d3] => { results := [.lit (.bool true)], args := [d1, d2, d3] }
  | _ => none }
def intervalSetsRow : OpenClaim := { program := "ytppidnjhdefbiaa", sum := "1140c6e035472004e47eb3e624929fc63ec10a8d4ce3917ae334773581947c64", func := "checkrein/checkreinlaw21.IntervalSets", spec := "intervalSets", apart := false }
def IntervalSetsSaid : Prop := intervalSetsRow.holds Try.pinned (OpenSpec.ofChange intervalSetsSpec)

/-- ITS FALSE NEIGHBOUR: 'it returns false'. Refute it at one input. -/
def intervalSetsWrong : ChangeSpec := { name := "intervalSets", fn := fun _ => fun
  | [d1, d2, d3] => { results := [.lit (.bool false)], args := [d1, d2, d3] }
  | _ => none }
def IntervalSetsWrongFalsely : Prop := intervalSetsRow.holds Try.pinned (OpenSpec.ofChange intervalSetsWrong)

/-- 'checkreinlaw21.IntervalSmall': WHATEVER THE INPUT: true; the input reads as it did. -/
def intervalSmallSpec : ChangeSpec := { name := "intervalSmall", fn := fun _ => fun
  | [d1, d2, d3, d4, d5, d6, d7, d8] => { results := [.lit (.bool true)], args := [d1, d2, d3, d4, d5, d6, d7, d8] }
  | _ => none }
def intervalSmallRow : OpenClaim := { program := "ytppidnjhdefbiaa", sum := "1140c6e035472004e47eb3e624929fc63ec10a8d4ce3917ae334773581947c64", func := "checkrein/checkreinlaw21.IntervalSmall", spec := "intervalSmall", apart := false }
def IntervalSmallSaid : Prop := intervalSmallRow.holds Try.pinned (OpenSpec.ofChange intervalSmallSpec)

/-- ITS FALSE NEIGHBOUR: 'it returns false'. Refute it at one input. -/
def intervalSmallWrong : ChangeSpec := { name := "intervalSmall", fn := fun _ => fun
  | [d1, d2, d3, d4, d5, d6, d7, d8] => { results := [.lit (.bool false)], args := [d1, d2, d3, d4, d5, d6, d7, d8] }
  | _ => none }
def IntervalSmallWrongFalsely : Prop := intervalSmallRow.holds Try.pinned (OpenSpec.ofChange intervalSmallWrong)

/-- 'checkreinlaw21.IntervalSound': WHATEVER THE INPUT: true; the input reads as it did. -/
def intervalSoundSpec : ChangeSpec := { name := "intervalSound", fn := fun _ => fun
  | [d1, d2, d3, d4, d5, d6] => { results := [.lit (.bool true)], args := [d1, d2, d3, d4, d5, d6] }
  | _ => none }
def intervalSoundRow : OpenClaim := { program := "ytppidnjhdefbiaa", sum := "1140c6e035472004e47eb3e624929fc63ec10a8d4ce3917ae334773581947c64", func := "checkrein/checkreinlaw21.IntervalSound", spec := "intervalSound", apart := false }
def IntervalSoundSaid : Prop := intervalSoundRow.holds Try.pinned (OpenSpec.ofChange intervalSoundSpec)

/-- ITS FALSE NEIGHBOUR: 'it returns false'. Refute it at one input. -/
def intervalSoundWrong : ChangeSpec := { name := "intervalSound", fn := fun _ => fun
  | [d1, d2, d3, d4, d5, d6] => { results := [.lit (.bool false)], args := [d1, d2, d3, d4, d5, d6] }
  | _ => none }
def IntervalSoundWrongFalsely : Prop := intervalSoundRow.holds Try.pinned (OpenSpec.ofChange intervalSoundWrong)

/-- 'checkreinlaw21.IntervalGrows': WHATEVER THE INPUT: true; the input reads as it did. -/
def intervalGrowsSpec : ChangeSpec := { name := "intervalGrows", fn := fun _ => fun
  | [d1, d2, d3, d4, d5, d6] => { results := [.lit (.bool true)], args := [d1, d2, d3, d4, d5, d6] }
  | _ => none }
def intervalGrowsRow : OpenClaim := { program := "ytppidnjhdefbiaa", sum := "1140c6e035472004e47eb3e624929fc63ec10a8d4ce3917ae334773581947c64", func := "checkrein/checkreinlaw21.IntervalGrows", spec := "intervalGrows", apart := false }
def IntervalGrowsSaid : Prop := intervalGrowsRow.holds Try.pinned (OpenSpec.ofChange intervalGrowsSpec)

/-- ITS FALSE NEIGHBOUR: 'it returns false'. Refute it at one input. -/
def intervalGrowsWrong : ChangeSpec := { name := "intervalGrows", fn := fun _ => fun
  | [d1, d2, d3, d4, d5, d6] => { results := [.lit (.bool false)], args := [d1, d2, d3, d4, d5, d6] }
  | _ => none }
def IntervalGrowsWrongFalsely : Prop := intervalGrowsRow.holds Try.pinned (OpenSpec.ofChange intervalGrowsWrong)

/- THE SECOND FORM. 'bulk': how many values and letters a reading holds, each counted each time it is reached (what is shared counts as often as it is met; a slice's spare places count too). A statement '..UptoSaid' is the law's where the arguments, and the package variables that the reading takes, are together of bulk at most 1048576: NARROWER than '..Said'. Prove '..Said' where nothing that the law and all that it calls make is longer than what came in: it says more and counts as full. Else prove '..UptoSaid'. A law counts once. -/
mutual
def uptoBulk {H : Type} : DataW H → Nat
  | .lit (.string bytes) => bytes.length + 1
  | .lit _ => 1
  | .nil => 1
  | .ptr d => uptoBulk d + 1
  | .slice elems spare => uptoBulkAll elems + uptoBulkAll spare + 1
  | .agg parts => uptoBulkAll parts + 1
  | .iface _ d => uptoBulk d + 1
  | .map entries => uptoBulkEntries entries + 1
  | .held _ => 1
def uptoBulkAll {H : Type} : List (DataW H) → Nat
  | [] => 0
  | d :: r => uptoBulk d + uptoBulkAll r
def uptoBulkEntries {H : Type} : List (Lit × DataW H) → Nat
  | [] => 0
  | x :: r => uptoBulkEntry x + uptoBulkEntries r
def uptoBulkEntry {H : Type} : Lit × DataW H → Nat
  | (.string bytes, d) => bytes.length + uptoBulk d + 1
  | (_, d) => uptoBulk d + 1
 end
def uptoSmall : (H : Type) → List (DataW H) → Bool := fun _ ds => decide (uptoBulkAll ds ≤ 1048576)
def OpenSpec.upto (s : _root_.Go.ChangeSpec) : _root_.Go.OpenSpec := { _root_.Go.OpenSpec.ofChange s with cond := some uptoSmall }

/-- 'checkreinlaw02.ArithDivides', WHERE WHAT IT READS IS OF BULK AT MOST 1048576: true; the input reads as it did. -/
def arithDividesUptoRow : OpenClaim := { program := "ytppidnjhdefbiaa", sum := "1140c6e035472004e47eb3e624929fc63ec10a8d4ce3917ae334773581947c64", func := "checkrein/checkreinlaw02.ArithDivides", spec := "arithDivides", apart := false, narrowed := true }
def ArithDividesUptoSaid : Prop := arithDividesUptoRow.holds Try.pinned (OpenSpec.upto arithDividesSpec)

/-- 'checkreinlaw02.ArithSat', WHERE WHAT IT READS IS OF BULK AT MOST 1048576: true; the input reads as it did. -/
def arithSatUptoRow : OpenClaim := { program := "ytppidnjhdefbiaa", sum := "1140c6e035472004e47eb3e624929fc63ec10a8d4ce3917ae334773581947c64", func := "checkrein/checkreinlaw02.ArithSat", spec := "arithSat", apart := false, narrowed := true }
def ArithSatUptoSaid : Prop := arithSatUptoRow.holds Try.pinned (OpenSpec.upto arithSatSpec)

/-- 'checkreinlaw02.ArithTells', WHERE WHAT IT READS IS OF BULK AT MOST 1048576: true; the input reads as it did. -/
def arithTellsUptoRow : OpenClaim := { program := "ytppidnjhdefbiaa", sum := "1140c6e035472004e47eb3e624929fc63ec10a8d4ce3917ae334773581947c64", func := "checkrein/checkreinlaw02.ArithTells", spec := "arithTells", apart := false, narrowed := true }
def ArithTellsUptoSaid : Prop := arithTellsUptoRow.holds Try.pinned (OpenSpec.upto arithTellsSpec)

/-- 'checkreinlaw25.FactsSound', WHERE WHAT IT READS IS OF BULK AT MOST 1048576: true; the input reads as it did. -/
def factsSoundUptoRow : OpenClaim := { program := "ytppidnjhdefbiaa", sum := "1140c6e035472004e47eb3e624929fc63ec10a8d4ce3917ae334773581947c64", func := "checkrein/checkreinlaw25.FactsSound", spec := "factsSound", apart := false, narrowed := true }
def FactsSoundUptoSaid : Prop := factsSoundUptoRow.holds Try.pinned (OpenSpec.upto factsSoundSpec)

/-- 'checkreinlaw25.FactsChain', WHERE WHAT IT READS IS OF BULK AT MOST 1048576: true; the input reads as it did. -/
def factsChainUptoRow : OpenClaim := { program := "ytppidnjhdefbiaa", sum := "1140c6e035472004e47eb3e624929fc63ec10a8d4ce3917ae334773581947c64", func := "checkrein/checkreinlaw25.FactsChain", spec := "factsChain", apart := false, narrowed := true }
def FactsChainUptoSaid : Prop := factsChainUptoRow.holds Try.pinned (OpenSpec.upto factsChainSpec)

/-- 'checkreinlaw25.FactsBack', WHERE WHAT IT READS IS OF BULK AT MOST 1048576: true; the input reads as it did. -/
def factsBackUptoRow : OpenClaim := { program := "ytppidnjhdefbiaa", sum := "1140c6e035472004e47eb3e624929fc63ec10a8d4ce3917ae334773581947c64", func := "checkrein/checkreinlaw25.FactsBack", spec := "factsBack", apart := false, narrowed := true }
def FactsBackUptoSaid : Prop := factsBackUptoRow.holds Try.pinned (OpenSpec.upto factsBackSpec)

/-- 'checkreinlaw25.FactsFull', WHERE WHAT IT READS IS OF BULK AT MOST 1048576: true; the input reads as it did. -/
def factsFullUptoRow : OpenClaim := { program := "ytppidnjhdefbiaa", sum := "1140c6e035472004e47eb3e624929fc63ec10a8d4ce3917ae334773581947c64", func := "checkrein/checkreinlaw25.FactsFull", spec := "factsFull", apart := false, narrowed := true }
def FactsFullUptoSaid : Prop := factsFullUptoRow.holds Try.pinned (OpenSpec.upto factsFullSpec)

/-- 'checkreinlaw03.OpsWords', WHERE WHAT IT READS IS OF BULK AT MOST 1048576: true; the input reads as it did. -/
def opsWordsUptoRow : OpenClaim := { program := "ytppidnjhdefbiaa", sum := "1140c6e035472004e47eb3e624929fc63ec10a8d4ce3917ae334773581947c64", func := "checkrein/checkreinlaw03.OpsWords", spec := "opsWords", unfollowed := true, recurses := true, apart := false, narrowed := true }
def OpsWordsUptoSaid : Prop := opsWordsUptoRow.holds Try.pinned (OpenSpec.upto opsWordsSpec)

/-- 'checkreinlaw25.FactsPlay', WHERE WHAT IT READS IS OF BULK AT MOST 1048576: true; the input reads as it did. -/
def factsPlayUptoRow : OpenClaim := { program := "ytppidnjhdefbiaa", sum := "1140c6e035472004e47eb3e624929fc63ec10a8d4ce3917ae334773581947c64", func := "checkrein/checkreinlaw25.FactsPlay", spec := "factsPlay", apart := false, narrowed := true }
def FactsPlayUptoSaid : Prop := factsPlayUptoRow.holds Try.pinned (OpenSpec.upto factsPlaySpec)

/-- 'checkreinlaw03.OpsTell', WHERE WHAT IT READS IS OF BULK AT MOST 1048576: true; the input reads as it did. -/
def opsTellUptoRow : OpenClaim := { program := "ytppidnjhdefbiaa", sum := "1140c6e035472004e47eb3e624929fc63ec10a8d4ce3917ae334773581947c64", func := "checkrein/checkreinlaw03.OpsTell", spec := "opsTell", unfollowed := true, recurses := true, apart := false, narrowed := true }
def OpsTellUptoSaid : Prop := opsTellUptoRow.holds Try.pinned (OpenSpec.upto opsTellSpec)

/-- 'checkreinlaw02.ArithOps', WHERE WHAT IT READS IS OF BULK AT MOST 1048576: true; the input reads as it did. -/
def arithOpsUptoRow : OpenClaim := { program := "ytppidnjhdefbiaa", sum := "1140c6e035472004e47eb3e624929fc63ec10a8d4ce3917ae334773581947c64", func := "checkrein/checkreinlaw02.ArithOps", spec := "arithOps", apart := false, narrowed := true }
def ArithOpsUptoSaid : Prop := arithOpsUptoRow.holds Try.pinned (OpenSpec.upto arithOpsSpec)

/-- 'checkreinlaw03.OpsNeed', WHERE WHAT IT READS IS OF BULK AT MOST 1048576: true; the input reads as it did. -/
def opsNeedUptoRow : OpenClaim := { program := "ytppidnjhdefbiaa", sum := "1140c6e035472004e47eb3e624929fc63ec10a8d4ce3917ae334773581947c64", func := "checkrein/checkreinlaw03.OpsNeed", spec := "opsNeed", unfollowed := true, recurses := true, apart := false, narrowed := true }
def OpsNeedUptoSaid : Prop := opsNeedUptoRow.holds Try.pinned (OpenSpec.upto opsNeedSpec)

/-- 'checkreinlaw21.IntervalSets', WHERE WHAT IT READS IS OF BULK AT MOST 1048576: true; the input reads as it did. -/
def intervalSetsUptoRow : OpenClaim := { program := "ytppidnjhdefbiaa", sum := "1140c6e035472004e47eb3e624929fc63ec10a8d4ce3917ae334773581947c64", func := "checkrein/checkreinlaw21.IntervalSets", spec := "intervalSets", apart := false, narrowed := true }
def IntervalSetsUptoSaid : Prop := intervalSetsUptoRow.holds Try.pinned (OpenSpec.upto intervalSetsSpec)

/-- 'checkreinlaw21.IntervalSmall', WHERE WHAT IT READS IS OF BULK AT MOST 1048576: true; the input reads as it did. -/
def intervalSmallUptoRow : OpenClaim := { program := "ytppidnjhdefbiaa", sum := "1140c6e035472004e47eb3e624929fc63ec10a8d4ce3917ae334773581947c64", func := "checkrein/checkreinlaw21.IntervalSmall", spec := "intervalSmall", apart := false, narrowed := true }
def IntervalSmallUptoSaid : Prop := intervalSmallUptoRow.holds Try.pinned (OpenSpec.upto intervalSmallSpec)

/-- 'checkreinlaw21.IntervalSound', WHERE WHAT IT READS IS OF BULK AT MOST 1048576: true; the input reads as it did. -/
def intervalSoundUptoRow : OpenClaim := { program := "ytppidnjhdefbiaa", sum := "1140c6e035472004e47eb3e624929fc63ec10a8d4ce3917ae334773581947c64", func := "checkrein/checkreinlaw21.IntervalSound", spec := "intervalSound", apart := false, narrowed := true }
def IntervalSoundUptoSaid : Prop := intervalSoundUptoRow.holds Try.pinned (OpenSpec.upto intervalSoundSpec)

/-- 'checkreinlaw21.IntervalGrows', WHERE WHAT IT READS IS OF BULK AT MOST 1048576: true; the input reads as it did. -/
def intervalGrowsUptoRow : OpenClaim := { program := "ytppidnjhdefbiaa", sum := "1140c6e035472004e47eb3e624929fc63ec10a8d4ce3917ae334773581947c64", func := "checkrein/checkreinlaw21.IntervalGrows", spec := "intervalGrows", apart := false, narrowed := true }
def IntervalGrowsUptoSaid : Prop := intervalGrowsUptoRow.holds Try.pinned (OpenSpec.upto intervalGrowsSpec)

end Rows
end Go.Proofs.Ytppidnjhdefbiaa
