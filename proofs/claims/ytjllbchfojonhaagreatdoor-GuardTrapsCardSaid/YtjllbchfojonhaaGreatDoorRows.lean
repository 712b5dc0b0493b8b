/-
  NARROWER THAN 'FOR EVERY INPUT', by the rows' own cells (each row's printed sentence says how): GuardPassed: laid · GuardTells: laid · GuardSafe: laid · GuardTraps: laid · GuardMakes: laid.
  DERIVED. THE GIVEN ROWS OF THIS SEAT. 5 by the template 'for every input the law returns true; each argument reads behind the call as it read before'; 0 by the template 'total and deterministic' (their statements: YtjllbchfojonhaaGreatDoorTotals.lean).
  GIVEN WITH THE SEED: the statements are not yours to turn. If you find one false, say at which input.
  Laid BY PROGRAM, IN A SANDBOX (cutbox-rows.mjs): the forced cells as the released guide's own fill.sh prints them over the translation b1900d7107e474a6… (all of the seat's roots in one cut). By AI agents, Wed Nov 11 2026. No macro, syntax, notation, axiom, sorry.
-/
import Derived.Test.YtjllbchfojonhaaGreatDoorChecked
import GoSem.PinnedTables
import GoSem.Claim
import GoSem.ClaimJoined
import GoSem.ClaimMapViews
import Derived.JoinedTies
import Derived.KernelRfl
namespace Go.Proofs.YtjllbchfojonhaaGreatDoor
/- THE CELL 'sum', in the pinned program and in every row, IS THE sha256 OF THE DUMP (.gsa) THAT YtjllbchfojonhaaGreatDoorProg.lean LOADS. Nothing in Lean hashes anything: it is a label: what it is worth is what the hold of that sum in a sandbox is worth. -/
noncomputable def Tryz.pinned : Pinned := { name := "ytjllbchfojonhaagreatdoor", sum := "b1900d7107e474a6986410a766e0d60367d59a7b1cb66e781bbb8d4901052b81", checked := Tryz.checked }
namespace Rows
def none {H : Type} : Left H := { results := [], args := [] }

/- WHAT THE LISTED PACKAGE-LEVEL VARIABLES READ AS WHEN THE CALL BEGINS. Each datum BY PROGRAM (the guide's laid-datum.mjs) off the statement by which the dump's own 'gosem.cut.vars' lays the variable. In a bare row this is a premise. The card (YtjllbchfojonhaaGreatDoorCards.lean) ties it to the program's text. -/
def laid_unicode_properties {H : Type} : DataW H := .agg [.lit (.int .u8 1), .lit (.int .u8 1), .lit (.int .u8 1), .lit (.int .u8 1), .lit (.int .u8 1), .lit (.int .u8 1), .lit (.int .u8 1), .lit (.int .u8 1), .lit (.int .u8 1), .lit (.int .u8 1), .lit (.int .u8 1), .lit (.int .u8 1), .lit (.int .u8 1), .lit (.int .u8 1), .lit (.int .u8 1), .lit (.int .u8 1), .lit (.int .u8 1), .lit (.int .u8 1), .lit (.int .u8 1), .lit (.int .u8 1), .lit (.int .u8 1), .lit (.int .u8 1), .lit (.int .u8 1), .lit (.int .u8 1), .lit (.int .u8 1), .lit (.int .u8 1), .lit (.int .u8 1), .lit (.int .u8 1), .lit (.int .u8 1), .lit (.int .u8 1), .lit (.int .u8 1), .lit (.int .u8 1), .lit (.int .u8 144), .lit (.int .u8 130), .lit (.int .u8 130), .lit (.int .u8 130), .lit (.int .u8 136), .lit (.int .u8 130), .lit (.int .u8 130), .lit (.int .u8 130), .lit (.int .u8 130), .lit (.int .u8 130), .lit (.int .u8 130), .lit (.int .u8 136), .lit (.int .u8 130), .lit (.int .u8 130), .lit (.int .u8 130), .lit (.int .u8 130), .lit (.int .u8 132), .lit (.int .u8 132), .lit (.int .u8 132), .lit (.int .u8 132), .lit (.int .u8 132), .lit (.int .u8 132), .lit (.int .u8 132), .lit (.int .u8 132), .lit (.int .u8 132), .lit (.int .u8 132), .lit (.int .u8 130), .lit (.int .u8 130), .lit (.int .u8 136), .lit (.int .u8 136), .lit (.int .u8 136), .lit (.int .u8 130), .lit (.int .u8 130), .lit (.int .u8 160), .lit (.int .u8 160), .lit (.int .u8 160), .lit (.int .u8 160), .lit (.int .u8 160), .lit (.int .u8 160), .lit (.int .u8 160), .lit (.int .u8 160), .lit (.int .u8 160), .lit (.int .u8 160), .lit (.int .u8 160), .lit (.int .u8 160), .lit (.int .u8 160), .lit (.int .u8 160), .lit (.int .u8 160), .lit (.int .u8 160), .lit (.int .u8 160), .lit (.int .u8 160), .lit (.int .u8 160), .lit (.int .u8 160), .lit (.int .u8 160), .lit (.int .u8 160), .lit (.int .u8 160), .lit (.int .u8 160), .lit (.int .u8 160), .lit (.int .u8 160), .lit (.int .u8 130), .lit (.int .u8 130), .lit (.int .u8 130), .lit (.int .u8 136), .lit (.int .u8 130), .lit (.int .u8 136), .lit (.int .u8 192), .lit (.int .u8 192), .lit (.int .u8 192), .lit (.int .u8 192), .lit (.int .u8 192), .lit (.int .u8 192), .lit (.int .u8 192), .lit (.int .u8 192), .lit (.int .u8 192), .lit (.int .u8 192), .lit (.int .u8 192), .lit (.int .u8 192), .lit (.int .u8 192), .lit (.int .u8 192), .lit (.int .u8 192), .lit (.int .u8 192), .lit (.int .u8 192), .lit (.int .u8 192), .lit (.int .u8 192), .lit (.int .u8 192), .lit (.int .u8 192), .lit (.int .u8 192), .lit (.int .u8 192), .lit (.int .u8 192), .lit (.int .u8 192), .lit (.int .u8 192), .lit (.int .u8 130), .lit (.int .u8 136), .lit (.int .u8 130), .lit (.int .u8 136), .lit (.int .u8 1), .lit (.int .u8 1), .lit (.int .u8 1), .lit (.int .u8 1), .lit (.int .u8 1), .lit (.int .u8 1), .lit (.int .u8 1), .lit (.int .u8 1), .lit (.int .u8 1), .lit (.int .u8 1), .lit (.int .u8 1), .lit (.int .u8 1), .lit (.int .u8 1), .lit (.int .u8 1), .lit (.int .u8 1), .lit (.int .u8 1), .lit (.int .u8 1), .lit (.int .u8 1), .lit (.int .u8 1), .lit (.int .u8 1), .lit (.int .u8 1), .lit (.int .u8 1), .lit (.int .u8 1), .lit (.int .u8 1), .lit (.int .u8 1), .lit (.int .u8 1), .lit (.int .u8 1), .lit (.int .u8 1), .lit (.int .u8 1), .lit (.int .u8 1), .lit (.int .u8 1), .lit (.int .u8 1), .lit (.int .u8 1), .lit (.int .u8 16), .lit (.int .u8 130), .lit (.int .u8 136), .lit (.int .u8 136), .lit (.int .u8 136), .lit (.int .u8 136), .lit (.int .u8 136), .lit (.int .u8 130), .lit (.int .u8 136), .lit (.int .u8 136), .lit (.int .u8 224), .lit (.int .u8 130), .lit (.int .u8 136), .lit (.int .u8 0), .lit (.int .u8 136), .lit (.int .u8 136), .lit (.int .u8 136), .lit (.int .u8 136), .lit (.int .u8 132), .lit (.int .u8 132), .lit (.int .u8 136), .lit (.int .u8 192), .lit (.int .u8 130), .lit (.int .u8 130), .lit (.int .u8 136), .lit (.int .u8 132), .lit (.int .u8 224), .lit (.int .u8 130), .lit (.int .u8 132), .lit (.int .u8 132), .lit (.int .u8 132), .lit (.int .u8 130), .lit (.int .u8 160), .lit (.int .u8 160), .lit (.int .u8 160), .lit (.int .u8 160), .lit (.int .u8 160), .lit (.int .u8 160), .lit (.int .u8 160), .lit (.int .u8 160), .lit (.int .u8 160), .lit (.int .u8 160), .lit (.int .u8 160), .lit (.int .u8 160), .lit (.int .u8 160), .lit (.int .u8 160), .lit (.int .u8 160), .lit (.int .u8 160), .lit (.int .u8 160), .lit (.int .u8 160), .lit (.int .u8 160), .lit (.int .u8 160), .lit (.int .u8 160), .lit (.int .u8 160), .lit (.int .u8 160), .lit (.int .u8 136), .lit (.int .u8 160), .lit (.int .u8 160), .lit (.int .u8 160), .lit (.int .u8 160), .lit (.int .u8 160), .lit (.int .u8 160), .lit (.int .u8 160), .lit (.int .u8 192), .lit (.int .u8 192), .lit (.int .u8 192), .lit (.int .u8 192), .lit (.int .u8 192), .lit (.int .u8 192), .lit (.int .u8 192), .lit (.int .u8 192), .lit (.int .u8 192), .lit (.int .u8 192), .lit (.int .u8 192), .lit (.int .u8 192), .lit (.int .u8 192), .lit (.int .u8 192), .lit (.int .u8 192), .lit (.int .u8 192), .lit (.int .u8 192), .lit (.int .u8 192), .lit (.int .u8 192), .lit (.int .u8 192), .lit (.int .u8 192), .lit (.int .u8 192), .lit (.int .u8 192), .lit (.int .u8 192), .lit (.int .u8 136), .lit (.int .u8 192), .lit (.int .u8 192), .lit (.int .u8 192), .lit (.int .u8 192), .lit (.int .u8 192), .lit (.int .u8 192), .lit (.int .u8 192), .lit (.int .u8 192)]
/-- One of Go's own tables, pinned by name: the form's constant. -/
def laid_unicode_Letter : DataW Unit := Go.Pinned.letter

/-- 'checkreinlaw15.GuardPassed': WHATEVER THE INPUT: true; the input reads as it did. -/
def guardPassedSpec : ChangeSpec := { name := "guardPassed", fn := fun _ => fun
  | [d1, d2, d3] => { results := [.lit (.bool true)], args := [d1, d2, d3] }
  | _ => none }
def guardPassedRow : OpenClaim := { program := "ytjllbchfojonhaagreatdoor", sum := "b1900d7107e474a6986410a766e0d60367d59a7b1cb66e781bbb8d4901052b81", func := "checkrein/checkreinlaw15.GuardPassed", spec := "guardPassed", unfollowed := true, recurses := true, named := ["unicode.properties", "unicode.Letter"], apart := false, laid := [("unicode.properties", laid_unicode_properties), ("unicode.Letter", laid_unicode_Letter)] }
def GuardPassedSaid : Prop := guardPassedRow.holds Tryz.pinned (OpenSpec.ofChange guardPassedSpec)

/-- ITS FALSE NEIGHBOUR: 'it returns false'. Refute it at one input. -/
def guardPassedWrong : ChangeSpec := { name := "guardPassed", fn := fun _ => fun
  | [d1, d2, d3] => { results := [.lit (.bool false)], args := [d1, d2, d3] }
  | _ => none }
def GuardPassedWrongFalsely : Prop := guardPassedRow.holds Tryz.pinned (OpenSpec.ofChange guardPassedWrong)

/-- 'checkreinlaw15.GuardTells': WHATEVER THE INPUT: true; the input reads as it did. -/
def guardTellsSpec : ChangeSpec := { name := "guardTells", fn := fun _ => fun
  | [d] => { results := [.lit (.bool true)], args := [d] }
  | _ => none }
def guardTellsRow : OpenClaim := { program := "ytjllbchfojonhaagreatdoor", sum := "b1900d7107e474a6986410a766e0d60367d59a7b1cb66e781bbb8d4901052b81", func := "checkrein/checkreinlaw15.GuardTells", spec := "guardTells", unfollowed := true, recurses := true, named := ["unicode.properties", "unicode.Letter"], apart := false, laid := [("unicode.properties", laid_unicode_properties), ("unicode.Letter", laid_unicode_Letter)] }
def GuardTellsSaid : Prop := guardTellsRow.holds Tryz.pinned (OpenSpec.ofChange guardTellsSpec)

/-- ITS FALSE NEIGHBOUR: 'it returns false'. Refute it at one input. -/
def guardTellsWrong : ChangeSpec := { name := "guardTells", fn := fun _ => fun
  | [d] => { results := [.lit (.bool false)], args := [d] }
  | _ => none }
def GuardTellsWrongFalsely : Prop := guardTellsRow.holds Tryz.pinned (OpenSpec.ofChange guardTellsWrong)

/-- 'checkreinlaw15.GuardSafe': WHATEVER THE INPUT: true; the input reads as it did. -/
def guardSafeSpec : ChangeSpec := { name := "guardSafe", fn := fun _ => fun
  | [d1, d2, d3] => { results := [.lit (.bool true)], args := [d1, d2, d3] }
  | _ => none }
def guardSafeRow : OpenClaim := { program := "ytjllbchfojonhaagreatdoor", sum := "b1900d7107e474a6986410a766e0d60367d59a7b1cb66e781bbb8d4901052b81", func := "checkrein/checkreinlaw15.GuardSafe", spec := "guardSafe", unfollowed := true, recurses := true, named := ["unicode.properties", "unicode.Letter"], apart := false, laid := [("unicode.properties", laid_unicode_properties), ("unicode.Letter", laid_unicode_Letter)] }
def GuardSafeSaid : Prop := guardSafeRow.holds Tryz.pinned (OpenSpec.ofChange guardSafeSpec)

/-- ITS FALSE NEIGHBOUR: 'it returns false'. Refute it at one input. -/
def guardSafeWrong : ChangeSpec := { name := "guardSafe", fn := fun _ => fun
  | [d1, d2, d3] => { results := [.lit (.bool false)], args := [d1, d2, d3] }
  | _ => none }
def GuardSafeWrongFalsely : Prop := guardSafeRow.holds Tryz.pinned (OpenSpec.ofChange guardSafeWrong)

/-- 'checkreinlaw15.GuardTraps': WHATEVER THE INPUT: true; the input reads as it did. -/
def guardTrapsSpec : ChangeSpec := { name := "guardTraps", fn := fun _ => fun
  | [d1, d2, d3] => { results := [.lit (.bool true)], args := [d1, d2, d3] }
  | _ => none }
def guardTrapsRow : OpenClaim := { program := "ytjllbchfojonhaagreatdoor", sum := "b1900d7107e474a6986410a766e0d60367d59a7b1cb66e781bbb8d4901052b81", func := "checkrein/checkreinlaw15.GuardTraps", spec := "guardTraps", inPlace := ["slices.overlaps[checkrein/api.Inst]"], unfollowed := true, recurses := true, named := ["unicode.properties", "unicode.Letter"], apart := false, laid := [("unicode.properties", laid_unicode_properties), ("unicode.Letter", laid_unicode_Letter)] }
def GuardTrapsSaid : Prop := guardTrapsRow.holds Tryz.pinned (OpenSpec.ofChange guardTrapsSpec)

/-- ITS FALSE NEIGHBOUR: 'it returns false'. Refute it at one input. -/
def guardTrapsWrong : ChangeSpec := { name := "guardTraps", fn := fun _ => fun
  | [d1, d2, d3] => { results := [.lit (.bool false)], args := [d1, d2, d3] }
  | _ => none }
def GuardTrapsWrongFalsely : Prop := guardTrapsRow.holds Tryz.pinned (OpenSpec.ofChange guardTrapsWrong)

/-- 'checkreinlaw15.GuardMakes': WHATEVER THE INPUT: true; the input reads as it did. -/
def guardMakesSpec : ChangeSpec := { name := "guardMakes", fn := fun _ => fun
  | [d] => { results := [.lit (.bool true)], args := [d] }
  | _ => none }
def guardMakesRow : OpenClaim := { program := "ytjllbchfojonhaagreatdoor", sum := "b1900d7107e474a6986410a766e0d60367d59a7b1cb66e781bbb8d4901052b81", func := "checkrein/checkreinlaw15.GuardMakes", spec := "guardMakes", inPlace := ["slices.overlaps[checkrein/api.Inst]"], unfollowed := true, recurses := true, named := ["unicode.properties", "unicode.Letter"], apart := false, laid := [("unicode.properties", laid_unicode_properties), ("unicode.Letter", laid_unicode_Letter)] }
def GuardMakesSaid : Prop := guardMakesRow.holds Tryz.pinned (OpenSpec.ofChange guardMakesSpec)

/-- ITS FALSE NEIGHBOUR: 'it returns false'. Refute it at one input. -/
def guardMakesWrong : ChangeSpec := { name := "guardMakes", fn := fun _ => fun
  | [d] => { results := [.lit (.bool false)], args := [d] }
  | _ => none }
def GuardMakesWrongFalsely : Prop := guardMakesRow.holds Tryz.pinned (OpenSpec.ofChange guardMakesWrong)

/- THE SECOND FORM. 'bulk': how many values and letters a reading holds, each counted each time it is reached (what is shared counts as often as it is met; a slice's spare places count too). A statement '..UptoSaid' is the law's where the arguments, and the package variables that the reading takes, are together of bulk at most 1048576: NARROWER than '..Said'. Prove '..Said' where nothing that the law and all that it calls make is longer than what came in: it says more and counts as full. Else prove '..UptoSaid'. A law counts once. -/
mutual
def uptoBulk {H : Type} : DataW H → Nat
  | .lit (.string bytes) => bytes.length + 1
  | .lit _ => 1
  | .nil => 1
  | .ptr d => uptoBulk d + 1
  | .slice elems spare => uptoBulkAll elems + uptoBulkAll spare + 1
  | .agg parts => uptoBulkAll parts + 1
  | .iface _ d => uptoBulk d + 1
  | .map entries => uptoBulkEntries entries + 1
  | .held _ => 1
def uptoBulkAll {H : Type} : List (DataW H) → Nat
  | [] => 0
  | d :: r => uptoBulk d + uptoBulkAll r
def uptoBulkEntries {H : Type} : List (Lit × DataW H) → Nat
  | [] => 0
  | x :: r => uptoBulkEntry x + uptoBulkEntries r
def uptoBulkEntry {H : Type} : Lit × DataW H → Nat
  | (.string bytes, d) => bytes.length + uptoBulk d + 1
  | (_, d) => uptoBulk d + 1
 end
def uptoSmall : (H : Type) → List (DataW H) → Bool := fun _ ds => decide (uptoBulkAll ds ≤ 1048576)
def OpenSpec.upto (s : _root_.Go.ChangeSpec) : _root_.Go.OpenSpec := { _root_.Go.OpenSpec.ofChange s with cond := some uptoSmall }

/-- 'checkreinlaw15.GuardPassed', WHERE WHAT IT READS IS OF BULK AT MOST 1048576: true; the input reads as it did. -/
def guardPassedUptoRow : OpenClaim := { program := "ytjllbchfojonhaagreatdoor", sum := "b1900d7107e474a6986410a766e0d60367d59a7b1cb66e781bbb8d4901052b81", func := "checkrein/checkreinlaw15.GuardPassed", spec := "guardPassed", unfollowed := true, recurses := true, named := ["unicode.properties", "unicode.Letter"], apart := false, laid := [("unicode.properties", laid_unicode_properties), ("unicode.Letter", laid_unicode_Letter)], narrowed := true }
def GuardPassedUptoSaid : Prop := guardPassedUptoRow.holds Tryz.pinned (OpenSpec.upto guardPassedSpec)

/-- 'checkreinlaw15.GuardTells', WHERE WHAT IT READS IS OF BULK AT MOST 1048576: true; the input reads as it did. -/
def guardTellsUptoRow : OpenClaim := { program := "ytjllbchfojonhaagreatdoor", sum := "b1900d7107e474a6986410a766e0d60367d59a7b1cb66e781bbb8d4901052b81", func := "checkrein/checkreinlaw15.GuardTells", spec := "guardTells", unfollowed := true, recurses := true, named := ["unicode.properties", "unicode.Letter"], apart := false, laid := [("unicode.properties", laid_unicode_properties), ("unicode.Letter", laid_unicode_Letter)], narrowed := true }
def GuardTellsUptoSaid : Prop := guardTellsUptoRow.holds Tryz.pinned (OpenSpec.upto guardTellsSpec)

/-- 'checkreinlaw15.GuardSafe', WHERE WHAT IT READS IS OF BULK AT MOST 1048576: true; the input reads as it did. -/
def guardSafeUptoRow : OpenClaim := { program := "ytjllbchfojonhaagreatdoor", sum := "b1900d7107e474a6986410a766e0d60367d59a7b1cb66e781bbb8d4901052b81", func := "checkrein/checkreinlaw15.GuardSafe", spec := "guardSafe", unfollowed := true, recurses := true, named := ["unicode.properties", "unicode.Letter"], apart := false, laid := [("unicode.properties", laid_unicode_properties), ("unicode.Letter", laid_unicode_Letter)], narrowed := true }
def GuardSafeUptoSaid : Prop := guardSafeUptoRow.holds Tryz.pinned (OpenSpec.upto guardSafeSpec)

/-- 'checkreinlaw15.GuardTraps', WHERE WHAT IT READS IS OF BULK AT MOST 1048576: true; the input reads as it did. -/
def guardTrapsUptoRow : OpenClaim := { program := "ytjllbchfojonhaagreatdoor", sum := "b1900d7107e474a6986410a766e0d60367d59a7b1cb66e781bbb8d4901052b81", func := "checkrein/checkreinlaw15.GuardTraps", spec := "guardTraps", inPlace := ["slices.overlaps[checkrein/api.Inst]"], unfollowed := true, recurses := true, named := ["unicode.properties", "unicode.Letter"], apart := false, laid := [("unicode.properties", laid_unicode_properties), ("unicode.Letter", laid_unicode_Letter)], narrowed := true }
def GuardTrapsUptoSaid : Prop := guardTrapsUptoRow.holds Tryz.pinned (OpenSpec.upto guardTrapsSpec)

/-- 'checkreinlaw15.GuardMakes', WHERE WHAT IT READS IS OF BULK AT MOST 1048576: true; the input reads as it did. -/
def guardMakesUptoRow : OpenClaim := { program := "ytjllbchfojonhaagreatdoor", sum := "b1900d7107e474a6986410a766e0d60367d59a7b1cb66e781bbb8d4901052b81", func := "checkrein/checkreinlaw15.GuardMakes", spec := "guardMakes", inPlace := ["slices.overlaps[checkrein/api.Inst]"], unfollowed := true, recurses := true, named := ["unicode.properties", "unicode.Letter"], apart := false, laid := [("unicode.properties", laid_unicode_properties), ("unicode.Letter", laid_unicode_Letter)], narrowed := true }
def GuardMakesUptoSaid : Prop := guardMakesUptoRow.holds Tryz.pinned (OpenSpec.upto guardMakesSpec)

end Rows
end Go.Proofs.YtjllbchfojonhaaGreatDoor
