/-
  DERIVED. GIVEN WITH THE SEED: THE CARDS: each row of YtjllbchfojonhaaGreatDoorRows.lean that lists a variable, with what it lists TIED to the program's text (the seventh form; the later family's looks); each row that meets fmt, with fmt's text TOLD by the authors' own Lean function (tested against real Go, not proved from fmt's source: count such statements apart). THE CARD IS WHAT COUNTS. Prove the row's statement (the work); the ties are given (YtjllbchfojonhaaGreatDoorTie.lean); close each card by the builder's one call (the guide's Derived/Test/ToyasCard.lean, 'card_holds'). Laid BY PROGRAM, IN A SANDBOX (cutbox-door.mjs). By AI agents, Wed Nov 11 2026. No macro, syntax, notation, axiom, sorry.
-/
import Derived.Test.YtjllbchfojonhaaGreatDoorRows
import GoSem.ClaimSeven
namespace Go.Proofs.YtjllbchfojonhaaGreatDoor
namespace Rows

/-- THE TIED CARD OF 'checkreinlaw15.GuardPassed'. -/
def guardPassedCard : Claim7 := { stood := { row := guardPassedRow, standIns := [], harness := (true, "541bac8837153249301cfa71b971d43e82469674645eb19c4b809705f51aadf3"), looks := false }, kinds := [], alts := [], laidByText := true, laidKinds := [.data, .pinned], laidTests := true, laidLooks := .later }
def GuardPassedCardSaid : Prop := Claim7.holds Tryz.pinned (.plain (OpenSpec.ofChange guardPassedSpec)) guardPassedCard

/-- THE TIED CARD OF 'checkreinlaw15.GuardTells'. -/
def guardTellsCard : Claim7 := { stood := { row := guardTellsRow, standIns := [], harness := (true, "541bac8837153249301cfa71b971d43e82469674645eb19c4b809705f51aadf3"), looks := false }, kinds := [], alts := [], laidByText := true, laidKinds := [.data, .pinned], laidTests := true, laidLooks := .later }
def GuardTellsCardSaid : Prop := Claim7.holds Tryz.pinned (.plain (OpenSpec.ofChange guardTellsSpec)) guardTellsCard

/-- THE TIED CARD OF 'checkreinlaw15.GuardSafe'. -/
def guardSafeCard : Claim7 := { stood := { row := guardSafeRow, standIns := [], harness := (true, "541bac8837153249301cfa71b971d43e82469674645eb19c4b809705f51aadf3"), looks := false }, kinds := [], alts := [], laidByText := true, laidKinds := [.data, .pinned], laidTests := true, laidLooks := .later }
def GuardSafeCardSaid : Prop := Claim7.holds Tryz.pinned (.plain (OpenSpec.ofChange guardSafeSpec)) guardSafeCard

/-- THE TIED CARD OF 'checkreinlaw15.GuardTraps'. -/
def guardTrapsCard : Claim7 := { stood := { row := guardTrapsRow, standIns := [], harness := (true, "541bac8837153249301cfa71b971d43e82469674645eb19c4b809705f51aadf3"), looks := false }, kinds := [], alts := [], laidByText := true, laidKinds := [.data, .pinned], laidTests := true, laidLooks := .later }
def GuardTrapsCardSaid : Prop := Claim7.holds Tryz.pinned (.plain (OpenSpec.ofChange guardTrapsSpec)) guardTrapsCard

/-- THE TIED CARD OF 'checkreinlaw15.GuardMakes'. -/
def guardMakesCard : Claim7 := { stood := { row := guardMakesRow, standIns := [], harness := (true, "541bac8837153249301cfa71b971d43e82469674645eb19c4b809705f51aadf3"), looks := false }, kinds := [], alts := [], laidByText := true, laidKinds := [.data, .pinned], laidTests := true, laidLooks := .later }
def GuardMakesCardSaid : Prop := Claim7.holds Tryz.pinned (.plain (OpenSpec.ofChange guardMakesSpec)) guardMakesCard

/-- THE SECOND FORM's CARD OF 'checkreinlaw15.GuardPassed'. -/
def guardPassedUptoCard : Claim7 := { stood := { row := guardPassedUptoRow, standIns := [], harness := (true, "541bac8837153249301cfa71b971d43e82469674645eb19c4b809705f51aadf3"), looks := false }, kinds := [], alts := [], laidByText := true, laidKinds := [.data, .pinned], laidTests := true, laidLooks := .later }
def GuardPassedUptoCardSaid : Prop := Claim7.holds Tryz.pinned (.plain (OpenSpec.upto guardPassedSpec)) guardPassedUptoCard

/-- THE SECOND FORM's CARD OF 'checkreinlaw15.GuardTells'. -/
def guardTellsUptoCard : Claim7 := { stood := { row := guardTellsUptoRow, standIns := [], harness := (true, "541bac8837153249301cfa71b971d43e82469674645eb19c4b809705f51aadf3"), looks := false }, kinds := [], alts := [], laidByText := true, laidKinds := [.data, .pinned], laidTests := true, laidLooks := .later }
def GuardTellsUptoCardSaid : Prop := Claim7.holds Tryz.pinned (.plain (OpenSpec.upto guardTellsSpec)) guardTellsUptoCard

/-- THE SECOND FORM's CARD OF 'checkreinlaw15.GuardSafe'. -/
def guardSafeUptoCard : Claim7 := { stood := { row := guardSafeUptoRow, standIns := [], harness := (true, "541bac8837153249301cfa71b971d43e82469674645eb19c4b809705f51aadf3"), looks := false }, kinds := [], alts := [], laidByText := true, laidKinds := [.data, .pinned], laidTests := true, laidLooks := .later }
def GuardSafeUptoCardSaid : Prop := Claim7.holds Tryz.pinned (.plain (OpenSpec.upto guardSafeSpec)) guardSafeUptoCard

/-- THE SECOND FORM's CARD OF 'checkreinlaw15.GuardTraps'. -/
def guardTrapsUptoCard : Claim7 := { stood := { row := guardTrapsUptoRow, standIns := [], harness := (true, "541bac8837153249301cfa71b971d43e82469674645eb19c4b809705f51aadf3"), looks := false }, kinds := [], alts := [], laidByText := true, laidKinds := [.data, .pinned], laidTests := true, laidLooks := .later }
def GuardTrapsUptoCardSaid : Prop := Claim7.holds Tryz.pinned (.plain (OpenSpec.upto guardTrapsSpec)) guardTrapsUptoCard

/-- THE SECOND FORM's CARD OF 'checkreinlaw15.GuardMakes'. -/
def guardMakesUptoCard : Claim7 := { stood := { row := guardMakesUptoRow, standIns := [], harness := (true, "541bac8837153249301cfa71b971d43e82469674645eb19c4b809705f51aadf3"), looks := false }, kinds := [], alts := [], laidByText := true, laidKinds := [.data, .pinned], laidTests := true, laidLooks := .later }
def GuardMakesUptoCardSaid : Prop := Claim7.holds Tryz.pinned (.plain (OpenSpec.upto guardMakesSpec)) guardMakesUptoCard
end Rows
end Go.Proofs.YtjllbchfojonhaaGreatDoor
