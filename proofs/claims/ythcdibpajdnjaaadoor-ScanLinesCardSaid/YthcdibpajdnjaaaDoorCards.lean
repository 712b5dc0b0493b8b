/-
  DERIVED. GIVEN WITH THE SEED: THE CARDS: each row of YthcdibpajdnjaaaDoorRows.lean that lists a variable, with what it lists TIED to the program's text (the seventh form; the later family's looks); each row that meets fmt, with fmt's text TOLD by the authors' own Lean function (tested against real Go, not proved from fmt's source: count such statements apart). THE CARD IS WHAT COUNTS. Prove the row's statement (the work); the ties are given (YthcdibpajdnjaaaDoorTie.lean); close each card by the builder's one call (the guide's Derived/Test/ToyasCard.lean, 'card_holds'). Laid BY PROGRAM, IN A SANDBOX (cutbox-door.mjs). By AI agents, Wed Nov 11 2026. No macro, syntax, notation, axiom, sorry.
-/
import Derived.Test.YthcdibpajdnjaaaDoorRows
import GoSem.ClaimSeven
namespace Go.Proofs.YthcdibpajdnjaaaDoor
namespace Rows

/-- THE TIED CARD OF 'checkreinlaw01.ScanLines'. -/
def scanLinesCard : Claim7 := { stood := { row := scanLinesRow, standIns := [], harness := (true, "f43f26acbf04d47d760ba78cc5e47d1dadc1aa2ea5f60864346e040d95574ce1"), looks := true }, kinds := [], alts := [], laidByText := true, laidKinds := [.data, .data, .pinned, .pinned], laidTests := true, laidLooks := .later }
def ScanLinesCardSaid : Prop := Claim7.holds Tryd.pinned (.plain (OpenSpec.ofChange scanLinesSpec)) scanLinesCard

/-- THE TIED CARD OF 'checkreinlaw01.ScanLong'. -/
def scanLongCard : Claim7 := { stood := { row := scanLongRow, standIns := [], harness := (true, "f43f26acbf04d47d760ba78cc5e47d1dadc1aa2ea5f60864346e040d95574ce1"), looks := true }, kinds := [], alts := [], laidByText := true, laidKinds := [.data, .data, .pinned, .pinned], laidTests := true, laidLooks := .later }
def ScanLongCardSaid : Prop := Claim7.holds Tryd.pinned (.plain (OpenSpec.ofChange scanLongSpec)) scanLongCard

/-- THE TIED CARD OF 'checkreinlaw01.ScanNames'. -/
def scanNamesCard : Claim7 := { stood := { row := scanNamesRow, standIns := [], harness := (true, "f43f26acbf04d47d760ba78cc5e47d1dadc1aa2ea5f60864346e040d95574ce1"), looks := true }, kinds := [], alts := [], laidByText := true, laidKinds := [.data, .data, .pinned, .pinned], laidTests := true, laidLooks := .later }
def ScanNamesCardSaid : Prop := Claim7.holds Tryd.pinned (.plain (OpenSpec.ofChange scanNamesSpec)) scanNamesCard

/-- THE TIED CARD OF 'checkreinlaw01.ScanNumbers'. -/
def scanNumbersCard : Claim7 := { stood := { row := scanNumbersRow, standIns := [], harness := (true, "f43f26acbf04d47d760ba78cc5e47d1dadc1aa2ea5f60864346e040d95574ce1"), looks := true }, kinds := [], alts := [], laidByText := true, laidKinds := [.data, .data, .data, .data, .sentinel, .sentinel, .data, .pinned, .pinned], laidTests := true, laidLooks := .later }
def ScanNumbersCardSaid : Prop := Claim7.holds Tryd.pinned (.plain (OpenSpec.ofChange scanNumbersSpec)) scanNumbersCard

/-- THE SECOND FORM's CARD OF 'checkreinlaw01.ScanLines'. -/
def scanLinesUptoCard : Claim7 := { stood := { row := scanLinesUptoRow, standIns := [], harness := (true, "f43f26acbf04d47d760ba78cc5e47d1dadc1aa2ea5f60864346e040d95574ce1"), looks := true }, kinds := [], alts := [], laidByText := true, laidKinds := [.data, .data, .pinned, .pinned], laidTests := true, laidLooks := .later }
def ScanLinesUptoCardSaid : Prop := Claim7.holds Tryd.pinned (.plain (OpenSpec.upto scanLinesSpec)) scanLinesUptoCard

/-- THE SECOND FORM's CARD OF 'checkreinlaw01.ScanLong'. -/
def scanLongUptoCard : Claim7 := { stood := { row := scanLongUptoRow, standIns := [], harness := (true, "f43f26acbf04d47d760ba78cc5e47d1dadc1aa2ea5f60864346e040d95574ce1"), looks := true }, kinds := [], alts := [], laidByText := true, laidKinds := [.data, .data, .pinned, .pinned], laidTests := true, laidLooks := .later }
def ScanLongUptoCardSaid : Prop := Claim7.holds Tryd.pinned (.plain (OpenSpec.upto scanLongSpec)) scanLongUptoCard

/-- THE SECOND FORM's CARD OF 'checkreinlaw01.ScanNames'. -/
def scanNamesUptoCard : Claim7 := { stood := { row := scanNamesUptoRow, standIns := [], harness := (true, "f43f26acbf04d47d760ba78cc5e47d1dadc1aa2ea5f60864346e040d95574ce1"), looks := true }, kinds := [], alts := [], laidByText := true, laidKinds := [.data, .data, .pinned, .pinned], laidTests := true, laidLooks := .later }
def ScanNamesUptoCardSaid : Prop := Claim7.holds Tryd.pinned (.plain (OpenSpec.upto scanNamesSpec)) scanNamesUptoCard

/-- THE SECOND FORM's CARD OF 'checkreinlaw01.ScanNumbers'. -/
def scanNumbersUptoCard : Claim7 := { stood := { row := scanNumbersUptoRow, standIns := [], harness := (true, "f43f26acbf04d47d760ba78cc5e47d1dadc1aa2ea5f60864346e040d95574ce1"), looks := true }, kinds := [], alts := [], laidByText := true, laidKinds := [.data, .data, .data, .data, .sentinel, .sentinel, .data, .pinned, .pinned], laidTests := true, laidLooks := .later }
def ScanNumbersUptoCardSaid : Prop := Claim7.holds Tryd.pinned (.plain (OpenSpec.upto scanNumbersSpec)) scanNumbersUptoCard
end Rows
end Go.Proofs.YthcdibpajdnjaaaDoor
