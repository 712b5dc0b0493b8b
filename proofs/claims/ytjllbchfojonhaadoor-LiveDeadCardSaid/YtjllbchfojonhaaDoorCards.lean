/-
  DERIVED. GIVEN WITH THE SEED: THE CARDS: each row of YtjllbchfojonhaaDoorRows.lean that lists a variable, with what it lists TIED to the program's text (the seventh form; the later family's looks); each row that meets fmt, with fmt's text TOLD by the authors' own Lean function (tested against real Go, not proved from fmt's source: count such statements apart). THE CARD IS WHAT COUNTS. Prove the row's statement (the work); the ties are given (YtjllbchfojonhaaDoorTie.lean); close each card by the builder's one call (the guide's Derived/Test/ToyasCard.lean, 'card_holds'). Laid BY PROGRAM, IN A SANDBOX (cutbox-door.mjs). By AI agents, Wed Nov 11 2026. No macro, syntax, notation, axiom, sorry.
-/
import Derived.Test.YtjllbchfojonhaaDoorRows
import GoSem.ClaimSeven
namespace Go.Proofs.YtjllbchfojonhaaDoor
namespace Rows

/-- THE TIED CARD OF 'checkreinlaw06.TypingTells'. -/
def typingTellsCard : Claim7 := { stood := { row := typingTellsRow, standIns := [], harness := (true, "155dc613cf46e8c0813d0157b5b06cbfcfcc34fa9e244529a00c1bb32f782fef"), looks := false }, kinds := [], alts := [], laidByText := true, laidKinds := [.data, .pinned], laidTests := true, laidLooks := .later }
def TypingTellsCardSaid : Prop := Claim7.holds Tryd.pinned (.plain (OpenSpec.ofChange typingTellsSpec)) typingTellsCard

/-- THE TIED CARD OF 'checkreinlaw06.TypingCounts'. -/
def typingCountsCard : Claim7 := { stood := { row := typingCountsRow, standIns := [], harness := (true, "155dc613cf46e8c0813d0157b5b06cbfcfcc34fa9e244529a00c1bb32f782fef"), looks := false }, kinds := [], alts := [], laidByText := true, laidKinds := [.data, .pinned], laidTests := true, laidLooks := .later }
def TypingCountsCardSaid : Prop := Claim7.holds Tryd.pinned (.plain (OpenSpec.ofChange typingCountsSpec)) typingCountsCard

/-- THE TIED CARD OF 'checkreinlaw14.LivePlaces'. -/
def livePlacesCard : Claim7 := { stood := { row := livePlacesRow, standIns := [], harness := (true, "155dc613cf46e8c0813d0157b5b06cbfcfcc34fa9e244529a00c1bb32f782fef"), looks := false }, kinds := [], alts := [], laidByText := true, laidKinds := [.data, .data, .pinned], laidTests := true, laidLooks := .later }
def LivePlacesCardSaid : Prop := Claim7.holds Tryd.pinned (.plain (OpenSpec.ofChange livePlacesSpec)) livePlacesCard

/-- THE TIED CARD OF 'checkreinlaw14.LiveParams'. -/
def liveParamsCard : Claim7 := { stood := { row := liveParamsRow, standIns := [], harness := (true, "155dc613cf46e8c0813d0157b5b06cbfcfcc34fa9e244529a00c1bb32f782fef"), looks := false }, kinds := [], alts := [], laidByText := true, laidKinds := [.data, .data, .pinned], laidTests := true, laidLooks := .later }
def LiveParamsCardSaid : Prop := Claim7.holds Tryd.pinned (.plain (OpenSpec.ofChange liveParamsSpec)) liveParamsCard

/-- THE TIED CARD OF 'checkreinlaw14.LiveDead'. -/
def liveDeadCard : Claim7 := { stood := { row := liveDeadRow, standIns := [], harness := (true, "155dc613cf46e8c0813d0157b5b06cbfcfcc34fa9e244529a00c1bb32f782fef"), looks := false }, kinds := [], alts := [], laidByText := true, laidKinds := [.data, .data, .pinned], laidTests := true, laidLooks := .later }
def LiveDeadCardSaid : Prop := Claim7.holds Tryd.pinned (.plain (OpenSpec.ofChange liveDeadSpec)) liveDeadCard

/-- THE TIED CARD OF 'checkreinlaw14.LiveTells'. -/
def liveTellsCard : Claim7 := { stood := { row := liveTellsRow, standIns := [], harness := (true, "155dc613cf46e8c0813d0157b5b06cbfcfcc34fa9e244529a00c1bb32f782fef"), looks := false }, kinds := [], alts := [], laidByText := true, laidKinds := [.data, .data, .pinned], laidTests := true, laidLooks := .later }
def LiveTellsCardSaid : Prop := Claim7.holds Tryd.pinned (.plain (OpenSpec.ofChange liveTellsSpec)) liveTellsCard

/-- THE TIED CARD OF 'checkreinlaw06.TypingFresh'. -/
def typingFreshCard : Claim7 := { stood := { row := typingFreshRow, standIns := [], harness := (true, "155dc613cf46e8c0813d0157b5b06cbfcfcc34fa9e244529a00c1bb32f782fef"), looks := false }, kinds := [], alts := [], laidByText := true, laidKinds := [.data, .data, .data, .data, .pinned], laidTests := true, laidLooks := .later }
def TypingFreshCardSaid : Prop := Claim7.holds Tryd.pinned (.plain (OpenSpec.ofChange typingFreshSpec)) typingFreshCard

/-- THE SECOND FORM's CARD OF 'checkreinlaw06.TypingTells'. -/
def typingTellsUptoCard : Claim7 := { stood := { row := typingTellsUptoRow, standIns := [], harness := (true, "155dc613cf46e8c0813d0157b5b06cbfcfcc34fa9e244529a00c1bb32f782fef"), looks := false }, kinds := [], alts := [], laidByText := true, laidKinds := [.data, .pinned], laidTests := true, laidLooks := .later }
def TypingTellsUptoCardSaid : Prop := Claim7.holds Tryd.pinned (.plain (OpenSpec.upto typingTellsSpec)) typingTellsUptoCard

/-- THE SECOND FORM's CARD OF 'checkreinlaw06.TypingCounts'. -/
def typingCountsUptoCard : Claim7 := { stood := { row := typingCountsUptoRow, standIns := [], harness := (true, "155dc613cf46e8c0813d0157b5b06cbfcfcc34fa9e244529a00c1bb32f782fef"), looks := false }, kinds := [], alts := [], laidByText := true, laidKinds := [.data, .pinned], laidTests := true, laidLooks := .later }
def TypingCountsUptoCardSaid : Prop := Claim7.holds Tryd.pinned (.plain (OpenSpec.upto typingCountsSpec)) typingCountsUptoCard

/-- THE SECOND FORM's CARD OF 'checkreinlaw14.LivePlaces'. -/
def livePlacesUptoCard : Claim7 := { stood := { row := livePlacesUptoRow, standIns := [], harness := (true, "155dc613cf46e8c0813d0157b5b06cbfcfcc34fa9e244529a00c1bb32f782fef"), looks := false }, kinds := [], alts := [], laidByText := true, laidKinds := [.data, .data, .pinned], laidTests := true, laidLooks := .later }
def LivePlacesUptoCardSaid : Prop := Claim7.holds Tryd.pinned (.plain (OpenSpec.upto livePlacesSpec)) livePlacesUptoCard

/-- THE SECOND FORM's CARD OF 'checkreinlaw14.LiveParams'. -/
def liveParamsUptoCard : Claim7 := { stood := { row := liveParamsUptoRow, standIns := [], harness := (true, "155dc613cf46e8c0813d0157b5b06cbfcfcc34fa9e244529a00c1bb32f782fef"), looks := false }, kinds := [], alts := [], laidByText := true, laidKinds := [.data, .data, .pinned], laidTests := true, laidLooks := .later }
def LiveParamsUptoCardSaid : Prop := Claim7.holds Tryd.pinned (.plain (OpenSpec.upto liveParamsSpec)) liveParamsUptoCard

/-- THE SECOND FORM's CARD OF 'checkreinlaw14.LiveDead'. -/
def liveDeadUptoCard : Claim7 := { stood := { row := liveDeadUptoRow, standIns := [], harness := (true, "155dc613cf46e8c0813d0157b5b06cbfcfcc34fa9e244529a00c1bb32f782fef"), looks := false }, kinds := [], alts := [], laidByText := true, laidKinds := [.data, .data, .pinned], laidTests := true, laidLooks := .later }
def LiveDeadUptoCardSaid : Prop := Claim7.holds Tryd.pinned (.plain (OpenSpec.upto liveDeadSpec)) liveDeadUptoCard

/-- THE SECOND FORM's CARD OF 'checkreinlaw14.LiveTells'. -/
def liveTellsUptoCard : Claim7 := { stood := { row := liveTellsUptoRow, standIns := [], harness := (true, "155dc613cf46e8c0813d0157b5b06cbfcfcc34fa9e244529a00c1bb32f782fef"), looks := false }, kinds := [], alts := [], laidByText := true, laidKinds := [.data, .data, .pinned], laidTests := true, laidLooks := .later }
def LiveTellsUptoCardSaid : Prop := Claim7.holds Tryd.pinned (.plain (OpenSpec.upto liveTellsSpec)) liveTellsUptoCard

/-- THE SECOND FORM's CARD OF 'checkreinlaw06.TypingFresh'. -/
def typingFreshUptoCard : Claim7 := { stood := { row := typingFreshUptoRow, standIns := [], harness := (true, "155dc613cf46e8c0813d0157b5b06cbfcfcc34fa9e244529a00c1bb32f782fef"), looks := false }, kinds := [], alts := [], laidByText := true, laidKinds := [.data, .data, .data, .data, .pinned], laidTests := true, laidLooks := .later }
def TypingFreshUptoCardSaid : Prop := Claim7.holds Tryd.pinned (.plain (OpenSpec.upto typingFreshSpec)) typingFreshUptoCard
end Rows
end Go.Proofs.YtjllbchfojonhaaDoor
