/- What start-up code has laid, as the walks ask it (the typing seat). -/
import Derived.Test.YtjllbchfojonhaaGreatDoorChecked
import Derived.Test.YtjllbchfojonhaaGreatDoorB1
import Derived.Test.YtjllbchfojonhaaGreatDoorShelf
import Derived.Shelf.Unicode.PredsPay
import Derived.Lib.Strings
namespace Go.Proofs.YtjllbchfojonhaaGreatDoor
open Go.RowKit Go.Shelf Go.Lib

/-- what start-up code has laid -/
structure Tabs (w : World) : Prop where
 props : Lib.TabIs Tryz.prog w "unicode.properties" .u8 Lib.propertiesTab
 letter : Lib.RVar 1 Lib.letterT w
theorem Tabs.below {w w' : World} (h : Tabs w) (k : Below w.heap.size w w') : Tabs w' :=
 ⟨TabIs_below (show Tryz.prog.globalNamed "unicode.properties" = some 0 by kernel_rfl) h.props k, RVar_below h.letter k⟩
theorem Tabs.keep {w w' : World} (h : Tabs w) (k : Keeps w w' []) : Tabs w' := h.below k.below_

theorem isLetter_any (r : Int) (w : World) (ht : Tabs w) (h1 : -2147483648 ≤ r) (h2 : r ≤ 2147483647) : Calls Tryz.prog 113 #[.int .i32 r] w fun e w' => e = .returned (.bool (Lib.isLetterU r)) ∧ Keeps w w' [] :=
 (show Calls Tryz.prog 113 #[.int .i32 r] w fun e w' => e = .returned (.bool (Lib.isLetterU r)) ∧ Below w.heap.size w w' from Any.unicode_IsLetter_all Tryz.lays200 (by kernel_rfl) r w h1 h2 ht.props ht.letter).mono fun _ _ ⟨he, hb⟩ => ⟨he, Keeps.of_below hb⟩
end Go.Proofs.YtjllbchfojonhaaGreatDoor
