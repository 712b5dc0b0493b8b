/- What start-up code has laid, as the walks ask it; the contracts of the library's functions over it. -/
import Derived.Test.YthcdibpajdnjaaaDoorChecked
import Derived.Test.YthcdibpajdnjaaaDoorMem
import Derived.Test.YthcdibpajdnjaaaDoorRunes
import Derived.Test.YthcdibpajdnjaaaDoorShelf
import Derived.Shelf.Unicode.PredsPay
import Derived.Lib.ValidU
import Derived.Lib.Strings
namespace Go.Proofs.YthcdibpajdnjaaaDoor
open Go.RowKit Go.Shelf Go.Lib

/-- what start-up code has laid, and that one variable holds some number -/
structure Tabs (w : World) : Prop where
  most : ∃ m, w.cell? ⟨4, 0, none⟩ = some (.int .i64 m)
  props : Lib.TabIs Tryd.prog w "unicode.properties" .u8 Lib.propertiesTab
  letter : Lib.RVar 1 Lib.letterT w
  utf8 : Lib.Utf8Tabs 2 3 w
theorem Tabs.below {w w' : World} (h : Tabs w) (k : Below w.heap.size w w') : Tabs w' :=
  ⟨by obtain ⟨m, hm⟩ := h.most; exact ⟨m, (k.cell (p := ⟨4, 0, none⟩) (World.block_lt_of_cell? w _ hm)).trans hm⟩, TabIs_below (show Tryd.prog.globalNamed "unicode.properties" = some 0 by kernel_rfl) h.props k, RVar_below h.letter k, Utf8Tabs_below h.utf8 k⟩
theorem Tabs.keep {w w' : World} (h : Tabs w) (k : Keeps w w' []) : Tabs w' := h.below k.below_

theorem isLetter_any (r : Int) (w : World) (ht : Tabs w) (h1 : -2147483648 ≤ r) (h2 : r ≤ 2147483647) : Calls Tryd.prog 21 #[.int .i32 r] w fun e w' => e = .returned (.bool (Lib.isLetterU r)) ∧ Keeps w w' [] :=
  (show Calls Tryd.prog 21 #[.int .i32 r] w fun e w' => e = .returned (.bool (Lib.isLetterU r)) ∧ Below w.heap.size w w' from Any.unicode_IsLetter_all Tryd.lays200 (by kernel_rfl) r w h1 h2 ht.props ht.letter).mono fun _ _ ⟨he, hb⟩ => ⟨he, Keeps.of_below hb⟩
theorem valid_any (s : ByteArray) (w : World) (ht : Tabs w) (hs : s.size ≤ 9223372036854775807) : Calls Tryd.prog 26 #[.string s] w fun e w' => e = .returned (.bool (Lib.validD s.data.toList)) ∧ Keeps w w' [] :=
  (show Calls Tryd.prog 26 #[.string s] w fun e w' => e = .returned (.bool (Lib.validD s.data.toList)) ∧ Below w.heap.size w w' from Any.utf8_ValidString Tryd.lays196 s w hs ht.utf8).mono fun _ _ ⟨he, hb⟩ => ⟨he, Keeps.of_below hb⟩
theorem cut_any (s sep : ByteArray) (w : World) (ht : Tabs w) (hs : s.size < 4294967281) :
    Calls Tryd.prog 20 #[.string s, .string sep] w fun e w' => e = .returned (.tuple #[.string ⟨(Lib.cut s.data.toList sep.data.toList).1.toArray⟩, .string ⟨(Lib.cut s.data.toList sep.data.toList).2.1.toArray⟩, .bool (Lib.cut s.data.toList sep.data.toList).2.2]) ∧ Keeps w w' [] := by
  obtain ⟨m, hm⟩ := ht.most
  refine (show Calls Tryd.prog 20 #[.string s, .string sep] w fun e w' => e = .returned (.tuple #[.string ⟨(Lib.cut s.data.toList sep.data.toList).1.toArray⟩, .string ⟨(Lib.cut s.data.toList sep.data.toList).2.1.toArray⟩, .bool (Lib.cut s.data.toList sep.data.toList).2.2]) ∧ ∃ n, w' = w.drewN n from
    Any.strings_Cut { Tryd.laysM145 with } s sep m w hs hm).mono fun _ _ ⟨he, n, hw⟩ => ⟨he, hw ▸ (Keeps.refl w []).drewN n⟩
theorem split_any (s sep : ByteArray) (w : World) (ht : Tabs w) (hs : s.size < 4294967281) (h1 : 1 ≤ sep.size) :
    Calls Tryd.prog 18 #[.string s, .string sep] w fun e w' => e = .returned (.slice (some ⟨w.heap.size, 0, none⟩) (Lib.countB s sep + 1) (Lib.countB s sep + 1)) ∧ w' = w.alloc (.cells ((Lib.splitB sep 0 (Lib.countB s sep) s).map Value.string).toArray 9) := by
  obtain ⟨m, hm⟩ := ht.most
  exact Any.strings_Split { Tryd.laysM146 with } Tryd.laysM146.i9 s sep m w hs hm h1
end Go.Proofs.YthcdibpajdnjaaaDoor
