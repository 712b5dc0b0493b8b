/- The tables that start-up code lays, one of bits among them: a world that holds them; from the row's condition to what the walks ask. -/
import Derived.Test.YtjllbchfojonhaaDoorLay
import Derived.Test.YtjllbchfojonhaaDoorLiveTwo
import Derived.LaidLaws
namespace Go.Proofs.YtjllbchfojonhaaDoor
open Go.Shelf Go.ChangeShapes Go.WideShapes Go.ChangeAt Go.RowKit Go.Lib
set_option linter.unusedVariables false

def deL64 : List Int := Lib.deBruijn64tab.map Int.ofNat
theorem dL64 : (Rows.laid_math_bits_deBruijn64tab : DataW Unit) = Lib.tabData .u8 deL64 := by kernel_rfl
/-- a world in which all of it lies -/
noncomputable def laidWorldL (os : Os) : World :=
  let N := (World.settled Tryd.prog os).heap.size
  let ρ := Tryd.lays200_ren
  let w0 := World.holding Tryd.prog os ⟨#[
    .cells (rgCells .u16 letterT.r16) (ρ.t 198), .cells (rgCells .u32 letterT.r32) (ρ.t 201),
    .cells #[.slice (some ⟨N, 0, none⟩) letterT.r16.size letterT.r16.size, .slice (some ⟨N + 1, 0, none⟩) letterT.r32.size letterT.r32.size, .int .i64 letterT.off] (ρ.t 196)], #[], []⟩
  let put (h : Array Obj) (g : Nat) (cs : Array Value) : Array Obj := h.modify g fun
    | .cells _ t frozen => .cells cs t frozen
    | o => o
  let h1 := put w0.heap 1 (Lib.propertiesTab.map fun z => Value.int .u8 z).toArray
  let h2 := put h1 2 #[.pointer (some ⟨N + 2, 0, none⟩)]
  let h3 := put h2 0 (deL64.map fun z => Value.int .u8 z).toArray
  { w0 with heap := h3 }
theorem pieceL0 (os : Os) (args : Array Value) : LaidIn Tryd.prog ((laidWorldL os).forCall (fun _ _ => 0) ⟨#[], args, []⟩).memory
    [("math/bits.deBruijn64tab", Lib.tabData .u8 deL64), ("unicode.properties", Lib.tabData .u8 Lib.propertiesTab)] [0, 1] :=
  LaidIn.of_run [0, 1] 8 (by kernel_rfl) (by kernel_rfl) (by kernel_rfl) (by kernel_rfl)
theorem pieceL1 (os : Os) (args : Array Value) : LaidIn Tryd.prog ((laidWorldL os).forCall (fun _ _ => 0) ⟨#[], args, []⟩).memory [("unicode.Letter", Lib.rtabData letterT)] [2, N0 + 2, N0, N0 + 1] :=
  laidIn_rtab (ρ := Tryd.lays200_ren) { Tryd.lays200 with } xL (by kernel_rfl) (by kernel_rfl) letterT (N0 + 2) N0 (N0 + 1) (Tryd.lays200_ren.t 198) (Tryd.lays200_ren.t 201)
    (by kernel_rfl) (by kernel_rfl) (by kernel_rfl) (by kernel_rfl) (by kernel_rfl) (of_decide_eq_true (by kernel_rfl)) (of_decide_eq_true (by kernel_rfl)) (of_decide_eq_true (by kernel_rfl))
def laid3 : List (String × DataW Unit) := [("math/bits.deBruijn64tab", Lib.tabData .u8 deL64), ("unicode.properties", Lib.tabData .u8 Lib.propertiesTab), ("unicode.Letter", Lib.rtabData letterT)]
theorem laid3_met (os : Os) (args : Array Value) : laidMet Tryd.prog laid3 ((laidWorldL os).forCall (fun _ _ => 0) ⟨#[], args, []⟩).memory :=
  ((pieceL0 os args).append (pieceL1 os args) (by kernel_rfl)).met
theorem laid3_eq : [("math/bits.deBruijn64tab", (Rows.laid_math_bits_deBruijn64tab : DataW Unit)), ("unicode.properties", Rows.laid_unicode_properties), ("unicode.Letter", Rows.laid_unicode_Letter)] = laid3 := by
  rw [dL64, dProps, dLetter]
  rfl
theorem gDe : Tryd.prog.globalNamed "math/bits.deBruijn64tab" = some 0 := by kernel_rfl
theorem gDeT : (Tryd.prog.globals[0]?).map (·.type) = some 146 := by kernel_rfl
theorem tabsL_of {W : World} (hL : laidMet Tryd.prog laid3 W) : TabsL W := by
  refine ⟨tabs_of hL (by simp [laid3]) (by simp [laid3]), fun j hj => ?_⟩
  have h := tabIs_of_reads gDe gDeT Tryd.underlying146 Tryd.underlying5 (by kernel_rfl) (by kernel_rfl) (Lib.laidMet.reads hL (show ("math/bits.deBruijn64tab", Lib.tabData .u8 deL64) ∈ laid3 by simp [laid3]))
  have h2 := h.cell gDe j (by unfold deL64; rw [List.length_map]; exact hj)
  rw [h2]
  unfold deL64
  simp [List.getD, List.getElem?_map, List.getElem?_eq_getElem hj]
end Go.Proofs.YtjllbchfojonhaaDoor
