/- The tables and errors that start-up code lays for numbers: a world that holds them; from the row's condition to what the walks ask. -/
import Derived.Test.YthcdibpajdnjaaaDoorLay
import Derived.Test.YthcdibpajdnjaaaDoorNumbers
import Derived.LaidLaws
namespace Go.Proofs.YthcdibpajdnjaaaDoor
open Go.Shelf Go.ChangeShapes Go.WideShapes Go.ChangeAt Go.RowKit Go.Lib
set_option linter.unusedVariables false

theorem dPow : (Rows.laid_internal_strconv_uint64pow10 : DataW Unit) = Lib.tabData .u64 Lib.pow10Tab := by kernel_rfl
def deB32 : List Int := [0, 1, 28, 2, 29, 14, 24, 3, 30, 22, 20, 15, 25, 17, 4, 8, 31, 27, 13, 23, 21, 19, 16, 7, 26, 12, 18, 6, 11, 5, 10, 9]
def deB64 : List Int := [0, 1, 56, 2, 57, 49, 28, 3, 61, 58, 42, 50, 38, 29, 17, 4, 62, 47, 59, 36, 45, 43, 51, 22, 53, 39, 33, 30, 24, 18, 12, 5, 63, 55, 48, 27, 60, 41, 37, 16, 46, 35, 44, 21, 52, 32, 23, 11, 54, 26, 40, 15, 34, 20, 31, 10, 25, 14, 19, 9, 13, 8, 7, 6]
theorem dB32 : (Rows.laid_math_bits_deBruijn32tab : DataW Unit) = Lib.tabData .u8 deB32 := by kernel_rfl
theorem dB64 : (Rows.laid_math_bits_deBruijn64tab : DataW Unit) = Lib.tabData .u8 deB64 := by kernel_rfl
/-- a world in which all of it lies -/
noncomputable def laidWorldNum (os : Os) : World :=
  let N := (World.settled Tryd.prog os).heap.size
  let ρ := Tryd.lays200_ren
  let w0 := World.holding Tryd.prog os ⟨#[
    .cells (rgCells .u16 letterT.r16) (ρ.t 198), .cells (rgCells .u32 letterT.r32) (ρ.t 201),
    .cells #[.slice (some ⟨N, 0, none⟩) letterT.r16.size letterT.r16.size, .slice (some ⟨N + 1, 0, none⟩) letterT.r32.size letterT.r32.size, .int .i64 letterT.off] (ρ.t 196),
    .cells #[.string ⟨#[105, 110, 118, 97, 108, 105, 100, 32, 115, 121, 110, 116, 97, 120]⟩] 107,
    .cells #[.string ⟨#[118, 97, 108, 117, 101, 32, 111, 117, 116, 32, 111, 102, 32, 114, 97, 110, 103, 101]⟩] 107], #[], []⟩
  let put (h : Array Obj) (g : Nat) (cs : Array Value) : Array Obj := h.modify g fun
    | .cells _ t frozen => .cells cs t frozen
    | o => o
  let h1 := put w0.heap 0 (Lib.propertiesTab.map fun z => Value.int .u8 z).toArray
  let h2 := put h1 1 #[.pointer (some ⟨N + 2, 0, none⟩)]
  let h3 := put h2 2 (Lib.firstTab.map fun z => Value.int .u8 z).toArray
  let h4 := put h3 3 ((List.range 16).flatMap fun i => [Value.int .u8 (Lib.accLo i), Value.int .u8 (Lib.accHi i)]).toArray
  let h5 := put h4 5 #[.iface 105 (.pointer (some ⟨N + 3, 0, none⟩))]
  let h6 := put h5 6 #[.iface 105 (.pointer (some ⟨N + 4, 0, none⟩))]
  let h7 := put h6 7 (Lib.pow10Tab.map fun z => Value.int .u64 z).toArray
  let h8 := put h7 8 (deB32.map fun z => Value.int .u8 z).toArray
  let h9 := put h8 9 (deB64.map fun z => Value.int .u8 z).toArray
  { w0 with heap := h9 }
def errData (l : List UInt8) : DataW Unit := .iface "*errors.errorString" (.ptr (.agg [.lit (.string l)]))
def rngText : List UInt8 := [118, 97, 108, 117, 101, 32, 111, 117, 116, 32, 111, 102, 32, 114, 97, 110, 103, 101]
def synText : List UInt8 := [105, 110, 118, 97, 108, 105, 100, 32, 115, 121, 110, 116, 97, 120]
theorem dRng : (Rows.laid_strconv_ErrRange : DataW Unit) = errData rngText := by kernel_rfl
theorem dSyn : (Rows.laid_strconv_ErrSyntax : DataW Unit) = errData synText := by kernel_rfl

theorem pieceN0 (os : Os) (args : Array Value) : LaidIn Tryd.prog ((laidWorldNum os).forCall (fun _ _ => 0) ⟨#[], args, []⟩).memory
    [("math/bits.deBruijn32tab", Lib.tabData .u8 deB32), ("math/bits.deBruijn64tab", Lib.tabData .u8 deB64), ("internal/strconv.uint64pow10", Lib.tabData .u64 Lib.pow10Tab), ("unicode/utf8.acceptRanges", Lib.acceptData), ("strconv.ErrRange", errData rngText), ("strconv.ErrSyntax", errData synText), ("unicode.properties", Lib.tabData .u8 Lib.propertiesTab)] [8, 9, 7, 3, 6, N0 + 4, 5, N0 + 3, 0] :=
  LaidIn.of_run [8, 9, 7, 3, 6, N0 + 4, 5, N0 + 3, 0] 8 (by kernel_rfl) (by kernel_rfl) (by kernel_rfl) (by kernel_rfl)
theorem pieceN1 (os : Os) (args : Array Value) : LaidIn Tryd.prog ((laidWorldNum os).forCall (fun _ _ => 0) ⟨#[], args, []⟩).memory [("unicode.Letter", Lib.rtabData letterT)] [1, N0 + 2, N0, N0 + 1] :=
  laidIn_rtab (ρ := Tryd.lays200_ren) { Tryd.lays200 with } xL (by kernel_rfl) (by kernel_rfl) letterT (N0 + 2) N0 (N0 + 1) (Tryd.lays200_ren.t 198) (Tryd.lays200_ren.t 201)
    (by kernel_rfl) (by kernel_rfl) (by kernel_rfl) (by kernel_rfl) (by kernel_rfl) (of_decide_eq_true (by kernel_rfl)) (of_decide_eq_true (by kernel_rfl)) (of_decide_eq_true (by kernel_rfl))
theorem pieceN2 (os : Os) (args : Array Value) : LaidIn Tryd.prog ((laidWorldNum os).forCall (fun _ _ => 0) ⟨#[], args, []⟩).memory [("unicode/utf8.first", Lib.firstData)] [2] :=
  LaidIn.of_run [2] 8 (by kernel_rfl) (by kernel_rfl) (by kernel_rfl) (by kernel_rfl)
def laid9 : List (String × DataW Unit) := [("math/bits.deBruijn32tab", Lib.tabData .u8 deB32), ("math/bits.deBruijn64tab", Lib.tabData .u8 deB64), ("internal/strconv.uint64pow10", Lib.tabData .u64 Lib.pow10Tab), ("unicode/utf8.acceptRanges", Lib.acceptData), ("strconv.ErrRange", errData rngText), ("strconv.ErrSyntax", errData synText), ("unicode.properties", Lib.tabData .u8 Lib.propertiesTab), ("unicode.Letter", Lib.rtabData letterT), ("unicode/utf8.first", Lib.firstData)]
theorem laid9_met (os : Os) (args : Array Value) : laidMet Tryd.prog laid9 ((laidWorldNum os).forCall (fun _ _ => 0) ⟨#[], args, []⟩).memory :=
  (((pieceN0 os args).append (pieceN1 os args) (by kernel_rfl)).append (pieceN2 os args) (by kernel_rfl)).met
theorem laid9_eq : Rows.scanNumbersRow.laid = laid9 := by
  unfold Rows.scanNumbersRow laid9
  simp only [dB32, dB64, dPow, dAccept, dRng, dSyn, dProps, dLetter, dFirst]
theorem gPow : Tryd.prog.globalNamed "internal/strconv.uint64pow10" = some 7 := by kernel_rfl
theorem gPowT : (Tryd.prog.globals[7]?).map (·.type) = some 98 := by kernel_rfl
/-- a variable that reads as an error holds an interface value -/
theorem iface_of_reads {W : World} {name : String} {g : Nat} {l : List UInt8} (hg : Tryd.prog.globalNamed name = some g) (hty : (Tryd.prog.globals[g]?).map (·.type) = some 45) (h : VarReads Tryd.prog W name (errData l)) :
    ∃ ev, W.cell? ⟨g, 0, none⟩ = some ev ∧ (ev = .nilIface ∨ ∃ te pe, ev = .iface te pe) := by
  obtain ⟨g', t', cs, fuel, p, hg', ht', hvar, hd⟩ := h
  obtain rfl := Option.some.inj (hg.symm.trans hg')
  obtain rfl := Option.some.inj (hty.symm.trans ht')
  obtain ⟨f1, u, v, e, _, _⟩ := iface_of_trod Tryd.underlying45 hd
  have hc := World.var?_cell hg hvar 0
  refine ⟨.iface u v, ?_, .inr ⟨u, v, rfl⟩⟩
  rw [hc, ← Array.getElem?_toList, e]
  rfl
/-- from what is laid, and the world's shape, to what the walks ask -/
theorem tabsNum_of {W : World} (hL : laidMet Tryd.prog laid9 W) (hsh : W.ShapedOpen Tryd.prog) : TabsNum W :=
  ⟨tabs_of hL (by simp [laid9]) (by simp [laid9]) (by simp [laid9]) (by simp [laid9]) hsh,
   tabIs_of_reads gPow gPowT Tryd.underlying98 Tryd.underlying49 (by kernel_rfl) (by kernel_rfl) (Lib.laidMet.reads hL (by simp [laid9])),
   iface_of_reads (by kernel_rfl) (by kernel_rfl) (Lib.laidMet.reads (n := "strconv.ErrSyntax") (d := errData synText) hL (by simp [laid9])),
   iface_of_reads (by kernel_rfl) (by kernel_rfl) (Lib.laidMet.reads (n := "strconv.ErrRange") (d := errData rngText) hL (by simp [laid9]))⟩
end Go.Proofs.YthcdibpajdnjaaaDoor
