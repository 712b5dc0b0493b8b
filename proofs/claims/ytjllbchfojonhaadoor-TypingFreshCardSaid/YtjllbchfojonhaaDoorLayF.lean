/- The tables that start-up code lays for numbers' digits: a world that holds them; from the row's condition to what the walks ask. -/
import Derived.Test.YtjllbchfojonhaaDoorLay
import Derived.Test.YtjllbchfojonhaaDoorFreshWalk
import Derived.LaidLaws
namespace Go.Proofs.YtjllbchfojonhaaDoor
open Go.Shelf Go.ChangeShapes Go.WideShapes Go.ChangeAt Go.RowKit Go.Lib
set_option linter.unusedVariables false

theorem dPow : (Rows.laid_internal_strconv_uint64pow10 : DataW Unit) = Lib.tabData .u64 Lib.pow10Tab := by kernel_rfl
def deB32 : List Int := [0, 1, 28, 2, 29, 14, 24, 3, 30, 22, 20, 15, 25, 17, 4, 8, 31, 27, 13, 23, 21, 19, 16, 7, 26, 12, 18, 6, 11, 5, 10, 9]
def deB64 : List Int := [0, 1, 56, 2, 57, 49, 28, 3, 61, 58, 42, 50, 38, 29, 17, 4, 62, 47, 59, 36, 45, 43, 51, 22, 53, 39, 33, 30, 24, 18, 12, 5, 63, 55, 48, 27, 60, 41, 37, 16, 46, 35, 44, 21, 52, 32, 23, 11, 54, 26, 40, 15, 34, 20, 31, 10, 25, 14, 19, 9, 13, 8, 7, 6]
theorem dB32 : (Rows.laid_math_bits_deBruijn32tab : DataW Unit) = Lib.tabData .u8 deB32 := by kernel_rfl
theorem dB64 : (Rows.laid_math_bits_deBruijn64tab : DataW Unit) = Lib.tabData .u8 deB64 := by kernel_rfl
/-- a world in which all of it lies -/
noncomputable def laidWorldF (os : Os) : World :=
  let N := (World.settled Tryd.prog os).heap.size
  let ρ := Tryd.lays200_ren
  let w0 := World.holding Tryd.prog os ⟨#[
    .cells (rgCells .u16 letterT.r16) (ρ.t 198), .cells (rgCells .u32 letterT.r32) (ρ.t 201),
    .cells #[.slice (some ⟨N, 0, none⟩) letterT.r16.size letterT.r16.size, .slice (some ⟨N + 1, 0, none⟩) letterT.r32.size letterT.r32.size, .int .i64 letterT.off] (ρ.t 196)], #[], []⟩
  let put (h : Array Obj) (g : Nat) (cs : Array Value) : Array Obj := h.modify g fun
    | .cells _ t frozen => .cells cs t frozen
    | o => o
  let h1 := put w0.heap 1 (Lib.propertiesTab.map fun z => Value.int .u8 z).toArray
  let h2 := put h1 2 #[.pointer (some ⟨N + 2, 0, none⟩)]
  let h3 := put h2 3 (Lib.pow10Tab.map fun z => Value.int .u64 z).toArray
  let h4 := put h3 4 (deB32.map fun z => Value.int .u8 z).toArray
  let h5 := put h4 0 (deB64.map fun z => Value.int .u8 z).toArray
  { w0 with heap := h5 }
theorem pieceF0 (os : Os) (args : Array Value) : LaidIn Tryd.prog ((laidWorldF os).forCall (fun _ _ => 0) ⟨#[], args, []⟩).memory
    [("math/bits.deBruijn32tab", Lib.tabData .u8 deB32), ("math/bits.deBruijn64tab", Lib.tabData .u8 deB64), ("internal/strconv.uint64pow10", Lib.tabData .u64 Lib.pow10Tab), ("unicode.properties", Lib.tabData .u8 Lib.propertiesTab)] [4, 0, 3, 1] :=
  LaidIn.of_run [4, 0, 3, 1] 8 (by kernel_rfl) (by kernel_rfl) (by kernel_rfl) (by kernel_rfl)
theorem pieceF1 (os : Os) (args : Array Value) : LaidIn Tryd.prog ((laidWorldF os).forCall (fun _ _ => 0) ⟨#[], args, []⟩).memory [("unicode.Letter", Lib.rtabData letterT)] [2, N0 + 2, N0, N0 + 1] :=
  laidIn_rtab (ρ := Tryd.lays200_ren) { Tryd.lays200 with } xL (by kernel_rfl) (by kernel_rfl) letterT (N0 + 2) N0 (N0 + 1) (Tryd.lays200_ren.t 198) (Tryd.lays200_ren.t 201)
    (by kernel_rfl) (by kernel_rfl) (by kernel_rfl) (by kernel_rfl) (by kernel_rfl) (of_decide_eq_true (by kernel_rfl)) (of_decide_eq_true (by kernel_rfl)) (of_decide_eq_true (by kernel_rfl))
def laid5 : List (String × DataW Unit) := [("math/bits.deBruijn32tab", Lib.tabData .u8 deB32), ("math/bits.deBruijn64tab", Lib.tabData .u8 deB64), ("internal/strconv.uint64pow10", Lib.tabData .u64 Lib.pow10Tab), ("unicode.properties", Lib.tabData .u8 Lib.propertiesTab), ("unicode.Letter", Lib.rtabData letterT)]
theorem laid5_met (os : Os) (args : Array Value) : laidMet Tryd.prog laid5 ((laidWorldF os).forCall (fun _ _ => 0) ⟨#[], args, []⟩).memory :=
  ((pieceF0 os args).append (pieceF1 os args) (by kernel_rfl)).met
theorem laid5_eq : Rows.typingFreshRow.laid = laid5 := by
  unfold Rows.typingFreshRow laid5
  simp only [dB32, dB64, dPow, dProps, dLetter]
theorem gPow : Tryd.prog.globalNamed "internal/strconv.uint64pow10" = some 3 := by kernel_rfl
theorem gPowT : (Tryd.prog.globals[3]?).map (·.type) = some 178 := by kernel_rfl
theorem tabsF_of {W : World} (hL : laidMet Tryd.prog laid5 W) : TabsF W :=
  ⟨tabs_of hL (by simp [laid5]) (by simp [laid5]),
   tabIs_of_reads gPow gPowT Tryd.underlying178 Tryd.underlying125 (by kernel_rfl) (by kernel_rfl) (Lib.laidMet.reads hL (by simp [laid5]))⟩
set_option linter.constructorNameAsVariable false in
set_option maxRecDepth 100000 in
/-- a slice of strings that came in as an argument, opened -/
theorem open_strs {H : Type} {enc : TypeId × Value → H} {w : World} {base : Nat} {spare : Nat → Bool} {held : Bool} {r : Reach} {b0 : Nat} {v : Value} {d : DataW H} {p : List MemPlace} (hv : Value.okWide Tryd.prog w r b0 74 v) (h : DataW.Trod enc Tryd.prog w base spare held 74 v d p) :
    ∃ l : List ByteArray, Row w 1 v (l.map strCells) := by
  obtain ⟨fuel, hx⟩ := h
  obtain ⟨v1, l, e, hr, _⟩ := open_rows (M := ByteArray) strCells (fun _ => True) (C := 1) Tryd.underlying74 (by kernel_rfl) (by decide) (fun n cs y hl ht => by
    obtain ⟨s, rfl, _, _⟩ := DataW.trod_string Tryd.underlying9 ht
    exact ⟨s, rfl, trivial⟩) hx
  refine ⟨l, ?_⟩
  obtain ⟨a0, len, cap, rfl⟩ := okWide_slice Tryd.underlying74 hv
  have hv' : Value.slice a0 len cap = v1 := (List.cons.inj (show [Value.slice a0 len cap] = [v1] from e)).1
  rw [hv']
  exact hr
end Go.Proofs.YtjllbchfojonhaaDoor
