/- The tables that start-up code lays: a world that holds them; from the row's condition to what the walks ask; arguments read behind the call as before. -/
import Derived.Test.YtjllbchfojonhaaGreatDoorTN
import Derived.Test.YtjllbchfojonhaaGreatDoorRows
import Derived.Test.YtjllbchfojonhaaGreatDoorB1
import Derived.Lib.LaidIn
import Derived.Lib.LaidRTab
import Derived.Deep.DeepHandedRow
import Derived.Deep.DeepWitnessRowRef
import Derived.ProofKit
import Derived.SizedLaws
import Derived.ShutString
import Derived.OpenShut
import Derived.ChangeOld
import Derived.HandedShaped
namespace Go.Proofs.YtjllbchfojonhaaGreatDoor
open Go.Shelf Go.ChangeShapes Go.WideShapes Go.ChangeAt Go.RowKit Go.Lib
set_option linter.unusedVariables false
theorem own : ownKnob Tryz.prog.godebug = none := by kernel_rfl
theorem laidOut : laidOutB Tryz.prog = true := by kernel_rfl
theorem dProps : (Rows.laid_unicode_properties : DataW Unit) = Lib.tabData .u8 Lib.propertiesTab := by kernel_rfl
theorem dLetter : Rows.laid_unicode_Letter = Lib.rtabData Lib.letterT := by kernel_rfl
theorem xL : RExtra Tryz.prog Tryz.lays200_ren := ⟨by kernel_rfl, by kernel_rfl, by kernel_rfl, by kernel_rfl, by kernel_rfl, by kernel_rfl, by kernel_rfl, by kernel_rfl⟩
theorem gPt : (Tryz.prog.globals[0]?).map (·.type) = some 196 := by kernel_rfl
theorem gP : Tryz.prog.globalNamed "unicode.properties" = some 0 := by kernel_rfl
noncomputable abbrev N0 : Nat := (World.settled Tryz.prog default).heap.size
/-- a world in which the two tables lie -/
noncomputable def laidWorld (os : Os) : World :=
  let N := (World.settled Tryz.prog os).heap.size
  let ρ := Tryz.lays200_ren
  let w0 := World.holding Tryz.prog os ⟨#[
    .cells (rgCells .u16 letterT.r16) (ρ.t 198), .cells (rgCells .u32 letterT.r32) (ρ.t 201),
    .cells #[.slice (some ⟨N, 0, none⟩) letterT.r16.size letterT.r16.size, .slice (some ⟨N + 1, 0, none⟩) letterT.r32.size letterT.r32.size, .int .i64 letterT.off] (ρ.t 196)], #[], []⟩
  let put (h : Array Obj) (g : Nat) (cs : Array Value) : Array Obj := h.modify g fun
    | .cells _ t frozen => .cells cs t frozen
    | o => o
  let h1 := put w0.heap 0 (Lib.propertiesTab.map fun z => Value.int .u8 z).toArray
  let h2 := put h1 1 #[.pointer (some ⟨N + 2, 0, none⟩)]
  { w0 with heap := h2 }
theorem piece0 (os : Os) (args : Array Value) : LaidIn Tryz.prog ((laidWorld os).forCall (fun _ _ => 0) ⟨#[], args, []⟩).memory [("unicode.properties", Lib.tabData .u8 Lib.propertiesTab)] [0] :=
  LaidIn.of_run [0] 8 (by kernel_rfl) (by kernel_rfl) (by kernel_rfl) (by kernel_rfl)
theorem piece1 (os : Os) (args : Array Value) : LaidIn Tryz.prog ((laidWorld os).forCall (fun _ _ => 0) ⟨#[], args, []⟩).memory [("unicode.Letter", Lib.rtabData letterT)] [1, N0 + 2, N0, N0 + 1] :=
  laidIn_rtab (ρ := Tryz.lays200_ren) { Tryz.lays200 with } xL (by kernel_rfl) (by kernel_rfl) letterT (N0 + 2) N0 (N0 + 1) (Tryz.lays200_ren.t 198) (Tryz.lays200_ren.t 201)
    (by kernel_rfl) (by kernel_rfl) (by kernel_rfl) (by kernel_rfl) (by kernel_rfl) (of_decide_eq_true (by kernel_rfl)) (of_decide_eq_true (by kernel_rfl)) (of_decide_eq_true (by kernel_rfl))
def laid2 : List (String × DataW Unit) := [("unicode.properties", Lib.tabData .u8 Lib.propertiesTab), ("unicode.Letter", Lib.rtabData letterT)]
theorem laid2_met (os : Os) (args : Array Value) : laidMet Tryz.prog laid2 ((laidWorld os).forCall (fun _ _ => 0) ⟨#[], args, []⟩).memory :=
  ((piece0 os args).append (piece1 os args) (by kernel_rfl)).met
theorem laid2_eq : [("unicode.properties", (Rows.laid_unicode_properties : DataW Unit)), ("unicode.Letter", Rows.laid_unicode_Letter)] = laid2 := by
  rw [dProps, dLetter]
  rfl
theorem tabIs_of_reads {P : Program} {W : World} {name : String} {k : IntKind} {zs : List Int} {g : Nat} {t e : TypeId} {n : Nat}
    (hg : P.globalNamed name = some g) (hty : (P.globals[g]?).map (·.type) = some t) (ht : P.underlying t = some (.array n e)) (he : P.underlying e = some (.int k)) (hce : P.cellsOf e = 1) (hct : P.cellsOf t = n)
    (h : VarReads P W name (tabData k zs)) : TabIs P W name k zs := by
  obtain ⟨g', t', cs, fuel, p, hg', ht', hvar, hd⟩ := h
  obtain rfl := Option.some.inj (hg.symm.trans hg')
  obtain rfl := Option.some.inj (hty.symm.trans ht')
  unfold TabIs
  rw [hvar, ← cells_of_tab ht he hce hct hd]
/-- from what is laid to what the walks ask -/
theorem tabs_of {W : World} {l : List (String × DataW Unit)} (hL : laidMet Tryz.prog l W) (h1 : ("unicode.properties", Lib.tabData .u8 Lib.propertiesTab) ∈ l) (h2 : ("unicode.Letter", Lib.rtabData letterT) ∈ l) : Tabs W :=
  ⟨tabIs_of_reads gP gPt Tryz.underlying196 Tryz.underlying5 (by kernel_rfl) (by kernel_rfl) (Lib.laidMet.reads hL h1),
   rvar_of_reads { Tryz.lays200 with } xL (by kernel_rfl) (by kernel_rfl) (Lib.laidMet.reads hL h2)⟩
theorem trodAll_below {H : Type} {enc : TypeId × Value → H} {P : Program} (hl : laidOutB P = true) {W W' : World} (hb : Below W.heap.size W W') :
    ∀ {ts : List TypeId} {vs : List Value} {ds : List (DataW H)} {ps : List MemPlace}, (∀ t ∈ ts, P.readableRec t = true ∧ t < P.types.size) →
      DataW.TrodAll enc P W 0 (fun _ => true) true ts vs ds ps → DataW.TrodAll enc P W' 0 (fun b => decide (b < W.heap.size)) true ts vs ds ps := by
  intro ts
  induction ts with
  | nil =>
    intro vs ds ps _ h
    cases vs <;> cases ds <;> simp [DataW.TrodAll] at h ⊢
    exact h
  | cons t ts ih =>
    intro vs ds ps hr h
    cases vs <;> cases ds <;> simp [DataW.TrodAll] at h ⊢
    obtain ⟨p, hp, q, hq, e⟩ := h
    refine ⟨p, ?_, q, ih (fun t ht => hr t (List.mem_cons_of_mem _ ht)) hq, e⟩
    have h0 := hr t List.mem_cons_self
    refine Below.trod hl h0.1 h0.2 hp hb ?_
    obtain ⟨m, hm⟩ := hp
    exact DataW.trod_lt m _ _ _ hm
end Go.Proofs.YtjllbchfojonhaaGreatDoor
