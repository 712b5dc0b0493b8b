/- The law 'ScanLines': for every input the call returns true, and each argument reads behind it as before: the row, and its tied card; the listed tables of Go's library are as their initialisers lay them. -/
import Derived.Test.YthcdibpajdnjaaaDoorLinesLaw
import Derived.Test.YthcdibpajdnjaaaDoorLay
import Derived.Test.YthcdibpajdnjaaaDoorRows
import Derived.Test.YthcdibpajdnjaaaDoorTie
import Derived.Test.YthcdibpajdnjaaaDoorCards
import Derived.SevenTiedAt
import Derived.JoinedCond
import Derived.Stop.Joined
namespace Go.Proofs.YthcdibpajdnjaaaDoor.scanLines
open Go.Shelf Go.ChangeShapes Go.WideShapes Go.ChangeAt Go.RowKit Go.Lib
open Go.ChangeMaps (open_string shut_string)
set_option linter.unusedVariables false

theorem row_laid : Rows.scanLinesRow.laid = laid4 := laid4_eq
theorem witness_row (os : Os) {H : Type} (enc : TypeId × Value → H) :
    (OpenSpec.ofChange Rows.scanLinesSpec).preRow enc Tryd.prog Tryd.f3 Rows.scanLinesRow.domain false Rows.scanLinesRow.laid ((laidWorld os).forCall (fun _ _ => 0) ⟨#[], #[.string ⟨#[]⟩], []⟩).memory #[.string ⟨#[]⟩] := by
  have hw : (DataW.whole enc Tryd.prog ((laidWorld os).forCall (fun _ _ => 0) ⟨#[], #[.string ⟨#[]⟩], []⟩).memory Tryd.f3.params.toList (OpenSpec.ofChange Rows.scanLinesSpec).vars false #[.string ⟨#[]⟩].toList 8).map (fun x => (x.1, x.2.1)) =
      some ([.lit (.string [])], []) := by kernel_rfl
  obtain ⟨⟨x1, x2, x3⟩, hx, hx1⟩ := Option.map_eq_some_iff.1 hw
  simp only [Prod.mk.injEq] at hx1
  obtain ⟨rfl, rfl⟩ := hx1
  exact OpenSpec.preRow_of_cond 8 hx (by kernel_rfl) (fun k hk => by cases hk) (by kernel_rfl) (by rw [row_laid]; exact laid4_met os _)

set_option maxRecDepth 100000 in
set_option maxHeartbeats 2000000 in
theorem lifted (os : Os) (started : os.Started) (H : Type) (enc : TypeId × Value → H) (F : Stop.Interp) :
    ReturnsInHanded {} Tryd.checked os 3 .any ((OpenSpec.ofChange Rows.scanLinesSpec).preRow enc Tryd.prog Tryd.f3 Rows.scanLinesRow.domain false Rows.scanLinesRow.laid) (((OpenSpec.ofChange Rows.scanLinesSpec).at F).post enc Tryd.prog Tryd.f3 false true false false) := by
  refine returnsInHanded_of_row (C := Tryd.checked) (s := (OpenSpec.ofChange Rows.scanLinesSpec)) own started (by kernel_rfl) Tryd.func3
    (witness_row_atRef (enc := enc) (C := Tryd.checked) false (laidWorld os) #[.string ⟨#[]⟩] rfl (by kernel_rfl) (by kernel_rfl) (by kernel_rfl) (witness_row os enc)) ?_
  intro W base args ds gs before hval0 hW hcnd0 _ _ hL hsh _
  have hval : ∀ (j : Nat) t v, Tryd.f3.params[j]? = some t → args[j]? = some v → Value.okWide Tryd.prog W .any base t v := hval0
  have hW' := hW
  obtain ⟨p, q, hA0, hV0, rfl, hfz, hnd⟩ := hW
  have hA : DataW.TrodAll enc Tryd.prog W 0 (fun _ => true) true Tryd.f3.params.toList args.toList ds p := hA0
  have hV : DataW.TrodVars enc Tryd.prog W (fun _ => true) [] gs q := hV0
  have hL' : laidMet Tryd.prog laid4 W := by rw [← row_laid]; exact hL
  have ht : Tabs W := tabs_of hL' (by simp [laid4]) (by simp [laid4]) (by simp [laid4]) (by simp [laid4]) hsh
  rw [Tryd.params3] at hA hval
  obtain ⟨v0, d0, rfl, rfl, h0⟩ := trodAll_one hA
  obtain ⟨rfl, rfl⟩ := trodVars_none hV
  obtain ⟨s, rfl, rfl, rfl, w0⟩ := open_string Tryd.underlying9 (hval 0 9 v0 rfl rfl) h0
  clear hA0 hV0 hval0
  refine (walkScanLines s W ht (by unfold maxLen at w0; omega)).mono fun e W' ⟨he, hk⟩ => ?_
  subst he
  have bel := hk.below_
  refine ⟨_, rfl, _, _, _, [], [], [], hW', trodAll_mk1 (shut_bool Tryd.underlying4 _), ?_, rfl, bel.frame _, fun h => by cases h⟩
  exact trodAll_mk1 (shut_string Tryd.underlying9 w0)

theorem over : Rows.ScanLinesSaid :=
  OpenClaim.holds_of_cond 3 Tryd.f3 rfl rfl rfl rfl rfl rfl rfl ⟨rfl, rfl, rfl, rfl, rfl⟩ rfl rfl rfl rfl rfl (by kernel_rfl) Tryd.func3 (by kernel_rfl)
    (of_decide_eq_true (by kernel_rfl)) (by unfold Func.isWrapper; first | (rw [if_pos (by decide +kernel)]; kernel_rfl) | (rw [if_neg (by decide +kernel)]; exact ⟨rfl, rfl⟩))
    (fun os started H enc _ F0 => by rw [OpenClaim.pre_eq_preRow]; exact lifted os started H enc F0)

/-- The given statement 'ScanLinesCardSaid'. -/
theorem proved : Rows.ScanLinesCardSaid :=
  Claim7.holds_tied_plain_at .later [] [.data, .data, .pinned, .pinned] true (true, "f43f26acbf04d47d760ba78cc5e47d1dadc1aa2ea5f60864346e040d95574ce1") true
    over (fun _ h => by cases h) (by kernel_rfl) (fun _ h => by cases h) scanLines_row_tie rfl ⟨rfl, rfl⟩ (by kernel_rfl) rfl
    (fun f fn hf hfn => by
      obtain rfl : f = 3 := Option.some.inj ((show Tryd.prog.funcNamed "checkrein/checkreinlaw01.ScanLines" = some 3 by kernel_rfl).symm.trans hf) |>.symm
      obtain rfl : fn = Tryd.f3 := (Option.some.inj (Tryd.func3.symm.trans hfn)).symm
      exact ⟨by kernel_rfl, fun j t ht => by
        rw [Tryd.params3] at ht
        have h3 : t = 9 := by
          rcases j with _ | j
          · simpa using ht.symm
          · simp at ht
        subst h3
        exact (show Tryd.prog.wantsStandIn 9 = false by kernel_rfl)⟩)
    (by kernel_rfl)
#print axioms proved
end Go.Proofs.YthcdibpajdnjaaaDoor.scanLines
