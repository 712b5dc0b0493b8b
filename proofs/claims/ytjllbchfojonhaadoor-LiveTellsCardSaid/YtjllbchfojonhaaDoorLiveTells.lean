/- The law 'LiveTells': for every input the call returns true, and each argument reads behind it as before: the row, and its tied card; the listed tables of Go's library are as their initialisers lay them. -/
import Derived.Test.YtjllbchfojonhaaDoorLvR
import Derived.Test.YtjllbchfojonhaaDoorLayL
import Derived.Test.YtjllbchfojonhaaDoorRows
import Derived.Test.YtjllbchfojonhaaDoorTie
import Derived.Test.YtjllbchfojonhaaDoorCards
import Derived.SevenTiedAt
import Derived.JoinedCond
import Derived.Stop.Joined
namespace Go.Proofs.YtjllbchfojonhaaDoor.liveTells
open Go.Shelf Go.ChangeShapes Go.WideShapes Go.ChangeAt Go.RowKit Go.Lib
open Go.ChangeMaps (open_string shut_string)
set_option linter.unusedVariables false

theorem row_laid : Rows.liveTellsRow.laid = laid3 := laid3_eq
theorem witness_row (os : Os) {H : Type} (enc : TypeId × Value → H) :
    (OpenSpec.ofChange Rows.liveTellsSpec).preRow enc Tryd.prog Tryd.f8 Rows.liveTellsRow.domain false Rows.liveTellsRow.laid ((laidWorldL os).forCall (fun _ _ => 0) ⟨#[], #[.agg #[.slice none 0 0, .slice none 0 0, .slice none 0 0]], []⟩).memory #[.agg #[.slice none 0 0, .slice none 0 0, .slice none 0 0]] := by
  have hw : (DataW.whole enc Tryd.prog ((laidWorldL os).forCall (fun _ _ => 0) ⟨#[], #[.agg #[.slice none 0 0, .slice none 0 0, .slice none 0 0]], []⟩).memory Tryd.f8.params.toList (OpenSpec.ofChange Rows.liveTellsSpec).vars false #[.agg #[.slice none 0 0, .slice none 0 0, .slice none 0 0]].toList 8).map (fun x => (x.1, x.2.1)) =
      some ([.agg [.nil, .nil, .nil]], []) := by kernel_rfl
  obtain ⟨⟨x1, x2, x3⟩, hx, hx1⟩ := Option.map_eq_some_iff.1 hw
  simp only [Prod.mk.injEq] at hx1
  obtain ⟨rfl, rfl⟩ := hx1
  exact OpenSpec.preRow_of_cond 8 hx (by kernel_rfl) (fun k hk => by cases hk) (by kernel_rfl) (by rw [row_laid]; exact laid3_met os _)

set_option maxRecDepth 100000 in
set_option maxHeartbeats 2000000 in
theorem lifted (os : Os) (started : os.Started) (H : Type) (enc : TypeId × Value → H) (F : Stop.Interp) :
    ReturnsInHanded {} Tryd.checked os 8 .any ((OpenSpec.ofChange Rows.liveTellsSpec).preRow enc Tryd.prog Tryd.f8 Rows.liveTellsRow.domain false Rows.liveTellsRow.laid) (((OpenSpec.ofChange Rows.liveTellsSpec).at F).post enc Tryd.prog Tryd.f8 false true false false) := by
  refine returnsInHanded_of_row (C := Tryd.checked) (s := (OpenSpec.ofChange Rows.liveTellsSpec)) own started (by kernel_rfl) Tryd.func8
    (witness_row_atRef (enc := enc) (C := Tryd.checked) false (laidWorldL os) #[.agg #[.slice none 0 0, .slice none 0 0, .slice none 0 0]] rfl (by kernel_rfl) (by kernel_rfl) (by kernel_rfl) (witness_row os enc)) ?_
  intro W base args ds gs before hval0 hW hcnd0 _ _ hL hsh _
  have hval : ∀ (j : Nat) t v, Tryd.f8.params[j]? = some t → args[j]? = some v → Value.okWide Tryd.prog W .any base t v := hval0
  have hW' := hW
  obtain ⟨p, q, hA0, hV0, rfl, hfz, hnd⟩ := hW
  have hA : DataW.TrodAll enc Tryd.prog W 0 (fun _ => true) true Tryd.f8.params.toList args.toList ds p := hA0
  have hV : DataW.TrodVars enc Tryd.prog W (fun _ => true) [] gs q := hV0
  have hL' : laidMet Tryd.prog laid3 W := by rw [← row_laid]; exact hL
  have ht : TabsL W := tabsL_of hL'
  rw [Tryd.params8] at hA hval
  have hK := hA
  obtain ⟨v0, d0, rfl, rfl, h0⟩ := trodAll_one hA
  obtain ⟨rfl, rfl⟩ := trodVars_none hV
  obtain ⟨f, rfl, hfa⟩ := open_func (hval 0 26 v0 rfl rfl) h0
  clear hA0 hV0 hval0
  refine (walkLiveTells f W ht hfa).mono fun e W' ⟨he, hk⟩ => ?_
  subst he
  have bel := hk.below_
  refine ⟨_, rfl, _, _, _, [], _, [], hW', trodAll_mk1 (shut_bool Tryd.underlying4 _), trodAll_below laidOut bel (by intro t ht; simp at ht; (rcases ht with rfl) <;> exact ⟨by kernel_rfl, of_decide_eq_true (by kernel_rfl)⟩) hK, rfl, bel.frame _, fun h => by cases h⟩

theorem over : Rows.LiveTellsSaid :=
  OpenClaim.holds_of_cond 8 Tryd.f8 rfl rfl rfl rfl rfl rfl rfl ⟨rfl, rfl, rfl, rfl, rfl⟩ rfl rfl rfl rfl rfl (by kernel_rfl) Tryd.func8 (by kernel_rfl)
    (of_decide_eq_true (by kernel_rfl)) (by unfold Func.isWrapper; first | (rw [if_pos (by decide +kernel)]; kernel_rfl) | (rw [if_neg (by decide +kernel)]; exact ⟨rfl, rfl⟩))
    (fun os started H enc _ F0 => by rw [OpenClaim.pre_eq_preRow]; exact lifted os started H enc F0)

set_option maxRecDepth 100000 in
/-- The given statement 'LiveTellsCardSaid'. -/
theorem proved : Rows.LiveTellsCardSaid :=
  Claim7.holds_tied_plain_at .later [] [.data, .data, .pinned] true (true, "155dc613cf46e8c0813d0157b5b06cbfcfcc34fa9e244529a00c1bb32f782fef") false
    over (fun _ h => by cases h) (by kernel_rfl) (fun _ h => by cases h) liveTells_row_tie rfl ⟨rfl, rfl⟩ (by kernel_rfl) rfl
    (fun f fn hf hfn => by
      obtain rfl : f = 8 := Option.some.inj ((show Tryd.prog.funcNamed "checkrein/checkreinlaw14.LiveTells" = some 8 by kernel_rfl).symm.trans hf) |>.symm
      obtain rfl : fn = Tryd.f8 := (Option.some.inj (Tryd.func8.symm.trans hfn)).symm
      exact ⟨by kernel_rfl, fun j t ht => by
        rw [Tryd.params8] at ht
        have h3 : t = 26 := by
          rcases j with _ | j <;> simp at ht <;> simp [ht]
        rcases h3 with rfl <;> first | exact (show Tryd.prog.wantsStandIn 26 = false by kernel_rfl)⟩)
    (by kernel_rfl)
#print axioms proved
end Go.Proofs.YtjllbchfojonhaaDoor.liveTells
