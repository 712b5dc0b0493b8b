/- The law 'TypingFresh': for every input the call returns true, and each argument reads behind it as before: the row, and its tied card; the listed tables of Go's library are as their initialisers lay them. -/
import Derived.Test.YtjllbchfojonhaaDoorFreshWalk
import Derived.Test.YtjllbchfojonhaaDoorLayF
import Derived.Test.YtjllbchfojonhaaDoorRows
import Derived.Test.YtjllbchfojonhaaDoorTie
import Derived.Test.YtjllbchfojonhaaDoorCards
import Derived.SevenTiedAt
import Derived.JoinedCond
import Derived.Stop.Joined
namespace Go.Proofs.YtjllbchfojonhaaDoor.typingFresh
open Go.Shelf Go.ChangeShapes Go.WideShapes Go.ChangeAt Go.RowKit Go.Lib
open Go.ChangeMaps (open_string shut_string)
set_option linter.unusedVariables false

theorem row_laid : Rows.typingFreshRow.laid = laid5 := laid5_eq
theorem witness_row (os : Os) {H : Type} (enc : TypeId × Value → H) :
    (OpenSpec.ofChange Rows.typingFreshSpec).preRow enc Tryd.prog Tryd.f9 Rows.typingFreshRow.domain false Rows.typingFreshRow.laid ((laidWorldF os).forCall (fun _ _ => 0) ⟨#[], #[.slice none 0 0, .int .i64 0], []⟩).memory #[.slice none 0 0, .int .i64 0] := by
  have hw : (DataW.whole enc Tryd.prog ((laidWorldF os).forCall (fun _ _ => 0) ⟨#[], #[.slice none 0 0, .int .i64 0], []⟩).memory Tryd.f9.params.toList (OpenSpec.ofChange Rows.typingFreshSpec).vars false #[.slice none 0 0, .int .i64 0].toList 8).map (fun x => (x.1, x.2.1)) =
      some ([.nil, .lit (.int .i64 0)], []) := by kernel_rfl
  obtain ⟨⟨x1, x2, x3⟩, hx, hx1⟩ := Option.map_eq_some_iff.1 hw
  simp only [Prod.mk.injEq] at hx1
  obtain ⟨rfl, rfl⟩ := hx1
  exact OpenSpec.preRow_of_cond 8 hx (by kernel_rfl) (fun k hk => by cases hk) (by kernel_rfl) (by rw [row_laid]; exact laid5_met os _)

set_option maxRecDepth 100000 in
set_option maxHeartbeats 2000000 in
theorem lifted (os : Os) (started : os.Started) (H : Type) (enc : TypeId × Value → H) (F : Stop.Interp) :
    ReturnsInHanded {} Tryd.checked os 9 .any ((OpenSpec.ofChange Rows.typingFreshSpec).preRow enc Tryd.prog Tryd.f9 Rows.typingFreshRow.domain false Rows.typingFreshRow.laid) (((OpenSpec.ofChange Rows.typingFreshSpec).at F).post enc Tryd.prog Tryd.f9 false true false false) := by
  refine returnsInHanded_of_row (C := Tryd.checked) (s := (OpenSpec.ofChange Rows.typingFreshSpec)) own started (by kernel_rfl) Tryd.func9
    (witness_row_atRef (enc := enc) (C := Tryd.checked) false (laidWorldF os) #[.slice none 0 0, .int .i64 0] rfl (by kernel_rfl) (by kernel_rfl) (by kernel_rfl) (witness_row os enc)) ?_
  intro W base args ds gs before hval0 hW hcnd0 _ _ hL hsh _
  have hval : ∀ (j : Nat) t v, Tryd.f9.params[j]? = some t → args[j]? = some v → Value.okWide Tryd.prog W .any base t v := hval0
  have hW' := hW
  obtain ⟨p, q, hA0, hV0, rfl, hfz, hnd⟩ := hW
  have hA : DataW.TrodAll enc Tryd.prog W 0 (fun _ => true) true Tryd.f9.params.toList args.toList ds p := hA0
  have hV : DataW.TrodVars enc Tryd.prog W (fun _ => true) [] gs q := hV0
  have hL' : laidMet Tryd.prog laid5 W := by rw [← row_laid]; exact hL
  have ht : TabsF W := tabsF_of hL'
  rw [Tryd.params9] at hA hval
  have hK := hA
  obtain ⟨v0, vs0, d0, ds0, p0, q0, hargs0, hds0, hps0, h0, r0⟩ := trodAll_cons hA
  obtain ⟨v1, vs1, d1, ds1, p1, q1, hargs1, hds1, hps1, h1, r1⟩ := trodAll_cons r0
  obtain ⟨hvn, hdn, hpn⟩ := trodAll_nil r1
  subst hvn hdn hpn
  simp only [hargs1] at hargs0
  subst hds1 hds0
  obtain rfl : args = #[v0, v1] := by cases args; simp_all
  obtain ⟨rfl, rfl⟩ := trodVars_none hV
  obtain ⟨l, hrow⟩ := open_strs (hval 0 74 v0 rfl rfl) h0
  obtain ⟨n, rfl, rfl, rfl, w1⟩ := open_int Tryd.underlying3 (hval 1 3 v1 rfl rfl) h1
  clear hA0 hV0 hval0
  refine (walkTypingFresh v0 l n W ht hrow).mono fun e W' ⟨he, hk⟩ => ?_
  subst he
  have bel := hk.below_
  refine ⟨_, rfl, _, _, _, [], _, [], hW', trodAll_mk1 (shut_bool Tryd.underlying4 _), trodAll_below laidOut bel (by intro t ht; simp at ht; (rcases ht with rfl | rfl) <;> exact ⟨by kernel_rfl, of_decide_eq_true (by kernel_rfl)⟩) hK, rfl, bel.frame _, fun h => by cases h⟩

theorem over : Rows.TypingFreshSaid :=
  OpenClaim.holds_of_cond 9 Tryd.f9 rfl rfl rfl rfl rfl rfl rfl ⟨rfl, rfl, rfl, rfl, rfl⟩ rfl rfl rfl rfl rfl (by kernel_rfl) Tryd.func9 (by kernel_rfl)
    (of_decide_eq_true (by kernel_rfl)) (by unfold Func.isWrapper; first | (rw [if_pos (by decide +kernel)]; kernel_rfl) | (rw [if_neg (by decide +kernel)]; exact ⟨rfl, rfl⟩))
    (fun os started H enc _ F0 => by rw [OpenClaim.pre_eq_preRow]; exact lifted os started H enc F0)

set_option maxRecDepth 100000 in
/-- The given statement 'TypingFreshCardSaid'. -/
theorem proved : Rows.TypingFreshCardSaid :=
  Claim7.holds_tied_plain_at .later [] [.data, .data, .data, .data, .pinned] true (true, "155dc613cf46e8c0813d0157b5b06cbfcfcc34fa9e244529a00c1bb32f782fef") false
    over (fun _ h => by cases h) (by kernel_rfl) (fun _ h => by cases h) typingFresh_row_tie rfl ⟨rfl, rfl⟩ (by kernel_rfl) rfl
    (fun f fn hf hfn => by
      obtain rfl : f = 9 := Option.some.inj ((show Tryd.prog.funcNamed "checkrein/checkreinlaw06.TypingFresh" = some 9 by kernel_rfl).symm.trans hf) |>.symm
      obtain rfl : fn = Tryd.f9 := (Option.some.inj (Tryd.func9.symm.trans hfn)).symm
      exact ⟨by kernel_rfl, fun j t ht => by
        rw [Tryd.params9] at ht
        have h3 : t = 3 ∨ t = 74 := by
          rcases j with _ | _ | j <;> simp at ht <;> simp [ht]
        rcases h3 with rfl | rfl <;> first | exact (show Tryd.prog.wantsStandIn 3 = false by kernel_rfl) | exact (show Tryd.prog.wantsStandIn 74 = false by kernel_rfl)⟩)
    (by kernel_rfl)
#print axioms proved
end Go.Proofs.YtjllbchfojonhaaDoor.typingFresh
