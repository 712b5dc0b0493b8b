/- The law 'LiveDead': for every input the call returns true, and each argument reads behind it as before: the row, and its tied card; the listed tables of Go's library are as their initialisers lay them. -/
import Derived.Test.YtjllbchfojonhaaDoorDeadJ
import Derived.Test.YtjllbchfojonhaaDoorB6
import Derived.Test.YtjllbchfojonhaaDoorLayL
import Derived.Test.YtjllbchfojonhaaDoorRows
import Derived.Test.YtjllbchfojonhaaDoorTie
import Derived.Test.YtjllbchfojonhaaDoorCards
import Derived.SevenTiedAt
import Derived.JoinedCond
import Derived.Stop.Joined
namespace Go.Proofs.YtjllbchfojonhaaDoor.liveDead
open Go.Shelf Go.ChangeShapes Go.WideShapes Go.ChangeAt Go.RowKit Go.Lib
open Go.ChangeMaps (open_string shut_string)
set_option linter.unusedVariables false

theorem row_laid : Rows.liveDeadRow.laid = laid3 := laid3_eq
theorem witness_row (os : Os) {H : Type} (enc : TypeId × Value → H) :
    (OpenSpec.ofChange Rows.liveDeadSpec).preRow enc Tryd.prog Tryd.f7 Rows.liveDeadRow.domain false Rows.liveDeadRow.laid ((laidWorldL os).forCall (fun _ _ => 0) ⟨#[], #[.agg #[.slice none 0 0, .slice none 0 0, .slice none 0 0], .agg #[.slice none 0 0, .slice none 0 0], .int .i64 0, .int .i64 0, .int .i64 0, .int .u16 0], []⟩).memory #[.agg #[.slice none 0 0, .slice none 0 0, .slice none 0 0], .agg #[.slice none 0 0, .slice none 0 0], .int .i64 0, .int .i64 0, .int .i64 0, .int .u16 0] := by
  have hw : (DataW.whole enc Tryd.prog ((laidWorldL os).forCall (fun _ _ => 0) ⟨#[], #[.agg #[.slice none 0 0, .slice none 0 0, .slice none 0 0], .agg #[.slice none 0 0, .slice none 0 0], .int .i64 0, .int .i64 0, .int .i64 0, .int .u16 0], []⟩).memory Tryd.f7.params.toList (OpenSpec.ofChange Rows.liveDeadSpec).vars false #[.agg #[.slice none 0 0, .slice none 0 0, .slice none 0 0], .agg #[.slice none 0 0, .slice none 0 0], .int .i64 0, .int .i64 0, .int .i64 0, .int .u16 0].toList 8).map (fun x => (x.1, x.2.1)) =
      some ([.agg [.nil, .nil, .nil], .agg [.nil, .nil], .lit (.int .i64 0), .lit (.int .i64 0), .lit (.int .i64 0), .lit (.int .u16 0)], []) := by kernel_rfl
  obtain ⟨⟨x1, x2, x3⟩, hx, hx1⟩ := Option.map_eq_some_iff.1 hw
  simp only [Prod.mk.injEq] at hx1
  obtain ⟨rfl, rfl⟩ := hx1
  exact OpenSpec.preRow_of_cond 8 hx (by kernel_rfl) (fun k hk => by cases hk) (by kernel_rfl) (by rw [row_laid]; exact laid3_met os _)

set_option maxRecDepth 100000 in
set_option maxHeartbeats 2000000 in
theorem lifted (os : Os) (started : os.Started) (H : Type) (enc : TypeId × Value → H) (F : Stop.Interp) :
    ReturnsInHanded {} Tryd.checked os 7 .any ((OpenSpec.ofChange Rows.liveDeadSpec).preRow enc Tryd.prog Tryd.f7 Rows.liveDeadRow.domain false Rows.liveDeadRow.laid) (((OpenSpec.ofChange Rows.liveDeadSpec).at F).post enc Tryd.prog Tryd.f7 false true false false) := by
  refine returnsInHanded_of_row (C := Tryd.checked) (s := (OpenSpec.ofChange Rows.liveDeadSpec)) own started (by kernel_rfl) Tryd.func7
    (witness_row_atRef (enc := enc) (C := Tryd.checked) false (laidWorldL os) #[.agg #[.slice none 0 0, .slice none 0 0, .slice none 0 0], .agg #[.slice none 0 0, .slice none 0 0], .int .i64 0, .int .i64 0, .int .i64 0, .int .u16 0] rfl (by kernel_rfl) (by kernel_rfl) (by kernel_rfl) (witness_row os enc)) ?_
  intro W base args ds gs before hval0 hW hcnd0 _ _ hL hsh _
  have hval : ∀ (j : Nat) t v, Tryd.f7.params[j]? = some t → args[j]? = some v → Value.okWide Tryd.prog W .any base t v := hval0
  have hW' := hW
  obtain ⟨p, q, hA0, hV0, rfl, hfz, hnd⟩ := hW
  have hA : DataW.TrodAll enc Tryd.prog W 0 (fun _ => true) true Tryd.f7.params.toList args.toList ds p := hA0
  have hV : DataW.TrodVars enc Tryd.prog W (fun _ => true) [] gs q := hV0
  have hL' : laidMet Tryd.prog laid3 W := by rw [← row_laid]; exact hL
  have ht : TabsL W := tabsL_of hL'
  rw [Tryd.params7] at hA hval
  have hK := hA
  obtain ⟨v0, vs0, d0, ds0, p0, q0, hargs0, hds0, hps0, h0, r0⟩ := trodAll_cons hA
  obtain ⟨v1, vs1, d1, ds1, p1, q1, hargs1, hds1, hps1, h1, r1⟩ := trodAll_cons r0
  obtain ⟨v2, vs2, d2, ds2, p2, q2, hargs2, hds2, hps2, h2, r2⟩ := trodAll_cons r1
  obtain ⟨v3, vs3, d3, ds3, p3, q3, hargs3, hds3, hps3, h3, r3⟩ := trodAll_cons r2
  obtain ⟨v4, vs4, d4, ds4, p4, q4, hargs4, hds4, hps4, h4, r4⟩ := trodAll_cons r3
  obtain ⟨v5, vs5, d5, ds5, p5, q5, hargs5, hds5, hps5, h5, r5⟩ := trodAll_cons r4
  obtain ⟨hvn, hdn, hpn⟩ := trodAll_nil r5
  subst hvn hdn hpn
  simp only [hargs1, hargs2, hargs3, hargs4, hargs5] at hargs0
  subst hds5 hds4 hds3 hds2 hds1 hds0
  obtain rfl : args = #[v0, v1, v2, v3, v4, v5] := by cases args; simp_all
  obtain ⟨rfl, rfl⟩ := trodVars_none hV
  obtain ⟨f, rfl, hfa, hfn⟩ := open_funcN (hval 0 26 v0 rfl rfl) h0
  obtain ⟨i, rfl, hia, hi1, hi2⟩ := open_input (hval 1 53 v1 rfl rfl) h1
  obtain ⟨zv, rfl, rfl, rfl, wi2⟩ := open_int Tryd.underlying3 (hval 2 3 v2 rfl rfl) h2
  obtain ⟨zb, rfl, rfl, rfl, wi3⟩ := open_int Tryd.underlying3 (hval 3 3 v3 rfl rfl) h3
  obtain ⟨zp, rfl, rfl, rfl, wi4⟩ := open_int Tryd.underlying3 (hval 4 3 v4 rfl rfl) h4
  obtain ⟨z, rfl, rfl, rfl, wi5⟩ := open_int Tryd.underlying56 (hval 5 56 v5 rfl rfl) h5
  have hz0 : 0 ≤ z ∧ z ≤ 65535 := by simp only [Lit.wf, Bool.and_eq_true, decide_eq_true_eq] at wi5; exact wi5
  obtain ⟨m, rfl⟩ : ∃ m : Nat, z = (m : Int) := ⟨z.toNat, by omega⟩
  clear hA0 hV0 hval0
  refine (walkLiveDead f i zv zb zp m W ht hfa hia ⟨hfn, hi1, hi2⟩ (by omega)).mono fun e W' ⟨he, hk⟩ => ?_
  subst he
  have bel := hk.below_
  refine ⟨_, rfl, _, _, _, [], _, [], hW', trodAll_mk1 (shut_bool Tryd.underlying4 _), trodAll_below laidOut bel (by intro t ht; simp at ht; (rcases ht with rfl | rfl | rfl | rfl) <;> exact ⟨by kernel_rfl, of_decide_eq_true (by kernel_rfl)⟩) hK, rfl, bel.frame _, fun h => by cases h⟩

theorem over : Rows.LiveDeadSaid :=
  OpenClaim.holds_of_cond 7 Tryd.f7 rfl rfl rfl rfl rfl rfl rfl ⟨rfl, rfl, rfl, rfl, rfl⟩ rfl rfl rfl rfl rfl (by kernel_rfl) Tryd.func7 (by kernel_rfl)
    (of_decide_eq_true (by kernel_rfl)) (by unfold Func.isWrapper; first | (rw [if_pos (by decide +kernel)]; kernel_rfl) | (rw [if_neg (by decide +kernel)]; exact ⟨rfl, rfl⟩))
    (fun os started H enc _ F0 => by rw [OpenClaim.pre_eq_preRow]; exact lifted os started H enc F0)

set_option maxRecDepth 100000 in
/-- The given statement 'LiveDeadCardSaid'. -/
theorem proved : Rows.LiveDeadCardSaid :=
  Claim7.holds_tied_plain_at .later [] [.data, .data, .pinned] true (true, "155dc613cf46e8c0813d0157b5b06cbfcfcc34fa9e244529a00c1bb32f782fef") false
    over (fun _ h => by cases h) (by kernel_rfl) (fun _ h => by cases h) liveDead_row_tie rfl ⟨rfl, rfl⟩ (by kernel_rfl) rfl
    (fun f fn hf hfn => by
      obtain rfl : f = 7 := Option.some.inj ((show Tryd.prog.funcNamed "checkrein/checkreinlaw14.LiveDead" = some 7 by kernel_rfl).symm.trans hf) |>.symm
      obtain rfl : fn = Tryd.f7 := (Option.some.inj (Tryd.func7.symm.trans hfn)).symm
      exact ⟨by kernel_rfl, fun j t ht => by
        rw [Tryd.params7] at ht
        have h3 : t = 26 ∨ t = 3 ∨ t = 53 ∨ t = 56 := by
          rcases j with _ | _ | _ | _ | _ | _ | j <;> simp at ht <;> simp [ht]
        rcases h3 with rfl | rfl | rfl | rfl <;> first | exact (show Tryd.prog.wantsStandIn 26 = false by kernel_rfl) | exact (show Tryd.prog.wantsStandIn 3 = false by kernel_rfl) | exact (show Tryd.prog.wantsStandIn 53 = false by kernel_rfl) | exact (show Tryd.prog.wantsStandIn 56 = false by kernel_rfl)⟩)
    (by kernel_rfl)
#print axioms proved
end Go.Proofs.YtjllbchfojonhaaDoor.liveDead
