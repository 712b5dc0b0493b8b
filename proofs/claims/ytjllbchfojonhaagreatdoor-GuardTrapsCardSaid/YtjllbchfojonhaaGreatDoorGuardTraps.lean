/- The law 'GuardTraps': for every input the call returns true, and each argument reads behind it as before: the row, and its tied card; the listed tables of Go's library are as their initialisers lay them. -/
import Derived.Test.YtjllbchfojonhaaGreatDoorGTW
import Derived.Test.YtjllbchfojonhaaGreatDoorLay
import Derived.Test.YtjllbchfojonhaaGreatDoorRows
import Derived.Test.YtjllbchfojonhaaGreatDoorTie
import Derived.Test.YtjllbchfojonhaaGreatDoorCards
import Derived.SevenTiedAt
import Derived.JoinedCond
import Derived.Stop.Joined
namespace Go.Proofs.YtjllbchfojonhaaGreatDoor.guardTraps
open Go.Shelf Go.ChangeShapes Go.WideShapes Go.ChangeAt Go.RowKit Go.Lib
open Go.ChangeMaps (open_string shut_string)
set_option linter.unusedVariables false

theorem row_laid : Rows.guardTrapsRow.laid = laid2 := laid2_eq
theorem witness_row (os : Os) {H : Type} (enc : TypeId × Value → H) :
    (OpenSpec.ofChange Rows.guardTrapsSpec).preRow enc Tryz.prog Tryz.f6 Rows.guardTrapsRow.domain false Rows.guardTrapsRow.laid ((laidWorld os).forCall (fun _ _ => 0) ⟨#[], #[.agg #[.slice none 0 0, .slice none 0 0, .slice none 0 0], .agg #[.slice none 0 0, .slice none 0 0], .int .u16 0], []⟩).memory #[.agg #[.slice none 0 0, .slice none 0 0, .slice none 0 0], .agg #[.slice none 0 0, .slice none 0 0], .int .u16 0] := by
  have hw : (DataW.whole enc Tryz.prog ((laidWorld os).forCall (fun _ _ => 0) ⟨#[], #[.agg #[.slice none 0 0, .slice none 0 0, .slice none 0 0], .agg #[.slice none 0 0, .slice none 0 0], .int .u16 0], []⟩).memory Tryz.f6.params.toList (OpenSpec.ofChange Rows.guardTrapsSpec).vars false #[.agg #[.slice none 0 0, .slice none 0 0, .slice none 0 0], .agg #[.slice none 0 0, .slice none 0 0], .int .u16 0].toList 8).map (fun x => (x.1, x.2.1)) =
      some ([.agg [.nil, .nil, .nil], .agg [.nil, .nil], .lit (.int .u16 0)], []) := by kernel_rfl
  obtain ⟨⟨x1, x2, x3⟩, hx, hx1⟩ := Option.map_eq_some_iff.1 hw
  simp only [Prod.mk.injEq] at hx1
  obtain ⟨rfl, rfl⟩ := hx1
  exact OpenSpec.preRow_of_cond 8 hx (by kernel_rfl) (fun k hk => by cases hk) (by kernel_rfl) (by rw [row_laid]; exact laid2_met os _)

set_option maxRecDepth 100000 in
set_option maxHeartbeats 2000000 in
theorem lifted (os : Os) (started : os.Started) (H : Type) (enc : TypeId × Value → H) (F : Stop.Interp) :
    ReturnsInHanded {} Tryz.checked os 6 .any ((OpenSpec.ofChange Rows.guardTrapsSpec).preRow enc Tryz.prog Tryz.f6 Rows.guardTrapsRow.domain false Rows.guardTrapsRow.laid) (((OpenSpec.ofChange Rows.guardTrapsSpec).at F).post enc Tryz.prog Tryz.f6 false true false false) := by
  refine returnsInHanded_of_row (C := Tryz.checked) (s := (OpenSpec.ofChange Rows.guardTrapsSpec)) own started (by kernel_rfl) Tryz.func6
    (witness_row_atRef (enc := enc) (C := Tryz.checked) false (laidWorld os) #[.agg #[.slice none 0 0, .slice none 0 0, .slice none 0 0], .agg #[.slice none 0 0, .slice none 0 0], .int .u16 0] rfl (by kernel_rfl) (by kernel_rfl) (by kernel_rfl) (witness_row os enc)) ?_
  intro W base args ds gs before hval0 hW hcnd0 _ _ hL hsh _
  have hval : ∀ (j : Nat) t v, Tryz.f6.params[j]? = some t → args[j]? = some v → Value.okWide Tryz.prog W .any base t v := hval0
  have hW' := hW
  obtain ⟨p, q, hA0, hV0, rfl, hfz, hnd⟩ := hW
  have hA : DataW.TrodAll enc Tryz.prog W 0 (fun _ => true) true Tryz.f6.params.toList args.toList ds p := hA0
  have hV : DataW.TrodVars enc Tryz.prog W (fun _ => true) [] gs q := hV0
  have hL' : laidMet Tryz.prog laid2 W := by rw [← row_laid]; exact hL
  have ht : Tabs W := tabs_of hL' (by simp [laid2]) (by simp [laid2])
  rw [Tryz.params6] at hA hval
  have hK := hA
  obtain ⟨v0, vs0, d0, ds0, p0, q0, hargs0, hds0, hps0, h0, r0⟩ := trodAll_cons hA
  obtain ⟨v1, vs1, d1, ds1, p1, q1, hargs1, hds1, hps1, h1, r1⟩ := trodAll_cons r0
  obtain ⟨v2, vs2, d2, ds2, p2, q2, hargs2, hds2, hps2, h2, r2⟩ := trodAll_cons r1
  obtain ⟨hvn, hdn, hpn⟩ := trodAll_nil r2
  subst hvn hdn hpn
  simp only [hargs1, hargs2] at hargs0
  subst hds2 hds1 hds0
  obtain rfl : args = #[v0, v1, v2] := by cases args; simp_all
  obtain ⟨rfl, rfl⟩ := trodVars_none hV
  obtain ⟨f, rfl, hfa, hfn⟩ := open_funcN (hval 0 26 v0 rfl rfl) h0
  obtain ⟨i, rfl, hia, hi1, hi2⟩ := open_input (hval 1 57 v1 rfl rfl) h1
  obtain ⟨z, rfl, rfl, rfl, wi2⟩ := open_int Tryz.underlying58 (hval 2 58 v2 rfl rfl) h2
  have hz0 : 0 ≤ z ∧ z ≤ 65535 := by simp only [Lit.wf, Bool.and_eq_true, decide_eq_true_eq] at wi2; exact wi2
  obtain ⟨m, rfl⟩ : ∃ m : Nat, z = (m : Int) := ⟨z.toNat, by omega⟩
  clear hA0 hV0 hval0
  refine (walkGuardTraps f i m W ht hfa hia ⟨hfn, hi1, hi2⟩ (by omega)).mono fun e W' ⟨he, hk⟩ => ?_
  subst he
  have bel := hk.below_
  refine ⟨_, rfl, _, _, _, [], _, [], hW', trodAll_mk1 (shut_bool Tryz.underlying4 _), trodAll_below laidOut bel (by intro t ht; simp at ht; (rcases ht with rfl | rfl | rfl) <;> exact ⟨by kernel_rfl, of_decide_eq_true (by kernel_rfl)⟩) hK, rfl, bel.frame _, fun h => by cases h⟩

theorem over : Rows.GuardTrapsSaid :=
  OpenClaim.holds_of_cond 6 Tryz.f6 rfl rfl rfl rfl rfl rfl rfl ⟨rfl, rfl, rfl, rfl, rfl⟩ rfl rfl rfl rfl rfl (by kernel_rfl) Tryz.func6 (by kernel_rfl)
    (of_decide_eq_true (by kernel_rfl)) (by unfold Func.isWrapper; first | (rw [if_pos (by decide +kernel)]; kernel_rfl) | (rw [if_neg (by decide +kernel)]; exact ⟨rfl, rfl⟩))
    (fun os started H enc _ F0 => by rw [OpenClaim.pre_eq_preRow]; exact lifted os started H enc F0)

set_option maxRecDepth 100000 in
/-- The given statement 'GuardTrapsCardSaid'. -/
theorem proved : Rows.GuardTrapsCardSaid :=
  Claim7.holds_tied_plain_at .later [] [.data, .pinned] true (true, "541bac8837153249301cfa71b971d43e82469674645eb19c4b809705f51aadf3") false
    over (fun _ h => by cases h) (by kernel_rfl) (fun _ h => by cases h) guardTraps_row_tie rfl ⟨rfl, rfl⟩ (by kernel_rfl) rfl
    (fun f fn hf hfn => by
      obtain rfl : f = 6 := Option.some.inj ((show Tryz.prog.funcNamed "checkrein/checkreinlaw15.GuardTraps" = some 6 by kernel_rfl).symm.trans hf) |>.symm
      obtain rfl : fn = Tryz.f6 := (Option.some.inj (Tryz.func6.symm.trans hfn)).symm
      exact ⟨by kernel_rfl, fun j t ht => by
        rw [Tryz.params6] at ht
        have h3 : t = 26 ∨ t = 57 ∨ t = 58 := by
          rcases j with _ | _ | _ | j <;> simp at ht <;> simp [ht]
        rcases h3 with rfl | rfl | rfl <;> first | exact (show Tryz.prog.wantsStandIn 26 = false by kernel_rfl) | exact (show Tryz.prog.wantsStandIn 57 = false by kernel_rfl) | exact (show Tryz.prog.wantsStandIn 58 = false by kernel_rfl)⟩)
    (by kernel_rfl)
#print axioms proved
end Go.Proofs.YtjllbchfojonhaaGreatDoor.guardTraps
