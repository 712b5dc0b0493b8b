/- Package print: term; contract. -/
import Derived.Test.YtjllbchfojonhaaDoorPhi
import Derived.Test.YtjllbchfojonhaaDoorTwo
namespace Go.Proofs.YtjllbchfojonhaaDoor
open Go.RowKit Go.Shelf
set_option linter.unusedVariables false

def termB (f : FuncM) (kind var to0 to1 : Int) : Bool :=
  if kind = 0 then inB to0 f.nb && (to1 == 0) && (var == 0)
  else if kind = 1 then inB var f.nv && inB to0 f.nb && inB to1 f.nb
  else if kind = 2 then inB var f.nv && ((to0 == 0) && (to1 == 0))
  else false

theorem zero_or (z : Int) : z = 0 ∨ (z == 0) = false := by
  by_cases h : z = 0
  · exact .inl h
  · exact .inr (by simpa using h)
set_option maxRecDepth 100000 in
set_option maxHeartbeats 2000000 in
theorem term_any (f : FuncM) (kind var to0 to1 : Int) (w : World) (hf : FuncAt w f) : Calls Tryd.prog 65 #[f.val, .agg #[.int .i64 kind, .int .i64 var, .int .i64 to0, .int .i64 to1]] w fun e w' => e = .returned (.bool (termB f kind var to0 to1)) ∧ Keeps w w' [] := by
  have CH := kept (fun w h => has_any f var w h)
  have CA := kept (fun w h => at_any f to0 w h)
  have CB := kept (fun w h => at_any f to1 w h)
  obtain ⟨a0, c0, a1, c1, a2, c2, e0, e1, e2⟩ := hf.shape2
  have HF := kept hf
  have HX : Hid (termB f kind var to0 to1 = if kind = 0 then inB to0 f.nb && (to1 == 0) && (var == 0)
  else if kind = 1 then inB var f.nv && inB to0 f.nb && inB to1 f.nb
  else if kind = 2 then inB var f.nv && ((to0 == 0) && (to1 == 0))
  else false) := rfl
  have hval : f.val = .agg #[.slice a0 f.nv c0, .slice a1 f.np c1, .slice a2 f.nb c2] := by unfold FuncM.val; rw [e0, e1, e2]
  rw [hval] at CH CA CB ⊢
  clear hf e0 e1 e2 hval
  generalize inB to0 f.nb = X1 at *
  generalize inB to1 f.nb = X2 at *
  generalize inB var f.nv = X3 at *
  generalize f.nv = nv at *
  generalize f.np = np at *
  generalize f.nb = nb at *
  have hk1 : Keeps w (w.alloc (.cells #[.slice a0 nv c0, .slice a1 np c1, .slice a2 nb c2] 26)) [] := (Keeps.refl w []).alloc _
  have b1 := Blk.new w 26 #[.slice a0 nv c0, .slice a1 np c1, .slice a2 nb c2]
  have hk2 : Keeps (w.alloc (.cells #[.slice a0 nv c0, .slice a1 np c1, .slice a2 nb c2] 26)) ((w.alloc (.cells #[.slice a0 nv c0, .slice a1 np c1, .slice a2 nb c2] 26)).alloc (.cells #[.int .i64 kind, .int .i64 var, .int .i64 to0, .int .i64 to1] 37)) [] := (Keeps.refl _ []).alloc _
  have b2 := Blk.new (w.alloc (.cells #[.slice a0 nv c0, .slice a1 np c1, .slice a2 nb c2] 26)) 37 #[.int .i64 kind, .int .i64 var, .int .i64 to0, .int .i64 to1]
  have hz : (w.alloc (.cells #[.slice a0 nv c0, .slice a1 np c1, .slice a2 nb c2] 26)).heap.size = w.heap.size + 1 := by show (Array.push _ _).size = _; rw [Array.size_push]
  rw [hz] at b2
  have B1 := kept (b1.keep hk2 (by simp))
  have B2 := kept b2
  have HK := kept (hk1.and_then hk2)
  have l0 := B1.out.cell 0
  have l1 := B1.out.cell 1
  have l2 := B1.out.cell 2
  have m0 := B2.out.cell 0
  have m1 := B2.out.cell 1
  have m2 := B2.out.cell 2
  have m3 := B2.out.cell 3
  simp at l0 l1 l2 m0 m1 m2 m3
  clear b1 b2 hk1 hk2 hz
  by_cases k0 : kind = 0
  · subst k0
    cases X1 <;> rcases zero_or to1 with rfl | h1 <;> rcases zero_or var with rfl | h2
    all_goals
      go_enter Tryd.func65, Tryd.ntmps65
      go_wp2_with (first | (go_at_call 91; refine (CH.out _ (HF.out.keep HK.out)).mono ?_; rintro e w3 ⟨rfl, k3⟩; clear l0 l1 l2 m0 m1 m2 m3; have B1x := kept (B1.out.keep k3 (by simp)); have B2x := kept (B2.out.keep k3 (by simp)); have HKx := kept (HK.out.and_then k3); clear B1 B2 HK; have B1 := B1x; have B2 := B2x; have HK := HKx; clear B1x B2x HKx; have l0 := B1.out.cell 0; have l1 := B1.out.cell 1; have l2 := B1.out.cell 2; have m0 := B2.out.cell 0; have m1 := B2.out.cell 1; have m2 := B2.out.cell 2; have m3 := B2.out.cell 3; simp at l0 l1 l2 m0 m1 m2 m3; clear k3) | (go_at_call 94; have CAx := CA; clear CA; refine (CAx.out _ (HF.out.keep HK.out)).mono ?_; rintro e w3 ⟨rfl, k3⟩; clear l0 l1 l2 m0 m1 m2 m3; have B1x := kept (B1.out.keep k3 (by simp)); have B2x := kept (B2.out.keep k3 (by simp)); have HKx := kept (HK.out.and_then k3); clear B1 B2 HK; have B1 := B1x; have B2 := B2x; have HK := HKx; clear B1x B2x HKx; have l0 := B1.out.cell 0; have l1 := B1.out.cell 1; have l2 := B1.out.cell 2; have m0 := B2.out.cell 0; have m1 := B2.out.cell 1; have m2 := B2.out.cell 2; have m3 := B2.out.cell 3; simp at l0 l1 l2 m0 m1 m2 m3; clear k3) | (go_at_call 94; refine (CB.out _ (HF.out.keep HK.out)).mono ?_; rintro e w3 ⟨rfl, k3⟩; clear l0 l1 l2 m0 m1 m2 m3; have B1x := kept (B1.out.keep k3 (by simp)); have B2x := kept (B2.out.keep k3 (by simp)); have HKx := kept (HK.out.and_then k3); clear B1 B2 HK; have B1 := B1x; have B2 := B2x; have HK := HKx; clear B1x B2x HKx; have l0 := B1.out.cell 0; have l1 := B1.out.cell 1; have l2 := B1.out.cell 2; have m0 := B2.out.cell 0; have m1 := B2.out.cell 1; have m2 := B2.out.cell 2; have m3 := B2.out.cell 3; simp at l0 l1 l2 m0 m1 m2 m3; clear k3))
      go_ret
      exact ⟨ret_bool (by rw [HX.out]; simp_all), HK.out⟩
  by_cases k1 : kind = 1
  · subst k1
    cases X3 <;> cases X1 <;> cases X2
    all_goals
      go_enter Tryd.func65, Tryd.ntmps65
      go_wp2_with (first | (go_at_call 91; refine (CH.out _ (HF.out.keep HK.out)).mono ?_; rintro e w3 ⟨rfl, k3⟩; clear l0 l1 l2 m0 m1 m2 m3; have B1x := kept (B1.out.keep k3 (by simp)); have B2x := kept (B2.out.keep k3 (by simp)); have HKx := kept (HK.out.and_then k3); clear B1 B2 HK; have B1 := B1x; have B2 := B2x; have HK := HKx; clear B1x B2x HKx; have l0 := B1.out.cell 0; have l1 := B1.out.cell 1; have l2 := B1.out.cell 2; have m0 := B2.out.cell 0; have m1 := B2.out.cell 1; have m2 := B2.out.cell 2; have m3 := B2.out.cell 3; simp at l0 l1 l2 m0 m1 m2 m3; clear k3) | (go_at_call 94; have CAx := CA; clear CA; refine (CAx.out _ (HF.out.keep HK.out)).mono ?_; rintro e w3 ⟨rfl, k3⟩; clear l0 l1 l2 m0 m1 m2 m3; have B1x := kept (B1.out.keep k3 (by simp)); have B2x := kept (B2.out.keep k3 (by simp)); have HKx := kept (HK.out.and_then k3); clear B1 B2 HK; have B1 := B1x; have B2 := B2x; have HK := HKx; clear B1x B2x HKx; have l0 := B1.out.cell 0; have l1 := B1.out.cell 1; have l2 := B1.out.cell 2; have m0 := B2.out.cell 0; have m1 := B2.out.cell 1; have m2 := B2.out.cell 2; have m3 := B2.out.cell 3; simp at l0 l1 l2 m0 m1 m2 m3; clear k3) | (go_at_call 94; refine (CB.out _ (HF.out.keep HK.out)).mono ?_; rintro e w3 ⟨rfl, k3⟩; clear l0 l1 l2 m0 m1 m2 m3; have B1x := kept (B1.out.keep k3 (by simp)); have B2x := kept (B2.out.keep k3 (by simp)); have HKx := kept (HK.out.and_then k3); clear B1 B2 HK; have B1 := B1x; have B2 := B2x; have HK := HKx; clear B1x B2x HKx; have l0 := B1.out.cell 0; have l1 := B1.out.cell 1; have l2 := B1.out.cell 2; have m0 := B2.out.cell 0; have m1 := B2.out.cell 1; have m2 := B2.out.cell 2; have m3 := B2.out.cell 3; simp at l0 l1 l2 m0 m1 m2 m3; clear k3))
      go_ret
      exact ⟨ret_bool (by rw [HX.out]; simp), HK.out⟩
  by_cases k2 : kind = 2
  · subst k2
    have he := fun w => two_eql to0 to1 0 0 w
    generalize ((to0 == 0) && (to1 == 0)) = E at he HX
    cases X3 <;> cases E
    all_goals
      go_enter Tryd.func65, Tryd.ntmps65
      go_wp2_with (first | (go_at_call 91; refine (CH.out _ (HF.out.keep HK.out)).mono ?_; rintro e w3 ⟨rfl, k3⟩; clear l0 l1 l2 m0 m1 m2 m3; have B1x := kept (B1.out.keep k3 (by simp)); have B2x := kept (B2.out.keep k3 (by simp)); have HKx := kept (HK.out.and_then k3); clear B1 B2 HK; have B1 := B1x; have B2 := B2x; have HK := HKx; clear B1x B2x HKx; have l0 := B1.out.cell 0; have l1 := B1.out.cell 1; have l2 := B1.out.cell 2; have m0 := B2.out.cell 0; have m1 := B2.out.cell 1; have m2 := B2.out.cell 2; have m3 := B2.out.cell 3; simp at l0 l1 l2 m0 m1 m2 m3; clear k3) | (go_at_call 94; have CAx := CA; clear CA; refine (CAx.out _ (HF.out.keep HK.out)).mono ?_; rintro e w3 ⟨rfl, k3⟩; clear l0 l1 l2 m0 m1 m2 m3; have B1x := kept (B1.out.keep k3 (by simp)); have B2x := kept (B2.out.keep k3 (by simp)); have HKx := kept (HK.out.and_then k3); clear B1 B2 HK; have B1 := B1x; have B2 := B2x; have HK := HKx; clear B1x B2x HKx; have l0 := B1.out.cell 0; have l1 := B1.out.cell 1; have l2 := B1.out.cell 2; have m0 := B2.out.cell 0; have m1 := B2.out.cell 1; have m2 := B2.out.cell 2; have m3 := B2.out.cell 3; simp at l0 l1 l2 m0 m1 m2 m3; clear k3) | (go_at_call 94; refine (CB.out _ (HF.out.keep HK.out)).mono ?_; rintro e w3 ⟨rfl, k3⟩; clear l0 l1 l2 m0 m1 m2 m3; have B1x := kept (B1.out.keep k3 (by simp)); have B2x := kept (B2.out.keep k3 (by simp)); have HKx := kept (HK.out.and_then k3); clear B1 B2 HK; have B1 := B1x; have B2 := B2x; have HK := HKx; clear B1x B2x HKx; have l0 := B1.out.cell 0; have l1 := B1.out.cell 1; have l2 := B1.out.cell 2; have m0 := B2.out.cell 0; have m1 := B2.out.cell 1; have m2 := B2.out.cell 2; have m3 := B2.out.cell 3; simp at l0 l1 l2 m0 m1 m2 m3; clear k3))
      go_ret
      exact ⟨ret_bool (by rw [HX.out]; simp_all), HK.out⟩
  have q0 : (kind == 0) = false := by simpa using k0
  have q1 : (kind == 1) = false := by simpa using k1
  have q2 : (kind == 2) = false := by simpa using k2
  go_enter Tryd.func65, Tryd.ntmps65
  go_wp2_with (first | (go_at_call 91; refine (CH.out _ (HF.out.keep HK.out)).mono ?_; rintro e w3 ⟨rfl, k3⟩; clear l0 l1 l2 m0 m1 m2 m3; have B1x := kept (B1.out.keep k3 (by simp)); have B2x := kept (B2.out.keep k3 (by simp)); have HKx := kept (HK.out.and_then k3); clear B1 B2 HK; have B1 := B1x; have B2 := B2x; have HK := HKx; clear B1x B2x HKx; have l0 := B1.out.cell 0; have l1 := B1.out.cell 1; have l2 := B1.out.cell 2; have m0 := B2.out.cell 0; have m1 := B2.out.cell 1; have m2 := B2.out.cell 2; have m3 := B2.out.cell 3; simp at l0 l1 l2 m0 m1 m2 m3; clear k3) | (go_at_call 94; have CAx := CA; clear CA; refine (CAx.out _ (HF.out.keep HK.out)).mono ?_; rintro e w3 ⟨rfl, k3⟩; clear l0 l1 l2 m0 m1 m2 m3; have B1x := kept (B1.out.keep k3 (by simp)); have B2x := kept (B2.out.keep k3 (by simp)); have HKx := kept (HK.out.and_then k3); clear B1 B2 HK; have B1 := B1x; have B2 := B2x; have HK := HKx; clear B1x B2x HKx; have l0 := B1.out.cell 0; have l1 := B1.out.cell 1; have l2 := B1.out.cell 2; have m0 := B2.out.cell 0; have m1 := B2.out.cell 1; have m2 := B2.out.cell 2; have m3 := B2.out.cell 3; simp at l0 l1 l2 m0 m1 m2 m3; clear k3) | (go_at_call 94; refine (CB.out _ (HF.out.keep HK.out)).mono ?_; rintro e w3 ⟨rfl, k3⟩; clear l0 l1 l2 m0 m1 m2 m3; have B1x := kept (B1.out.keep k3 (by simp)); have B2x := kept (B2.out.keep k3 (by simp)); have HKx := kept (HK.out.and_then k3); clear B1 B2 HK; have B1 := B1x; have B2 := B2x; have HK := HKx; clear B1x B2x HKx; have l0 := B1.out.cell 0; have l1 := B1.out.cell 1; have l2 := B1.out.cell 2; have m0 := B2.out.cell 0; have m1 := B2.out.cell 1; have m2 := B2.out.cell 2; have m3 := B2.out.cell 3; simp at l0 l1 l2 m0 m1 m2 m3; clear k3))
  go_ret
  exact ⟨ret_bool (by rw [HX.out, if_neg k0, if_neg k1, if_neg k2]), HK.out⟩
end Go.Proofs.YtjllbchfojonhaaDoor
