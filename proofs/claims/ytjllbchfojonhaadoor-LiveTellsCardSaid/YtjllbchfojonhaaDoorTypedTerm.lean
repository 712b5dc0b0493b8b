/- Package typing: term; contract. -/
import Derived.Test.YtjllbchfojonhaaDoorTerm
import Derived.Test.YtjllbchfojonhaaDoorKind
namespace Go.Proofs.YtjllbchfojonhaaDoor
open Go.RowKit Go.Shelf
set_option linter.unusedVariables false

set_option maxRecDepth 100000
def typedTermB (f : FuncM) (kind : Int) (var : Nat) (to0 to1 : Int) : Bool :=
  if kind = 0 then !(to0 == 0)
  else if kind = 1 then (f.ty var == 1) && !(to0 == 0) && !(to1 == 0)
  else f.ty var == 0
set_option maxHeartbeats 2000000 in
theorem typedTerm_any (f : FuncM) (kind : Int) (var : Nat) (to0 to1 : Int) (w : World) (hf : FuncAt w f) (hv : var < f.nv) : Calls Tryd.prog 41 #[f.val, .agg #[.int .i64 kind, .int .i64 var, .int .i64 to0, .int .i64 to1]] w fun e w' => e = .returned (.bool (typedTermB f kind var to0 to1)) ∧ Keeps w w' [] := by
  have CH := kept (fun w h => kind_any f var w h hv)
  obtain ⟨a0, c0, a1, c1, a2, c2, e0, e1, e2⟩ := hf.shape2
  have HF := kept hf
  have HX : Hid (typedTermB f kind var to0 to1 = if kind = 0 then !(to0 == 0)
  else if kind = 1 then (f.ty var == 1) && !(to0 == 0) && !(to1 == 0)
  else f.ty var == 0) := rfl
  have hval : f.val = .agg #[.slice a0 f.nv c0, .slice a1 f.np c1, .slice a2 f.nb c2] := by unfold FuncM.val; rw [e0, e1, e2]
  rw [hval] at CH ⊢
  clear hf e0 e1 e2 hval hv
  generalize f.ty var = z at *
  generalize hvv : (var : Int) = vi at *
  clear hvv
  generalize f.nv = nv at *
  generalize f.np = np at *
  generalize f.nb = nb at *
  have hk1 : Keeps w (w.alloc (.cells #[.slice a0 nv c0, .slice a1 np c1, .slice a2 nb c2] 26)) [] := (Keeps.refl w []).alloc _
  have b1 := Blk.new w 26 #[.slice a0 nv c0, .slice a1 np c1, .slice a2 nb c2]
  have hk2 : Keeps (w.alloc (.cells #[.slice a0 nv c0, .slice a1 np c1, .slice a2 nb c2] 26)) ((w.alloc (.cells #[.slice a0 nv c0, .slice a1 np c1, .slice a2 nb c2] 26)).alloc (.cells #[.int .i64 kind, .int .i64 vi, .int .i64 to0, .int .i64 to1] 37)) [] := (Keeps.refl _ []).alloc _
  have b2 := Blk.new (w.alloc (.cells #[.slice a0 nv c0, .slice a1 np c1, .slice a2 nb c2] 26)) 37 #[.int .i64 kind, .int .i64 vi, .int .i64 to0, .int .i64 to1]
  have hz : (w.alloc (.cells #[.slice a0 nv c0, .slice a1 np c1, .slice a2 nb c2] 26)).heap.size = w.heap.size + 1 := by show (Array.push _ _).size = _; rw [Array.size_push]
  rw [hz] at b2
  have B1 := kept (b1.keep hk2 (by simp))
  have B2 := kept b2
  have HK := kept (hk1.and_then hk2)
  have l0 := B1.out.cell 0
  have l1 := B1.out.cell 1
  have l2 := B1.out.cell 2
  have m0 := B2.out.cell 0
  have m1 := B2.out.cell 1
  have m2 := B2.out.cell 2
  have m3 := B2.out.cell 3
  simp at l0 l1 l2 m0 m1 m2 m3
  clear b1 b2 hk1 hk2 hz
  have hn0 : (to0 != 0) = !(to0 == 0) := rfl
  have hn1 : (to1 != 0) = !(to1 == 0) := rfl
  rcases zero_or to0 with rfl | g0 <;> rcases zero_or to1 with rfl | g1
  all_goals
    by_cases k0 : kind = 0
    · subst k0
      go_enter Tryd.func41, Tryd.ntmps41
      go_wp2_with (first | (go_at_call 68; refine (CH.out _ (HF.out.keep HK.out)).mono ?_; rintro e w3 ⟨rfl, k3⟩; clear l0 l1 l2 m0 m1 m2 m3; have B1x := kept (B1.out.keep k3 (by simp)); have B2x := kept (B2.out.keep k3 (by simp)); have HKx := kept (HK.out.and_then k3); clear B1 B2 HK; have B1 := B1x; have B2 := B2x; have HK := HKx; clear B1x B2x HKx; have l0 := B1.out.cell 0; have l1 := B1.out.cell 1; have l2 := B1.out.cell 2; have m0 := B2.out.cell 0; have m1 := B2.out.cell 1; have m2 := B2.out.cell 2; have m3 := B2.out.cell 3; simp at l0 l1 l2 m0 m1 m2 m3; clear k3))
      go_ret
      exact ⟨ret_bool (by rw [HX.out]; simp_all), HK.out⟩
    have q0 : (kind == 0) = false := by simpa using k0
    by_cases k1 : kind = 1
    · subst k1
      by_cases z1 : z = 1
      · subst z1
        go_enter Tryd.func41, Tryd.ntmps41
        go_wp2_with (first | (go_at_call 68; refine (CH.out _ (HF.out.keep HK.out)).mono ?_; rintro e w3 ⟨rfl, k3⟩; clear l0 l1 l2 m0 m1 m2 m3; have B1x := kept (B1.out.keep k3 (by simp)); have B2x := kept (B2.out.keep k3 (by simp)); have HKx := kept (HK.out.and_then k3); clear B1 B2 HK; have B1 := B1x; have B2 := B2x; have HK := HKx; clear B1x B2x HKx; have l0 := B1.out.cell 0; have l1 := B1.out.cell 1; have l2 := B1.out.cell 2; have m0 := B2.out.cell 0; have m1 := B2.out.cell 1; have m2 := B2.out.cell 2; have m3 := B2.out.cell 3; simp at l0 l1 l2 m0 m1 m2 m3; clear k3))
        go_ret
        exact ⟨ret_bool (by rw [HX.out]; simp_all), HK.out⟩
      · have z2 : (z == 1) = false := by simpa using z1
        go_enter Tryd.func41, Tryd.ntmps41
        go_wp2_with (first | (go_at_call 68; refine (CH.out _ (HF.out.keep HK.out)).mono ?_; rintro e w3 ⟨rfl, k3⟩; clear l0 l1 l2 m0 m1 m2 m3; have B1x := kept (B1.out.keep k3 (by simp)); have B2x := kept (B2.out.keep k3 (by simp)); have HKx := kept (HK.out.and_then k3); clear B1 B2 HK; have B1 := B1x; have B2 := B2x; have HK := HKx; clear B1x B2x HKx; have l0 := B1.out.cell 0; have l1 := B1.out.cell 1; have l2 := B1.out.cell 2; have m0 := B2.out.cell 0; have m1 := B2.out.cell 1; have m2 := B2.out.cell 2; have m3 := B2.out.cell 3; simp at l0 l1 l2 m0 m1 m2 m3; clear k3))
        go_ret
        exact ⟨ret_bool (by rw [HX.out]; simp_all), HK.out⟩
    have q1 : (kind == 1) = false := by simpa using k1
    rcases zero_or z with rfl | z3
    all_goals
      go_enter Tryd.func41, Tryd.ntmps41
      go_wp2_with (first | (go_at_call 68; refine (CH.out _ (HF.out.keep HK.out)).mono ?_; rintro e w3 ⟨rfl, k3⟩; clear l0 l1 l2 m0 m1 m2 m3; have B1x := kept (B1.out.keep k3 (by simp)); have B2x := kept (B2.out.keep k3 (by simp)); have HKx := kept (HK.out.and_then k3); clear B1 B2 HK; have B1 := B1x; have B2 := B2x; have HK := HKx; clear B1x B2x HKx; have l0 := B1.out.cell 0; have l1 := B1.out.cell 1; have l2 := B1.out.cell 2; have m0 := B2.out.cell 0; have m1 := B2.out.cell 1; have m2 := B2.out.cell 2; have m3 := B2.out.cell 3; simp at l0 l1 l2 m0 m1 m2 m3; clear k3))
      go_ret
      exact ⟨ret_bool (by rw [HX.out]; simp_all), HK.out⟩
end Go.Proofs.YtjllbchfojonhaaDoor
