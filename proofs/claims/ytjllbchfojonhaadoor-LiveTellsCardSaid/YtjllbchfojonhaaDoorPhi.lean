/- Package print: phi; contract. -/
import Derived.Test.YtjllbchfojonhaaDoorVars
namespace Go.Proofs.YtjllbchfojonhaaDoor
open Go.RowKit Go.Shelf
set_option linter.unusedVariables false

def phiB (f : FuncM) (p : PhiM) : Bool := !(p.args.2.length == 0) && (p.args.2.length == p.froms.2.length) && inB p.dst f.nv && p.args.2.all (inB · f.nv) && p.froms.2.all (inB · f.nb)

theorem FuncAt.shape2 {w : World} {f : FuncM} (h : FuncAt w f) : ∃ a0 c0 a1 c1 a2 c2, f.vars.1 = .slice a0 f.nv c0 ∧ f.params.1 = .slice a1 f.np c1 ∧ f.blocks.1 = .slice a2 f.nb c2 := by
  obtain ⟨a0, c0, a1, c1, a2, c2, hv⟩ := h.shape
  unfold FuncM.val at hv
  injection hv with hv
  simp at hv
  exact ⟨a0, c0, a1, c1, a2, c2, hv⟩

set_option maxHeartbeats 1000000 in
theorem phi_any (f : FuncM) (p : PhiM) (w : World) (hf : FuncAt w f) (hp : PhiAt w p) : Calls Tryd.prog 62 #[f.val, .agg #[.int .i64 p.dst, p.args.1, p.froms.1]] w fun e w' => e = .returned (.bool (phiB f p)) ∧ Keeps w w' [] := by
  have CH := kept (fun w h => has_any f p.dst w h)
  have CV := kept (fun w h1 h2 => vars_any f p.args w h1 h2)
  have CA := kept (fun L w h1 h2 h3 => any_ints 93 #[.pointer (some ⟨L, 0, none⟩)] (fun v => !inB v f.nb) p.froms w h1
    (fun W x hW => phiC_any f x L W (FuncAt.keep h2 hW) (Boxed.keep h3 hW)) (enters_of Tryd.func93 (by kernel_rfl) rfl))
  obtain ⟨a0, c0, a1, c1, a2, c2, e0, e1, e2⟩ := hf.shape2
  obtain ⟨s1, d1, e3, _⟩ := hp.1.open_
  obtain ⟨s2, d2, e4, _⟩ := hp.2.open_
  have HF := kept hf
  have HP := kept hp
  have HX : Hid (phiB f p = (!(p.args.2.length == 0) && (p.args.2.length == p.froms.2.length) && inB p.dst f.nv && p.args.2.all (inB · f.nv) && !(p.froms.2.any fun v => !inB v f.nb))) := by
    show _ = _
    rw [← List.all_eq_not_any_not]
    rfl
  have hB : ∀ W L, Blk W L 26 #[.slice a0 f.nv c0, .slice a1 f.np c1, .slice a2 f.nb c2] → Boxed W L f := fun W L h => by unfold Boxed; rw [e0, e1, e2]; exact h
  have HB := kept hB
  have hval : f.val = .agg #[.slice a0 f.nv c0, .slice a1 f.np c1, .slice a2 f.nb c2] := by unfold FuncM.val; rw [e0, e1, e2]
  rw [hval] at CH CV ⊢
  rw [e3, e4]
  rw [e3] at CV
  rw [e4] at CA
  clear hB hf hp e0 e1 e2 e3 e4 hval
  generalize (p.froms.2.any fun v => !inB v f.nb) = X5 at *
  generalize p.args.2.all (inB · f.nv) = X4 at *
  generalize inB p.dst f.nv = X3 at *
  generalize hX2 : (p.args.2.length == p.froms.2.length) = X2 at HX
  generalize hX1 : (p.args.2.length == 0) = X1 at HX
  have n1 : ((p.args.2.length : Int) == 0) = X1 := by rw [← hX1, Bool.eq_iff_iff]; simp
  have n2 : ((p.args.2.length : Int) == (p.froms.2.length : Int)) = X2 := by rw [← hX2, Bool.eq_iff_iff]; simp only [beq_iff_eq]; omega
  have n3 : ((p.args.2.length : Int) != (p.froms.2.length : Int)) = !X2 := by rw [← n2]; rfl
  generalize f.nv = nv at *
  generalize f.np = np at *
  generalize f.nb = nb at *
  generalize p.args.2.length = na at *
  generalize p.froms.2.length = nf at *
  generalize p.dst = dst at *
  clear hX1 hX2
  have hk1 : Keeps w (w.alloc (.cells #[.slice a0 nv c0, .slice a1 np c1, .slice a2 nb c2] 26)) [] := (Keeps.refl w []).alloc _
  have b1 := Blk.new w 26 #[.slice a0 nv c0, .slice a1 np c1, .slice a2 nb c2]
  have hk2 : Keeps (w.alloc (.cells #[.slice a0 nv c0, .slice a1 np c1, .slice a2 nb c2] 26)) ((w.alloc (.cells #[.slice a0 nv c0, .slice a1 np c1, .slice a2 nb c2] 26)).alloc (.cells #[.int .i64 dst, .slice s1 na d1, .slice s2 nf d2] 79)) [] := (Keeps.refl _ []).alloc _
  have b2 := Blk.new (w.alloc (.cells #[.slice a0 nv c0, .slice a1 np c1, .slice a2 nb c2] 26)) 79 #[.int .i64 dst, .slice s1 na d1, .slice s2 nf d2]
  have hz : (w.alloc (.cells #[.slice a0 nv c0, .slice a1 np c1, .slice a2 nb c2] 26)).heap.size = w.heap.size + 1 := by show (Array.push _ _).size = _; rw [Array.size_push]
  rw [hz] at b2
  have B1 := kept (b1.keep hk2 (by simp))
  have B2 := kept b2
  have HK := kept (hk1.and_then hk2)
  have l0 := B1.out.cell 0
  have l1 := B1.out.cell 1
  have l2 := B1.out.cell 2
  have m0 := B2.out.cell 0
  have m1 := B2.out.cell 1
  have m2 := B2.out.cell 2
  simp at l0 l1 l2 m0 m1 m2
  clear b1 b2 hk1 hk2 hz
  cases X1 with
  | true =>
    obtain rfl : na = 0 := by simp at n1; omega
    go_enter Tryd.func62, Tryd.ntmps62
    go_wp2_with (first
      | (go_at_call 91; refine (CH.out _ (HF.out.keep HK.out)).mono ?_; rintro e w3 ⟨rfl, k3⟩; clear l0 l1 l2 m0 m1 m2; have B1x := kept (B1.out.keep k3 (by simp)); have B2x := kept (B2.out.keep k3 (by simp)); have HKx := kept (HK.out.and_then k3); clear B1 B2 HK; have B1 := B1x; have B2 := B2x; have HK := HKx; clear B1x B2x HKx; have l0 := B1.out.cell 0; have l1 := B1.out.cell 1; have l2 := B1.out.cell 2; have m0 := B2.out.cell 0; have m1 := B2.out.cell 1; have m2 := B2.out.cell 2; simp at l0 l1 l2 m0 m1 m2; clear k3)
      | (go_at_call 92; refine (CV.out _ (HF.out.keep HK.out) (Row.keep HP.out.1 HK.out)).mono ?_; rintro e w4 ⟨rfl, k4⟩; clear l0 l1 l2 m0 m1 m2; have B1x := kept (B1.out.keep k4 (by simp)); have B2x := kept (B2.out.keep k4 (by simp)); have HKx := kept (HK.out.and_then k4); clear B1 B2 HK; have B1 := B1x; have B2 := B2x; have HK := HKx; clear B1x B2x HKx; have l0 := B1.out.cell 0; have l1 := B1.out.cell 1; have l2 := B1.out.cell 2; have m0 := B2.out.cell 0; have m1 := B2.out.cell 1; have m2 := B2.out.cell 2; simp at l0 l1 l2 m0 m1 m2; clear k4)
      | (go_at_call 66; refine (CA.out _ _ (Row.keep HP.out.2 HK.out) (HF.out.keep HK.out) (HB.out _ _ B1.out)).mono ?_; rintro e w5 ⟨rfl, k5⟩; clear l0 l1 l2 m0 m1 m2; have B1x := kept (B1.out.keep k5 (by simp)); have B2x := kept (B2.out.keep k5 (by simp)); have HKx := kept (HK.out.and_then k5); clear B1 B2 HK; have B1 := B1x; have B2 := B2x; have HK := HKx; clear B1x B2x HKx; have l0 := B1.out.cell 0; have l1 := B1.out.cell 1; have l2 := B1.out.cell 2; have m0 := B2.out.cell 0; have m1 := B2.out.cell 1; have m2 := B2.out.cell 2; simp at l0 l1 l2 m0 m1 m2; clear k5))
    go_ret
    exact ⟨ret_bool (by rw [HX.out]; simp), HK.out⟩
  | false =>
  cases X2 with
  | false =>
    go_enter Tryd.func62, Tryd.ntmps62
    go_wp2_with (first
      | (go_at_call 91; refine (CH.out _ (HF.out.keep HK.out)).mono ?_; rintro e w3 ⟨rfl, k3⟩; clear l0 l1 l2 m0 m1 m2; have B1x := kept (B1.out.keep k3 (by simp)); have B2x := kept (B2.out.keep k3 (by simp)); have HKx := kept (HK.out.and_then k3); clear B1 B2 HK; have B1 := B1x; have B2 := B2x; have HK := HKx; clear B1x B2x HKx; have l0 := B1.out.cell 0; have l1 := B1.out.cell 1; have l2 := B1.out.cell 2; have m0 := B2.out.cell 0; have m1 := B2.out.cell 1; have m2 := B2.out.cell 2; simp at l0 l1 l2 m0 m1 m2; clear k3)
      | (go_at_call 92; refine (CV.out _ (HF.out.keep HK.out) (Row.keep HP.out.1 HK.out)).mono ?_; rintro e w4 ⟨rfl, k4⟩; clear l0 l1 l2 m0 m1 m2; have B1x := kept (B1.out.keep k4 (by simp)); have B2x := kept (B2.out.keep k4 (by simp)); have HKx := kept (HK.out.and_then k4); clear B1 B2 HK; have B1 := B1x; have B2 := B2x; have HK := HKx; clear B1x B2x HKx; have l0 := B1.out.cell 0; have l1 := B1.out.cell 1; have l2 := B1.out.cell 2; have m0 := B2.out.cell 0; have m1 := B2.out.cell 1; have m2 := B2.out.cell 2; simp at l0 l1 l2 m0 m1 m2; clear k4)
      | (go_at_call 66; refine (CA.out _ _ (Row.keep HP.out.2 HK.out) (HF.out.keep HK.out) (HB.out _ _ B1.out)).mono ?_; rintro e w5 ⟨rfl, k5⟩; clear l0 l1 l2 m0 m1 m2; have B1x := kept (B1.out.keep k5 (by simp)); have B2x := kept (B2.out.keep k5 (by simp)); have HKx := kept (HK.out.and_then k5); clear B1 B2 HK; have B1 := B1x; have B2 := B2x; have HK := HKx; clear B1x B2x HKx; have l0 := B1.out.cell 0; have l1 := B1.out.cell 1; have l2 := B1.out.cell 2; have m0 := B2.out.cell 0; have m1 := B2.out.cell 1; have m2 := B2.out.cell 2; simp at l0 l1 l2 m0 m1 m2; clear k5))
    go_ret
    exact ⟨ret_bool (by rw [HX.out]; simp), HK.out⟩
  | true =>
  obtain rfl : na = nf := by simp only [beq_iff_eq] at n2; omega
  have n4 : ¬ na = 0 := by intro h; subst h; simp at n1
  cases X3 with
  | false =>
    go_enter Tryd.func62, Tryd.ntmps62
    go_wp2_with (first
      | (go_at_call 91; refine (CH.out _ (HF.out.keep HK.out)).mono ?_; rintro e w3 ⟨rfl, k3⟩; clear l0 l1 l2 m0 m1 m2; have B1x := kept (B1.out.keep k3 (by simp)); have B2x := kept (B2.out.keep k3 (by simp)); have HKx := kept (HK.out.and_then k3); clear B1 B2 HK; have B1 := B1x; have B2 := B2x; have HK := HKx; clear B1x B2x HKx; have l0 := B1.out.cell 0; have l1 := B1.out.cell 1; have l2 := B1.out.cell 2; have m0 := B2.out.cell 0; have m1 := B2.out.cell 1; have m2 := B2.out.cell 2; simp at l0 l1 l2 m0 m1 m2; clear k3)
      | (go_at_call 92; refine (CV.out _ (HF.out.keep HK.out) (Row.keep HP.out.1 HK.out)).mono ?_; rintro e w4 ⟨rfl, k4⟩; clear l0 l1 l2 m0 m1 m2; have B1x := kept (B1.out.keep k4 (by simp)); have B2x := kept (B2.out.keep k4 (by simp)); have HKx := kept (HK.out.and_then k4); clear B1 B2 HK; have B1 := B1x; have B2 := B2x; have HK := HKx; clear B1x B2x HKx; have l0 := B1.out.cell 0; have l1 := B1.out.cell 1; have l2 := B1.out.cell 2; have m0 := B2.out.cell 0; have m1 := B2.out.cell 1; have m2 := B2.out.cell 2; simp at l0 l1 l2 m0 m1 m2; clear k4)
      | (go_at_call 66; refine (CA.out _ _ (Row.keep HP.out.2 HK.out) (HF.out.keep HK.out) (HB.out _ _ B1.out)).mono ?_; rintro e w5 ⟨rfl, k5⟩; clear l0 l1 l2 m0 m1 m2; have B1x := kept (B1.out.keep k5 (by simp)); have B2x := kept (B2.out.keep k5 (by simp)); have HKx := kept (HK.out.and_then k5); clear B1 B2 HK; have B1 := B1x; have B2 := B2x; have HK := HKx; clear B1x B2x HKx; have l0 := B1.out.cell 0; have l1 := B1.out.cell 1; have l2 := B1.out.cell 2; have m0 := B2.out.cell 0; have m1 := B2.out.cell 1; have m2 := B2.out.cell 2; simp at l0 l1 l2 m0 m1 m2; clear k5))
    go_ret
    exact ⟨ret_bool (by rw [HX.out]; simp), HK.out⟩
  | true =>
  cases X4 with
  | false =>
    go_enter Tryd.func62, Tryd.ntmps62
    go_wp2_with (first
      | (go_at_call 91; refine (CH.out _ (HF.out.keep HK.out)).mono ?_; rintro e w3 ⟨rfl, k3⟩; clear l0 l1 l2 m0 m1 m2; have B1x := kept (B1.out.keep k3 (by simp)); have B2x := kept (B2.out.keep k3 (by simp)); have HKx := kept (HK.out.and_then k3); clear B1 B2 HK; have B1 := B1x; have B2 := B2x; have HK := HKx; clear B1x B2x HKx; have l0 := B1.out.cell 0; have l1 := B1.out.cell 1; have l2 := B1.out.cell 2; have m0 := B2.out.cell 0; have m1 := B2.out.cell 1; have m2 := B2.out.cell 2; simp at l0 l1 l2 m0 m1 m2; clear k3)
      | (go_at_call 92; refine (CV.out _ (HF.out.keep HK.out) (Row.keep HP.out.1 HK.out)).mono ?_; rintro e w4 ⟨rfl, k4⟩; clear l0 l1 l2 m0 m1 m2; have B1x := kept (B1.out.keep k4 (by simp)); have B2x := kept (B2.out.keep k4 (by simp)); have HKx := kept (HK.out.and_then k4); clear B1 B2 HK; have B1 := B1x; have B2 := B2x; have HK := HKx; clear B1x B2x HKx; have l0 := B1.out.cell 0; have l1 := B1.out.cell 1; have l2 := B1.out.cell 2; have m0 := B2.out.cell 0; have m1 := B2.out.cell 1; have m2 := B2.out.cell 2; simp at l0 l1 l2 m0 m1 m2; clear k4)
      | (go_at_call 66; refine (CA.out _ _ (Row.keep HP.out.2 HK.out) (HF.out.keep HK.out) (HB.out _ _ B1.out)).mono ?_; rintro e w5 ⟨rfl, k5⟩; clear l0 l1 l2 m0 m1 m2; have B1x := kept (B1.out.keep k5 (by simp)); have B2x := kept (B2.out.keep k5 (by simp)); have HKx := kept (HK.out.and_then k5); clear B1 B2 HK; have B1 := B1x; have B2 := B2x; have HK := HKx; clear B1x B2x HKx; have l0 := B1.out.cell 0; have l1 := B1.out.cell 1; have l2 := B1.out.cell 2; have m0 := B2.out.cell 0; have m1 := B2.out.cell 1; have m2 := B2.out.cell 2; simp at l0 l1 l2 m0 m1 m2; clear k5))
    go_ret
    exact ⟨ret_bool (by rw [HX.out]; simp), HK.out⟩
  | true =>
    cases X5
    all_goals
      go_enter Tryd.func62, Tryd.ntmps62
      go_wp2_with (first
      | (go_at_call 91; refine (CH.out _ (HF.out.keep HK.out)).mono ?_; rintro e w3 ⟨rfl, k3⟩; clear l0 l1 l2 m0 m1 m2; have B1x := kept (B1.out.keep k3 (by simp)); have B2x := kept (B2.out.keep k3 (by simp)); have HKx := kept (HK.out.and_then k3); clear B1 B2 HK; have B1 := B1x; have B2 := B2x; have HK := HKx; clear B1x B2x HKx; have l0 := B1.out.cell 0; have l1 := B1.out.cell 1; have l2 := B1.out.cell 2; have m0 := B2.out.cell 0; have m1 := B2.out.cell 1; have m2 := B2.out.cell 2; simp at l0 l1 l2 m0 m1 m2; clear k3)
      | (go_at_call 92; refine (CV.out _ (HF.out.keep HK.out) (Row.keep HP.out.1 HK.out)).mono ?_; rintro e w4 ⟨rfl, k4⟩; clear l0 l1 l2 m0 m1 m2; have B1x := kept (B1.out.keep k4 (by simp)); have B2x := kept (B2.out.keep k4 (by simp)); have HKx := kept (HK.out.and_then k4); clear B1 B2 HK; have B1 := B1x; have B2 := B2x; have HK := HKx; clear B1x B2x HKx; have l0 := B1.out.cell 0; have l1 := B1.out.cell 1; have l2 := B1.out.cell 2; have m0 := B2.out.cell 0; have m1 := B2.out.cell 1; have m2 := B2.out.cell 2; simp at l0 l1 l2 m0 m1 m2; clear k4)
      | (go_at_call 66; refine (CA.out _ _ (Row.keep HP.out.2 HK.out) (HF.out.keep HK.out) (HB.out _ _ B1.out)).mono ?_; rintro e w5 ⟨rfl, k5⟩; clear l0 l1 l2 m0 m1 m2; have B1x := kept (B1.out.keep k5 (by simp)); have B2x := kept (B2.out.keep k5 (by simp)); have HKx := kept (HK.out.and_then k5); clear B1 B2 HK; have B1 := B1x; have B2 := B2x; have HK := HKx; clear B1x B2x HKx; have l0 := B1.out.cell 0; have l1 := B1.out.cell 1; have l2 := B1.out.cell 2; have m0 := B2.out.cell 0; have m1 := B2.out.cell 1; have m2 := B2.out.cell 2; simp at l0 l1 l2 m0 m1 m2; clear k5))
      go_ret
      exact ⟨ret_bool (by rw [HX.out]; simp), HK.out⟩
end Go.Proofs.YtjllbchfojonhaaDoor
