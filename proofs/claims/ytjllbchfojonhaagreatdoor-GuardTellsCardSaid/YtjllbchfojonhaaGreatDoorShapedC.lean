/- Package print: Shaped; contract. -/
import Derived.Test.YtjllbchfojonhaaGreatDoorInst
import Derived.Test.YtjllbchfojonhaaGreatDoorNames
import Derived.Test.YtjllbchfojonhaaGreatDoorAnyRow
namespace Go.Proofs.YtjllbchfojonhaaGreatDoor
open Go.RowKit
set_option linter.unusedVariables false
set_option linter.unusedSimpArgs false

set_option maxRecDepth 100000 in
set_option maxHeartbeats 2000000 in
theorem phiS_any (f : FuncM) (p : PhiM) (L : Nat) (w : World) (hf : FuncAt w f) (hp : PhiAt w p) (hb : Boxed w L f) : Calls Tryz.prog 87 (#[.agg p.cells.toArray] ++ #[.pointer (some ⟨L, 0, none⟩)]) w fun e w' => e = .returned (.bool (!phiB f p)) ∧ Keeps w w' [] := by
 have hk : Keeps w (w.alloc (.cells p.cells.toArray 95)) [] := (Keeps.refl w []).alloc _
 have C := kept (phi_any f p _ (hf.keep hk) (hp.keep hk))
 have hb1 := hb.keep hk
 have hx := Blk.new w 95 p.cells.toArray
 have HK := kept hk
 clear hk
 obtain ⟨a0, c0, a1, c1, a2, c2, hv⟩ := hf.shape
 have h1 : #[f.vars.1, f.params.1, f.blocks.1] = #[.slice a0 f.nv c0, .slice a1 f.np c1, .slice a2 f.nb c2] := by
  unfold FuncM.val at hv
  injection hv
 unfold Boxed at hb1
 rw [h1] at hb1
 rw [hv] at C
 obtain ⟨s1, d1, e3, _⟩ := IntsAt.open_ hp.1
 obtain ⟨s2, d2, e4, _⟩ := IntsAt.open_ hp.2
 simp only [PhiM.cells, e3, e4] at C hx HK hb1 ⊢
 clear e3 e4
 have l0 := hb1.cell 0
 have l1 := hb1.cell 1
 have l2 := hb1.cell 2
 have m0 := hx.cell 0
 have m1 := hx.cell 1
 have m2 := hx.cell 2
 simp at l0 l1 l2 m0 m1 m2
 generalize phiB f p = B at *
 generalize f.nv = nv at *
 generalize f.np = np at *
 generalize f.nb = nb at *
 clear hf hv hb hb1 hp h1 hx
 cases B
 all_goals
  go_enter Tryz.func87, Tryz.ntmps87
  go_wp2_with (refine (C.out).mono ?_; rintro e w' ⟨rfl, k⟩; have K := kept k; clear k)
  go_ret
  exact ⟨rfl, HK.out.and_then K.out⟩

set_option maxRecDepth 100000 in
set_option maxHeartbeats 2000000 in
theorem instS_any (f : FuncM) (p : InstM) (L : Nat) (w : World) (hf : FuncAt w f) (hp : InstAt w p) (hb : Boxed w L f) : Calls Tryz.prog 90 (#[.agg p.cells.toArray] ++ #[.pointer (some ⟨L, 0, none⟩)]) w fun e w' => e = .returned (.bool (!instB f p)) ∧ Keeps w w' [] := by
 have hk : Keeps w (w.alloc (.cells p.cells.toArray 43)) [] := (Keeps.refl w []).alloc _
 have C := kept (inst_any f p _ (hf.keep hk) (Row.keep hp hk))
 have hb1 := hb.keep hk
 have hx := Blk.new w 43 p.cells.toArray
 have HK := kept hk
 clear hk
 obtain ⟨a0, c0, a1, c1, a2, c2, hv⟩ := hf.shape
 have h1 : #[f.vars.1, f.params.1, f.blocks.1] = #[.slice a0 f.nv c0, .slice a1 f.np c1, .slice a2 f.nb c2] := by
  unfold FuncM.val at hv
  injection hv
 unfold Boxed at hb1
 rw [h1] at hb1
 rw [hv] at C
 obtain ⟨s1, d1, e3, _⟩ := IntsAt.open_ hp
 simp only [InstM.cells, e3] at C hx HK hb1 ⊢
 clear e3
 have l0 := hb1.cell 0
 have l1 := hb1.cell 1
 have l2 := hb1.cell 2
 have m0 := hx.cell 0
 have m1 := hx.cell 1
 have m2 := hx.cell 2
 have m3 := hx.cell 3
 simp at l0 l1 l2 m0 m1 m2 m3
 generalize instB f p = B at *
 generalize f.nv = nv at *
 generalize f.np = np at *
 generalize f.nb = nb at *
 clear hf hv hb hb1 hp h1 hx
 cases B
 all_goals
  go_enter Tryz.func90, Tryz.ntmps90
  go_wp2_with (refine (C.out).mono ?_; rintro e w' ⟨rfl, k⟩; have K := kept k; clear k)
  go_ret
  exact ⟨rfl, HK.out.and_then K.out⟩

theorem phisBad (f : FuncM) (y : BlockM) (L : Nat) (W : World) (hf : FuncAt W f) (hy : BlockAt W y) (hb : Boxed W L f) : Calls Tryz.prog 86 #[y.phis.1, .func (.func 87) #[] #[.pointer (some ⟨L, 0, none⟩)]] W fun e w' => e = .returned (.bool (!(y.phis.2.all (phiB f)))) ∧ Keeps W w' [] := by
 have e : (!(y.phis.2.all (phiB f))) = y.phis.2.any fun p => !phiB f p := by rw [List.all_eq_not_any_not, Bool.not_not]
 rw [e]
 exact any_phis 87 #[.pointer (some ⟨L, 0, none⟩)] (fun p => !phiB f p) y.phis.1 y.phis.2 W hy.phis (fun W' j hj hW => phiS_any f y.phis.2[j]! L W' (hf.keep hW) ((hy.phi _ (bang_mem hj)).keep hW) (hb.keep hW)) (enters_of Tryz.func87 (by kernel_rfl) rfl)

theorem instsBad (f : FuncM) (y : BlockM) (L : Nat) (W : World) (hf : FuncAt W f) (hy : BlockAt W y) (hb : Boxed W L f) : Calls Tryz.prog 89 #[y.insts.1, .func (.func 90) #[] #[.pointer (some ⟨L, 0, none⟩)]] W fun e w' => e = .returned (.bool (!(y.insts.2.all (instB f)))) ∧ Keeps W w' [] := by
 have e : (!(y.insts.2.all (instB f))) = y.insts.2.any fun p => !instB f p := by rw [List.all_eq_not_any_not, Bool.not_not]
 rw [e]
 exact any_insts 90 #[.pointer (some ⟨L, 0, none⟩)] (fun p => !instB f p) y.insts.1 y.insts.2 W hy.insts (fun W' j hj hW => instS_any f y.insts.2[j]! L W' (hf.keep hW) (Row.keep (hy.inst _ (bang_mem hj)) hW) (hb.keep hW)) (enters_of Tryz.func90 (by kernel_rfl) rfl)
end Go.Proofs.YtjllbchfojonhaaGreatDoor
