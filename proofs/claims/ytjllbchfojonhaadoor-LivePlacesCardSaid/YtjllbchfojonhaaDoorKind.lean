/- A variable's type, by the program and by the reference; contracts. -/
import Derived.Test.YtjllbchfojonhaaDoorPhi
namespace Go.Proofs.YtjllbchfojonhaaDoor
open Go.RowKit Go.Shelf
set_option linter.unusedVariables false

/-- a variable's type -/
def FuncM.ty (f : FuncM) (k : Nat) : Int := ((f.vars.2[k]?).map VarM.type).getD 0
theorem FuncAt.tyCell {w : World} {f : FuncM} (h : FuncAt w f) {k : Nat} (hk : k < f.nv) : ∃ b off c, f.vars.1 = .slice (some ⟨b, off, none⟩) f.nv c ∧ b < w.heap.size ∧ w.cell? ⟨b, off + k * 2 + 1, none⟩ = some (.int .i64 (f.ty k)) := by
  obtain ⟨a, c, e, _, _, hv⟩ := h.vars
  unfold FuncM.nv at hk ⊢
  simp only [List.length_map] at e hv
  rcases hv with hv | ⟨b, off, rfl, hb, hc⟩
  · omega
  · refine ⟨b, off, c, e, hb, ?_⟩
    have := hc k ((f.vars.2[k]).cells) (by simp [hk]) 1 (.int .i64 (f.vars.2[k]).type) rfl
    rw [this]
    unfold FuncM.ty
    simp [hk]

theorem kind_any (f : FuncM) (k : Nat) (w : World) (hf : FuncAt w f) (hk : k < f.nv) : Calls Tryd.prog 68 #[f.val, .int .i64 k] w fun e w' => e = .returned (.int .i64 (f.ty k)) ∧ Keeps w w' [] := by
  obtain ⟨b, off, c, e0, hb, hc⟩ := hf.tyCell hk
  obtain ⟨a0, c0, a1, c1, a2, c2, _, e1, e2⟩ := hf.shape2
  have hval : f.val = .agg #[.slice (some ⟨b, off, none⟩) f.nv c, .slice a1 f.np c1, .slice a2 f.nb c2] := by unfold FuncM.val; rw [e0, e1, e2]
  rw [hval]
  clear hval e0 e1 e2 hf
  generalize f.ty k = z at *
  generalize f.nv = nv at *
  generalize f.np = np at *
  generalize f.nb = nb at *
  have hkI : (k : Int) < (nv : Int) := by omega
  have hk0 : (0 : Int) ≤ (k : Int) := by omega
  have hk1 : Keeps w (w.alloc (.cells #[.slice (some ⟨b, off, none⟩) nv c, .slice a1 np c1, .slice a2 nb c2] 26)) [] := (Keeps.refl w []).alloc _
  have b1 := Blk.new w 26 #[.slice (some ⟨b, off, none⟩) nv c, .slice a1 np c1, .slice a2 nb c2]
  have l0 := b1.cell 0
  simp at l0
  have hc1 := hk1.cellOf hc
  have HK := kept hk1
  clear hk1 b1 hc
  go_enter Tryd.func68, Tryd.ntmps68
  go_wp2
  go_ret
  exact ⟨rfl, HK.out⟩

theorem of_any (f : FuncM) (k : Nat) (w : World) (hf : FuncAt w f) (hk : k < f.nv) : Calls Tryd.prog 35 #[f.val, .int .i64 k] w fun e w' => e = .returned (.int .i64 (f.ty k)) ∧ Keeps w w' [] := by
  obtain ⟨b, off, c, e0, hb, hc⟩ := hf.tyCell hk
  obtain ⟨a0, c0, a1, c1, a2, c2, _, e1, e2⟩ := hf.shape2
  have hval : f.val = .agg #[.slice (some ⟨b, off, none⟩) f.nv c, .slice a1 f.np c1, .slice a2 f.nb c2] := by unfold FuncM.val; rw [e0, e1, e2]
  rw [hval]
  clear hval e0 e1 e2 hf
  generalize f.ty k = z at *
  generalize f.nv = nv at *
  generalize f.np = np at *
  generalize f.nb = nb at *
  have hkI : (k : Int) < (nv : Int) := by omega
  have hk0 : (0 : Int) ≤ (k : Int) := by omega
  have hk1 : Keeps w (w.alloc (.cells #[.slice (some ⟨b, off, none⟩) nv c, .slice a1 np c1, .slice a2 nb c2] 26)) [] := (Keeps.refl w []).alloc _
  have b1 := Blk.new w 26 #[.slice (some ⟨b, off, none⟩) nv c, .slice a1 np c1, .slice a2 nb c2]
  have l0 := b1.cell 0
  simp at l0
  have hc1 := hk1.cellOf hc
  have HK := kept hk1
  clear hk1 b1 hc
  go_enter Tryd.func35, Tryd.ntmps35
  go_wp2
  go_ret
  exact ⟨rfl, HK.out⟩
end Go.Proofs.YtjllbchfojonhaaDoor
