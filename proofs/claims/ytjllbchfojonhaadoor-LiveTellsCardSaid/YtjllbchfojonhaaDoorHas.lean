/- Package print: has, at; contracts. -/
import Derived.Test.YtjllbchfojonhaaDoorOpened
import Derived.Test.YtjllbchfojonhaaDoorRef
namespace Go.Proofs.YtjllbchfojonhaaDoor
open Go.RowKit
set_option linter.unusedVariables false

def FuncM.nv (f : FuncM) : Nat := f.vars.2.length
def FuncM.np (f : FuncM) : Nat := f.params.2.length
def FuncM.nb (f : FuncM) : Nat := f.blocks.2.length
def inB (v : Int) (n : Nat) : Bool := decide (0 ≤ v) && decide (v < (n : Int))
/-- the three slices of a program -/
theorem FuncAt.shape {w : World} {f : FuncM} (h : FuncAt w f) : ∃ a0 c0 a1 c1 a2 c2, f.val = .agg #[.slice a0 f.nv c0, .slice a1 f.np c1, .slice a2 f.nb c2] := by
  obtain ⟨a0, c0, e0, _⟩ := h.vars
  obtain ⟨a1, c1, e1, _⟩ := h.params
  obtain ⟨a2, c2, e2, _⟩ := h.blocks
  refine ⟨a0, c0, a1, c1, a2, c2, ?_⟩
  unfold FuncM.val FuncM.nv FuncM.np FuncM.nb
  rw [e0, e1, e2]
  simp

theorem has_any (f : FuncM) (v : Int) (w : World) (hf : FuncAt w f) : Calls Tryd.prog 91 #[f.val, .int .i64 v] w fun e w' => e = .returned (.bool (inB v f.nv)) ∧ Keeps w w' [] := by
  obtain ⟨a0, c0, a1, c1, a2, c2, hv⟩ := hf.shape
  rw [hv]
  generalize f.nv = nv
  generalize f.np = np
  generalize f.nb = nb
  clear hf hv
  have hL := Blk.new w 26 #[.slice a0 nv c0, .slice a1 np c1, .slice a2 nb c2]
  have l0 := hL.cell 0
  have l1 := hL.cell 1
  have l2 := hL.cell 2
  simp at l0 l1 l2
  have hk : Keeps w (w.alloc (.cells #[.slice a0 nv c0, .slice a1 np c1, .slice a2 nb c2] 26)) [] := (Keeps.refl w []).alloc _
  have HK := kept hk
  clear hk hL
  by_cases h0 : 0 ≤ v <;> by_cases h1 : v < (nv : Int)
  all_goals
    go_enter Tryd.func91, Tryd.ntmps91
    go_wp2
    go_ret
    exact ⟨ret_bool (by simp [inB, h0, h1]), HK.out⟩

theorem at_any (f : FuncM) (v : Int) (w : World) (hf : FuncAt w f) : Calls Tryd.prog 94 #[f.val, .int .i64 v] w fun e w' => e = .returned (.bool (inB v f.nb)) ∧ Keeps w w' [] := by
  obtain ⟨a0, c0, a1, c1, a2, c2, hv⟩ := hf.shape
  rw [hv]
  generalize f.nv = nv
  generalize f.np = np
  generalize f.nb = nb
  clear hf hv
  have hL := Blk.new w 26 #[.slice a0 nv c0, .slice a1 np c1, .slice a2 nb c2]
  have l0 := hL.cell 0
  have l1 := hL.cell 1
  have l2 := hL.cell 2
  simp at l0 l1 l2
  have hk : Keeps w (w.alloc (.cells #[.slice a0 nv c0, .slice a1 np c1, .slice a2 nb c2] 26)) [] := (Keeps.refl w []).alloc _
  have HK := kept hk
  clear hk hL
  by_cases h0 : 0 ≤ v <;> by_cases h1 : v < (nb : Int)
  all_goals
    go_enter Tryd.func94, Tryd.ntmps94
    go_wp2
    go_ret
    exact ⟨ret_bool (by simp [inB, h0, h1]), HK.out⟩
end Go.Proofs.YtjllbchfojonhaaDoor
