/- Package print: vars, and the closures over numbers; contracts. -/
import Derived.Test.YtjllbchfojonhaaDoorAny
namespace Go.Proofs.YtjllbchfojonhaaDoor
open Go.RowKit Go.Shelf
set_option linter.unusedVariables false

/-- the block of a captured program -/
def Boxed (w : World) (L : Nat) (f : FuncM) : Prop := Blk w L 26 #[f.vars.1, f.params.1, f.blocks.1]
theorem Boxed.keep {w w' : World} {L : Nat} {f : FuncM} (h : Boxed w L f) (k : Keeps w w' []) : Boxed w' L f := Blk.keep h k (by simp)
theorem Boxed.new (w : World) (f : FuncM) : Boxed (w.alloc (.cells #[f.vars.1, f.params.1, f.blocks.1] 26)) w.heap.size f := Blk.new w 26 _

theorem varsC_any (f : FuncM) (v : Int) (L : Nat) (w : World) (hf : FuncAt w f) (hb : Boxed w L f) : Calls Tryd.prog 108 (#[.int .i64 v] ++ #[.pointer (some ⟨L, 0, none⟩)]) w fun e w' => e = .returned (.bool (!inB v f.nv)) ∧ Keeps w w' [] := by
  have C := kept (has_any f v w hf)
  obtain ⟨a0, c0, a1, c1, a2, c2, hv⟩ := hf.shape
  have hb' : Blk w L 26 #[.slice a0 f.nv c0, .slice a1 f.np c1, .slice a2 f.nb c2] := by
    have h1 : #[f.vars.1, f.params.1, f.blocks.1] = #[.slice a0 f.nv c0, .slice a1 f.np c1, .slice a2 f.nb c2] := by
      unfold FuncM.val at hv
      injection hv
    rw [← h1]
    exact hb
  rw [hv] at C
  have l0 := hb'.cell 0
  have l1 := hb'.cell 1
  have l2 := hb'.cell 2
  simp at l0 l1 l2
  generalize inB v f.nv = B at *
  generalize f.nv = nv at *
  generalize f.np = np at *
  generalize f.nb = nb at *
  clear hf hv hb hb'
  cases B
  all_goals
    go_enter Tryd.func108, Tryd.ntmps108
    go_wp2_with (refine (C.out).mono ?_; rintro e w' ⟨rfl, k⟩; have K := kept k; clear k)
    go_ret
    exact ⟨rfl, K.out⟩

theorem phiC_any (f : FuncM) (v : Int) (L : Nat) (w : World) (hf : FuncAt w f) (hb : Boxed w L f) : Calls Tryd.prog 93 (#[.int .i64 v] ++ #[.pointer (some ⟨L, 0, none⟩)]) w fun e w' => e = .returned (.bool (!inB v f.nb)) ∧ Keeps w w' [] := by
  have C := kept (at_any f v w hf)
  obtain ⟨a0, c0, a1, c1, a2, c2, hv⟩ := hf.shape
  have hb' : Blk w L 26 #[.slice a0 f.nv c0, .slice a1 f.np c1, .slice a2 f.nb c2] := by
    have h1 : #[f.vars.1, f.params.1, f.blocks.1] = #[.slice a0 f.nv c0, .slice a1 f.np c1, .slice a2 f.nb c2] := by
      unfold FuncM.val at hv
      injection hv
    rw [← h1]
    exact hb
  rw [hv] at C
  have l0 := hb'.cell 0
  have l1 := hb'.cell 1
  have l2 := hb'.cell 2
  simp at l0 l1 l2
  generalize inB v f.nb = B at *
  generalize f.nv = nv at *
  generalize f.np = np at *
  generalize f.nb = nb at *
  clear hf hv hb hb'
  cases B
  all_goals
    go_enter Tryd.func93, Tryd.ntmps93
    go_wp2_with (refine (C.out).mono ?_; rintro e w' ⟨rfl, k⟩; have K := kept k; clear k)
    go_ret
    exact ⟨rfl, K.out⟩

theorem vars_any (f : FuncM) (q : IntsM) (w : World) (hf : FuncAt w f) (hq : IntsAt w q) : Calls Tryd.prog 92 #[f.val, q.1] w fun e w' => e = .returned (.bool (q.2.all (inB · f.nv))) ∧ Keeps w w' [] := by
  have hk : Keeps w (w.alloc (.cells #[f.vars.1, f.params.1, f.blocks.1] 26)) [] := (Keeps.refl w []).alloc _
  have hp : PredInt 108 #[.pointer (some ⟨w.heap.size, 0, none⟩)] (fun v => !inB v f.nv) (w.alloc (.cells #[f.vars.1, f.params.1, f.blocks.1] 26)) :=
    fun W x hW => varsC_any f x w.heap.size W ((hf.keep hk).keep hW) ((Boxed.new w f).keep hW)
  have C := kept (any_ints 108 _ _ q _ (Row.keep hq hk) hp (enters_of Tryd.func108 (by kernel_rfl) rfl))
  have HX : Hid (q.2.all (inB · f.nv) = !(q.2.any fun v => !inB v f.nv)) := by show _ = _; rw [List.all_eq_not_any_not]
  obtain ⟨a0, c0, a1, c1, a2, c2, hv⟩ := hf.shape
  have h1 : #[f.vars.1, f.params.1, f.blocks.1] = #[.slice a0 f.nv c0, .slice a1 f.np c1, .slice a2 f.nb c2] := by
    unfold FuncM.val at hv
    injection hv
  rw [h1] at C hk
  rw [hv, HX.out]
  obtain ⟨a, cap, e1, _⟩ := hq.open_
  rw [e1] at C ⊢
  have HK := kept hk
  generalize (q.2.any fun v => !inB v f.nv) = B at *
  generalize f.nv = nv at *
  generalize f.np = np at *
  generalize f.nb = nb at *
  clear hf hv hp hk h1 hq e1
  cases B
  all_goals
    go_enter Tryd.func92, Tryd.ntmps92
    go_wp2_with (refine (C.out).mono ?_; rintro e w' ⟨rfl, k⟩; have K := kept k; clear k)
    go_ret
    exact ⟨rfl, HK.out.and_then K.out⟩
end Go.Proofs.YtjllbchfojonhaaDoor
