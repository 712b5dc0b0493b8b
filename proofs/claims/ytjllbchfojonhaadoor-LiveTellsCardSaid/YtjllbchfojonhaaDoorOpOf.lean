/- Package ops: the contracts of of, Word, TypeWord, Any, Numbered, Check, Pure, Trap. -/
import Derived.Test.YtjllbchfojonhaaDoorOpTable
namespace Go.Proofs.YtjllbchfojonhaaDoor
open Go.RowKit
set_option linter.unusedVariables false

theorem kfield0 (a b c : ByteArray) : ∀ w, (Instr.field 142 (.agg #[.string a, .string b, .string c]) 0).run Tryd.prog w = .ok (.string a) w := by intro w; kernel_rfl
theorem kfield1 (a b c : ByteArray) : ∀ w, (Instr.field 142 (.agg #[.string a, .string b, .string c]) 1).run Tryd.prog w = .ok (.string b) w := by intro w; kernel_rfl
theorem kfield2 (a b c : ByteArray) : ∀ w, (Instr.field 142 (.agg #[.string a, .string b, .string c]) 2).run Tryd.prog w = .ok (.string c) w := by intro w; kernel_rfl

set_option maxRecDepth 100000 in
set_option maxHeartbeats 4000000 in
theorem of_yes (k : Nat) (hk : k < 27) (w : World) : Calls Tryd.prog 98 #[.int .i64 k] w fun e w' => e = .returned (.agg #[.string (kword k), .string (ktakes k), .string (kmakes k)]) ∧ Keeps w w' [] := by
  have CI := kept (fun w => is_yes k hk w)
  have ix := kindex k hk
  generalize kword k = x at *
  generalize ktakes k = y at *
  generalize kmakes k = z at *
  generalize hc : kcells = kc at *
  have CK := kept (fun w => kinds_any w)
  rw [hc] at CK
  clear hc
  go_enter Tryd.func98, Tryd.ntmps98
  go_wp2_with fail
  refine (CI.out _).mono ?_
  rintro e w' ⟨rfl, rfl⟩
  go_wp2_with fail
  refine (CK.out _).mono ?_
  rintro e w1 ⟨rfl, k1⟩
  have b := (Blk.new w 142 _).keep k1 (by simp)
  have c0 := b.cell 0
  have c1 := b.cell 1
  have c2 := b.cell 2
  simp at c0 c1 c2
  have f0 := b.frozen 0
  have f1 := b.frozen 1
  have f2 := b.frozen 2
  have K1 := kept k1
  clear k1 b
  go_wp2
  exact bodyPost_ret (v := .agg #[.string x, .string y, .string z]) (by simp [results, Tryd.results98, go_sem, c0, c1, c2]) rfl ⟨rfl, (((((Keeps.refl w []).alloc _).trans K1.out).setCell (.inr (by simp)) _).setCell (.inr (by simp)) _).setCell (.inr (by simp)) _⟩

theorem of_no (op : Int) (h : op < 0 ∨ 27 ≤ op) (w : World) : Calls Tryd.prog 98 #[.int .i64 op] w fun e w' => e = .returned (.agg #[.string ⟨#[]⟩, .string ⟨#[]⟩, .string ⟨#[]⟩]) ∧ Keeps w w' [] := by
  have CI := kept (fun w => is_no op h w)
  clear h
  go_enter Tryd.func98, Tryd.ntmps98
  go_wp2_with fail
  refine (CI.out _).mono ?_
  rintro e w' ⟨rfl, rfl⟩
  go_wp2
  exact bodyPost_ret (v := .agg #[.string ⟨#[]⟩, .string ⟨#[]⟩, .string ⟨#[]⟩]) (by simp [results, Tryd.results98, go_sem]) rfl ⟨rfl, (Keeps.refl w []).alloc _⟩

theorem word_yes (k : Nat) (hk : k < 27) (w : World) : Calls Tryd.prog 95 #[.int .i64 k] w fun e w' => e = .returned (.string (kword k)) ∧ Keeps w w' [] := by
  have C := kept (fun w => of_yes k hk w)
  have hf := kfield0 (kword k) (ktakes k) (kmakes k)
  generalize kword k = x at *
  go_enter Tryd.func95, Tryd.ntmps95
  go_wp2_with fail
  refine (C.out _).mono ?_
  rintro e w1 ⟨rfl, k1⟩
  have K1 := kept k1
  clear k1
  go_wp2
  go_ret
  exact ⟨rfl, K1.out⟩
theorem word_no (op : Int) (h : op < 0 ∨ 27 ≤ op) (w : World) : Calls Tryd.prog 95 #[.int .i64 op] w fun e w' => e = .returned (.string ⟨#[]⟩) ∧ Keeps w w' [] := by
  have C := kept (fun w => of_no op h w)
  have hf := kfield0 ⟨#[]⟩ ⟨#[]⟩ ⟨#[]⟩
  clear h
  go_enter Tryd.func95, Tryd.ntmps95
  go_wp2_with fail
  refine (C.out _).mono ?_
  rintro e w1 ⟨rfl, k1⟩
  have K1 := kept k1
  clear k1
  go_wp2
  go_ret
  exact ⟨rfl, K1.out⟩
end Go.Proofs.YtjllbchfojonhaaDoor
