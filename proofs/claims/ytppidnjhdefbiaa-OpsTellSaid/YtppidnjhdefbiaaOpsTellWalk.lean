/- Package ops: the walk of the law OpsTell, joined. -/
import Derived.Test.YtppidnjhdefbiaaOpsTellA
import Derived.Test.YtppidnjhdefbiaaOpsTellB
import Derived.Test.YtppidnjhdefbiaaOpsTell0
import Derived.Test.YtppidnjhdefbiaaArithWalks
namespace Go.Proofs.Ytppidnjhdefbiaa
open Go.RowKit
set_option linter.unusedVariables false

theorem takes_small : ∀ k : Nat, k < 27 → (ktakes k).size ≤ 100 ∧ (ktakes k).data.toList.all (fun c => decide (c.toNat < 128)) = true := by decide +kernel
theorem takes_ascii (k : Nat) (hk : k < 27) (j : Nat) (hj : j < (ktakes k).size) : ((ktakes k)[j]'hj).toNat < 128 := by
  have h := (takes_small k hk).2
  rw [List.all_eq_true] at h
  have h' : j < (ktakes k).data.toList.length := by rw [Array.length_toList]; exact hj
  have := h _ (List.getElem_mem h')
  exact of_decide_eq_true this
theorem makes_cls : ∀ k : Nat, k < 27 → (k ≠ 0 ∧ kmakes k = ⟨#[]⟩) ∨ (kmakes k = ⟨#[105]⟩ ∨ kmakes k = ⟨#[98]⟩ ∨ kmakes k = ⟨#[97]⟩) := by decide +kernel
theorem walkOpsTell (op : Int) (wf : (Lit.int .i64 op).wf = true) (w : World) :
    Calls Try.prog 12 #[.int .i64 op] w fun e w' => e = .returned (.bool true) ∧ Below w.heap.size w w' := by
  by_cases h : op < 0 ∨ 27 ≤ op
  · exact tell_out op (inI_wf wf) h w
  · obtain ⟨k, rfl⟩ := Int.eq_ofNat_of_zero_le (show 0 ≤ op by omega)
    have hk : k < 27 := by omega
    rcases makes_cls k hk with ⟨h0, hz⟩ | hz
    · exact tell_b k hk h0 _ _ rfl rfl hz (takes_small k hk).1 (takes_ascii k hk) w
    · obtain ⟨c, hc, hz⟩ : ∃ c : UInt8, c.toNat < 128 ∧ kmakes k = ⟨#[c]⟩ := by
        rcases hz with hz | hz | hz
        · exact ⟨105, by decide, hz⟩
        · exact ⟨98, by decide, hz⟩
        · exact ⟨97, by decide, hz⟩
      by_cases h0 : k = 0
      · exact tell_0 k hk h0 _ _ c hc rfl rfl hz (takes_small k hk).1 (takes_ascii k hk) w
      · exact tell_a k hk h0 _ _ c hc rfl rfl hz (takes_small k hk).1 (takes_ascii k hk) w
end Go.Proofs.Ytppidnjhdefbiaa
