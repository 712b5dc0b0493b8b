/- Package ops: the law OpsTell: what is known of the table. -/
import Derived.Test.YtppidnjhdefbiaaOpsTellOut
namespace Go.Proofs.Ytppidnjhdefbiaa
open Go.RowKit
set_option linter.unusedVariables false

theorem kinj : ∀ i : Nat, i < 27 → ∀ j : Nat, j < 27 → kword i = kword j → i = j := by decide +kernel
theorem kI_nat {k : Nat} (h : k < 27) : kwordI k = kword k := by
  unfold kwordI
  rw [if_pos ⟨by omega, by omega⟩]
  rfl
theorem of_word (k : Nat) (hk : k < 27) (w : World) : Calls Try.prog 39 #[.string (kword k)] w fun e w' => e = .returned (.tuple #[.int .i64 k, .bool true]) ∧ Keeps w w' [] := by
  refine (of_any (kword k) w).mono ?_
  rintro e w' ⟨h, b⟩
  refine ⟨?_, ⟨b.os, b.tape, b.output, b.size, fun i hi _ => b.block i hi⟩⟩
  rcases h with ⟨j, hj, e1, _, rfl⟩ | ⟨hn, _⟩
  · rw [kI_nat hj] at e1
    rw [kinj j hj k hk e1]
  · exact absurd (kI_nat hk) (hn k hk)
theorem to_data (x : ByteArray) (l : List UInt8) : (x.toList == l) = (x.data.toList == l) := by rw [ByteArray.toList_eq]
theorem cls18 : ∀ k : Nat, k < 27 → (((kword k).data.toList == [100, 105, 118]) || ((kword k).data.toList == [114, 101, 109]) || ((kword k).data.toList == [108, 101, 110]) || ((kword k).data.toList == [108, 111, 97, 100]) || ((kword k).data.toList == [115, 116, 111, 114, 101]) || ((kword k).data.toList == [110, 101, 119])) = rawB k := by decide +kernel
theorem cls19 : ∀ k : Nat, k < 27 → (chkB k || ((kword k).data.toList == [115, 116, 111, 114, 101]) || ((kword k).data.toList == [111, 117, 116]) || ((kword k).data.toList == [110, 101, 119])) = !pureB k := by decide +kernel
theorem cls21 : ∀ k : Nat, k < 27 → (((kword k).data.toList == [99, 111, 112, 121]) = ((k : Int) == 1) ∧ (((kword k).data.toList == [99, 111, 110, 115, 116]) = ((k : Int) == 0)) ∧ (((kword k).data.toList == [112, 105]) = ((k : Int) == 25))) := by decide +kernel
theorem chk_pos (k : Nat) (b : Bool) (h : chkB k = b) : decide (0 < (if chkB k = true then (k : Int) - 17 else 0)) = b := by
  subst h
  rcases Bool.eq_false_or_eq_true (chkB k) with e | e
  · rw [e]
    unfold chkB at e
    simp at e ⊢
    omega
  · rw [e]; simp
end Go.Proofs.Ytppidnjhdefbiaa
