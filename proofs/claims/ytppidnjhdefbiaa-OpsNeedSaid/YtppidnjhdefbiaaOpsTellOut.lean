/- Package ops: the law OpsTell, where there is no such operation. -/
import Derived.Test.YtppidnjhdefbiaaOpsFinds
import Derived.Test.YtppidnjhdefbiaaOpsTakes
namespace Go.Proofs.Ytppidnjhdefbiaa
open Go.RowKit
set_option linter.unusedVariables false

theorem chkB_out {op : Int} (h : op < 0 ∨ 27 ≤ op) : chkB op = false := by
  unfold chkB
  simp; omega
theorem rawB_out {op : Int} (h : op < 0 ∨ 27 ≤ op) : rawB op = false := by
  unfold rawB
  rw [place_no (l := raws) (v := op) (fun j hj => by
    have : j < 6 := hj
    match j, this with
    | 0, _ => simp [raws]; omega
    | 1, _ => simp [raws]; omega
    | 2, _ => simp [raws]; omega
    | 3, _ => simp [raws]; omega
    | 4, _ => simp [raws]; omega
    | 5, _ => simp [raws]; omega)]
  rfl
theorem empty_str : ((⟨#[]⟩ : ByteArray).toList == (⟨#[]⟩ : ByteArray).toList) = true := beq_self_eq_true _

set_option maxRecDepth 100000 in
set_option maxHeartbeats 8000000 in
theorem tell_out (op : Int) (hop : inI op = true) (h : op < 0 ∨ 27 ≤ op) (w : World) :
    Calls Try.prog 12 #[.int .i64 op] w fun e w' => e = .returned (.bool true) ∧ Below w.heap.size w w' := by
  have CT := kept (takes_any op ⟨#[]⟩ ⟨#[]⟩ ⟨#[]⟩ (by decide) (fun j hj => absurd (show j < 0 from hj) (by omega)) (of_no op h))
  have CM := kept (makes_none op ⟨#[]⟩ ⟨#[]⟩ (of_no op h))
  have CW := kept (word_no op h)
  have CA := kept (any_any op)
  have CN := kept (numbered_any op)
  have CC := kept (check_any op)
  have CR := kept (raw_any op)
  have CP := kept (pure_no op h)
  have CX := kept (fun w => trap_any op w hop)
  have e1 : (op == 1) = false := by simp; omega
  have e2 : (op == 0 || op == 25) = false := by simp; omega
  rw [e1] at CA
  rw [e2] at CN
  rw [chkB_out h] at CC CX
  rw [rawB_out h] at CR
  clear e1 e2 hop
  rcases h with h | h
  · have hd : decide (op < 0) = true := decide_eq_true h
    go_enter Try.func12, Try.ntmps12
    go_wp2_with fail
    refine (opslives _).mono ?_
    rintro e w1 ⟨rfl, k1⟩
    go_wp2_with fail
    refine (rows_any _).mono ?_
    rintro e w2 ⟨rfl, hw2⟩
    have K2 := kept (show Keeps w w2 [] by rw [hw2]; exact Keeps.alloc k1 _)
    clear hw2 k1
    go_wp2_with fail
    refine (CT.out _).mono ?_
    rintro e w3 ⟨v, rfl, ho, k3⟩
    obtain ⟨va, vc, rfl, hvc⟩ := own_form ho
    have K3 := kept (K2.out.trans k3)
    clear K2 k3 ho
    simp only [List.append_nil] at K3
    go_wp2_with fail
    refine (CM.out _).mono ?_
    rintro e w4 ⟨rfl, k4⟩
    have K4 := kept (K3.out.trans k4)
    clear K3 k4
    go_wp2_with fail
    refine (CW.out _).mono ?_
    rintro e w5 ⟨rfl, k5⟩
    have K5 := kept (K4.out.trans k5)
    clear K4 k5
    go_wp2_with fail
    refine (CA.out _).mono ?_
    rintro e wa ⟨rfl, rfl⟩
    go_wp2_with fail
    refine (CN.out _).mono ?_
    rintro e wa ⟨rfl, rfl⟩
    go_wp2_with fail
    refine (CC.out _).mono ?_
    rintro e wa ⟨rfl, rfl⟩
    go_wp2_with fail
    refine (CR.out _).mono ?_
    rintro e w6 ⟨rfl, k6⟩
    have K6 := kept (K5.out.trans k6)
    clear K5 k6
    go_wp2_with fail
    refine (CP.out _).mono ?_
    rintro e wa ⟨rfl, rfl⟩
    go_wp2_with fail
    refine (CX.out _).mono ?_
    rintro e wa ⟨rfl, rfl⟩
    go_wp2
    go_ret
    exact ⟨rfl, K6.out.below (Nat.le_refl _) (by simp)⟩

  · have hd : decide (op < 0) = false := by simp; omega
    have hd2 : decide (27 ≤ op) = true := by simp; omega
    go_enter Try.func12, Try.ntmps12
    go_wp2_with fail
    refine (opslives _).mono ?_
    rintro e w1 ⟨rfl, k1⟩
    go_wp2_with fail
    refine (rows_any _).mono ?_
    rintro e w2 ⟨rfl, hw2⟩
    have K2 := kept (show Keeps w w2 [] by rw [hw2]; exact Keeps.alloc k1 _)
    clear hw2 k1
    go_wp2_with fail
    refine (CT.out _).mono ?_
    rintro e w3 ⟨v, rfl, ho, k3⟩
    obtain ⟨va, vc, rfl, hvc⟩ := own_form ho
    have K3 := kept (K2.out.trans k3)
    clear K2 k3 ho
    simp only [List.append_nil] at K3
    go_wp2_with fail
    refine (CM.out _).mono ?_
    rintro e w4 ⟨rfl, k4⟩
    have K4 := kept (K3.out.trans k4)
    clear K3 k4
    go_wp2_with fail
    refine (CW.out _).mono ?_
    rintro e w5 ⟨rfl, k5⟩
    have K5 := kept (K4.out.trans k5)
    clear K4 k5
    go_wp2_with fail
    refine (CA.out _).mono ?_
    rintro e wa ⟨rfl, rfl⟩
    go_wp2_with fail
    refine (CN.out _).mono ?_
    rintro e wa ⟨rfl, rfl⟩
    go_wp2_with fail
    refine (CC.out _).mono ?_
    rintro e wa ⟨rfl, rfl⟩
    go_wp2_with fail
    refine (CR.out _).mono ?_
    rintro e w6 ⟨rfl, k6⟩
    have K6 := kept (K5.out.trans k6)
    clear K5 k6
    go_wp2_with fail
    refine (CP.out _).mono ?_
    rintro e wa ⟨rfl, rfl⟩
    go_wp2_with fail
    refine (CX.out _).mono ?_
    rintro e wa ⟨rfl, rfl⟩
    go_wp2
    go_ret
    exact ⟨rfl, K6.out.below (Nat.le_refl _) (by simp)⟩

end Go.Proofs.Ytppidnjhdefbiaa
