/- Package ops: the iterator of All (92) has its contract. -/
import Derived.RangeFuncNested
import Derived.RangeFuncBound
import Derived.RangeFuncCalls
import Derived.RangeFuncLeaves
import Derived.Shelf.Abstract
import Derived.Shelf.RegionOpen
import Derived.WalkKit
import Derived.OwnWalkIn
import Derived.TacticsInMore
import Derived.LoopNIn
import Derived.LoopIn
import Derived.Test.YtppidnjhdefbiaaOpsOf
namespace Go.Proofs.Ytppidnjhdefbiaa
open Go.RowKit Go.Shelf Go.Proofs
set_option linter.unusedVariables false
attribute [local go_sem] Oper.semAt_some

/-- what has come when k rounds are over -/
def opsUpto (k : Nat) : List Int := (List.range k).map fun (j : Nat) => (j : Int)
theorem opsUpto_succ (k : Nat) : opsUpto (k + 1) = opsUpto k ++ [(k : Int)] := by simp [opsUpto, List.range_succ]
theorem opsUpto_length (k : Nat) : (opsUpto k).length = k := by simp [opsUpto]

set_option maxRecDepth 100000 in
set_option maxHeartbeats 4000000 in
theorem all_stops (F : Fence) (n : Nat) (h92 : F.fn 92) (hro : F.round = none) (hn : 1 ≤ n) (n₀ : Nat) (w : World) :
    SeqStopsK F n Try.prog 92 #[] (fun x : Int => #[Value.int .i64 x]) (Below n₀) (fun ys => ys = opsUpto 27) (fun pre => ∃ k, k ≤ 27 ∧ pre = opsUpto k) 27 w := fun l J Jx W hW _ _ hY h0 => by
  refine callsIn_of_wp Try.func92 rfl h92 ?_ hro
  simp only [Try.ntmps92, List.size_toArray, List.length_cons, List.length_nil, Nat.reduceAdd, Nat.reduceSub, Array.replicate_succ, Array.replicate_zero, List.push_toArray, List.append_toArray, List.nil_append, List.cons_append]
  gi_wp2
  gi_loopw [2] (fun i wr => ∃ k : Nat, k ≤ 27 ∧ i = .int .i64 k ∧ J (opsUpto k) wr) (fun i _ => 27 - (intOf i).toNat)
  case atStart => exact ⟨0, by omega, rfl, h0⟩
  case round =>
    obtain ⟨k, hk, rfl, hJs⟩ := hrel
    by_cases hlt : k < 27
    · obtain ⟨fn, tmps, assign, body, hy, hR⟩ := hY _ (k : Int) wr hJs (by rw [opsUpto_length]; exact hlt)
      gi_wp2
      refine hR.mono ?_
      rintro e W3 (⟨rfl, hJ3, hk3⟩ | ⟨rfl, hJx3⟩)
      · gi_wp2
        go_roundw
        case rel => exact ⟨k + 1, by omega, by simp, by rw [opsUpto_succ]; exact hJ3⟩
        case measure => simp [intOf]; omega
      · gi_wp2
        refine bodyPost_ret (results_none rfl _ _ _) rfl ?_
        exact ⟨⟨_, rfl⟩, .inr ⟨_, ⟨k + 1, by omega, (opsUpto_succ _).symm⟩, hJx3⟩⟩
    · obtain rfl : k = 27 := by omega
      gi_wp2
      go_end0
      exact ⟨⟨_, rfl⟩, .inl ⟨_, rfl, hJs⟩⟩
end Go.Proofs.Ytppidnjhdefbiaa
