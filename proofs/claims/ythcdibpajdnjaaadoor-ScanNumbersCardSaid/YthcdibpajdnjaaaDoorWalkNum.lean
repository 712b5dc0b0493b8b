/- The walk of the law ScanNumbers. -/
import Derived.Test.YthcdibpajdnjaaaDoorNumbers
import Derived.Test.YthcdibpajdnjaaaDoorRefNum
namespace Go.Proofs.YthcdibpajdnjaaaDoor
open Go.RowKit
set_option linter.unusedVariables false

set_option maxHeartbeats 1000000 in
theorem walkScanNumbers (s : ByteArray) (w : World) (ht : TabsNum w) :
    Calls Tryd.prog 6 #[.string s] w fun e w' => e = .returned (.bool true) ∧ Keeps w w' [] := by
  have CL := kept (fun w h => lives_any w h)
  have HT := kept ht
  clear ht
  by_cases h2 : 60 < s.size
  · have hd : decide (60 < (s.size : Int)) = true := by simp; omega
    go_enter Tryd.func6, Tryd.ntmps6
    go_wp2_with fail
    refine (CL.out _ HT.out.tabs).mono ?_
    rintro e w1 ⟨rfl, k1⟩
    have K1 := kept k1
    clear k1
    go_wp2_with fail
    refine (CL.out _ (HT.out.keep K1.out).tabs).mono ?_
    rintro e w2 ⟨rfl, k2⟩
    have K2 := kept (K1.out.and_then k2)
    clear k2
    go_wp2
    go_ret
    exact ⟨rfl, K2.out⟩
  have hd : decide (60 < (s.size : Int)) = false := by simp; omega
  have CN := kept (fun w h => number_any s w h (by omega))
  have CR := kept (fun w => refNumber_any s w (by omega))
  obtain ⟨m, hm⟩ : ∃ m, (numOf s.data.toList).1 = m := ⟨_, rfl⟩
  obtain ⟨ok, hok⟩ : ∃ m, (numOf s.data.toList).2 = m := ⟨_, rfl⟩
  rw [hm, hok] at CN CR
  clear hm hok
  have hmm : (m == m) = true := beq_self_eq_true _
  cases ok
  all_goals
    go_enter Tryd.func6, Tryd.ntmps6
    go_wp2_with fail
    refine (CL.out _ HT.out.tabs).mono ?_
    rintro e w1 ⟨rfl, k1⟩
    have K1 := kept k1
    clear k1
    go_wp2_with fail
    refine (CN.out _ (HT.out.keep K1.out)).mono ?_
    rintro e w2 ⟨rfl, k2⟩
    have K2 := kept (K1.out.and_then k2)
    clear k2
    go_wp2_with fail
    refine (CR.out _).mono ?_
    rintro e w3 ⟨rfl, rfl⟩
    go_wp2
    go_ret
    exact ⟨rfl, K2.out⟩
end Go.Proofs.YthcdibpajdnjaaaDoor
