/- Package facts: the contract of Follows; the chapter's example. -/
import Derived.Test.YtppidnjhdefbiaaFactsLeast
namespace Go.Proofs.Ytppidnjhdefbiaa
open Go.RowKit
set_option linter.unusedVariables false

def followsB (r : Option Int) (c : Int) : Bool := match r with | none => false | some s => decide (s ≤ c)

theorem follows_of {P : Nat} (r : Option Int) (c : Int) (p : Value) (a b : Int) (w : World) (S : World → Prop)
    (hl : Calls Try.prog 33 #[p, .int .i64 a, .int .i64 b] w fun e w' => e = .returned (.tuple #[.int .i64 (r.getD 0), .bool r.isSome]) ∧ S w') :
    Calls Try.prog 43 #[p, .int .i64 a, .int .i64 b, .int .i64 c] w fun e w' => e = .returned (.bool (followsB r c)) ∧ S w' := by
  have HL := kept hl
  clear hl
  rcases r with _ | s
  · go_enter Try.func43, Try.ntmps43
    go_wp2_with fail
    refine HL.out.mono ?_
    rintro e w' ⟨rfl, hS⟩
    have HS := kept hS
    clear hS
    go_wp2
    go_ret
    exact ⟨rfl, HS.out⟩
  · go_enter Try.func43, Try.ntmps43
    go_wp2_with fail
    refine HL.out.mono ?_
    rintro e w' ⟨rfl, hS⟩
    have HS := kept hS
    clear hS
    go_wp2
    go_ret
    exact ⟨rfl, HS.out⟩

theorem fits_one {L : List Chain.Fct} {n a b : Nat} {c : Int} (h : Fits L n) (ha : a < n) (hb : b < n) (h1 : -1152921504606846976 ≤ c) (h2 : c ≤ 1152921504606846976) : Fits (L ++ [⟨a, b, c⟩]) n := by
  intro f hf
  rcases List.mem_append.1 hf with hf | hf
  · exact h f hf
  · simp at hf; subst hf; exact ⟨ha, hb, h1, h2⟩
theorem fits_nil (n : Nat) : Fits [] n := fun f hf => by cases hf

theorem has_lt {a n : Nat} (h : a < n) : hasB a n = true := by simp [hasB]; omega

/-- keeps all that was there -/
def KeepsAll (w w' : World) : Prop := Keeps w w' []

theorem factslives (w : World) : Calls Try.prog 30 #[] w fun e w' => e = .returned (.bool true) ∧ KeepsAll w w' := by
  go_enter Try.func30, Try.ntmps30
  go_wp2_with fail
  refine (new_yes _ 3 (by omega)).mono ?_
  rintro e w1 ⟨rfl, hw1⟩
  have h1 : Stk w1 w.heap.size w.heap.size (.slice none 0 0) (.slice none 0 0) 3 [] [] := by rw [hw1]; exact stk_new w w.heap.size 3 (Nat.le_refl _)
  have K1 : Keeps w w1 [] := by rw [hw1]; exact (Keeps.refl w []).alloc _
  have H1 := kept h1
  have HK1 := kept K1
  clear h1 K1 hw1
  go_wp2_with fail
  refine (add_yes H1.out 1 0 (-1) (by decide) (by decide) (by decide) (by decide) (by decide) HK1.out.size).mono ?_
  rintro e w2 ⟨rfl, hA⟩
  obtain ⟨l2, h2, k2, o2⟩ := hA
  have H2 := kept h2
  have HK2 := kept ((HK1.out.trans k2).mono (T := []) (by simp [Value.ownBlock]))
  clear h2 k2
  go_wp2_with fail
  refine (add_yes H2.out 2 1 5 (by decide) (by decide) (by decide) (by decide) (by decide) HK2.out.size).mono ?_
  rintro e w3 ⟨rfl, hA⟩
  obtain ⟨l3, h3, k3, o3⟩ := hA
  have H3 := kept h3
  have HK3 := kept ((HK2.out.trans k3).mono (T := []) (fun k hk => .inr (by
    simp at hk
    rcases hk with rfl | hk
    · omega
    · have := own_lt H2.out.facts hk; omega)))
  clear h3 k3
  have hf : Fits ([] ++ [⟨1, 0, -1⟩] ++ [⟨2, 1, 5⟩]) 3 := fits_one (fits_one (fits_nil 3) (by omega) (by omega) (by omega) (by omega)) (by omega) (by omega) (by omega) (by omega)
  have CL := kept (least_any H3.out 2 0 (by omega) (by omega) (by omega) (by decide) HK3.out.size hf)
  have hv : leastV ([] ++ [⟨1, 0, -1⟩] ++ [⟨2, 1, 5⟩]) 2 0 = some 4 := by rfl
  rw [hv] at CL
  clear hf hv
  go_wp2_with fail
  refine CL.out.mono ?_
  rintro e w4 ⟨rfl, k4⟩
  have H4 := kept (H3.out.keep k4 (by simp) (by simp) (by simp))
  have HK4 := kept ((HK3.out.trans k4).mono (T := []) (by simp))
  clear k4
  go_wp2_with fail
  refine (len_any H4.out).mono ?_
  rintro e w5 ⟨rfl, rfl⟩
  go_wp2
  go_ret
  exact ⟨rfl, HK4.out⟩
end Go.Proofs.Ytppidnjhdefbiaa
