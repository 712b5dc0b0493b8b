/- The chapter's example. -/
import Derived.Test.YthcdibpajdnjaaaDoorLines
namespace Go.Proofs.YthcdibpajdnjaaaDoor
open Go.RowKit
set_option linter.unusedVariables false

def exText : ByteArray := ⟨#[97, 98, 32, 32, 49, 32, 35, 32, 120]⟩
def exName : ByteArray := ⟨#[207, 128, 50]⟩
theorem ex_right : rightE exText = 0 := by kernel_rfl
theorem ex_lines : linesOf exText.data.toList = [(1, [[97, 98], [49]])] := by kernel_rfl
theorem ex_name : nameB exName = true := by kernel_rfl
theorem own_row1 {w : World} {base n : Nat} {e : TypeId} {size : Nat} {v : Value} {xs : List Value} (h : w.ownsRow base e size v n xs) (hn : 0 < n) : ∃ g cap, v = .slice (some ⟨g, 0, none⟩) n cap ∧ n ≤ cap ∧ g < w.heap.size ∧ ∀ i x, xs[i]? = some x → w.cell? ⟨g, i, none⟩ = some x := by
  obtain ⟨g, cap, rfl, _, hc, _⟩ := own_some h hn
  refine ⟨g, cap, rfl, hc, (own_lt h rfl).1, fun i x hx => ?_⟩
  have hi : i < xs.length := (List.getElem?_eq_some_iff.1 hx).1
  have := h.cellAt i (by rw [h.1] at hi; exact hi)
  rw [this, hx]

set_option maxHeartbeats 1000000 in
theorem lives_any (w : World) (ht : Tabs w) : Calls Tryd.prog 7 #[] w fun e w' => e = .returned (.bool true) ∧ Keeps w w' [] := by
  have C : Calls Tryd.prog 8 #[.string exText] w fun e w' => ∃ g c h c', e = .returned (.tuple #[.slice (some ⟨g, 0, none⟩) 1 c, .int .i64 0]) ∧ w'.cell? ⟨g, 1, none⟩ = some (.slice (some ⟨h, 0, none⟩) 2 c') ∧ w'.cell? ⟨h, 1, none⟩ = some (.string ⟨#[49]⟩) ∧ 1 ≤ c ∧ 2 ≤ c' ∧ Keeps w w' [] := by
    refine (lines_ok exText w ht ex_right).mono ?_
    rintro e w' ⟨v, Rs, rfl, hL, hm, hk⟩
    rw [ex_lines] at hm
    match Rs, hm with
    | [((n, ws), u)], hm =>
      simp only [List.map_cons, List.map_nil, List.cons.injEq, and_true, Prod.mk.injEq] at hm
      obtain ⟨rfl, rfl⟩ := hm
      obtain ⟨g, c, rfl, hc, _, h1⟩ := own_row1 hL.row (by simp)
      have hw : w'.ownsRow w.heap.size 9 1 u 2 (wordVals [[97, 98], [49]]) := hL.words ((1, [[97, 98], [49]]), u) (by simp)
      obtain ⟨h, c', rfl, hc', _, h2⟩ := own_row1 hw (by simp)
      exact ⟨g, c, h, c', rfl, h1 1 _ rfl, h2 1 _ rfl, hc, hc', hk⟩
  have CC := kept C
  have CN := kept (fun w h => name_any exName w h (by decide))
  rw [ex_name] at CN
  have HT := kept ht
  clear C ht
  go_enter Tryd.func7, Tryd.ntmps7
  go_wp2_with fail
  refine (CC.out).mono ?_
  rintro e w1 ⟨g, c, h, c', rfl, h1, h2, h3, h4, k1⟩
  have K1 := kept k1
  clear k1 CC
  have h3I : (1 : Int) ≤ (c : Int) := by omega
  go_wp2_with (refine (CN.out _ (HT.out.keep K1.out)).mono ?_; rintro e w2 ⟨rfl, k2⟩; have K2 := kept (K1.out.and_then k2); clear k2)
  go_ret
  exact ⟨rfl, K2.out⟩
end Go.Proofs.YthcdibpajdnjaaaDoor
