/- Package ops: Clone. -/
import Derived.Test.YtppidnjhdefbiaaOpsTakes
import Derived.Test.YtppidnjhdefbiaaOpsFinds
namespace Go.Proofs.Ytppidnjhdefbiaa
open Go.RowKit Go.Shelf Go.Proofs
set_option linter.unusedVariables false

theorem info3' : (Try.prog.info? 3).map (fun i => (i.zero, i.size, i.bytes)) = some (some (.int .i64 0), 1, 8) := by kernel_rfl
set_option maxRecDepth 100000 in
set_option maxHeartbeats 8000000 in
theorem clone_any (w : World) (ad : Addr) (m c : Nat) (news : List Value) (hl : news.length = m * 1) (hnews : ∀ j u, news[j]? = some u → w.cell? (ad.add j) = some u) (h1 : ∀ u ∈ news, u.oneCell' = true) (hm : m ≤ 1000) :
    Calls Try.prog 91 #[.slice (some ad) m c] w fun e w' => ∃ v, e = .returned v ∧ w'.ownsRow w.heap.size 3 1 v m news ∧ Keeps w w' [] := by
  obtain ⟨i0, hi, hz0, hz1, hz2⟩ := info_parts info3'
  have HN := kept hnews
  have H1 := kept h1
  clear hnews h1
  have hb : ∀ w, Sem.run Try.prog (binOp BinOp.eql 58 (.slice (some ad) m c) (.slice none 0 0)) w = .ok (.bool false) w := by intro w; kernel_rfl
  go_enter Try.func91, Try.ntmps91
  go_wp2_with (at_builtin; refine wpList_append_own_at _ rfl (.tmp 5) (.tmp 6) 58 rfl w.heap.size 3 i0 _ 1 8 Try.underlying58 hi hz0 hz1 hz2 rfl (by decide) _ 0 [] rfl ?c0 ad m c news rfl hl ?c1 H1.out ?c3 ?c4 ?c5 ?_)
  case c0 => exact ⟨rfl, .inr ⟨w.heap.size, 0, #[], rfl, Nat.le_refl _, heap_alloc_new w _, Nat.le_refl _, by simp [maxLen], rfl, rfl⟩⟩
  case c1 => intro j u hj; exact cell_kept (HN.out j u hj) (World.grownBy_alloc w _ none) (fun r e => by cases e)
  case c3 => unfold maxLen; omega
  case c4 => omega
  case c5 => simp
  intro v' w3 hown hg hnz hat
  clear hnz hat
  go_wp2
  go_ret
  exact ⟨_, rfl, hown, ((Keeps.refl w []).alloc _).grown hg (fun k hk => .inr (by simp [Value.ownBlock] at hk; omega))⟩
end Go.Proofs.Ytppidnjhdefbiaa
