/- Package facts: the contract of Add. -/
import Derived.Test.YtppidnjhdefbiaaFactsMem
namespace Go.Proofs.Ytppidnjhdefbiaa
open Go.RowKit

set_option maxRecDepth 100000 in
set_option maxHeartbeats 1000000 in
theorem add_yes {w : World} {B g n : Nat} {lv mv : Value} {L : List Chain.Fct} {M : List Nat} (h : Stk w B g lv mv n L M) (a b : Nat) (c : Int) (ha : hasB a n = true) (hb : hasB b n = true) (hc1 : -1152921504606846976 ≤ c) (hc2 : c ≤ 1152921504606846976) (hl : L.length < 8192) (hBw : B ≤ w.heap.size) :
    Calls Try.prog 32 #[.pointer (some ⟨g, 0, none⟩), .int .i64 a, .int .i64 b, .int .i64 c] w fun e w' => e = .returned (.bool true) ∧ Added w B g lv mv n (L ++ [⟨a, b, c⟩]) M w' := by
  obtain ⟨ao, cap, rfl, hle, hcm⟩ := own_form h.facts
  have hc := h.blk.cell 1
  simp at hc
  have hfz := h.blk.frozen 1
  have hne := own_ne h.facts h.blk (by decide)
  have HN := kept hne
  obtain ⟨i0, hi, hz0, hz1, hz2⟩ := info_parts info112
  have c1 := kept (has_yes w g n _ mv a h.blk ha)
  have c2 := kept (has_yes w g n _ mv b h.blk hb)
  have HB := kept h.blk
  have HF := kept h.facts
  clear hne ha hb
  have hlt : ¬ (8192 : Int) ≤ L.length := by omega
  go_enter Try.func32, Try.ntmps32
  go_wp2_with fail
  refine c1.out.mono ?_; rintro e w' ⟨rfl, rfl⟩
  go_wp2_with fail
  refine c2.out.mono ?_; rintro e w' ⟨rfl, rfl⟩
  go_wp2_with (at_builtin; refine wpList_append_own_at _ rfl (.tmp 39) (.tmp 44) 107 rfl B 112 i0 _ 3 24 Try.underlying107 hi hz0 hz1 hz2 rfl (by decide) _ _ _ rfl (HF.out.alloc _) ⟨w.heap.size, 0, none⟩ 1 1 [.int .i64 a, .int .i64 b, .int .i64 c] rfl rfl ?c1 ?c2 ?c3 ?c4 ?c5 ?_)
  case c1 =>
    intro j u hj
    match j, hj with
    | 0, hj => simp at hj; subst hj; simp [Addr.add]
    | 1, hj => simp at hj; subst hj; simp [Addr.add]
    | 2, hj => simp at hj; subst hj; simp [Addr.add]
  case c2 => intro u hu; simp at hu; rcases hu with rfl | rfl | rfl <;> rfl
  case c3 => unfold maxLen; omega
  case c4 => omega
  case c5 => simp; omega
  intro v' w1 hown hg hnz hat
  clear hnz
  obtain ⟨av, cv, hv, _, _⟩ := own_form hown
  subst hv
  have hA := kept (added_of h ⟨a, b, c⟩ _ hown hg (by simpa using hat))
  have k1 : Keeps w w1 (Value.ownBlock (.slice ao L.length cap)).toList := ((Keeps.refl w _).alloc _).grown hg (fun k hk => .inl (by simp [hk]))
  have b1 := h.blk.keep k1 (by simpa using HN.out)
  have hc' := b1.cell 1
  simp at hc'
  have hf' := b1.frozen 1
  clear hown hg hat k1 b1 h
  go_wp2
  go_ret
  exact ⟨rfl, hA.out⟩
end Go.Proofs.Ytppidnjhdefbiaa
