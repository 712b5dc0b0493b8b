/- Package facts: the contracts of Add where nothing is taken, Push, Pop. -/
import Derived.Test.YtppidnjhdefbiaaFactsAdd
import Derived.Deep.RegionLaw
import Derived.Deep.AppendLies
namespace Go.Proofs.Ytppidnjhdefbiaa
open Go.RowKit
set_option linter.unusedVariables false

/-- may a fact be taken? -/
def mayB (n : Nat) (len : Nat) (a b c : Int) : Bool := hasB a n && hasB b n && decide (-1152921504606846976 ≤ c) && decide (c ≤ 1152921504606846976) && decide (len < 8192)

set_option maxRecDepth 100000 in
set_option maxHeartbeats 1000000 in
theorem add_no {w : World} {B g n : Nat} {lv mv : Value} {L : List Chain.Fct} {M : List Nat} (h : Stk w B g lv mv n L M) (a b c : Int) (hm : mayB n L.length a b c = false) :
    Calls Try.prog 32 #[.pointer (some ⟨g, 0, none⟩), .int .i64 a, .int .i64 b, .int .i64 c] w fun e w' => e = .returned (.bool false) ∧ w = w' := by
  obtain ⟨ao, cap, rfl, hle, hcm⟩ := own_form h.facts
  have hc := h.blk.cell 1
  simp at hc
  have HB := kept h.blk
  clear h
  rcases Bool.eq_false_or_eq_true (hasB a n) with ha | ha
  rotate_left
  · have c1 := kept (has_no w g n _ mv a HB.out ha)
    clear ha hm
    go_enter Try.func32, Try.ntmps32
    go_wp2_with fail
    refine c1.out.mono ?_; rintro e w' ⟨rfl, rfl⟩
    go_wp2
    go_ret
    exact ⟨rfl, rfl⟩
  have c1 := kept (has_yes w g n _ mv a HB.out ha)
  rcases Bool.eq_false_or_eq_true (hasB b n) with hb | hb
  rotate_left
  · have c2 := kept (has_no w g n _ mv b HB.out hb)
    clear ha hb hm
    go_enter Try.func32, Try.ntmps32
    go_wp2_with fail
    refine c1.out.mono ?_; rintro e w' ⟨rfl, rfl⟩
    go_wp2_with fail
    refine c2.out.mono ?_; rintro e w' ⟨rfl, rfl⟩
    go_wp2
    go_ret
    exact ⟨rfl, rfl⟩
  have c2 := kept (has_yes w g n _ mv b HB.out hb)
  simp [mayB, ha, hb] at hm
  clear ha hb
  rcases Bool.eq_false_or_eq_true (decide (c < -1152921504606846976)) with h1 | h1
  · clear hm
    go_enter Try.func32, Try.ntmps32
    go_wp2_with fail
    refine c1.out.mono ?_; rintro e w' ⟨rfl, rfl⟩
    go_wp2_with fail
    refine c2.out.mono ?_; rintro e w' ⟨rfl, rfl⟩
    go_wp2
    go_ret
    exact ⟨rfl, rfl⟩
  rcases Bool.eq_false_or_eq_true (decide (1152921504606846976 < c)) with h2 | h2
  · clear hm
    go_enter Try.func32, Try.ntmps32
    go_wp2_with fail
    refine c1.out.mono ?_; rintro e w' ⟨rfl, rfl⟩
    go_wp2_with fail
    refine c2.out.mono ?_; rintro e w' ⟨rfl, rfl⟩
    go_wp2
    go_ret
    exact ⟨rfl, rfl⟩
  · have h3 : decide ((8192 : Int) ≤ L.length) = true := by simp at h1 h2 ⊢; have := hm h1 h2; omega
    clear hm
    go_enter Try.func32, Try.ntmps32
    go_wp2_with fail
    refine c1.out.mono ?_; rintro e w' ⟨rfl, rfl⟩
    go_wp2_with fail
    refine c2.out.mono ?_; rintro e w' ⟨rfl, rfl⟩
    go_wp2
    go_ret
    exact ⟨rfl, rfl⟩
theorem add_nil (w : World) (a b c : Int) : Calls Try.prog 32 #[.pointer none, .int .i64 a, .int .i64 b, .int .i64 c] w fun e w' => e = .returned (.bool false) ∧ w = w' := by
  have c1 := kept (has_nil w a)
  go_enter Try.func32, Try.ntmps32
  go_wp2_with fail
  refine c1.out.mono ?_; rintro e w' ⟨rfl, rfl⟩
  go_wp2
  go_ret
  exact ⟨rfl, rfl⟩

/-- what a mark leaves -/
def Pushed (w : World) (B g : Nat) (lv mv : Value) (n : Nat) (L : List Chain.Fct) (M : List Nat) (w' : World) : Prop :=
  ∃ mv', Stk w' B g lv mv' n L M ∧ Keeps w w' (g :: mv.ownBlock.toList) ∧ ∀ k, mv'.ownBlock = some k → mv.ownBlock = some k ∨ w.heap.size ≤ k

theorem push_nil (w : World) : Calls Try.prog 34 #[.pointer none] w fun e w' => e = .returned (.tuple #[]) ∧ w = w' := by
  go_enter Try.func34, Try.ntmps34
  go_wp2
  go_end0
  exact ⟨rfl, rfl⟩

theorem blk_after {w W w1 : World} {g : Nat} {t : TypeId} {cs : Array Value} {row : Option Nat} (hb : Blk w g t cs) (hk : Keeps w W []) (hg : W.grownBy w1 row) (hne : row ≠ some g) : Blk w1 g t cs :=
  hb.keep (S := row.toList) ((hk.mono (fun _ h => by cases h)).grown hg (fun k hk => .inl (by simp [hk]))) (by simpa using hne)

theorem pushed_of {w W w1 : World} {B g n : Nat} {lv mv v' : Value} {L : List Chain.Fct} {M : List Nat} (h : Stk w B g lv mv n L M) (x : Nat) (hk : Keeps w W [])
    (hown : w1.ownsRow B 3 1 v' (M.length + 1) ((M.map fun (m : Nat) => .int .i64 m) ++ [.int .i64 x])) (hg : W.grownBy w1 mv.ownBlock) (hat : ∀ k, v'.ownBlock = some k → mv.ownBlock = some k ∨ w.heap.size ≤ k) :
    Pushed w B g lv mv n L (M ++ [x]) (w1.setCell ⟨g, 2, none⟩ v') := by
  have k1 : Keeps w w1 mv.ownBlock.toList := (hk.mono (fun _ h => by cases h)).grown hg (fun k hk => .inl (by simp [hk]))
  have hgl : g ∉ mv.ownBlock.toList := by
    have := own_ne h.marks h.blk (by decide)
    simpa using this
  have b1 := h.blk.keep k1 hgl
  have f1 : w1.ownsRow B 112 3 lv L.length (L.flatMap fctCells) := own_keep h.facts k1 (fun k hk hm => by
    have := own_apart h.facts h.marks (by decide) hk
    simp at hm
    exact this hm)
  have hvg : v'.ownBlock ≠ some g := own_ne hown b1 (by decide)
  have hlg : lv.ownBlock ≠ some g := own_ne f1 b1 (by decide)
  have k2 : Keeps w1 (w1.setCell ⟨g, 2, none⟩ v') [g] := (Keeps.refl w1 _).setCell (.inl (by simp)) _
  refine ⟨v', ⟨?_, h.base, ?_, ?_⟩, (k1.trans k2).mono (fun k hk => .inl ?_), hat⟩
  · exact b1.set_ 2 v'
  · exact own_keep f1 k2 (fun k hk hm => hlg (by simp at hm; subst hm; exact hk))
  · have := own_keep hown k2 (fun k hk hm => hvg (by simp at hm; subst hm; exact hk))
    simpa using this
  · simp at hk ⊢
    rcases hk with hk | hk
    · exact .inr hk
    · exact .inl hk

set_option maxHeartbeats 1000000 in
theorem push_any {w : World} {B g n : Nat} {lv mv : Value} {L : List Chain.Fct} {M : List Nat} (h : Stk w B g lv mv n L M) (hl : L.length ≤ 8192) (hM : M.length < 65536) (hBw : B ≤ w.heap.size) :
    Calls Try.prog 34 #[.pointer (some ⟨g, 0, none⟩)] w fun e w' => e = .returned (.tuple #[]) ∧ Pushed w B g lv mv n L (M ++ [L.length]) w' := by
  obtain ⟨ao, cap, rfl, hle, hcm⟩ := own_form h.facts
  obtain ⟨am, cam, rfl, hlm, hcmm⟩ := own_form h.marks
  have hc := h.blk.cell 1
  have hc2 := h.blk.cell 2
  simp at hc hc2
  have HN := kept (own_ne h.marks h.blk (by decide))
  obtain ⟨i0, hi, hz0, hz1, hz2⟩ := info_parts info3
  have HF := kept h.marks
  have HH := kept h
  have hca : ∀ o, (w.alloc o).cell? ⟨g, 2, none⟩ = some (.slice am M.length cam) := fun o => (World.cell?_alloc_lt w o _ h.blk.lt).trans hc2
  clear h
  go_enter Try.func34, Try.ntmps34
  go_wp2_with fail
  go_region_law (refine step_append_lies _ (by rfl) (.tmp 8) (.tmp 14) 58 (by rfl) B 3 i0 _ 1 8 Try.underlying58 hi hz0 hz1 hz2 (by rfl) (by decide) (.slice am M.length cam) M.length (M.map fun (m : Nat) => .int .i64 m) (by rfl) (by first | exact (HF.out.alloc _).drew | exact HF.out.drew.alloc _) ⟨w.heap.size, 0, none⟩ 1 1 [.int .i64 L.length] (by rfl) (by rfl) (by intro j u hj; match j, hj with | 0, hj => (simp at hj; subst hj; simp [Addr.add])) (by intro u hu; simp at hu; subst hu; rfl) (by decide) (by unfold maxLen; omega) (by omega) (by simp; omega) (w.heap.size + 1) (by simp) ?_; intro gv cv w1 hown hg hat hlt; have hK := kept (((Keeps.refl w []).alloc (Obj.cells #[.int .i64 L.length] 3)).drew); have hb1 := kept (blk_after HH.out.blk hK.out hg HN.out); have hc' := hb1.out.cell 2; simp at hc'; have hf' := hb1.out.frozen 2; have hP := kept (pushed_of HH.out L.length hK.out hown hg (fun k hk => by simp [Value.ownBlock] at hk; subst hk; rcases hat with h1 | h1; (exact .inl h1); (exact .inr (by omega)))); clear hown hg hat hlt)
  all_goals go_end0
  all_goals exact ⟨rfl, hP.out⟩
end Go.Proofs.Ytppidnjhdefbiaa
