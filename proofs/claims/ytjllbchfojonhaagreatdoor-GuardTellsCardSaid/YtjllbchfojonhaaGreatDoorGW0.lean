/- The field of a program under way: what look does to it; plain. -/
import Derived.Test.YtjllbchfojonhaaGreatDoorGV
namespace Go.Proofs.YtjllbchfojonhaaGreatDoor
open Go.RowKit Go.Shelf Go.Lib
set_option linter.unusedVariables false
set_option linter.unusedSimpArgs false

theorem step_row {ops : Array Oper} {o : Oper} {a : Act} {w : World} {K : Act → World → Prop} {Q : Exit → Act → World → Prop} {E : Prop} (hgd : o.guard = none) (s x : Operand) (t : TypeId) (hop : o.op = Op.call { callee := Callee.builtin Builtin.append, args := #[s, x], argTypes := #[t, t] }) (base : Nat)
    (e : TypeId) (i : TypeInfo) (z : Value) (size bytes : Nat) (h1 : Tryz.prog.underlying t = some (.slice e)) (h2 : Tryz.prog.info? e = some i) (h3 : i.zero = some z) (h4 : i.size = size) (h5 : i.bytes = bytes) (h6 : z.cells.size = size) (h7 : 0 < size)
    (v : Value) (n : Nat) (xs : List Value) (hs : a.eval s = v) (hown : w.ownsRow base e size v n xs) (vx : Value) (es : List (List Value)) (hx : a.eval x = vx) (hrow : Row w size vx es) (hsz : ∀ l ∈ es, l.length = size) (h1c : ∀ l ∈ es, ∀ u ∈ l, u.oneCell' = true)
    (b1 : n + es.length ≤ maxLen) (b2 : (n + es.length) * bytes ≤ 140737488355328) (hb : base ≤ w.heap.size)
    (hK : ∀ v' w', w'.ownsRow base e size v' (n + es.length) (xs ++ es.flatten) → w.grownBy w' v.ownBlock → K (a.put o.dst v') w') :
    if Region.wanted o (yielded ops a.tmps) = true then Oper.wp Tryz.prog o a w K Q else E := by
  have hw : Region.wanted o (yielded ops a.tmps) = true := by simp [Region.wanted, hgd]
  rw [if_pos hw]
  exact wp_append_row s x t hop base e i z size bytes h1 h2 h3 h4 h5 h6 h7 v n xs hs hown vx es hx hrow hsz h1c b1 b2 hb hK
section
variable {w w' : World} {L : Nat} {f : FuncM} {cs : List CheckM} {th : List Bool} {I : List (List Bool)} {lv tv iv : Value} {vs : List Value}
theorem own_grown0 {W W3 : World} {b1 b2 s1 s2 n1 n2 : Nat} {e1 e2 : TypeId} {v1 v2 : Value} {x1 x2 : List Value} (h : W.ownsRow b1 e1 s1 v1 n1 x1) (hr : W.ownsRow b2 e2 s2 v2 n2 x2) (hne : e1 ≠ e2) (hg : W.grownBy W3 v2.ownBlock) : W3.ownsRow b1 e1 s1 v1 n1 x1 := by
  refine World.ownsRow.kept h hg ?_
  cases e : v1.ownBlock with
  | none => exact .inl rfl
  | some k => exact .inr (fun e2 => own_apart h hr hne e e2.symm)
theorem blk_grown0 {W W3 : World} {b2 s2 n2 g : Nat} {e2 t : TypeId} {v2 : Value} {x2 : List Value} {cs : Array Value} (h : Blk W g t cs) (hr : W.ownsRow b2 e2 s2 v2 n2 x2) (hne : e2 ≠ t) (hg : W.grownBy W3 v2.ownBlock) : Blk W3 g t cs := by
  have k : Keeps W W3 v2.ownBlock.toList := (Keeps.refl W _).grown hg (fun k hk => .inl (by rw [hk]; simp))
  exact h.keep k (fun hm => by rw [Option.mem_toList] at hm; exact own_ne hr h hne hm)
/-- what is of other types than `in' and the field is as it was behind an append to `in' and its store -/
theorem field_snocK {W3 : World} {v : Value} (h : FieldAt w L f cs th I lv tv iv vs) (hg : w.grownBy W3 iv.ownBlock) : Keeps w (W3.setCell ⟨L, 5, none⟩ v) (iv.ownBlock.toList ++ [L]) :=
  ((Keeps.refl w _).grown hg (fun k hk => .inl (by rw [hk]; simp))).setCell (.inl (by simp)) _
theorem own_snoc {W3 : World} {v : Value} {base n size : Nat} {e : TypeId} {v1 : Value} {xs : List Value} (h : FieldAt w L f cs th I lv tv iv vs) (hg : w.grownBy W3 iv.ownBlock) (ho : w.ownsRow base e size v1 n xs) (h39 : e ≠ 39) (h89 : e ≠ 89) : (W3.setCell ⟨L, 5, none⟩ v).ownsRow base e size v1 n xs :=
  own_keep ho (field_snocK h hg) (fun k hk hm => by
    rcases List.mem_append.1 hm with hm | hm
    · rw [Option.mem_toList] at hm; exact own_apart ho h.i h39 hk hm
    · simp at hm; subst hm; exact own_ne ho h.box h89 hk)
theorem pr_snoc {W3 : World} {v : Value} {base G nb : Nat} {ws : List Value} {P : List (List Nat)} (h : FieldAt w L f cs th I lv tv iv vs) (hg : w.grownBy W3 iv.ownBlock) (hP : PrRow w base G nb ws P) : PrRow (W3.setCell ⟨L, 5, none⟩ v) base G nb ws P :=
  ⟨hP.lv, hP.lp, hP.g.keep (field_snocK h hg) (fun hm => by
    rcases List.mem_append.1 hm with hm | hm
    · rw [Option.mem_toList] at hm; exact own_ne h.i hP.g (by decide) hm
    · simp at hm; subst hm
      have h1 := hP.g; have h2 := h.box
      unfold Blk at h1 h2
      rw [h1] at h2
      simp at h2), fun b hb => own_snoc h hg (hP.r b hb) (by decide) (by decide), hP.ap⟩
/-- one row more in `in' -/
theorem FieldAt.snoc {W3 : World} {s iv' : Value} {S : List Bool} (h : FieldAt w L f cs th I lv tv iv vs) (hs : w.ownsRow 0 4 1 s cs.length (bitV S)) (hg : w.grownBy W3 iv.ownBlock) (hown : W3.ownsRow 0 39 1 iv' (I.length + 1) (vs ++ [s]))
    (hf : FuncAt (W3.setCell ⟨L, 5, none⟩ iv') f) (hla : ∀ c ∈ cs, IntsAt (W3.setCell ⟨L, 5, none⟩ iv') c.args) : FieldAt (W3.setCell ⟨L, 5, none⟩ iv') L f cs th (I ++ [S]) lv tv iv' (vs ++ [s]) := by
  have hB3 : Blk W3 L 89 #[f.vars.1, f.params.1, f.blocks.1, lv, tv, iv] := blk_grown0 h.box h.i (by decide) hg
  have k : Keeps W3 (W3.setCell ⟨L, 5, none⟩ iv') [L] := (Keeps.refl W3 _).setCell (.inl (by simp)) _
  have ap : ∀ {e : TypeId} {size n base : Nat} {v : Value} {xs : List Value}, W3.ownsRow base e size v n xs → e ≠ 89 → (W3.setCell ⟨L, 5, none⟩ iv').ownsRow base e size v n xs := fun hr he => own_keep hr k (fun b hb hm => by simp at hm; subst hm; exact own_ne hr hB3 he hb)
  have hlen : vs.length = I.length := by have := h.i.1; omega
  refine ⟨?_, hf, own_snoc h hg h.l (by decide) (by decide), hla, own_snoc h hg h.t (by decide) (by decide), ?_, fun b hb => ?_⟩
  · have := hB3.set_ 5 iv'
    simpa using this
  · rw [List.length_append, List.length_singleton]; exact ap hown (by decide)
  · rw [List.length_append, List.length_singleton] at hb
    by_cases e : b < I.length
    · rw [show (vs ++ [s])[b]! = vs[b]! by rw [getElem!_pos _ b (by simp; omega), List.getElem_append_left (by omega), getElem!_pos vs b (by omega)], show (I ++ [S])[b]! = I[b]! by rw [getElem!_pos _ b (by simp; omega), List.getElem_append_left e, getElem!_pos I b e]]
      exact own_snoc h hg (h.ir b e) (by decide) (by decide)
    · obtain rfl : b = I.length := by omega
      rw [show (vs ++ [s])[I.length]! = s by rw [getElem!_pos _ _ (by simp; omega), List.getElem_append_right (by omega)]; simp [hlen], show (I ++ [S])[I.length]! = S by rw [getElem!_pos _ _ (by simp), List.getElem_append_right (by omega)]; simp]
      exact own_snoc h hg hs (by decide) (by decide)
theorem own_rebase {w : World} {b base n size : Nat} {e : TypeId} {v : Value} {xs : List Value} (h : w.ownsRow b e size v n xs) (hz : ∀ z, v.ownBlock = some z → base ≤ z) : w.ownsRow base e size v n xs := by
  obtain ⟨h1, h2 | ⟨g, cap, cur, rfl, h3, h4⟩⟩ := h
  · exact ⟨h1, .inl h2⟩
  · exact ⟨h1, .inr ⟨g, cap, cur, rfl, hz g rfl, h4⟩⟩
theorem own_capB {w : World} {b size n cap : Nat} {e : TypeId} {a : Option Addr} {xs : List Value} (h : w.ownsRow b e size (.slice a n cap) n xs) : n ≤ cap ∧ cap ≤ maxLen := by
  obtain ⟨h1, ⟨h2, h3⟩ | ⟨g, c, cur, h2, h3, h4, h5, h6, h7⟩⟩ := h
  · simp only [Value.slice.injEq] at h2; exact ⟨by omega, by rw [h2.2.2]; exact Nat.zero_le _⟩
  · simp only [Value.slice.injEq] at h2; rw [h2.2.2]; exact ⟨h5, h6⟩
theorem field_start (hb : Blk w L 89 #[f.vars.1, f.params.1, f.blocks.1, lv, tv, .slice none 0 0]) (hf : FuncAt w f) (hl : w.ownsRow 0 49 2 lv cs.length (cellsC cs)) (hla : ∀ c ∈ cs, IntsAt w c.args) (ht : w.ownsRow 0 4 1 tv th.length (bitV th)) : FieldAt w L f cs th [] lv tv (.slice none 0 0) [] :=
  ⟨hb, hf, hl, hla, ht, World.ownsRow_nil _ _ _ _, fun b hb => absurd hb (Nat.not_lt_zero _)⟩
end
theorem PrRow.put39 {w : World} {base G nb : Nat} {vs : List Value} {P : List (List Nat)} (h : PrRow w base G nb vs P) {b2 n2 G2 b : Nat} {v2 s : Value} {x2 : List Value} (hi : w.ownsRow b2 39 1 v2 n2 x2) (hG : v2.ownBlock = some G2) : PrRow (w.setCell ⟨G2, b, none⟩ s) base G nb vs P := by
  have k : Keeps w (w.setCell ⟨G2, b, none⟩ s) [G2] := (Keeps.refl w _).setCell (.inl (by simp)) _
  exact ⟨h.lv, h.lp, h.g.keep k (by simp; rintro rfl; exact own_ne hi h.g (by decide) hG), fun c hc => own_keep (h.r c hc) k (fun z hz hm => by simp at hm; subst hm; exact own_apart (h.r c hc) hi (by decide) hz hG), h.ap⟩
theorem own_put39 {w : World} {base n : Nat} {e : TypeId} {v : Value} {xs : List Value} (h : w.ownsRow base e 1 v n xs) (he : e ≠ 39) {b2 n2 G2 b : Nat} {v2 s : Value} {x2 : List Value} (hi : w.ownsRow b2 39 1 v2 n2 x2) (hG : v2.ownBlock = some G2) : (w.setCell ⟨G2, b, none⟩ s).ownsRow base e 1 v n xs :=
  own_keep h ((Keeps.refl w [G2]).setCell (.inl (by simp)) _) (fun z hz hm => by simp at hm; subst hm; exact own_apart h hi he hz hG)
/-! plain: the flow -/
abbrev GF (f : FuncM) (th : List Bool) (P : List (List Nat)) (I : List (List Bool)) : Prop := GFlow (succF f) (fun i p g => thrB f (collectF f) i p g) (fun b => P[b]!) (fun b => th[b]!) f.nb (collectF f).length I
def mtL (f : FuncM) (th : List Bool) (P : List (List Nat)) (I : List (List Bool)) (b : Nat) : List Bool := meetTo f (collectF f) th I P[b]! P[b]!.length
theorem gframe {f : FuncM} {th : List Bool} {P : List (List Nat)} (hE : EndsOK f) (hR : ReachOK f th) (hP : PredsOK f P) : GFrame (succF f) (fun i p g => thrB f (collectF f) i p g) (fun b => P[b]!) (fun b => th[b]!) f.nb :=
  ⟨fun i a => through_mono _ _ _ _, fun c hc d hd => (succF_mem.1 hd).1, hP.mem, hR.mem, hE.pos⟩
theorem mtL_eq (f : FuncM) (th : List Bool) (P : List (List Nat)) (I : List (List Bool)) (b : Nat) : mtL f th P I b = meetL (fun i p g => thrB f (collectF f) i p g) (fun b => P[b]!) (fun b => th[b]!) (collectF f).length I b := by
  unfold mtL meetTo meetL meetB
  rw [List.take_length]
def StillF (f : FuncM) (th : List Bool) (P : List (List Nat)) (I : List (List Bool)) : Prop := ∀ b, RWay (succF f) b → b ≠ 0 → mtL f th P I b = I[b]!
def GoodI (f : FuncM) (I : List (List Bool)) : Prop := ∀ b i, i < (collectF f).length → RWay (succF f) b → ∀ s : Bool → Bool, Mono s → (s (I[b]![i]!) = true ↔ ∀ g, GWay (succF f) (thrB f (collectF f) i) b g → s g = true)
theorem good_of {f : FuncM} {th : List Bool} {P : List (List Nat)} {I : List (List Bool)} (hE : EndsOK f) (hR : ReachOK f th) (hP : PredsOK f P) (hI : GF f th P I) (hS : StillF f th P I) : GoodI f I := fun b i hi hr s hs =>
  gflow_done (gframe hE hR hP) hI (fun b hr hb => by rw [← mtL_eq]; exact hS b hr hb) hi hr s hs
def LookRet (f : FuncM) (w : World) (L : Nat) : Prop := ∃ th I lv tv iv vs, FieldAt w L f (collectF f) th I lv tv iv vs ∧ FieldOK f (collectF f) th I ∧ ReachOK f th ∧ GoodI f I
/-- what a pass over the order has come to -/
structure PassM (f : FuncM) (th : List Bool) (P : List (List Nat)) (ord : List Nat) (I0 I : List (List Bool)) (g : Bool) (j : Nat) : Prop where
  i : GF f th P I
  no : g = false → I = I0 ∧ ∀ k, k < j → mtL f th P I ord[k + 1]! = I[ord[k + 1]!]!
  yes : g = true → sumT I < sumT I0
section
variable {f : FuncM} {th : List Bool} {P : List (List Nat)} {ord : List Nat} {I0 I : List (List Bool)} {g : Bool} {j : Nat}
theorem pm_start (h : GF f th P I) : PassM f th P ord I I false 0 := ⟨h, fun _ => ⟨rfl, fun k hk => absurd hk (Nat.not_lt_zero _)⟩, fun e => by cases e⟩
theorem pm_same (h : PassM f th P ord I0 I g j) (he : mtL f th P I ord[j + 1]! = I[ord[j + 1]!]!) : PassM f th P ord I0 I g (j + 1) :=
  ⟨h.i, fun e => ⟨(h.no e).1, fun k hk => by
    rcases Nat.lt_succ_iff_lt_or_eq.1 hk with h1 | rfl
    · exact (h.no e).2 k h1
    · exact he⟩, h.yes⟩
theorem pm_put (hE : EndsOK f) (hR : ReachOK f th) (hP : PredsOK f P) (h : PassM f th P ord I0 I g j) (hr : RWay (succF f) ord[j + 1]!) (h0 : ord[j + 1]! ≠ 0) (he : ¬ mtL f th P I ord[j + 1]! = I[ord[j + 1]!]!) : PassM f th P ord I0 (I.set ord[j + 1]! (mtL f th P I ord[j + 1]!)) true (j + 1) := by
  have h1 := gflow_step (gframe hE hR hP) h.i hr h0
  have h2 := gflow_less (gframe hE hR hP) h.i hr h0 (by rw [← mtL_eq]; exact he)
  rw [← mtL_eq] at h1 h2
  refine ⟨h1, fun e => (by cases e), fun _ => ?_⟩
  cases g with
  | true => have := h.yes rfl; omega
  | false => have := (h.no rfl).1; subst this; exact h2
theorem ord_ne {f : FuncM} (h : OrdOK f ord) (hj : j + 1 < ord.length) : ord[j + 1]! ≠ 0 ∧ RWay (succF f) ord[j + 1]! := by
  refine ⟨fun e => ?_, (h.mem _).1 (bang_mem hj)⟩
  have h0 := h.hd
  cases ord with
  | nil => simp at hj
  | cons c l =>
    simp at h0
    subst h0
    have hnd := List.nodup_cons.1 h.nd
    have hj2 : j < l.length := by simpa using hj
    have e2 : l[j] = 0 := by rw [getElem!_pos (0 :: l) (j + 1) hj] at e; simpa using e
    exact hnd.1 (e2 ▸ List.getElem_mem hj2)
theorem pm_still {f : FuncM} {th : List Bool} {P : List (List Nat)} {I0 I : List (List Bool)} {ord : List Nat} (hO : OrdOK f ord) (h : PassM f th P ord I0 I false (ord.length - 1)) : StillF f th P I := fun b hr hb => by
  obtain ⟨i, hi, rfl⟩ := List.mem_iff_getElem.1 ((hO.mem b).2 hr)
  cases i with
  | zero =>
    exfalso
    have h0 := hO.hd
    cases ord with
    | nil => simp at hi
    | cons c l => simp at h0; exact hb (by simpa using h0)
  | succ i =>
    have := (h.no rfl).2 i (by omega)
    rw [getElem!_pos ord _ hi] at this
    exact this
end
theorem sum_start (n m : Nat) : sumT ((List.replicate n (List.replicate m true)).set 0 (List.replicate m false)) ≤ n * m := by
  have key : ∀ l : List (List Bool), (∀ r ∈ l, cntT r ≤ m) → sumT l ≤ l.length * m := fun l => by
    induction l with
    | nil => intro _; simp [sumT]
    | cons r l ih =>
      intro h
      have h1 := h r (List.mem_cons_self ..)
      have h2 := ih (fun r hr => h r (List.mem_cons_of_mem _ hr))
      unfold sumT at *
      simp only [List.map_cons, List.sum_cons, List.length_cons, Nat.succ_mul]; omega
  have := key ((List.replicate n (List.replicate m true)).set 0 (List.replicate m false)) (fun r hr => by
    rcases List.mem_or_eq_of_mem_set hr with h | h
    · rw [(List.mem_replicate.1 h).2]; unfold cntT; simp
    · rw [h]; unfold cntT; simp)
  simpa using this
theorem gf_start {f : FuncM} {th : List Bool} {P : List (List Nat)} (hE : EndsOK f) (hR : ReachOK f th) (hP : PredsOK f P) : GF f th P ((List.replicate f.nb (List.replicate (collectF f).length true)).set 0 (List.replicate (collectF f).length false)) := gflow_start (gframe hE hR hP)
end Go.Proofs.YtjllbchfojonhaaGreatDoor
