/- Package facts: the contract of further. -/
import Derived.Test.YtppidnjhdefbiaaFactsNodes
namespace Go.Proofs.Ytppidnjhdefbiaa
open Go.RowKit
set_option linter.unusedVariables false

theorem info115 : (Try.prog.info? 115).map (fun i => (i.zero, i.size, i.bytes)) = some (some (.agg #[.bool false, .int .i64 0]), 2, 16) := by kernel_rfl

/-- what going one fact further leaves -/
def Went (w : World) (B n : Nat) (X : Nat → Option Int) (L : List Chain.Fct) (e : Ending) (w' : World) : Prop :=
  ∃ gn cn ch, e = .returned (.tuple #[.slice (some ⟨gn, 0, none⟩) n cn, .bool ch]) ∧ w'.ownsRow B 115 2 (.slice (some ⟨gn, 0, none⟩) n cn) n (nodeCells (Chain.relax X L X) n) ∧ Keeps w w' [] ∧ w.heap.size ≤ gn ∧
    (ch = false → ∀ u, u < n → Chain.relax X L X u = X u)

/-- what a round of 'further' keeps -/
def FurInv (w wr : World) (B n g1 c1 : Nat) (X : Nat → Option Int) (L : List Chain.Fct) (k : Nat) (ch : Bool) : Prop :=
  wr.ownsRow B 115 2 (.slice (some ⟨g1, 0, none⟩) n c1) n (nodeCells (Chain.relax X (L.take k) X) n) ∧ Keeps w wr [] ∧ (ch = false → ∀ u, u < n → Chain.relax X (L.take k) X u = X u)

theorem relax_snoc (X : Nat → Option Int) (L : List Chain.Fct) (k : Nat) (h : k < L.length) : Chain.relax X (L.take (k + 1)) X = Chain.upd X (Chain.relax X (L.take k) X) L[k] := by
  unfold Chain.relax
  rw [List.take_succ_eq_append_getElem h, List.foldl_append]
  rfl

theorem upd_same (X R : Nat → Option Int) (f : Chain.Fct) (h : X f.b = none ∨ ∃ s t, X f.b = some s ∧ R f.a = some t ∧ ¬ s + f.c < t) : Chain.upd X R f = R := by
  funext v
  unfold Chain.upd
  split
  · rename_i hv
    subst hv
    rcases h with h | ⟨s, t, h1, h2, h3⟩
    · rw [h]; exact Chain.omin_none_right _
    · rw [h1, h2]; simp [Chain.omin, h3]
  · rfl
theorem upd_turn (X R : Nat → Option Int) (f : Chain.Fct) (s : Int) (h1 : X f.b = some s) (h : R f.a = none ∨ ∃ t, R f.a = some t ∧ s + f.c < t) : Chain.upd X R f = fun v => if v = f.a then some (s + f.c) else R v := by
  funext v
  unfold Chain.upd
  split
  · rename_i hv
    subst hv
    rcases h with h | ⟨t, h2, h3⟩
    · rw [h, h1]; rfl
    · rw [h1, h2]; simp [Chain.omin, h3]
  · rfl

theorem fur_keep {w wr : World} {B n g1 c1 : Nat} {X : Nat → Option Int} {L : List Chain.Fct} {k : Nat} {ch : Bool} (h : FurInv w wr B n g1 c1 X L k ch) (hk : k < L.length) (o1 o2 : Obj)
    (hc : X (L[k]).b = none ∨ ∃ s t, X (L[k]).b = some s ∧ Chain.relax X (L.take k) X (L[k]).a = some t ∧ ¬ s + (L[k]).c < t) : FurInv w ((wr.alloc o1).alloc o2) B n g1 c1 X L (k + 1) ch := by
  obtain ⟨h1, h2, h3⟩ := h
  unfold FurInv
  rw [relax_snoc X L k hk, upd_same _ _ _ hc]
  exact ⟨(h1.alloc _).alloc _, (h2.alloc _).alloc _, h3⟩
theorem fur_store {w wr : World} {B n g1 c1 : Nat} {X : Nat → Option Int} {L : List Chain.Fct} {k : Nat} {ch : Bool} (h : FurInv w wr B n g1 c1 X L k ch) (hk : k < L.length) (o1 o2 : Obj) (s : Int) (hw : w.heap.size ≤ g1) (ha : (L[k]).a < n)
    (hs : X (L[k]).b = some s) (hc : Chain.relax X (L.take k) X (L[k]).a = none ∨ ∃ t, Chain.relax X (L.take k) X (L[k]).a = some t ∧ s + (L[k]).c < t) :
    FurInv w ((((wr.setCell ⟨g1, (L[k]).a * 2, none⟩ (.bool true)).setCell ⟨g1, (L[k]).a * 2 + 1, none⟩ (.int .i64 (s + (L[k]).c))).alloc o1).alloc o2) B n g1 c1 X L (k + 1) true := by
  obtain ⟨h1, h2, h3⟩ := h
  unfold FurInv
  rw [relax_snoc X L k hk, upd_turn _ _ _ s hs hc]
  refine ⟨?_, ?_, fun h => by cases h⟩
  · have k1 := ((h1.stored ((L[k]).a * 2) (.bool true)).1.stored ((L[k]).a * 2 + 1) (.int .i64 (s + (L[k]).c))).1
    rw [node_set _ _ _ _ ha] at k1
    exact (k1.alloc o1).alloc o2
  · exact (((h2.setCell (.inr hw) _).setCell (.inr hw) _).alloc o1).alloc o2

set_option maxRecDepth 100000 in
set_option maxHeartbeats 4000000 in
theorem further_any {w : World} {B g n gn cn : Nat} {lv mv : Value} {L : List Chain.Fct} {M : List Nat} (h : Stk w B g lv mv n L M) (X : Nat → Option Int)
    (hnow : w.ownsRow B 115 2 (.slice (some ⟨gn, 0, none⟩) n cn) n (nodeCells X n)) (hn : n ≤ 1024) (hn0 : 0 < n) (hL : L.length ≤ 8192) (hBw : B ≤ w.heap.size)
    (hf : ∀ f ∈ L, f.a < n ∧ f.b < n ∧ -1152921504606846976 ≤ f.c ∧ f.c ≤ 1152921504606846976) (hX : ∀ u s, X u = some s → -6917529027641081856 ≤ s ∧ s ≤ 6917529027641081856) :
    Calls Try.prog 86 #[.pointer (some ⟨g, 0, none⟩), .slice (some ⟨gn, 0, none⟩) n cn] w (Went w B n X L) := by
  obtain ⟨ao, cap, rfl, hle, hcm⟩ := own_form h.facts
  have hc := h.blk.cell 1
  simp at hc
  obtain ⟨i0, hi, hz0, hz1, hz2⟩ := info_parts info115
  have HS := kept h
  have HN := kept hnow
  have HX := kept hX
  have HFf := kept hf
  clear h hnow hX hf
  have hE : (w.alloc (Obj.cells #[] 115)).ownsRow B 115 2 (.slice (some ⟨w.heap.size, 0, none⟩) 0 0) 0 [] :=
    ⟨rfl, .inr ⟨w.heap.size, 0, #[], rfl, hBw, Blk.new w 115 #[], by omega, by simp [maxLen], rfl, rfl⟩⟩
  have hE' := kept hE
  clear hE
  go_enter Try.func86, Try.ntmps86
  go_wp2_with (at_builtin; refine wpList_append_own_at _ rfl (.tmp 12) (.tmp 13) 113 rfl B 115 i0 _ 2 16 Try.underlying113 hi hz0 hz1 hz2 rfl (by decide) _ _ _ rfl hE'.out ⟨gn, 0, none⟩ n cn (nodeCells X n) rfl (by rw [node_len]) ?c1 ?c2 ?c3 ?c4 ?c5 ?_)
  case c1 =>
    intro j u hj
    have h1 : j < n * 2 := by
      rcases Nat.lt_or_ge j (n * 2) with h1 | h1
      · exact h1
      · rw [List.getElem?_eq_none (by rw [node_len]; exact h1)] at hj; cases hj
    have h2 := (HN.out.alloc (Obj.cells #[] 115)).cellAt j h1
    rw [← hj, ← h2]
    by_cases h0 : j = 0 <;> simp [Addr.add, h0]
  case c2 =>
    intro u hu
    simp only [nodeCells, List.mem_map] at hu
    obtain ⟨j, _, rfl⟩ := hu
    unfold nodeCell
    split <;> rfl
  case c3 => unfold maxLen; omega
  case c4 => omega
  case c5 => simp; omega
  intro v' w1 hown hg hnz hat
  try simp only [Nat.zero_add, List.nil_append] at hown
  obtain ⟨g1, c1, rfl, hb1, hlt1⟩ := hown.form hn0
  have hK : Keeps w w1 [] := ((Keeps.refl w []).alloc _).grown hg (fun k hk => by simp [Value.ownBlock] at hk; subst hk; exact .inr (by omega))
  have hg1 : w.heap.size ≤ g1 := by
    rcases hat with h1 | h1 <;> simp [Value.ownBlock] at h1 <;> omega
  have HK := kept hK
  have HO := kept hown
  have HS1 := kept (HS.out.keep hK (by simp) (by simp) (by simp))
  have hc1 := HS1.out.blk.cell 1
  simp at hc1
  clear hown hg hnz hat hK hc
  have HI0 : FurInv w w1 B n g1 c1 X L 0 false := ⟨HO.out, HK.out, fun _ _ _ => rfl⟩
  have HI0' := kept HI0
  clear HI0
  have hgl := HS.out.facts
  go_wp2
  go_loopw [7, 20] (fun c i wr => ∃ (k : Nat) (ch : Bool), k ≤ L.length ∧ i = .int .i64 k ∧ c = .bool ch ∧ FurInv w wr B n g1 c1 X L k ch) (fun _ i _ => L.length - (intOf i).toNat)
  case atStart => exact ⟨0, false, Nat.zero_le _, rfl, rfl, HI0'.out⟩
  case round =>
    obtain ⟨k, ch, hk, rfl, rfl, hI⟩ := hrel
    have HI := kept hI
    clear hI
    by_cases hlt : k < L.length
    · have hKr : Keeps w wr [] := HI.out.2.1
      have hSr := HS.out.keep hKr (by simp) (by simp) (by simp)
      have hNr := own_keep HN.out hKr (by simp)
      obtain ⟨gl, cl, hv, _, hll⟩ := hSr.facts.form (by omega)
      cases hv
      have hfk : L[k]? = some L[k] := List.getElem?_eq_getElem hlt
      obtain ⟨f, hfd⟩ : ∃ f, f = L[k] := ⟨_, rfl⟩
      rw [← hfd] at hfk
      obtain ⟨ha, hb, hc1, hc2⟩ := HFf.out L[k] (List.getElem_mem hlt)
      rw [← hfd] at ha hb hc1 hc2
      have q0 := hSr.facts.cellAt (k * 3) (by omega)
      have q1 := hSr.facts.cellAt (k * 3 + 1) (by omega)
      have q2 := hSr.facts.cellAt (k * 3 + 2) (by omega)
      rw [show k * 3 = k * 3 + 0 by omega, fct_at L k 0 f hfk (by omega)] at q0
      rw [fct_at L k 1 f hfk (by omega)] at q1
      rw [fct_at L k 2 f hfk (by omega)] at q2
      simp [fctCells] at q0 q1 q2
      have n0 := hNr.cellAt (f.b * 2) (by omega)
      have n1 := hNr.cellAt (f.b * 2 + 1) (by omega)
      rw [node_ok X hb] at n0
      rw [node_sum X hb] at n1
      have hO := HI.out.1
      have m0 := hO.cellAt (f.a * 2) (by omega)
      have m1 := hO.cellAt (f.a * 2 + 1) (by omega)
      rw [node_ok _ ha] at m0
      rw [node_sum _ ha] at m1
      have z0 := hO.frozenAt (f.a * 2)
      have z1 := hO.frozenAt (f.a * 2 + 1)
      obtain ⟨_, _, hv, _, l1⟩ := hO.form hn0
      cases hv
      obtain ⟨_, _, hv, _, l2⟩ := hNr.form hn0
      cases hv
      have HFD := kept hfd
      have HSr := kept hSr
      clear hKr hSr hNr hO hfk hfd
      rcases hXb : X f.b with _ | s
      · have HE := kept (fun o1 o2 => fur_keep HI.out hlt o1 o2 (.inl (by rw [← HFD.out]; exact hXb)))
        rw [hXb] at n0 n1
        simp at n0 n1
        clear hXb
        go_wp2
        go_roundw
        case rel => exact ⟨k + 1, ch, by omega, by go_num, rfl, HE.out _ _⟩
        case measure => simp [intOf]; omega
      · have hs := HX.out _ _ hXb
        rw [hXb] at n0 n1
        simp at n0 n1
        rcases hRa : Chain.relax X (L.take k) X f.a with _ | t
        · have HE := kept (fun o1 o2 => fur_store HI.out hlt o1 o2 s hg1 (by rw [← HFD.out]; exact ha) (by rw [← HFD.out]; exact hXb) (.inl (by rw [← HFD.out]; exact hRa)))
          rw [hRa] at m0 m1
          simp at m0 m1
          rw [← HFD.out] at HE
          clear hXb hRa
          go_wp2
          go_roundw
          case rel => exact ⟨k + 1, true, by omega, by go_num, rfl, HE.out _ _⟩
          case measure => simp [intOf]; omega
        · rw [hRa] at m0 m1
          simp at m0 m1
          by_cases hst : s + f.c < t
          · have HE := kept (fun o1 o2 => fur_store HI.out hlt o1 o2 s hg1 (by rw [← HFD.out]; exact ha) (by rw [← HFD.out]; exact hXb) (.inr ⟨t, by rw [← HFD.out]; exact hRa, by rw [← HFD.out]; exact hst⟩))
            rw [← HFD.out] at HE
            clear hXb hRa
            go_wp2
            go_roundw
            case rel => exact ⟨k + 1, true, by omega, by go_num, rfl, HE.out _ _⟩
            case measure => simp [intOf]; omega
          · have HE := kept (fun o1 o2 => fur_keep HI.out hlt o1 o2 (.inr ⟨s, t, by rw [← HFD.out]; exact hXb, by rw [← HFD.out]; exact hRa, by rw [← HFD.out]; exact hst⟩))
            clear hXb hRa
            go_wp2
            go_roundw
            case rel => exact ⟨k + 1, ch, by omega, by go_num, rfl, HE.out _ _⟩
            case measure => simp [intOf]; omega
    · have hkL : k = L.length := by omega
      subst hkL
      go_wp2
      go_ret2
      refine ⟨g1, c1, ch, rfl, ?_, HI.out.2.1, hg1, ?_⟩
      · have := HI.out.1
        rwa [List.take_length] at this
      · have := HI.out.2.2
        rwa [List.take_length] at this
end Go.Proofs.Ytppidnjhdefbiaa
