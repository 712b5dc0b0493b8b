/- The law 'LiveParams': the walk. -/
import Derived.Test.YtjllbchfojonhaaDoorB6
import Derived.Test.YtjllbchfojonhaaDoorLiveThree
import Derived.Deep.CutBlock
import Derived.Deep.Cut
import Derived.Deep.CutRange
import Derived.ArgAppend
namespace Go.Proofs.YtjllbchfojonhaaDoor
open Go.RowKit
set_option linter.unusedVariables false
set_option linter.unusedSimpArgs false

def argsC (l : List ArgM) : List Value := (l.map ArgM.cells).flatten
theorem argsC_len (l : List ArgM) : (argsC l).length = l.length * 3 := by
 induction l with
 | nil => rfl
 | cons a l ih => 
  have : argsC (a :: l) = .int .i64 a.int :: .bool a.bool :: .int .i64 a.arr :: argsC l := rfl
  rw [this, List.length_cons, List.length_cons, List.length_cons, ih, List.length_cons]; omega
theorem argsC_at (l : List ArgM) (j i : Nat) (hj : j < l.length) (hi : i < 3) : (argsC l)[j * 3 + i]? = (ArgM.cells l[j]!)[i]? := by
 induction l generalizing j with
 | nil => cases hj
 | cons a l ih =>
  have e : argsC (a :: l) = .int .i64 a.int :: .bool a.bool :: .int .i64 a.arr :: argsC l := rfl
  rw [e]
  cases j with
  | zero =>
   rcases (show i = 0 ∨ i = 1 ∨ i = 2 by omega) with rfl | rfl | rfl <;> rfl
  | succ j =>
   rw [show (j + 1) * 3 + i = (j * 3 + i) + 1 + 1 + 1 by omega, List.getElem?_cons_succ, List.getElem?_cons_succ, List.getElem?_cons_succ, ih j (by simpa using hj)]
   rfl
theorem argsC_set (l : List ArgM) (q : Nat) (a : ArgM) (hq : q < l.length) : (((argsC l).set (q * 3) (.int .i64 a.int)).set (q * 3 + 1) (.bool a.bool)).set (q * 3 + 2) (.int .i64 a.arr) = argsC (l.set q a) := by
 induction l generalizing q with
 | nil => cases hq
 | cons b l ih =>
  have e : argsC (b :: l) = .int .i64 b.int :: .bool b.bool :: .int .i64 b.arr :: argsC l := rfl
  cases q with
  | zero => rfl
  | succ q =>
   have e2 : argsC ((b :: l).set (q + 1) a) = .int .i64 b.int :: .bool b.bool :: .int .i64 b.arr :: argsC (l.set q a) := rfl
   rw [e, e2, ← ih q (by simpa using hq), show (q + 1) * 3 = (q * 3) + 1 + 1 + 1 by omega]
   rfl
theorem row_argsC {w : World} {base n : Nat} {v : Value} {l : List ArgM} (h : w.ownsRow base 55 3 v n (argsC l)) (hn : l.length = n) : Row w 3 v (l.map ArgM.cells) := by
 rcases h.2 with ⟨rfl, h0⟩ | ⟨g, cap, cur, rfl, h2, h3, h4, h5, h6, h7⟩
 ·obtain rfl : l = [] := List.eq_nil_of_length_eq_zero (by omega)
  exact ⟨none, 0, rfl, Nat.le_refl _, Nat.zero_le _, .inl rfl⟩
 ·refine ⟨some ⟨g, 0, none⟩, cap, by rw [List.length_map, hn], by rw [List.length_map]; omega, h5, .inr ⟨g, 0, rfl, Blk.lt (t := 55) h3, fun j e he i x hx => ?_⟩⟩
  rw [List.getElem?_map] at he
  obtain ⟨a, ha, rfl⟩ := Option.map_eq_some_iff.1 he
  have hj : j < l.length := (List.getElem?_eq_some_iff.1 ha).1
  have hi : i < 3 := by have := (List.getElem?_eq_some_iff.1 hx).1; exact this
  have hc := argsC_at l j i hj hi
  have ea : l[j]! = a := by rw [getElem!_pos l j hj]; exact (List.getElem?_eq_some_iff.1 ha).2
  rw [ea, hx, ← h7, List.getElem?_take, if_pos (by omega), Array.getElem?_toList] at hc
  rw [Blk.cell (t := 55) h3, Nat.zero_add]; exact hc
theorem own_setN {w : World} {base n size b : Nat} {e : TypeId} {v : Value} {xs : List Value} (h : w.ownsRow base e size v n xs) (hb : v.ownBlock = some b) (i : Nat) (x : Value) : (w.setCell ⟨b, i, none⟩ x).ownsRow base e size v n (xs.set i x) := by
 refine ⟨by rw [List.length_set]; exact h.1, ?_⟩
 rcases h.2 with ⟨rfl, _⟩ | ⟨g, cap, cur, rfl, h2, h3, h4, h5, h6, h7⟩
 ·cases hb
 ·simp [Value.ownBlock] at hb
  subst hb
  refine .inr ⟨g, cap, cur.setIfInBounds i x, rfl, h2, (Blk.set_ (t := e) h3 i x), h4, h5, by rw [Array.size_setIfInBounds]; exact h6, ?_⟩
  rw [Array.toList_setIfInBounds, List.take_set, h7]
theorem own_cellN {w : World} {base n size : Nat} {e : TypeId} {v : Value} {xs : List Value} (h : w.ownsRow base e size v n xs) (hn : 0 < n) : ∃ g cap, v = .slice (some ⟨g, 0, none⟩) n cap ∧ base ≤ g ∧ v.ownBlock = some g ∧ (∀ i, i < n * size → w.cell? ⟨g, i, none⟩ = xs[i]?) ∧ ∀ i, w.frozen? ⟨g, i, none⟩ = false := by
 rcases h.2 with ⟨_, h0⟩ | ⟨g, cap, cur, rfl, h2, h3, h4, h5, h6, h7⟩
 ·omega
 ·refine ⟨g, cap, rfl, h2, rfl, fun i hi => ?_, fun i => Blk.frozen (t := e) h3 i⟩
  rw [Blk.cell (t := e) h3 i, ← h7, List.getElem?_take, if_pos hi, Array.getElem?_toList]
theorem info55 : (Tryd.prog.info? 55).map (fun i => (i.zero, i.size, i.bytes)) = some (some (.agg #[.int .i64 0, .bool false, .int .i64 0]), 3, 24) := by kernel_rfl
theorem take_contains (l : List Int) (j : Nat) (hj : j < l.length) (q : Int) : (l.take (j + 1)).contains q = ((l.take j).contains q || (l[j]! == q)) := by
 rw [List.take_succ_eq_append_getElem hj, getElem!_pos l j hj, Bool.eq_iff_iff]
 simp only [List.contains_iff_mem, List.mem_append, List.mem_singleton, Bool.or_eq_true, beq_iff_eq]
 exact or_congr Iff.rfl eq_comm
theorem news_args {w : World} {i : InputM} {ab ao : Nat} (h : ∀ k, k < i.args.2.length → ∃ b off, (some ⟨ab, ao, none⟩ : Option Addr) = some ⟨b, off, none⟩ ∧ b < w.heap.size ∧ ∀ (j : Nat) x, (ArgM.cells i.args.2[k]!)[j]? = some x → w.cell? ⟨b, off + k * 3 + j, none⟩ = some x) :
  ∀ j u, (argsC i.args.2)[j]? = some u → w.cell? ((⟨ab, ao, none⟩ : Addr).add j) = some u := fun j u hu => by
 have hj := (List.getElem?_eq_some_iff.1 hu).1
 rw [argsC_len] at hj
 have hk : j / 3 < i.args.2.length := by omega
 obtain ⟨b, off, e, _, hc⟩ := h (j / 3) hk
 simp only [Option.some.injEq, Addr.mk.injEq, and_true] at e
 obtain ⟨rfl, rfl⟩ := e
 have h2 := argsC_at i.args.2 (j / 3) (j % 3) hk (by omega)
 rw [show j / 3 * 3 + j % 3 = j by omega, hu] at h2
 have h3 := hc (j % 3) u h2.symm
 rw [add_plain]
 rw [show ab = ab from rfl, show ao + j / 3 * 3 + j % 3 = ao + j by omega] at h3
 exact h3
def ArgM.val (a : ArgM) : Value := .agg #[.int .i64 a.int, .bool a.bool, .int .i64 a.arr]
theorem rem501 (m : Nat) (hm : m < 65536) : ((m : Int).tmod 501 = ((m % 501 : Nat) : Int)) := by
 rw [Int.tmod_eq_emod_of_nonneg (by omega)]; omega
/-- the input with another argument -/
def InputM.put (i : InputM) (v : Value) (q : Nat) (a : ArgM) : InputM := ⟨(v, i.args.2.set q a), i.arrays⟩
theorem same_out {f : FuncM} {i : InputM} (hs : (shapedB f && slotB f) = true) (hfew : FewP f) (v : Value) (q : Nat) (a : ArgM) (k : Nat) (hq : q < f.nv) (hl : ¬ (q : Int) ∈ liveL f 0 0) (hq2 : q < i.args.2.length) : runOf f (i.put v q a) k = runOf f i k := by
 have hlb : liveB f.blk q 0 0 = false := by
  cases h : liveB f.blk q 0 0 with
  | false => rfl
  | true =>
   refine absurd ?_ hl
   unfold liveL natI
   exact List.mem_map.2 ⟨q, List.mem_filter.2 ⟨List.mem_range.2 hq, h⟩, rfl⟩
 have h := params_same (nb := f.nb) (n := f.nv) (ty := f.tyI) (blk := f.blk) (fun b hb => (block_ok hs hb).2) (fun b hb => (block_ok hs hb).1) (by have := (shaped_np (by rw [Bool.and_eq_true] at hs; exact hs.1)).2; omega) i.args.2 (i.arrays.2.map Prod.snd) q a hq hlb k
 exact h.symm

structure OutLit (o : OutM) (e v t s : Int) (l : List Int) (c : Nat → Int) : Prop where
 h : ∀ vt, outC vt o = #[.int .i64 e, .int .i64 v, .int .i64 t, vt, .int .i64 s, .int .i64 (c 0), .int .i64 (c 1), .int .i64 (c 2), .int .i64 (c 3), .int .i64 (c 4), .int .i64 (c 5), .int .i64 (c 6), .int .i64 (c 7)]
 tr : o.trace = l
 m : l.length ≤ 4096
theorem run_long {f : FuncM} {i : InputM} {w : World} (h : RunOK w f i) (k : Nat) : (runOf f i k).trace.length ≤ 4096 :=
 (run_inv (s := beginM f.nv f.tyI i.args.2 (i.arrays.2.map Prod.snd)) h.phi h.ok h.num ⟨h.good, Nat.le_refl _, h.nb, Nat.zero_le _⟩ k).good.t
theorem out_lit {f : FuncM} {i : InputM} {w : World} (h : RunOK w f i) (k : Nat) : ∃ e v t s l c, OutLit (runOf f i k) e v t s l c :=
 ⟨_, _, _, _, _, fun q => ((runOf f i k).checks[q]! : Nat), fun _ => rfl, rfl, run_long h k⟩
theorem run_lit (f : FuncM) (i : InputM) (k : Nat) (w : World) (h : RunOK w f i) (hk : k ≤ 50000) {o : OutM} (hro : runOf f i k = o) {e v t s : Int} {l : List Int} {c : Nat → Int} (ho : OutLit o e v t s l c) : Calls Tryd.prog 26 #[f.val, i.val, .int .i64 (k : Nat)] w fun x w' => (∃ ta tc, x = .returned (.agg #[.int .i64 e, .int .i64 v, .int .i64 t, .slice ta l.length tc, .int .i64 s, .int .i64 (c 0), .int .i64 (c 1), .int .i64 (c 2), .int .i64 (c 3), .int .i64 (c 4), .int .i64 (c 5), .int .i64 (c 6), .int .i64 (c 7)]) ∧ Row w' 1 (.slice ta l.length tc) (l.map intCells)) ∧ Keeps w w' [] :=
 (run_any f i k w h hk).mono fun x w' ⟨vt, h1, h2, h3, _⟩ => by
  rw [hro, ho.tr] at h2
  rw [hro, ho.h] at h1
  obtain ⟨ta, tc, e1, r⟩ := h2
  rw [List.length_map] at e1
  subst e1
  exact ⟨⟨ta, tc, h1, ⟨ta, tc, by rw [List.length_map], r⟩⟩, h3⟩

set_option maxRecDepth 100000 in
set_option maxHeartbeats 200000000 in
theorem walkLiveParams (f : FuncM) (i : InputM) (other : ArgM) (m : Nat) (w : World) (ht : TabsL w) (hf : FuncAt w f) (hi : InputAt w i) (hn : NumsOK f i) (ho : inI other.int = true) (hm : m < 65536) : Calls Tryd.prog 6 #[f.val, i.val, other.val, .int .u16 (m : Nat)] w fun e w' => e = .returned (.bool true) ∧ Keeps w w' [] := by
 have CL := kept (fun W h => lives14_any W h)
 have CSL := kept (fun W h1 h2 => slot21_any f W h1 h2)
 have CSM := kept (fun W h => small_any i W h)
 have CRT := kept (fun hp h1 h2 W hF hI => right_any f i W hF hI hp h1 h2)
 have CAT := kept (fun (hq : fewB f = true) W h1 h2 => at22_any f 0 0 W h1 h2 (fewB_p hq))
 have HT := kept ht
 have HF := kept hf
 have HI := kept hi
 have HNU := kept hn
 have HOI := kept ho
 have HFW := kept (fun (hq : fewB f = true) => fewB_p hq)
 have HAY := kept (fun h : (shapedB f && slotB f) = true ∧ PlaceOK f 0 0 => show atL f 0 0 = liveL f 0 0 by unfold atL; rw [if_pos h]; rfl)
 obtain ⟨a0, c0, e0, -, -, -⟩ := hf.vars.open_
 obtain ⟨a1, c1, e1, -, -, -⟩ := (show Row w 1 f.params.1 (f.params.2.map intCells) from hf.params).open_
 obtain ⟨a2, c2, e2, -, -, -⟩ := hf.blocks.open_
 obtain ⟨b0, d0, g0, -, -, hd0⟩ := hi.args.open_
 obtain ⟨b1, d1, g1, -, -, -⟩ := hi.arrays.open_
 have HD0 := kept hd0
 have hval : f.val = .agg #[.slice a0 f.nv c0, .slice a1 f.np c1, .slice a2 f.nb c2] := by unfold FuncM.val FuncM.nv FuncM.np FuncM.nb; rw [e0, e1, e2]
 have hvi : i.val = .agg #[.slice b0 i.args.2.length d0, .slice b1 i.arrays.2.length d1] := by unfold InputM.val; rw [g0, g1]
 have HGI := kept (And.intro g0 g1)
 have HVF := kept hval
 unfold ArgM.val
 rw [hval] at CSL CRT CAT
 rw [hvi] at CSM CRT
 rw [hval, hvi]
 clear hval hvi e0 e1 e2 g0 g1 ht hf hi hn ho hd0
 generalize hna : i.args.2.length = na at *
 generalize hnr : i.arrays.2.length = nr at *
 have HNA := kept hna
 have HNR := kept hnr
 clear hna hnr
 have hk0 : Keeps w (w.alloc (.cells #[.slice a0 f.nv c0, .slice a1 f.np c1, .slice a2 f.nb c2] 26)) [] := (Keeps.refl _ []).alloc _
 have bb0 := Blk.new w 26 #[.slice a0 f.nv c0, .slice a1 f.np c1, .slice a2 f.nb c2]
 have hk1 : Keeps (w.alloc (.cells #[.slice a0 f.nv c0, .slice a1 f.np c1, .slice a2 f.nb c2] 26)) ((w.alloc (.cells #[.slice a0 f.nv c0, .slice a1 f.np c1, .slice a2 f.nb c2] 26)).alloc (.cells #[.slice b0 na d0, .slice b1 nr d1] 53)) [] := (Keeps.refl _ []).alloc _
 have bb1 := Blk.new (w.alloc (.cells #[.slice a0 f.nv c0, .slice a1 f.np c1, .slice a2 f.nb c2] 26)) 53 #[.slice b0 na d0, .slice b1 nr d1]
 rw [show (w.alloc (.cells #[.slice a0 f.nv c0, .slice a1 f.np c1, .slice a2 f.nb c2] 26)).heap.size = w.heap.size + 1 by show (Array.push _ _).size = _; simp [Array.size_push]] at bb1
 have hk2 : Keeps ((w.alloc (.cells #[.slice a0 f.nv c0, .slice a1 f.np c1, .slice a2 f.nb c2] 26)).alloc (.cells #[.slice b0 na d0, .slice b1 nr d1] 53)) (((w.alloc (.cells #[.slice a0 f.nv c0, .slice a1 f.np c1, .slice a2 f.nb c2] 26)).alloc (.cells #[.slice b0 na d0, .slice b1 nr d1] 53)).alloc (.cells #[.int .i64 other.int, .bool other.bool, .int .i64 other.arr] 55)) [] := (Keeps.refl _ []).alloc _
 have bb2 := Blk.new ((w.alloc (.cells #[.slice a0 f.nv c0, .slice a1 f.np c1, .slice a2 f.nb c2] 26)).alloc (.cells #[.slice b0 na d0, .slice b1 nr d1] 53)) 55 #[.int .i64 other.int, .bool other.bool, .int .i64 other.arr]
 rw [show ((w.alloc (.cells #[.slice a0 f.nv c0, .slice a1 f.np c1, .slice a2 f.nb c2] 26)).alloc (.cells #[.slice b0 na d0, .slice b1 nr d1] 53)).heap.size = w.heap.size + 2 by show (Array.push _ _).size = _; simp [Array.size_push]] at bb2
 have Bl := kept ((bb0.keep hk1 (by simp)).keep hk2 (by simp))
 have Bm := kept (bb1.keep hk2 (by simp))
 have Bo := kept bb2
 have HK := kept ((hk0.and_then hk1).and_then hk2)
 obtain ⟨l0, l1, l2⟩ := Bl.out.c3
 obtain ⟨m0, m1⟩ := Bm.out.c2
 obtain ⟨o0, o1, o2⟩ := Bo.out.c3
 simp at l0 l1 l2 m0 m1 o0 o1 o2
 clear hk0 hk1 hk2 bb0 bb1 bb2
 go_enter Tryd.func6, Tryd.ntmps6
 cases hSB : (fewB f && (shapedB f && slotB f)) with
 | false =>
  rw [hSB] at CSL
  clear hSB
  go_wp2_with (first | (go_at_call 20; refine (CL.out _ (HT.out.keep HK.out)).mono ?_; rintro e w3 ⟨rfl, k3⟩; clear l0 l1 l2 m0 m1 o0 o1 o2; replace Bl := kept (Bl.out.keep k3 (by simp)); replace Bm := kept (Bm.out.keep k3 (by simp)); replace Bo := kept (Bo.out.keep k3 (by simp)); replace HK := kept (HK.out.and_then k3); obtain ⟨l0, l1, l2⟩ := Bl.out.c3; obtain ⟨m0, m1⟩ := Bm.out.c2; obtain ⟨o0, o1, o2⟩ := Bo.out.c3; simp at l0 l1 l2 m0 m1 o0 o1 o2; clear k3) | (go_at_call 21; refine (CSL.out _ (HT.out.keep HK.out).tabs (HF.out.keep HK.out)).mono ?_; rintro e w3 ⟨rfl, k3⟩; clear l0 l1 l2 m0 m1 o0 o1 o2; replace Bl := kept (Bl.out.keep k3 (by simp)); replace Bm := kept (Bm.out.keep k3 (by simp)); replace Bo := kept (Bo.out.keep k3 (by simp)); replace HK := kept (HK.out.and_then k3); obtain ⟨l0, l1, l2⟩ := Bl.out.c3; obtain ⟨m0, m1⟩ := Bm.out.c2; obtain ⟨o0, o1, o2⟩ := Bo.out.c3; simp at l0 l1 l2 m0 m1 o0 o1 o2; clear k3))
  go_ret
  exact ⟨rfl, HK.out⟩
 | true =>
  rw [hSB] at CSL
  have HQ9 : Hid (fewB f = true) := by rw [Bool.and_eq_true] at hSB; exact hSB.1
  have HS9 : Hid ((shapedB f && slotB f) = true) := by rw [Bool.and_eq_true] at hSB; exact hSB.2
  clear hSB
  have hnp9 := (shaped_np (show shapedB f = true by have := HS9.out; rw [Bool.and_eq_true] at this; exact this.1)).1
  have HNPV := kept hnp9
  clear hnp9
  cases hSM : smallB i with
  | false =>
   rw [hSM] at CSM
   clear hSM
   go_wp2_with (first | (go_at_call 20; refine (CL.out _ (HT.out.keep HK.out)).mono ?_; rintro e w3 ⟨rfl, k3⟩; clear l0 l1 l2 m0 m1 o0 o1 o2; replace Bl := kept (Bl.out.keep k3 (by simp)); replace Bm := kept (Bm.out.keep k3 (by simp)); replace Bo := kept (Bo.out.keep k3 (by simp)); replace HK := kept (HK.out.and_then k3); obtain ⟨l0, l1, l2⟩ := Bl.out.c3; obtain ⟨m0, m1⟩ := Bm.out.c2; obtain ⟨o0, o1, o2⟩ := Bo.out.c3; simp at l0 l1 l2 m0 m1 o0 o1 o2; clear k3) | (go_at_call 21; refine (CSL.out _ (HT.out.keep HK.out).tabs (HF.out.keep HK.out)).mono ?_; rintro e w3 ⟨rfl, k3⟩; clear l0 l1 l2 m0 m1 o0 o1 o2; replace Bl := kept (Bl.out.keep k3 (by simp)); replace Bm := kept (Bm.out.keep k3 (by simp)); replace Bo := kept (Bo.out.keep k3 (by simp)); replace HK := kept (HK.out.and_then k3); obtain ⟨l0, l1, l2⟩ := Bl.out.c3; obtain ⟨m0, m1⟩ := Bm.out.c2; obtain ⟨o0, o1, o2⟩ := Bo.out.c3; simp at l0 l1 l2 m0 m1 o0 o1 o2; clear k3) | (go_at_call 24; refine (CSM.out _ (HI.out.keep HK.out)).mono ?_; rintro e w3 ⟨rfl, k3⟩; clear l0 l1 l2 m0 m1 o0 o1 o2; replace Bl := kept (Bl.out.keep k3 (by simp)); replace Bm := kept (Bm.out.keep k3 (by simp)); replace Bo := kept (Bo.out.keep k3 (by simp)); replace HK := kept (HK.out.and_then k3); obtain ⟨l0, l1, l2⟩ := Bl.out.c3; obtain ⟨m0, m1⟩ := Bm.out.c2; obtain ⟨o0, o1, o2⟩ := Bo.out.c3; simp at l0 l1 l2 m0 m1 o0 o1 o2; clear k3))
   go_ret
   exact ⟨rfl, HK.out⟩
  | true =>
   rw [hSM] at CSM
   have hsm := hSM
   unfold smallB at hsm
   simp only [Bool.and_eq_true, decide_eq_true_eq] at hsm
   have h20 : na ≤ 20 := by have := hsm.1; have := HNA.out; omega
   have h40 : nr ≤ 40 := by have := hsm.2.1; have := HNR.out; omega
   clear hsm hSM
   by_cases hR : rightZ f i = 0
   ·have HRY := kept (right_yes hR)
    have hnp : na ≤ f.nv := by have h1 := HRY.out.1; rw [HNA.out] at h1; have := HNPV.out; omega
    have HOKW := kept (run_ok (w := w) HF.out HI.out HS9.out (HFW.out HQ9.out) HNU.out hR)
    have HRZ := kept hR
    rw [hR] at CRT
    clear hR
    have HATE := kept (HAY.out ⟨HS9.out, by refine ⟨Int.le_refl _, ?_, Int.le_refl _, by omega⟩; have := (shaped_np (show shapedB f = true by have := HS9.out; rw [Bool.and_eq_true] at this; exact this.1)).2; omega⟩)
    have CATQ := kept (CAT.out HQ9.out)
    clear CAT
    rw [HATE.out] at CATQ
    have hr1 := rem501 m hm
    have hr2 : IntKind.u16.wrap ((m % 501 : Nat) : Int) = ((m % 501 : Nat) : Int) := by rw [show IntKind.u16.wrap ((m % 501 : Nat) : Int) = ((m % 501 : Nat) : Int) % 65536 from rfl]; omega
    have hr3 : IntKind.i64.wrap ((m % 501 : Nat) : Int) = ((m % 501 : Nat) : Int) := IntWalk.i64_in _ (by omega)
    have HKB := kept (show m % 501 ≤ 500 by omega)
    generalize m % 501 = kk at *
    obtain ⟨e9, v9, t9, s9, l9, cf, hol⟩ := out_lit HOKW.out kk
    have HOL := kept hol
    have CRK := kept (fun W h => run_lit f i kk W h (by have := HKB.out; omega) rfl hol)
    have CRP := kept (fun (vn : Value) (q : Nat) (hq : q < f.nv) (hl : ¬ (q : Int) ∈ liveL f 0 0) (hq2 : q < i.args.2.length) W h => run_lit f (i.put vn q other) kk W h (by have := HKB.out; omega) (same_out HS9.out (HFW.out HQ9.out) vn q other kk hq hl hq2) hol)
    have CSA := kept (fun va vb W h1 h2 => same_yes l9 va vb e9 v9 t9 s9 cf W h1 h2 hol.m)
    clear hol
    rw [HVF.out] at CRK CRP
    rw [show i.val = .agg #[.slice b0 na d0, .slice b1 nr d1] by unfold InputM.val; rw [HGI.out.1, HGI.out.2]] at CRK
    generalize cf 0 = x0 at *
    generalize cf 1 = x1 at *
    generalize cf 2 = x2 at *
    generalize cf 3 = x3 at *
    generalize cf 4 = x4 at *
    generalize cf 5 = x5 at *
    generalize cf 6 = x6 at *
    generalize cf 7 = x7 at *
    go_upto_region 6 with (first | (go_at_call 20; refine (CL.out _ (HT.out.keep HK.out)).mono ?_; rintro e w3 ⟨rfl, k3⟩; clear l0 l1 l2 m0 m1 o0 o1 o2; replace Bl := kept (Bl.out.keep k3 (by simp)); replace Bm := kept (Bm.out.keep k3 (by simp)); replace Bo := kept (Bo.out.keep k3 (by simp)); replace HK := kept (HK.out.and_then k3); obtain ⟨l0, l1, l2⟩ := Bl.out.c3; obtain ⟨m0, m1⟩ := Bm.out.c2; obtain ⟨o0, o1, o2⟩ := Bo.out.c3; simp at l0 l1 l2 m0 m1 o0 o1 o2; clear k3) | (go_at_call 21; refine (CSL.out _ (HT.out.keep HK.out).tabs (HF.out.keep HK.out)).mono ?_; rintro e w3 ⟨rfl, k3⟩; clear l0 l1 l2 m0 m1 o0 o1 o2; replace Bl := kept (Bl.out.keep k3 (by simp)); replace Bm := kept (Bm.out.keep k3 (by simp)); replace Bo := kept (Bo.out.keep k3 (by simp)); replace HK := kept (HK.out.and_then k3); obtain ⟨l0, l1, l2⟩ := Bl.out.c3; obtain ⟨m0, m1⟩ := Bm.out.c2; obtain ⟨o0, o1, o2⟩ := Bo.out.c3; simp at l0 l1 l2 m0 m1 o0 o1 o2; clear k3) | (go_at_call 24; refine (CSM.out _ (HI.out.keep HK.out)).mono ?_; rintro e w3 ⟨rfl, k3⟩; clear l0 l1 l2 m0 m1 o0 o1 o2; replace Bl := kept (Bl.out.keep k3 (by simp)); replace Bm := kept (Bm.out.keep k3 (by simp)); replace Bo := kept (Bo.out.keep k3 (by simp)); replace HK := kept (HK.out.and_then k3); obtain ⟨l0, l1, l2⟩ := Bl.out.c3; obtain ⟨m0, m1⟩ := Bm.out.c2; obtain ⟨o0, o1, o2⟩ := Bo.out.c3; simp at l0 l1 l2 m0 m1 o0 o1 o2; clear k3) | (go_at_call 25; refine (CRT.out HNPV.out (by omega) (by omega) _ (HF.out.keep HK.out) (HI.out.keep HK.out)).mono ?_; rintro e w3 ⟨rfl, k3⟩; clear l0 l1 l2 m0 m1 o0 o1 o2; replace Bl := kept (Bl.out.keep k3 (by simp)); replace Bm := kept (Bm.out.keep k3 (by simp)); replace Bo := kept (Bo.out.keep k3 (by simp)); replace HK := kept (HK.out.and_then k3); obtain ⟨l0, l1, l2⟩ := Bl.out.c3; obtain ⟨m0, m1⟩ := Bm.out.c2; obtain ⟨o0, o1, o2⟩ := Bo.out.c3; simp at l0 l1 l2 m0 m1 o0 o1 o2; clear k3) | (go_at_call 22; refine (CATQ.out _ (HT.out.keep HK.out) (HF.out.keep HK.out)).mono ?_; rintro e w3 ⟨⟨lq, rfl, hlq, hil⟩, k3⟩; have HLQ := kept hlq; have HIL := kept hil; clear hlq hil; clear l0 l1 l2 m0 m1 o0 o1 o2; replace Bl := kept (Bl.out.keep k3 (by simp)); replace Bm := kept (Bm.out.keep k3 (by simp)); replace Bo := kept (Bo.out.keep k3 (by simp)); replace HK := kept (HK.out.and_then k3); obtain ⟨l0, l1, l2⟩ := Bl.out.c3; obtain ⟨m0, m1⟩ := Bm.out.c2; obtain ⟨o0, o1, o2⟩ := Bo.out.c3; simp at l0 l1 l2 m0 m1 o0 o1 o2; clear k3) | (go_at_call 26; refine (CRK.out _ (HOKW.out.keep HK.out)).mono ?_; rintro e w3 ⟨⟨ta, tc, rfl, hrow⟩, k3⟩; have HRW := kept hrow; replace HIL := kept (Row.keep HIL.out k3); clear hrow; clear l0 l1 l2 m0 m1 o0 o1 o2; replace Bl := kept (Bl.out.keep k3 (by simp)); replace Bm := kept (Bm.out.keep k3 (by simp)); replace Bo := kept (Bo.out.keep k3 (by simp)); replace HK := kept (HK.out.and_then k3); obtain ⟨l0, l1, l2⟩ := Bl.out.c3; obtain ⟨m0, m1⟩ := Bm.out.c2; obtain ⟨o0, o1, o2⟩ := Bo.out.c3; simp at l0 l1 l2 m0 m1 o0 o1 o2; clear k3))
    have kr : Keeps w3 (w3.alloc (.cells #[.int .i64 e9, .int .i64 v9, .int .i64 t9, .slice ta l9.length tc, .int .i64 s9, .int .i64 x0, .int .i64 x1, .int .i64 x2, .int .i64 x3, .int .i64 x4, .int .i64 x5, .int .i64 x6, .int .i64 x7] 63)) [] := (Keeps.refl w3 []).alloc _
    replace HRW := kept (Row.keep HRW.out kr)
    replace HIL := kept (Row.keep HIL.out kr)
    clear kr
    clear l0 l1 l2 m0 m1 o0 o1 o2
    have bmx := Blk.new w3 63 #[.int .i64 e9, .int .i64 v9, .int .i64 t9, .slice ta l9.length tc, .int .i64 s9, .int .i64 x0, .int .i64 x1, .int .i64 x2, .int .i64 x3, .int .i64 x4, .int .i64 x5, .int .i64 x6, .int .i64 x7]
    have k3 : Keeps w3 (w3.alloc (.cells #[.int .i64 e9, .int .i64 v9, .int .i64 t9, .slice ta l9.length tc, .int .i64 s9, .int .i64 x0, .int .i64 x1, .int .i64 x2, .int .i64 x3, .int .i64 x4, .int .i64 x5, .int .i64 x6, .int .i64 x7] 63)) [] := (Keeps.refl w3 []).alloc _
    replace Bl := kept (Bl.out.keep k3 (by simp))
    replace Bm := kept (Bm.out.keep k3 (by simp))
    replace Bo := kept (Bo.out.keep k3 (by simp))
    replace HK := kept (HK.out.and_then k3)
    clear k3
    have Br := kept bmx
    clear bmx
    obtain ⟨l0, l1, l2⟩ := Bl.out.c3
    obtain ⟨m0, m1⟩ := Bm.out.c2
    obtain ⟨o0, o1, o2⟩ := Bo.out.c3
    obtain ⟨r0, r1, r2, r3, r4, r5, r6, r7, r8, r9, r10, r11, r12⟩ := Br.out.c13
    simp at l0 l1 l2 m0 m1 o0 o1 o2 r0 r1 r2 r3 r4 r5 r6 r7 r8 r9 r10 r11 r12
    clear l0 l1 l2 m0 m1 o0 o1 o2 r0 r1 r2 r3 r4 r5 r6 r7 r8 r9 r10 r11 r12
    generalize (w3.alloc (.cells #[.int .i64 e9, .int .i64 v9, .int .i64 t9, .slice ta l9.length tc, .int .i64 s9, .int .i64 x0, .int .i64 x1, .int .i64 x2, .int .i64 x3, .int .i64 x4, .int .i64 x5, .int .i64 x6, .int .i64 x7] 63)) = W1 at *
    have Bl_W1 := Bl
    have Bm_W1 := Bm
    have Bo_W1 := Bo
    have Br_W1 := Br
    have TW1 := HK
    clear HK
    have HK := kept (Keeps.refl W1 [])
    obtain ⟨l0, l1, l2⟩ := Bl.out.c3
    obtain ⟨m0, m1⟩ := Bm.out.c2
    obtain ⟨o0, o1, o2⟩ := Bo.out.c3
    obtain ⟨r0, r1, r2, r3, r4, r5, r6, r7, r8, r9, r10, r11, r12⟩ := Br.out.c13
    simp at l0 l1 l2 m0 m1 o0 o1 o2 r0 r1 r2 r3 r4 r5 r6 r7 r8 r9 r10 r11 r12
    obtain ⟨xa, xc, ex, -, -, hxc⟩ := Row.open_ (M := Int) (cells := intCells) (show Row W1 1 lq.1 (lq.2.map intCells) from HIL.out)
    have HXC := kept hxc
    rw [ex]
    have hnlb : lq.2.length ≤ 1000 := by rw [HLQ.out]; unfold liveL natI; rw [List.length_map]; have := List.length_filter_le (fun v => liveB f.blk v 0 0) (List.range f.nv); rw [List.length_range] at this; have := (HFW.out HQ9.out).nv; omega
    clear hxc ex
    generalize hnl : lq.2.length = nl at *
    have HNL := kept hnl
    clear hnl
    go_wp2
    go_loopw [49] (fun i' wr => ∃ q : Nat, q ≤ na ∧ i' = .int .i64 q ∧ Keeps W1 wr []) (fun i' _ => na - (intOf i').toNat)
    case atStart => exact ⟨0, Nat.zero_le _, rfl, HK.out⟩
    case round =>
     obtain ⟨q, hq, rfl, hr⟩ := hrel
     clear l0 l1 l2 m0 m1 o0 o1 o2 r0 r1 r2 r3 r4 r5 r6 r7 r8 r9 r10 r11 r12
     clear Bl Bm Bo Br HK
     have HK := kept hr
     have Bl := kept (Bl_W1.out.keep hr (by simp))
     have Bm := kept (Bm_W1.out.keep hr (by simp))
     have Bo := kept (Bo_W1.out.keep hr (by simp))
     have Br := kept (Br_W1.out.keep hr (by simp))
     clear hr
     obtain ⟨l0, l1, l2⟩ := Bl.out.c3
     obtain ⟨m0, m1⟩ := Bm.out.c2
     obtain ⟨o0, o1, o2⟩ := Bo.out.c3
     obtain ⟨r0, r1, r2, r3, r4, r5, r6, r7, r8, r9, r10, r11, r12⟩ := Br.out.c13
     simp at l0 l1 l2 m0 m1 o0 o1 o2 r0 r1 r2 r3 r4 r5 r6 r7 r8 r9 r10 r11 r12
     by_cases hlt : q < na
     ·have hltz : (q : Int) < (na : Int) := by omega
      go_wp2
      go_loopw [13, 54] (fun b' j' wx => ∃ j : Nat, j ≤ nl ∧ j' = .int .i64 j ∧ b' = .bool ((lq.2.take j).contains (q : Int)) ∧ wr = wx) (fun _ j' _ => nl - (intOf j').toNat)
      case atStart => exact ⟨0, Nat.zero_le _, rfl, by simp, rfl⟩
      case round =>
       obtain ⟨j, hj, rfl, rfl, rfl⟩ := hrel
       by_cases hlj : j < nl
       ·have hljz : (j : Int) < (nl : Int) := by omega
        obtain ⟨bb, off, rfl, hbl, hcell⟩ := HXC.out j hlj
        have n0 := HK.out.cellOf (hcell 0 _ rfl)
        simp only [Nat.mul_one, Nat.add_zero] at n0
        clear hcell HXC
        have HTK := kept (show (lq.2.take (j + 1)).contains (q : Int) = ((lq.2.take j).contains (q : Int) || (lq.2[j]! == (q : Int))) from take_contains _ _ (by rw [HNL.out]; exact hlj) _)
        generalize lq.2[j]! = z at *
        generalize hbj : (lq.2.take j).contains (q : Int) = bj at *
        clear hbj
        cases bj
        ·go_wp2
         go_roundw
         case rel => exact ⟨j + 1, by omega, by go_num, by rw [HTK.out]; simp, by first | rfl | trivial⟩
         case measure => simp [intOf]; omega
        ·go_wp2
         go_roundw
         case rel => exact ⟨j + 1, by omega, by go_num, by rw [HTK.out]; simp, by first | rfl | trivial⟩
         case measure => simp [intOf]; omega
       ·have hljz : ¬ (j : Int) < (nl : Int) := by omega
        have HCT := kept (show (lq.2.take j).contains (q : Int) = lq.2.contains (q : Int) by rw [show j = nl by omega, ← HNL.out, List.take_length])
        generalize hbj : (lq.2.take j).contains (q : Int) = bj at *
        clear hbj
        cases bj
        ·have HNI := kept (show ¬ (q : Int) ∈ liveL f 0 0 from fun hmm => by rw [← HLQ.out] at hmm; have h9 : lq.2.contains (q : Int) = true := List.contains_iff_mem.2 hmm; rw [← HCT.out] at h9; cases h9)
         clear HCT
         obtain ⟨ab, ao, rfl, hbl, -⟩ := HD0.out q hlt
         have HNW := kept (news_args (w := w) (i := i) (ab := ab) (ao := ao) (by rw [HNA.out]; exact HD0.out))
         have HNC := kept (show (argsC i.args.2).length = na * 3 by rw [argsC_len, HNA.out])
         obtain ⟨i55, hi5, he5⟩ := Option.map_eq_some_iff.1 info55
         simp only [Prod.mk.injEq] at he5
         obtain ⟨hz5, hs5, hb5⟩ := he5
         have HON := kept (show ∀ u ∈ argsC i.args.2, u.oneCell' = true from fun u hu => by unfold argsC at hu; obtain ⟨l, hl, hu⟩ := List.mem_flatten.1 hu; obtain ⟨a, _, rfl⟩ := List.mem_map.1 hl; simp [ArgM.cells] at hu; rcases hu with rfl | rfl | rfl <;> rfl)
         have hwsz := HK.out.size
         have hwm := Bm.out.lt
         have HLTA := kept (show w.heap.size < wr.heap.size ∧ w.heap.size + 1 < wr.heap.size ∧ w.heap.size + 2 < wr.heap.size ∧ w3.heap.size < wr.heap.size from ⟨Bl.out.lt, Bm.out.lt, Bo.out.lt, Br.out.lt⟩)
         go_wp2_with (first | (at_builtin; go_must ((refine wpList_append_grows _ rfl (.tmp 66) (.tmp 68) 50 rfl 55 i55 (.agg #[.int .i64 0, .bool false, .int .i64 0]) 3 24 Tryd.underlying50 hi5 hz5 hs5 hb5 rfl (by decide) (some ⟨wr.heap.size, 0, none⟩) 0 0 [] rfl (fun h => by cases h) rfl (fun b hb j u hu => by simp at hu) ⟨ab, ao, none⟩ na d0 (argsC i.args.2) rfl HNC.out (fun j u hu => (Keeps.alloc (TW1.out.and_then HK.out) _).cellOf (HNW.out j u hu)) HON.out (by omega) (by unfold maxLen; omega) (by omega) ?_); intro v' w4 hown' hgrow'; rw [Nat.zero_add, List.nil_append] at hown'; have k3 : Keeps wr w4 [] := ((Keeps.refl wr []).alloc _).grown hgrow' (fun k hk => by cases hk); obtain ⟨ng, nc, rfl, hng, hnob, hncell, hnfz⟩ := own_cellN hown' (by omega); have HOW := kept (own_mono hown' (show wr.heap.size ≤ (wr.alloc (.cells #[] 55)).heap.size by rw [size_alloc1]; omega)); have HNG := kept (show wr.heap.size ≤ ng by rw [size_alloc1] at hng; omega); have HNO := kept hnob; have hne1 : ¬ ng = w.heap.size + 1 := (by have := HNG.out; omega); have g0 := hncell (q * 3) (by omega); have g1 := hncell (q * 3 + 1) (by omega); have g2 := hncell (q * 3 + 2) (by omega); have HAT := kept (fun i2 (h2 : i2 < 3) => argsC_at i.args.2 q i2 (by rw [HNA.out]; exact hlt) h2); rw [show (argsC i.args.2)[q * 3]? = some (.int .i64 i.args.2[q]!.int) from HAT.out 0 (by decide)] at g0; rw [show (argsC i.args.2)[q * 3 + 1]? = some (.bool i.args.2[q]!.bool) from HAT.out 1 (by decide)] at g1; rw [show (argsC i.args.2)[q * 3 + 2]? = some (.int .i64 i.args.2[q]!.arr) from HAT.out 2 (by decide)] at g2; have y0 := hnfz (q * 3); have y1 := hnfz (q * 3 + 1); have y2 := hnfz (q * 3 + 2); clear hown' hgrow' hncell hnfz hnob hng; clear l0 l1 l2 m0 m1 o0 o1 o2 r0 r1 r2 r3 r4 r5 r6 r7 r8 r9 r10 r11 r12; replace Bl := kept (Bl.out.keep k3 (by simp)); replace Bm := kept (Bm.out.keep k3 (by simp)); replace Bo := kept (Bo.out.keep k3 (by simp)); replace Br := kept (Br.out.keep k3 (by simp)); replace HK := kept (HK.out.and_then k3); obtain ⟨l0, l1, l2⟩ := Bl.out.c3; obtain ⟨m0, m1⟩ := Bm.out.c2; obtain ⟨o0, o1, o2⟩ := Bo.out.c3; obtain ⟨r0, r1, r2, r3, r4, r5, r6, r7, r8, r9, r10, r11, r12⟩ := Br.out.c13; simp at l0 l1 l2 m0 m1 o0 o1 o2 r0 r1 r2 r3 r4 r5 r6 r7 r8 r9 r10 r11 r12)))
         have kX : Keeps w4 (((w4.setCell ⟨ng, q * 3, none⟩ (.int .i64 other.int)).setCell ⟨ng, q * 3 + 1, none⟩ (.bool other.bool)).setCell ⟨ng, q * 3 + 2, none⟩ (.int .i64 other.arr)) [ng] := ((((Keeps.refl w4 [ng]).setCell (.inl (by simp)) _).setCell (.inl (by simp)) _).setCell (.inl (by simp)) _)
         have h9 := own_setN (own_setN (own_setN HOW.out HNO.out (q * 3) (.int .i64 other.int)) HNO.out (q * 3 + 1) (.bool other.bool)) HNO.out (q * 3 + 2) (.int .i64 other.arr)
         rw [argsC_set i.args.2 q other (by rw [HNA.out]; exact hlt)] at h9
         have HROW := kept (row_argsC h9 (by rw [List.length_set]; exact HNA.out))
         clear h9 HOW g0 g1 g2 y0 y1 y2 k3 HAT
         have HW1 := kept (show W1.heap.size ≤ ng by have := HNG.out; omega)
         clear l0 l1 l2 m0 m1 o0 o1 o2 r0 r1 r2 r3 r4 r5 r6 r7 r8 r9 r10 r11 r12
         have hwl := Bl.out.lt
         have hwo := Bo.out.lt
         have hwr := Br.out.lt
         have hwmm := Bm.out.lt
         have HLT4 := kept (show w.heap.size < wr.heap.size ∧ w.heap.size + 1 < wr.heap.size ∧ w.heap.size + 2 < wr.heap.size ∧ w3.heap.size < wr.heap.size from HLTA.out)
         have hng2 := HNG.out
         have hlt4 := HLT4.out
         replace Bl := kept (Bl.out.keep kX (by simp; omega))
         replace Bm := kept (Bm.out.keep kX (by simp; omega))
         replace Bo := kept (Bo.out.keep kX (by simp; omega))
         replace Br := kept (Br.out.keep kX (by simp; omega))
         replace HK := kept (keeps_mine HK.out kX HW1.out)
         clear kX hwl hwo hwr hwmm hlt4
         have hsz4 : (((w4.setCell ⟨ng, q * 3, none⟩ (.int .i64 other.int)).setCell ⟨ng, q * 3 + 1, none⟩ (.bool other.bool)).setCell ⟨ng, q * 3 + 2, none⟩ (.int .i64 other.arr)).heap.size = w4.heap.size := by simp [World.setCell]
         generalize (((w4.setCell ⟨ng, q * 3, none⟩ (.int .i64 other.int)).setCell ⟨ng, q * 3 + 1, none⟩ (.bool other.bool)).setCell ⟨ng, q * 3 + 2, none⟩ (.int .i64 other.arr)) = X at *
         rw [← hsz4]
         clear hsz4
         obtain ⟨l0, l1, l2⟩ := Bl.out.c3
         obtain ⟨m0, m1⟩ := Bm.out.c2
         obtain ⟨o0, o1, o2⟩ := Bo.out.c3
         obtain ⟨r0, r1, r2, r3, r4, r5, r6, r7, r8, r9, r10, r11, r12⟩ := Br.out.c13
         simp at l0 l1 l2 m0 m1 o0 o1 o2 r0 r1 r2 r3 r4 r5 r6 r7 r8 r9 r10 r11 r12
         clear l0 l1 l2 m0 m1 o0 o1 o2 r0 r1 r2 r3 r4 r5 r6 r7 r8 r9 r10 r11 r12
         have bmx := Blk.new X 53 #[.slice (some ⟨ng, 0, none⟩) na nc, .slice b1 nr d1]
         have k3 : Keeps X (X.alloc (.cells #[.slice (some ⟨ng, 0, none⟩) na nc, .slice b1 nr d1] 53)) [] := (Keeps.refl X []).alloc _
         replace Bl := kept (Bl.out.keep k3 (by simp))
         replace Bm := kept (Bm.out.keep k3 (by simp))
         replace Bo := kept (Bo.out.keep k3 (by simp))
         replace Br := kept (Br.out.keep k3 (by simp))
         replace HK := kept (HK.out.and_then k3)
         clear k3
         have Bt := kept bmx
         clear bmx
         obtain ⟨l0, l1, l2⟩ := Bl.out.c3
         obtain ⟨m0, m1⟩ := Bm.out.c2
         obtain ⟨o0, o1, o2⟩ := Bo.out.c3
         obtain ⟨r0, r1, r2, r3, r4, r5, r6, r7, r8, r9, r10, r11, r12⟩ := Br.out.c13
         obtain ⟨t0, t1⟩ := Bt.out.c2
         simp at l0 l1 l2 m0 m1 o0 o1 o2 r0 r1 r2 r3 r4 r5 r6 r7 r8 r9 r10 r11 r12 t0 t1
         have HROW2 := kept (Row.keep HROW.out ((Keeps.refl X []).alloc (.cells #[.slice (some ⟨ng, 0, none⟩) na nc, .slice b1 nr d1] 53)))
         clear HROW
         clear l0 l1 l2 m0 m1 o0 o1 o2 r0 r1 r2 r3 r4 r5 r6 r7 r8 r9 r10 r11 r12 t0 t1
         generalize (X.alloc (.cells #[.slice (some ⟨ng, 0, none⟩) na nc, .slice b1 nr d1] 53)) = W2 at *
         have Bl_W2 := Bl
         have Bm_W2 := Bm
         have Bo_W2 := Bo
         have Br_W2 := Br
         have Bt_W2 := Bt
         have TW2 := HK
         clear HK
         have HK := kept (Keeps.refl W2 [])
         obtain ⟨l0, l1, l2⟩ := Bl.out.c3
         obtain ⟨m0, m1⟩ := Bm.out.c2
         obtain ⟨o0, o1, o2⟩ := Bo.out.c3
         obtain ⟨r0, r1, r2, r3, r4, r5, r6, r7, r8, r9, r10, r11, r12⟩ := Br.out.c13
         obtain ⟨t0, t1⟩ := Bt.out.c2
         simp at l0 l1 l2 m0 m1 o0 o1 o2 r0 r1 r2 r3 r4 r5 r6 r7 r8 r9 r10 r11 r12 t0 t1
         have HIP := kept (show InputAt W2 (i.put (.slice (some ⟨ng, 0, none⟩) na nc) q other) from ⟨HROW2.out, (HI.out.keep (TW1.out.and_then (TW2.out.and_then HK.out))).arrays, (HI.out.keep (TW1.out.and_then (TW2.out.and_then HK.out))).arr⟩)
         have HPV := kept (show (i.put (.slice (some ⟨ng, 0, none⟩) na nc) q other).val = .agg #[.slice (some ⟨ng, 0, none⟩) na nc, .slice b1 nr d1] by unfold InputM.val InputM.put; rw [HGI.out.2])
         have HPL := kept (show (i.put (.slice (some ⟨ng, 0, none⟩) na nc) q other).args.2.length = na by show (i.args.2.set q other).length = na; rw [List.length_set]; exact HNA.out)
         have CR2 := kept (fun W hF hI => right_any f (i.put (.slice (some ⟨ng, 0, none⟩) na nc) q other) W hF hI HNPV.out (by rw [HPL.out]; omega) (by show i.arrays.2.length ≤ 1000; rw [HNR.out]; omega))
         rw [HVF.out, HPV.out] at CR2
         by_cases hR2 : rightZ f (i.put (.slice (some ⟨ng, 0, none⟩) na nc) q other) = 0
         ·rw [hR2] at CR2
          have HNU2 := kept (show NumsOK f (i.put (.slice (some ⟨ng, 0, none⟩) na nc) q other) from ⟨HNU.out.f, fun x hx => (List.mem_or_eq_of_mem_set hx).elim (HNU.out.a x) (fun e => by rw [e]; exact HOI.out), HNU.out.e⟩)
          have HOK2 := kept (run_ok (w := W2) (HF.out.keep (TW1.out.and_then (TW2.out.and_then HK.out))) HIP.out HS9.out (HFW.out HQ9.out) HNU2.out hR2)
          have CP2 := kept (fun W h => CRP.out (.slice (some ⟨ng, 0, none⟩) na nc) q (by omega) HNI.out (by rw [HNA.out]; exact hlt) W h)
          rw [HPV.out] at CP2
          clear hR2
          refine wp_region_held_drew (S := (fun w' => w'.cell? ⟨w.heap.size, 0, none⟩ = some (.slice a0 f.nv c0) ∧ w'.cell? ⟨w.heap.size, 1, none⟩ = some (.slice a1 f.np c1) ∧ w'.cell? ⟨w.heap.size, 2, none⟩ = some (.slice a2 f.nb c2) ∧ w'.cell? ⟨w.heap.size + 1, 0, none⟩ = some (.slice (some ⟨ab, ao, none⟩) na d0) ∧ w'.cell? ⟨w.heap.size + 1, 1, none⟩ = some (.slice b1 nr d1) ∧ w'.cell? ⟨w.heap.size + 2, 0, none⟩ = some (.int .i64 other.int) ∧ w'.cell? ⟨w.heap.size + 2, 1, none⟩ = some (.bool other.bool) ∧ w'.cell? ⟨w.heap.size + 2, 2, none⟩ = some (.int .i64 other.arr) ∧ w'.cell? ⟨w3.heap.size, 0, none⟩ = some (.int .i64 e9) ∧ w'.cell? ⟨w3.heap.size, 1, none⟩ = some (.int .i64 v9) ∧ w'.cell? ⟨w3.heap.size, 2, none⟩ = some (.int .i64 t9) ∧ w'.cell? ⟨w3.heap.size, 3, none⟩ = some (.slice ta l9.length tc) ∧ w'.cell? ⟨w3.heap.size, 4, none⟩ = some (.int .i64 s9) ∧ w'.cell? ⟨w3.heap.size, 5, none⟩ = some (.int .i64 x0) ∧ w'.cell? ⟨w3.heap.size, 6, none⟩ = some (.int .i64 x1) ∧ w'.cell? ⟨w3.heap.size, 7, none⟩ = some (.int .i64 x2) ∧ w'.cell? ⟨w3.heap.size, 8, none⟩ = some (.int .i64 x3) ∧ w'.cell? ⟨w3.heap.size, 9, none⟩ = some (.int .i64 x4) ∧ w'.cell? ⟨w3.heap.size, 10, none⟩ = some (.int .i64 x5) ∧ w'.cell? ⟨w3.heap.size, 11, none⟩ = some (.int .i64 x6) ∧ w'.cell? ⟨w3.heap.size, 12, none⟩ = some (.int .i64 x7) ∧ w'.cell? ⟨X.heap.size, 0, none⟩ = some (.slice (some ⟨ng, 0, none⟩) na nc) ∧ w'.cell? ⟨X.heap.size, 1, none⟩ = some (.slice b1 nr d1))) (by kernel_rfl) ?ahSs (fun hHeld => ?_)
          case ahSs => exact ⟨l0, l1, l2, m0, m1, o0, o1, o2, r0, r1, r2, r3, r4, r5, r6, r7, r8, r9, r10, r11, r12, t0, t1⟩
          clear l0 l1 l2 m0 m1 o0 o1 o2 r0 r1 r2 r3 r4 r5 r6 r7 r8 r9 r10 r11 r12 t0 t1
          replace Bl := kept (Bl.out.keep ((Keeps.refl _ []).drew) (by simp))
          replace Bm := kept (Bm.out.keep ((Keeps.refl _ []).drew) (by simp))
          replace Bo := kept (Bo.out.keep ((Keeps.refl _ []).drew) (by simp))
          replace Br := kept (Br.out.keep ((Keeps.refl _ []).drew) (by simp))
          replace Bt := kept (Bt.out.keep ((Keeps.refl _ []).drew) (by simp))
          replace HK := kept (HK.out.drew)
          generalize World.drew _ = X0 at *
          obtain ⟨l0, l1, l2⟩ := Bl.out.c3
          obtain ⟨m0, m1⟩ := Bm.out.c2
          obtain ⟨o0, o1, o2⟩ := Bo.out.c3
          obtain ⟨r0, r1, r2, r3, r4, r5, r6, r7, r8, r9, r10, r11, r12⟩ := Br.out.c13
          obtain ⟨t0, t1⟩ := Bt.out.c2
          simp at l0 l1 l2 m0 m1 o0 o1 o2 r0 r1 r2 r3 r4 r5 r6 r7 r8 r9 r10 r11 r12 t0 t1
          refine tl 0 ⟨some 78, .load 26 (.tmp 4), 26, "law.go:96", #[], none⟩ rfl hHeld ?_
          refine tl 1 ⟨some 79, .load 53 (.tmp 17), 53, "law.go:96", #[], none⟩ rfl hHeld ?_
          refine wpAnyH_ready (rs := [2]) (by kernel_rfl) (by simp) ?_
          refine AllReadyH.cons (o := ⟨some 80, .call ⟨.value (.func 25), #[.tmp 78, .tmp 79], #[26, 53]⟩, 29, "law.go:96", #[⟨0, .data⟩, ⟨1, .data⟩], none⟩) rfl (fun K hK => ?_) AllReadyH.nil
          go_simp
          (with_reducible refine (CR2.out _ (HF.out.keep (TW1.out.and_then (TW2.out.and_then HK.out))) (HIP.out.keep HK.out)).mono ?_)
          rintro e wx ⟨rfl, k3⟩
          show K _ _
          clear hHeld
          clear l0 l1 l2 m0 m1 o0 o1 o2 r0 r1 r2 r3 r4 r5 r6 r7 r8 r9 r10 r11 r12 t0 t1
          replace Bl := kept (Bl.out.keep k3 (by simp))
          replace Bm := kept (Bm.out.keep k3 (by simp))
          replace Bo := kept (Bo.out.keep k3 (by simp))
          replace Br := kept (Br.out.keep k3 (by simp))
          replace Bt := kept (Bt.out.keep k3 (by simp))
          replace HK := kept (HK.out.and_then k3)
          obtain ⟨l0, l1, l2⟩ := Bl.out.c3
          obtain ⟨m0, m1⟩ := Bm.out.c2
          obtain ⟨o0, o1, o2⟩ := Bo.out.c3
          obtain ⟨r0, r1, r2, r3, r4, r5, r6, r7, r8, r9, r10, r11, r12⟩ := Br.out.c13
          obtain ⟨t0, t1⟩ := Bt.out.c2
          simp at l0 l1 l2 m0 m1 o0 o1 o2 r0 r1 r2 r3 r4 r5 r6 r7 r8 r9 r10 r11 r12 t0 t1
          clear k3
          refine hK.out _ _ ?ahS2 (fun hHeld => ?_)
          case ahS2 => exact ⟨l0, l1, l2, m0, m1, o0, o1, o2, r0, r1, r2, r3, r4, r5, r6, r7, r8, r9, r10, r11, r12, t0, t1⟩
          clear hK K
          try simp only [Act.put, sA, sB, sC]
          refine tl 3 ⟨some 81, .binOp BinOp.eql 29 (.tmp 80) (.const (Value.int IntKind.i64 0)) 29, 4, "law.go:96", #[⟨2, .data⟩], none⟩ rfl hHeld ?_
          refine tl 4 ⟨some 82, .move (.tmp 81), 4, "law.go:96", #[⟨3, .data⟩, ⟨2, .chain⟩], none⟩ rfl hHeld ?_
          refine tl 5 ⟨some 83, .load 63 (.tmp 11), 63, "law.go:96", #[⟨4, .guard⟩], some (4, true)⟩ rfl hHeld ?_
          refine tl 6 ⟨some 84, .load 26 (.tmp 4), 26, "law.go:96", #[⟨4, .guard⟩], some (4, true)⟩ rfl hHeld ?_
          refine tl 7 ⟨some 85, .load 53 (.tmp 17), 53, "law.go:96", #[⟨4, .guard⟩], some (4, true)⟩ rfl hHeld ?_
          refine tl 8 ⟨some 86, .move (.tmp 10), 3, "law.go:96", #[⟨4, .guard⟩], some (4, true)⟩ rfl hHeld ?_
          refine wpAnyH_ready (rs := [9]) (by kernel_rfl) (by simp) ?_
          refine AllReadyH.cons (o := ⟨some 87, .call ⟨.value (.func 26), #[.tmp 84, .tmp 85, .tmp 86], #[26, 53, 3]⟩, 63, "law.go:96", #[⟨6, .data⟩, ⟨7, .data⟩, ⟨8, .data⟩, ⟨4, .chain⟩, ⟨4, .guard⟩], some (4, true)⟩) rfl (fun K hK => ?_) AllReadyH.nil
          go_simp
          (with_reducible refine (CP2.out _ (HOK2.out.keep HK.out)).mono ?_)
          rintro e wx ⟨⟨ta2, tc2, rfl, hrow2⟩, k3⟩
          have HRW2 := kept hrow2
          clear hrow2
          show K _ _
          clear hHeld
          clear l0 l1 l2 m0 m1 o0 o1 o2 r0 r1 r2 r3 r4 r5 r6 r7 r8 r9 r10 r11 r12 t0 t1
          replace Bl := kept (Bl.out.keep k3 (by simp))
          replace Bm := kept (Bm.out.keep k3 (by simp))
          replace Bo := kept (Bo.out.keep k3 (by simp))
          replace Br := kept (Br.out.keep k3 (by simp))
          replace Bt := kept (Bt.out.keep k3 (by simp))
          replace HK := kept (HK.out.and_then k3)
          obtain ⟨l0, l1, l2⟩ := Bl.out.c3
          obtain ⟨m0, m1⟩ := Bm.out.c2
          obtain ⟨o0, o1, o2⟩ := Bo.out.c3
          obtain ⟨r0, r1, r2, r3, r4, r5, r6, r7, r8, r9, r10, r11, r12⟩ := Br.out.c13
          obtain ⟨t0, t1⟩ := Bt.out.c2
          simp at l0 l1 l2 m0 m1 o0 o1 o2 r0 r1 r2 r3 r4 r5 r6 r7 r8 r9 r10 r11 r12 t0 t1
          clear k3
          refine hK.out _ _ ?ahS9 (fun hHeld => ?_)
          case ahS9 => exact ⟨l0, l1, l2, m0, m1, o0, o1, o2, r0, r1, r2, r3, r4, r5, r6, r7, r8, r9, r10, r11, r12, t0, t1⟩
          clear hK K
          try simp only [Act.put, sA, sB, sC]
          refine wpAnyH_ready (rs := [10]) (by kernel_rfl) (by simp) ?_
          refine AllReadyH.cons (o := ⟨some 88, .call ⟨.value (.func 27), #[.tmp 83, .tmp 87], #[63, 63]⟩, 4, "law.go:96", #[⟨5, .data⟩, ⟨9, .data⟩, ⟨9, .chain⟩, ⟨4, .guard⟩], some (4, true)⟩) rfl (fun K hK => ?_) AllReadyH.nil
          go_simp
          (with_reducible refine (CSA.out _ _ _ (Row.keep HRW.out (TW2.out.and_then HK.out)) HRW2.out).mono ?_)
          rintro e wx ⟨rfl, k3⟩
          show K _ _
          clear hHeld
          clear l0 l1 l2 m0 m1 o0 o1 o2 r0 r1 r2 r3 r4 r5 r6 r7 r8 r9 r10 r11 r12 t0 t1
          replace Bl := kept (Bl.out.keep k3 (by simp))
          replace Bm := kept (Bm.out.keep k3 (by simp))
          replace Bo := kept (Bo.out.keep k3 (by simp))
          replace Br := kept (Br.out.keep k3 (by simp))
          replace Bt := kept (Bt.out.keep k3 (by simp))
          replace HK := kept (HK.out.and_then k3)
          obtain ⟨l0, l1, l2⟩ := Bl.out.c3
          obtain ⟨m0, m1⟩ := Bm.out.c2
          obtain ⟨o0, o1, o2⟩ := Bo.out.c3
          obtain ⟨r0, r1, r2, r3, r4, r5, r6, r7, r8, r9, r10, r11, r12⟩ := Br.out.c13
          obtain ⟨t0, t1⟩ := Bt.out.c2
          simp at l0 l1 l2 m0 m1 o0 o1 o2 r0 r1 r2 r3 r4 r5 r6 r7 r8 r9 r10 r11 r12 t0 t1
          clear k3
          refine hK.out _ _ ?ahS10 (fun hHeld => ?_)
          case ahS10 => exact ⟨l0, l1, l2, m0, m1, o0, o1, o2, r0, r1, r2, r3, r4, r5, r6, r7, r8, r9, r10, r11, r12, t0, t1⟩
          clear hK K
          try simp only [Act.put, sA, sB, sC]
          refine tl 11 ⟨some 89, .unOp UnOp.not 4 (.tmp 88), 4, "law.go:96", #[⟨10, .data⟩, ⟨4, .guard⟩], some (4, true)⟩ rfl hHeld ?_
          refine tl 12 ⟨some 90, .pick (.tmp 82) (.tmp 89) (.const (Value.bool false)), 4, "law.go:96", #[⟨4, .data⟩, ⟨11, .data⟩], none⟩ rfl hHeld ?_
          refine wpAnyH_done (by kernel_rfl) ?_ _
          clear hHeld
          go_wp2
          go_roundw
          case rel => exact ⟨q + 1, by omega, by go_num, (TW2.out.and_then HK.out)⟩
          case measure => simp [intOf]; omega
         ·have hR2b : (rightZ f (i.put (.slice (some ⟨ng, 0, none⟩) na nc) q other) == 0) = false := by simpa using hR2
          generalize rightZ f (i.put (.slice (some ⟨ng, 0, none⟩) na nc) q other) = rz at *
          clear hR2
          refine wp_region_held_drew (S := (fun w' => w'.cell? ⟨w.heap.size, 0, none⟩ = some (.slice a0 f.nv c0) ∧ w'.cell? ⟨w.heap.size, 1, none⟩ = some (.slice a1 f.np c1) ∧ w'.cell? ⟨w.heap.size, 2, none⟩ = some (.slice a2 f.nb c2) ∧ w'.cell? ⟨w.heap.size + 1, 0, none⟩ = some (.slice (some ⟨ab, ao, none⟩) na d0) ∧ w'.cell? ⟨w.heap.size + 1, 1, none⟩ = some (.slice b1 nr d1) ∧ w'.cell? ⟨w.heap.size + 2, 0, none⟩ = some (.int .i64 other.int) ∧ w'.cell? ⟨w.heap.size + 2, 1, none⟩ = some (.bool other.bool) ∧ w'.cell? ⟨w.heap.size + 2, 2, none⟩ = some (.int .i64 other.arr) ∧ w'.cell? ⟨w3.heap.size, 0, none⟩ = some (.int .i64 e9) ∧ w'.cell? ⟨w3.heap.size, 1, none⟩ = some (.int .i64 v9) ∧ w'.cell? ⟨w3.heap.size, 2, none⟩ = some (.int .i64 t9) ∧ w'.cell? ⟨w3.heap.size, 3, none⟩ = some (.slice ta l9.length tc) ∧ w'.cell? ⟨w3.heap.size, 4, none⟩ = some (.int .i64 s9) ∧ w'.cell? ⟨w3.heap.size, 5, none⟩ = some (.int .i64 x0) ∧ w'.cell? ⟨w3.heap.size, 6, none⟩ = some (.int .i64 x1) ∧ w'.cell? ⟨w3.heap.size, 7, none⟩ = some (.int .i64 x2) ∧ w'.cell? ⟨w3.heap.size, 8, none⟩ = some (.int .i64 x3) ∧ w'.cell? ⟨w3.heap.size, 9, none⟩ = some (.int .i64 x4) ∧ w'.cell? ⟨w3.heap.size, 10, none⟩ = some (.int .i64 x5) ∧ w'.cell? ⟨w3.heap.size, 11, none⟩ = some (.int .i64 x6) ∧ w'.cell? ⟨w3.heap.size, 12, none⟩ = some (.int .i64 x7) ∧ w'.cell? ⟨X.heap.size, 0, none⟩ = some (.slice (some ⟨ng, 0, none⟩) na nc) ∧ w'.cell? ⟨X.heap.size, 1, none⟩ = some (.slice b1 nr d1))) (by kernel_rfl) ?bhSs (fun hHeld => ?_)
          case bhSs => exact ⟨l0, l1, l2, m0, m1, o0, o1, o2, r0, r1, r2, r3, r4, r5, r6, r7, r8, r9, r10, r11, r12, t0, t1⟩
          clear l0 l1 l2 m0 m1 o0 o1 o2 r0 r1 r2 r3 r4 r5 r6 r7 r8 r9 r10 r11 r12 t0 t1
          replace Bl := kept (Bl.out.keep ((Keeps.refl _ []).drew) (by simp))
          replace Bm := kept (Bm.out.keep ((Keeps.refl _ []).drew) (by simp))
          replace Bo := kept (Bo.out.keep ((Keeps.refl _ []).drew) (by simp))
          replace Br := kept (Br.out.keep ((Keeps.refl _ []).drew) (by simp))
          replace Bt := kept (Bt.out.keep ((Keeps.refl _ []).drew) (by simp))
          replace HK := kept (HK.out.drew)
          generalize World.drew _ = X0 at *
          obtain ⟨l0, l1, l2⟩ := Bl.out.c3
          obtain ⟨m0, m1⟩ := Bm.out.c2
          obtain ⟨o0, o1, o2⟩ := Bo.out.c3
          obtain ⟨r0, r1, r2, r3, r4, r5, r6, r7, r8, r9, r10, r11, r12⟩ := Br.out.c13
          obtain ⟨t0, t1⟩ := Bt.out.c2
          simp at l0 l1 l2 m0 m1 o0 o1 o2 r0 r1 r2 r3 r4 r5 r6 r7 r8 r9 r10 r11 r12 t0 t1
          refine tl 0 ⟨some 78, .load 26 (.tmp 4), 26, "law.go:96", #[], none⟩ rfl hHeld ?_
          refine tl 1 ⟨some 79, .load 53 (.tmp 17), 53, "law.go:96", #[], none⟩ rfl hHeld ?_
          refine wpAnyH_ready (rs := [2]) (by kernel_rfl) (by simp) ?_
          refine AllReadyH.cons (o := ⟨some 80, .call ⟨.value (.func 25), #[.tmp 78, .tmp 79], #[26, 53]⟩, 29, "law.go:96", #[⟨0, .data⟩, ⟨1, .data⟩], none⟩) rfl (fun K hK => ?_) AllReadyH.nil
          go_simp
          (with_reducible refine (CR2.out _ (HF.out.keep (TW1.out.and_then (TW2.out.and_then HK.out))) (HIP.out.keep HK.out)).mono ?_)
          rintro e wx ⟨rfl, k3⟩
          show K _ _
          clear hHeld
          clear l0 l1 l2 m0 m1 o0 o1 o2 r0 r1 r2 r3 r4 r5 r6 r7 r8 r9 r10 r11 r12 t0 t1
          replace Bl := kept (Bl.out.keep k3 (by simp))
          replace Bm := kept (Bm.out.keep k3 (by simp))
          replace Bo := kept (Bo.out.keep k3 (by simp))
          replace Br := kept (Br.out.keep k3 (by simp))
          replace Bt := kept (Bt.out.keep k3 (by simp))
          replace HK := kept (HK.out.and_then k3)
          obtain ⟨l0, l1, l2⟩ := Bl.out.c3
          obtain ⟨m0, m1⟩ := Bm.out.c2
          obtain ⟨o0, o1, o2⟩ := Bo.out.c3
          obtain ⟨r0, r1, r2, r3, r4, r5, r6, r7, r8, r9, r10, r11, r12⟩ := Br.out.c13
          obtain ⟨t0, t1⟩ := Bt.out.c2
          simp at l0 l1 l2 m0 m1 o0 o1 o2 r0 r1 r2 r3 r4 r5 r6 r7 r8 r9 r10 r11 r12 t0 t1
          clear k3
          refine hK.out _ _ ?bhS2 (fun hHeld => ?_)
          case bhS2 => exact ⟨l0, l1, l2, m0, m1, o0, o1, o2, r0, r1, r2, r3, r4, r5, r6, r7, r8, r9, r10, r11, r12, t0, t1⟩
          clear hK K
          try simp only [Act.put, sA, sB, sC]
          refine tl 3 ⟨some 81, .binOp BinOp.eql 29 (.tmp 80) (.const (Value.int IntKind.i64 0)) 29, 4, "law.go:96", #[⟨2, .data⟩], none⟩ rfl hHeld ?_
          refine tl 4 ⟨some 82, .move (.tmp 81), 4, "law.go:96", #[⟨3, .data⟩, ⟨2, .chain⟩], none⟩ rfl hHeld ?_
          refine tu 5 ⟨some 83, .load 63 (.tmp 11), 63, "law.go:96", #[⟨4, .guard⟩], some (4, true)⟩ rfl hHeld ?_
          refine tu 6 ⟨some 84, .load 26 (.tmp 4), 26, "law.go:96", #[⟨4, .guard⟩], some (4, true)⟩ rfl hHeld ?_
          refine tu 7 ⟨some 85, .load 53 (.tmp 17), 53, "law.go:96", #[⟨4, .guard⟩], some (4, true)⟩ rfl hHeld ?_
          refine tu 8 ⟨some 86, .move (.tmp 10), 3, "law.go:96", #[⟨4, .guard⟩], some (4, true)⟩ rfl hHeld ?_
          refine tu 9 ⟨some 87, .call ⟨.value (.func 26), #[.tmp 84, .tmp 85, .tmp 86], #[26, 53, 3]⟩, 63, "law.go:96", #[⟨6, .data⟩, ⟨7, .data⟩, ⟨8, .data⟩, ⟨4, .chain⟩, ⟨4, .guard⟩], some (4, true)⟩ rfl hHeld ?_
          refine tu 10 ⟨some 88, .call ⟨.value (.func 27), #[.tmp 83, .tmp 87], #[63, 63]⟩, 4, "law.go:96", #[⟨5, .data⟩, ⟨9, .data⟩, ⟨9, .chain⟩, ⟨4, .guard⟩], some (4, true)⟩ rfl hHeld ?_
          refine tu 11 ⟨some 89, .unOp UnOp.not 4 (.tmp 88), 4, "law.go:96", #[⟨10, .data⟩, ⟨4, .guard⟩], some (4, true)⟩ rfl hHeld ?_
          refine tl 12 ⟨some 90, .pick (.tmp 82) (.tmp 89) (.const (Value.bool false)), 4, "law.go:96", #[⟨4, .data⟩, ⟨11, .data⟩], none⟩ rfl hHeld ?_
          refine wpAnyH_done (by kernel_rfl) ?_ _
          clear hHeld
          go_wp2
          go_roundw
          case rel => exact ⟨q + 1, by omega, by go_num, (TW2.out.and_then HK.out)⟩
          case measure => simp [intOf]; omega
        ·go_wp2
         go_roundw
         case rel => exact ⟨q + 1, by omega, by go_num, HK.out⟩
         case measure => simp [intOf]; omega
     ·have hltz : ¬ (q : Int) < (na : Int) := by omega
      go_wp2
      go_ret
      exact ⟨rfl, (TW1.out.and_then HK.out)⟩
   ·have HRQ : i.args.2.length = na := HNA.out
    have hRb : (rightZ f i == 0) = false := by simpa using hR
    generalize rightZ f i = rz at *
    clear hR
    go_wp2_with (first | (go_at_call 20; refine (CL.out _ (HT.out.keep HK.out)).mono ?_; rintro e w3 ⟨rfl, k3⟩; clear l0 l1 l2 m0 m1 o0 o1 o2; replace Bl := kept (Bl.out.keep k3 (by simp)); replace Bm := kept (Bm.out.keep k3 (by simp)); replace Bo := kept (Bo.out.keep k3 (by simp)); replace HK := kept (HK.out.and_then k3); obtain ⟨l0, l1, l2⟩ := Bl.out.c3; obtain ⟨m0, m1⟩ := Bm.out.c2; obtain ⟨o0, o1, o2⟩ := Bo.out.c3; simp at l0 l1 l2 m0 m1 o0 o1 o2; clear k3) | (go_at_call 21; refine (CSL.out _ (HT.out.keep HK.out).tabs (HF.out.keep HK.out)).mono ?_; rintro e w3 ⟨rfl, k3⟩; clear l0 l1 l2 m0 m1 o0 o1 o2; replace Bl := kept (Bl.out.keep k3 (by simp)); replace Bm := kept (Bm.out.keep k3 (by simp)); replace Bo := kept (Bo.out.keep k3 (by simp)); replace HK := kept (HK.out.and_then k3); obtain ⟨l0, l1, l2⟩ := Bl.out.c3; obtain ⟨m0, m1⟩ := Bm.out.c2; obtain ⟨o0, o1, o2⟩ := Bo.out.c3; simp at l0 l1 l2 m0 m1 o0 o1 o2; clear k3) | (go_at_call 24; refine (CSM.out _ (HI.out.keep HK.out)).mono ?_; rintro e w3 ⟨rfl, k3⟩; clear l0 l1 l2 m0 m1 o0 o1 o2; replace Bl := kept (Bl.out.keep k3 (by simp)); replace Bm := kept (Bm.out.keep k3 (by simp)); replace Bo := kept (Bo.out.keep k3 (by simp)); replace HK := kept (HK.out.and_then k3); obtain ⟨l0, l1, l2⟩ := Bl.out.c3; obtain ⟨m0, m1⟩ := Bm.out.c2; obtain ⟨o0, o1, o2⟩ := Bo.out.c3; simp at l0 l1 l2 m0 m1 o0 o1 o2; clear k3) | (go_at_call 25; refine (CRT.out (by have := HNPV.out; have := HRQ; omega) (by omega) (by omega) _ (HF.out.keep HK.out) (HI.out.keep HK.out)).mono ?_; rintro e w3 ⟨rfl, k3⟩; clear l0 l1 l2 m0 m1 o0 o1 o2; replace Bl := kept (Bl.out.keep k3 (by simp)); replace Bm := kept (Bm.out.keep k3 (by simp)); replace Bo := kept (Bo.out.keep k3 (by simp)); replace HK := kept (HK.out.and_then k3); obtain ⟨l0, l1, l2⟩ := Bl.out.c3; obtain ⟨m0, m1⟩ := Bm.out.c2; obtain ⟨o0, o1, o2⟩ := Bo.out.c3; simp at l0 l1 l2 m0 m1 o0 o1 o2; clear k3))
    go_ret
    exact ⟨rfl, HK.out⟩
end Go.Proofs.YtjllbchfojonhaaDoor
