/- A run's state in memory; an end; contracts. -/
import Derived.Test.YtjllbchfojonhaaDoorR8A
import Derived.Test.YtjllbchfojonhaaDoorB2
import Derived.Maps.AppendAt
namespace Go.Proofs.YtjllbchfojonhaaDoor
open Go.RowKit Go.Shelf Go.Lib
set_option linter.unusedVariables false
set_option linter.unusedSimpArgs false

/-- where the parts of a run's state lie -/
structure RepM where
  gi : Nat
  gb : Nat
  ga : Nat
  va : Value
  vt : Value
  ar : List IntsM
def i64C (l : List Int) : Array Value := (l.map (Value.int .i64)).toArray
theorem i64_at {l : List Int} {k : Nat} (hk : k < l.length) : (i64C l)[k]? = some (.int .i64 l[k]!) := by
  unfold i64C
  rw [List.getElem?_toArray, List.getElem?_map, List.getElem?_eq_getElem hk, getElem!_pos l k hk]; rfl
theorem i64_set (l : List Int) (k : Nat) (x : Int) : (i64C l).setIfInBounds k (.int .i64 x) = i64C (l.set k x) := by
  unfold i64C
  rw [List.setIfInBounds_toArray, List.map_set]
def bitsR (l : List Bool) : Array Value := (l.map Value.bool).toArray
theorem bitsR_at {l : List Bool} {k : Nat} (hk : k < l.length) : (bitsR l)[k]? = some (.bool l[k]!) := by
  unfold bitsR
  rw [List.getElem?_toArray, List.getElem?_map, List.getElem?_eq_getElem hk, getElem!_pos l k hk]; rfl
theorem bitsR_set (l : List Bool) (k : Nat) (b : Bool) : (bitsR l).setIfInBounds k (.bool b) = bitsR (l.set k b) := by
  unfold bitsR
  rw [List.setIfInBounds_toArray, List.map_set]
theorem keeps_mine {a b c : World} {g : Nat} (h : Keeps a b []) (k : Keeps b c [g]) (hg : a.heap.size ≤ g) : Keeps a c [] :=
  (h.trans k).mono fun x hx => by simp at hx; subst hx; exact .inr hg
def stateC (R : RepM) (f : FuncM) (n : Nat) (s : StM) : Array Value :=
  #[f.vars.1, f.params.1, f.blocks.1, .slice (some ⟨R.gi, 0, none⟩) n n, .slice (some ⟨R.gb, 0, none⟩) n n, .slice (some ⟨R.ga, 0, none⟩) n n, R.va, .int .i64 (s.block : Nat), .int .i64 (s.pc : Nat),
    .int .i64 s.out.ending, .int .i64 s.out.value, .int .i64 s.out.trap, R.vt, .int .i64 (s.out.steps : Nat),
    .int .i64 (s.out.checks[0]! : Nat), .int .i64 (s.out.checks[1]! : Nat), .int .i64 (s.out.checks[2]! : Nat), .int .i64 (s.out.checks[3]! : Nat), .int .i64 (s.out.checks[4]! : Nat), .int .i64 (s.out.checks[5]! : Nat), .int .i64 (s.out.checks[6]! : Nat), .int .i64 (s.out.checks[7]! : Nat), .bool s.ended]
structure WAt (wB W : World) (g : Nat) (R : RepM) (f : FuncM) (n : Nat) (s : StM) : Prop where
  k : Keeps wB W []
  base : wB.heap.size ≤ g
  blk : Blk W g 105 (stateC R f n s)
  bi : wB.heap.size ≤ R.gi ∧ Blk W R.gi 2 (i64C s.ints) ∧ s.ints.length = n
  bb : wB.heap.size ≤ R.gb ∧ Blk W R.gb 4 (bitsR s.bools) ∧ s.bools.length = n
  ba : wB.heap.size ≤ R.ga ∧ Blk W R.ga 3 (i64C s.arrs) ∧ s.arrs.length = n
  rows : W.ownsRow wB.heap.size 61 1 R.va R.ar.length (R.ar.map Prod.fst)
  row : ∀ i, i < R.ar.length → W.ownsRow wB.heap.size 2 1 (R.ar[i]! : IntsM).1 (R.ar[i]! : IntsM).2.length ((R.ar[i]! : IntsM).2.map (Value.int .i64))
  arr : R.ar.map Prod.snd = s.arrays
  trace : W.ownsRow wB.heap.size 2 1 R.vt s.out.trace.length (s.out.trace.map (Value.int .i64))
  apT : ∀ i, i < R.ar.length → ∀ b, (R.ar[i]! : IntsM).1.ownBlock = some b → R.vt.ownBlock ≠ some b
  apI : ∀ i, i < R.ar.length → (R.ar[i]! : IntsM).1.ownBlock ≠ some R.gi
  apTI : R.vt.ownBlock ≠ some R.gi
  apR : ∀ i j, i < R.ar.length → j < R.ar.length → i ≠ j → ∀ b, (R.ar[i]! : IntsM).1.ownBlock = some b → (R.ar[j]! : IntsM).1.ownBlock ≠ some b
  ck : s.out.checks.length = 8
theorem blk_ne {W : World} {g h : Nat} {t u : TypeId} {cs ds : Array Value} (a : Blk W g t cs) (b : Blk W h u ds) (ht : t ≠ u) : g ≠ h := fun e => by
  subst e
  unfold Blk at a b
  rw [a] at b
  simp only [Option.some.injEq, Obj.cells.injEq] at b
  exact ht b.2.1
theorem WAt.keep {wB W W' : World} {g : Nat} {R : RepM} {f : FuncM} {n : Nat} {s : StM} (h : WAt wB W g R f n s) (k : Keeps W W' []) : WAt wB W' g R f n s :=
  ⟨h.k.and_then k, h.base, h.blk.keep k (by simp), ⟨h.bi.1, h.bi.2.1.keep k (by simp), h.bi.2.2⟩, ⟨h.bb.1, h.bb.2.1.keep k (by simp), h.bb.2.2⟩, ⟨h.ba.1, h.ba.2.1.keep k (by simp), h.ba.2.2⟩,
   own_keep h.rows k (by simp), fun i hi => own_keep (h.row i hi) k (by simp), h.arr, own_keep h.trace k (by simp), h.apT, h.apI, h.apTI, h.apR, h.ck⟩
/-- the state's own block turned: the rest stays -/
theorem WAt.turn {wB W W' : World} {g : Nat} {R : RepM} {f : FuncM} {n : Nat} {s s' : StM} (h : WAt wB W g R f n s) (k : Keeps W W' [g]) (hb : Blk W' g 105 (stateC R f n s'))
    (hi : s'.ints = s.ints) (hbo : s'.bools = s.bools) (ha : s'.arrs = s.arrs) (har : s'.arrays = s.arrays) (ht : s'.out.trace = s.out.trace) (hck : s'.out.checks.length = 8) : WAt wB W' g R f n s' :=
  ⟨keeps_mine h.k k h.base, h.base, hb, ⟨h.bi.1, by rw [hi]; exact h.bi.2.1.keep k (by simp; exact blk_ne h.bi.2.1 h.blk (by decide)), by rw [hi]; exact h.bi.2.2⟩,
   ⟨h.bb.1, by rw [hbo]; exact h.bb.2.1.keep k (by simp; exact blk_ne h.bb.2.1 h.blk (by decide)), by rw [hbo]; exact h.bb.2.2⟩,
   ⟨h.ba.1, by rw [ha]; exact h.ba.2.1.keep k (by simp; exact blk_ne h.ba.2.1 h.blk (by decide)), by rw [ha]; exact h.ba.2.2⟩,
   own_keep h.rows k (fun b hb e => own_ne h.rows h.blk (by decide) (by rw [hb, List.mem_singleton.1 e])), fun i hi => own_keep (h.row i hi) k (fun b hb e => own_ne (h.row i hi) h.blk (by decide) (by rw [hb, List.mem_singleton.1 e])),
   by rw [har]; exact h.arr, by rw [ht]; exact own_keep h.trace k (fun b hb e => own_ne h.trace h.blk (by decide) (by rw [hb, List.mem_singleton.1 e])), h.apT, h.apI, h.apTI, h.apR, hck⟩
/-- an int is set -/
theorem WAt.setI {wB W : World} {g : Nat} {R : RepM} {f : FuncM} {n : Nat} {s : StM} (h : WAt wB W g R f n s) (d : Nat) (x : Int) : WAt wB (W.setCell ⟨R.gi, d, none⟩ (.int .i64 x)) g R f n (s.setI d x) := by
  have k : Keeps W (W.setCell ⟨R.gi, d, none⟩ (.int .i64 x)) [R.gi] := (Keeps.refl W [R.gi]).setCell (.inl (by simp)) _
  have hb := h.bi.2.1.set_ d (.int .i64 x)
  rw [i64_set] at hb
  exact ⟨keeps_mine h.k k h.bi.1, h.base, h.blk.keep k (by simp; exact blk_ne h.blk h.bi.2.1 (by decide)), ⟨h.bi.1, by unfold StM.setI; rw [Int.toNat_natCast]; exact hb, by unfold StM.setI; rw [List.length_set]; exact h.bi.2.2⟩,
   ⟨h.bb.1, h.bb.2.1.keep k (by simp; exact blk_ne h.bb.2.1 h.bi.2.1 (by decide)), h.bb.2.2⟩, ⟨h.ba.1, h.ba.2.1.keep k (by simp; exact blk_ne h.ba.2.1 h.bi.2.1 (by decide)), h.ba.2.2⟩,
   own_keep h.rows k (fun b hb e => own_ne h.rows h.bi.2.1 (by decide) (by rw [hb, List.mem_singleton.1 e])), fun i hi => own_keep (h.row i hi) k (fun b hb e => h.apI i hi (by rw [hb, List.mem_singleton.1 e])),
   h.arr, own_keep h.trace k (fun b hb e => h.apTI (by rw [hb, List.mem_singleton.1 e])), h.apT, h.apI, h.apTI, h.apR, h.ck⟩
theorem WAt.setB {wB W : World} {g : Nat} {R : RepM} {f : FuncM} {n : Nat} {s : StM} (h : WAt wB W g R f n s) (d : Nat) (x : Bool) : WAt wB (W.setCell ⟨R.gb, d, none⟩ (.bool x)) g R f n (s.setB d x) := by
  have k : Keeps W (W.setCell ⟨R.gb, d, none⟩ (.bool x)) [R.gb] := (Keeps.refl W [R.gb]).setCell (.inl (by simp)) _
  have hb := h.bb.2.1.set_ d (.bool x)
  rw [bitsR_set] at hb
  exact ⟨keeps_mine h.k k h.bb.1, h.base, h.blk.keep k (by simp; exact blk_ne h.blk h.bb.2.1 (by decide)), ⟨h.bi.1, h.bi.2.1.keep k (by simp; exact blk_ne h.bi.2.1 h.bb.2.1 (by decide)), h.bi.2.2⟩,
   ⟨h.bb.1, by unfold StM.setB; rw [Int.toNat_natCast]; exact hb, by unfold StM.setB; rw [List.length_set]; exact h.bb.2.2⟩, ⟨h.ba.1, h.ba.2.1.keep k (by simp; exact blk_ne h.ba.2.1 h.bb.2.1 (by decide)), h.ba.2.2⟩,
   own_keep h.rows k (fun b hb e => own_ne h.rows h.bb.2.1 (by decide) (by rw [hb, List.mem_singleton.1 e])), fun i hi => own_keep (h.row i hi) k (fun b hb e => own_ne (h.row i hi) h.bb.2.1 (by decide) (by rw [hb, List.mem_singleton.1 e])),
   h.arr, own_keep h.trace k (fun b hb e => own_ne h.trace h.bb.2.1 (by decide) (by rw [hb, List.mem_singleton.1 e])), h.apT, h.apI, h.apTI, h.apR, h.ck⟩
theorem WAt.setA {wB W : World} {g : Nat} {R : RepM} {f : FuncM} {n : Nat} {s : StM} (h : WAt wB W g R f n s) (d : Nat) (x : Int) : WAt wB (W.setCell ⟨R.ga, d, none⟩ (.int .i64 x)) g R f n (s.setA d x) := by
  have k : Keeps W (W.setCell ⟨R.ga, d, none⟩ (.int .i64 x)) [R.ga] := (Keeps.refl W [R.ga]).setCell (.inl (by simp)) _
  have hb := h.ba.2.1.set_ d (.int .i64 x)
  rw [i64_set] at hb
  exact ⟨keeps_mine h.k k h.ba.1, h.base, h.blk.keep k (by simp; exact blk_ne h.blk h.ba.2.1 (by decide)), ⟨h.bi.1, h.bi.2.1.keep k (by simp; exact blk_ne h.bi.2.1 h.ba.2.1 (by decide)), h.bi.2.2⟩,
   ⟨h.bb.1, h.bb.2.1.keep k (by simp; exact blk_ne h.bb.2.1 h.ba.2.1 (by decide)), h.bb.2.2⟩, ⟨h.ba.1, by unfold StM.setA; rw [Int.toNat_natCast]; exact hb, by unfold StM.setA; rw [List.length_set]; exact h.ba.2.2⟩,
   own_keep h.rows k (fun b hb e => own_ne h.rows h.ba.2.1 (by decide) (by rw [hb, List.mem_singleton.1 e])), fun i hi => own_keep (h.row i hi) k (fun b hb e => own_ne (h.row i hi) h.ba.2.1 (by decide) (by rw [hb, List.mem_singleton.1 e])),
   h.arr, own_keep h.trace k (fun b hb e => own_ne h.trace h.ba.2.1 (by decide) (by rw [hb, List.mem_singleton.1 e])), h.apT, h.apI, h.apTI, h.apR, h.ck⟩
section
variable {wB W : World} {g : Nat} {R : RepM} {f : FuncM} {n : Nat} {s : StM}
theorem WAt.int_at (h : WAt wB W g R f n s) {v : Nat} (hv : v < n) : W.cell? ⟨R.gi, v, none⟩ = some (.int .i64 (s.I v)) := by
  rw [h.bi.2.1.cell, i64_at (by rw [h.bi.2.2]; exact hv)]; rfl
theorem WAt.bool_at (h : WAt wB W g R f n s) {v : Nat} (hv : v < n) : W.cell? ⟨R.gb, v, none⟩ = some (.bool (s.B v)) := by
  rw [h.bb.2.1.cell, bitsR_at (by rw [h.bb.2.2]; exact hv)]; rfl
theorem WAt.arr_at (h : WAt wB W g R f n s) {v : Nat} (hv : v < n) : W.cell? ⟨R.ga, v, none⟩ = some (.int .i64 (s.A v)) := by
  rw [h.ba.2.1.cell, i64_at (by rw [h.ba.2.2]; exact hv)]; rfl
theorem WAt.alen (h : WAt wB W g R f n s) : R.ar.length = s.arrays.length := by rw [← h.arr, List.length_map]
theorem WAt.aat (h : WAt wB W g R f n s) {a : Nat} (ha : a < s.arrays.length) : (R.ar[a]! : IntsM).2 = s.arrays[a]! := by
  have h2 := congrArg (fun l : List (List Int) => l[a]?) h.arr
  simp only [List.getElem?_map] at h2
  have hl := h.alen
  rw [List.getElem?_eq_getElem (by omega), List.getElem?_eq_getElem ha] at h2
  simp only [Option.map_some, Option.some.injEq] at h2
  rw [getElem!_pos R.ar a (by omega), getElem!_pos s.arrays a ha]; exact h2
end
theorem own_set {w : World} {base n b : Nat} {e : TypeId} {v : Value} {xs : List Value} (h : w.ownsRow base e 1 v n xs) (hb : v.ownBlock = some b) (i : Nat) (x : Value) : (w.setCell ⟨b, i, none⟩ x).ownsRow base e 1 v n (xs.set i x) := by
  refine ⟨by rw [List.length_set]; exact h.1, ?_⟩
  rcases h.2 with ⟨rfl, _⟩ | ⟨g, cap, cur, rfl, h2, h3, h4, h5, h6, h7⟩
  · cases hb
  · simp [Value.ownBlock] at hb
    subst hb
    refine .inr ⟨g, cap, cur.setIfInBounds i x, rfl, h2, (Blk.set_ (t := e) h3 i x), h4, h5, by rw [Array.size_setIfInBounds]; exact h6, ?_⟩
    rw [Array.toList_setIfInBounds, List.take_set, h7]
theorem ar_set {l : List IntsM} {a i : Nat} {q : IntsM} (hi : i < l.length) : (l.set a q)[i]! = if i = a then q else l[i]! := by
  rw [getElem!_pos _ i (by simpa using hi), getElem!_pos l i hi, List.getElem_set]
  by_cases e : a = i
  · rw [if_pos e, if_pos e.symm]
  · rw [if_neg e, if_neg (fun h => e h.symm)]
theorem ar_app {l : List IntsM} {i : Nat} {q : IntsM} (hi : i < (l ++ [q]).length) : (l ++ [q])[i]! = if i = l.length then q else l[i]! := by
  rw [List.length_append, List.length_singleton] at hi
  rw [getElem!_pos (l ++ [q]) i (by simpa using hi), List.getElem_append]
  by_cases e : i = l.length
  · rw [dif_neg (by omega), if_pos e]; simp
  · rw [dif_pos (by omega), if_neg e, getElem!_pos l i (by omega)]
/-- an element of an array is set -/
theorem WAt.store {wB W : World} {g : Nat} {R : RepM} {f : FuncM} {n : Nat} {s : StM} (h : WAt wB W g R f n s) {a b : Nat} (ha : a < s.arrays.length) (hb : (R.ar[a]! : IntsM).1.ownBlock = some b) (i : Nat) (x : Int) :
    WAt wB (W.setCell ⟨b, i, none⟩ (.int .i64 x)) g { R with ar := R.ar.set a ((R.ar[a]! : IntsM).1, s.arrays[a]!.set i x) } f n { s with arrays := s.arrays.set a (s.arrays[a]!.set i x) } := by
  have hl := h.alen
  have haR : a < R.ar.length := by omega
  have k : Keeps W (W.setCell ⟨b, i, none⟩ (.int .i64 x)) [b] := (Keeps.refl W [b]).setCell (.inl (by simp)) _
  have hr := h.row a haR
  have hbb := (own_lt hr hb).2
  have hs : ∀ j, j < (R.ar.set a ((R.ar[a]! : IntsM).1, s.arrays[a]!.set i x)).length → j < R.ar.length := fun j hj => by rw [List.length_set] at hj; exact hj
  have h1 : ∀ j, j < R.ar.length → ((R.ar.set a ((R.ar[a]! : IntsM).1, s.arrays[a]!.set i x))[j]! : IntsM).1 = (R.ar[j]! : IntsM).1 := fun j hj => by
    rw [ar_set hj]; split
    · subst_vars; rfl
    · rfl
  refine ⟨keeps_mine h.k k hbb, h.base, h.blk.keep k (by simp; exact fun e => own_ne hr h.blk (by decide) (by rw [hb, e])),
    ⟨h.bi.1, h.bi.2.1.keep k (by simp; exact fun e => h.apI a haR (by rw [hb, e])), h.bi.2.2⟩,
    ⟨h.bb.1, h.bb.2.1.keep k (by simp; exact fun e => own_ne hr h.bb.2.1 (by decide) (by rw [hb, e])), h.bb.2.2⟩,
    ⟨h.ba.1, h.ba.2.1.keep k (by simp; exact fun e => own_ne hr h.ba.2.1 (by decide) (by rw [hb, e])), h.ba.2.2⟩, ?_, fun j hj => ?_, ?_,
    own_keep h.trace k (fun c hc e => h.apT a haR b hb (by rw [hc, List.mem_singleton.1 e])), fun j hj => ?_, fun j hj => ?_, h.apTI, fun p q hp hq => ?_, h.ck⟩
  · have e : (R.ar.set a ((R.ar[a]! : IntsM).1, s.arrays[a]!.set i x)).map Prod.fst = R.ar.map Prod.fst := by
      apply List.ext_getElem (by simp)
      intro j hj1 hj2
      simp only [List.getElem_map]
      have := h1 j (by simpa using hj2)
      rw [getElem!_pos _ j (by simpa using hj1), getElem!_pos _ j (by simpa using hj2)] at this
      exact this
    show World.ownsRow _ _ 61 1 R.va (List.set _ _ _).length _
    rw [List.length_set, e]
    exact own_keep h.rows k (fun c hc e => own_apart hr h.rows (by decide) hb (by rw [hc, List.mem_singleton.1 e]))
  · have hj2 := hs j hj
    show World.ownsRow _ _ 2 1 ((R.ar.set a _)[j]! : IntsM).1 ((R.ar.set a _)[j]! : IntsM).2.length _
    rw [ar_set hj2]
    by_cases e : j = a
    · subst e
      rw [if_pos rfl]
      have h2 := own_set hr hb i (.int .i64 x)
      have h3 := h.aat ha
      rw [h3] at h2
      show World.ownsRow _ _ 2 1 (R.ar[j]! : IntsM).1 (s.arrays[j]!.set i x).length ((s.arrays[j]!.set i x).map _)
      rw [List.length_set, List.map_set]
      exact h2
    · rw [if_neg e]
      exact own_keep (h.row j hj2) k (fun c hc e2 => h.apR a j haR hj2 (fun e3 => e e3.symm) b hb (by rw [hc, List.mem_singleton.1 e2]))
  · show (R.ar.set a _).map Prod.snd = s.arrays.set a _
    rw [List.map_set, h.arr]
  · have hj2 := hs j hj
    show ∀ b, ((R.ar.set a _)[j]! : IntsM).1.ownBlock = some b → _
    rw [h1 j hj2]
    exact h.apT j hj2
  · have hj2 := hs j hj
    show ((R.ar.set a _)[j]! : IntsM).1.ownBlock ≠ _
    rw [h1 j hj2]
    exact h.apI j hj2
  · have hp2 := hs p hp
    have hq2 := hs q hq
    show p ≠ q → ∀ b, ((R.ar.set a _)[p]! : IntsM).1.ownBlock = some b → ((R.ar.set a _)[q]! : IntsM).1.ownBlock ≠ some b
    rw [h1 p hp2, h1 q hq2]
    exact h.apR p q hp2 hq2
/-- one array more -/
theorem WAt.more {wB W W1 W2 : World} {g : Nat} {R : RepM} {f : FuncM} {n : Nat} {s : StM} (h : WAt wB W g R f n s) (k1 : Keeps W W1 []) {vn va' : Value} {l : List Int} (hv : W1.ownsRow wB.heap.size 2 1 vn l.length (l.map (Value.int .i64)))
    (hf : ∀ b, vn.ownBlock = some b → W.heap.size ≤ b) (hg : W1.grownBy W2 R.va.ownBlock) (hown : W2.ownsRow wB.heap.size 61 1 va' (R.ar.length + 1) (R.ar.map Prod.fst ++ [vn])) :
    WAt wB (W2.setCell ⟨g, 6, none⟩ va') g { R with va := va', ar := R.ar ++ [(vn, l)] } f n { s with arrays := s.arrays ++ [l] } := by
  have h1 := h.keep k1
  -- what the growing leaves
  have hk2 : Keeps wB W2 [] := h1.k.grown hg (fun c hc => .inr (own_lt h1.rows hc).2)
  have hb2 : ∀ {t : TypeId} {c : Nat} {cs : Array Value}, Blk W1 c t cs → t ≠ 61 → Blk W2 c t cs := fun {t c cs} hB ht => (hg.block c hB.lt (fun e => own_ne h1.rows hB (fun e => ht e.symm) e.symm)).trans hB
  have ho2 : ∀ {t : TypeId} {m : Nat} {v : Value} {xs : List Value}, W1.ownsRow wB.heap.size t 1 v m xs → t ≠ 61 → W2.ownsRow wB.heap.size t 1 v m xs := fun {t m v xs} hO ht => by
    refine ⟨hO.1, ?_⟩
    rcases hO.2 with h2 | ⟨c, cap, cur, hv, hc, hh, r⟩
    · exact .inl h2
    · exact .inr ⟨c, cap, cur, hv, hc, hb2 hh ht, r⟩
  have B2 := hb2 h1.blk (by decide)
  have k3 : Keeps W2 (W2.setCell ⟨g, 6, none⟩ va') [g] := (Keeps.refl W2 [g]).setCell (.inl (by simp)) _
  have hB3 := B2.set_ 6 va'
  have o3 : ∀ {t : TypeId} {m : Nat} {v : Value} {xs : List Value}, W2.ownsRow wB.heap.size t 1 v m xs → t ≠ 105 → (W2.setCell ⟨g, 6, none⟩ va').ownsRow wB.heap.size t 1 v m xs := fun hO ht => own_keep hO k3 (fun c hc e => own_ne hO B2 ht (by rw [hc, List.mem_singleton.1 e]))
  have b3 : ∀ {t : TypeId} {c : Nat} {cs : Array Value}, Blk W2 c t cs → t ≠ 105 → Blk (W2.setCell ⟨g, 6, none⟩ va') c t cs := fun hB ht => hB.keep k3 (by simp; exact blk_ne hB B2 ht)
  have old : ∀ {m c : Nat} {v : Value} {xs : List Value} {t : TypeId}, W.ownsRow wB.heap.size t 1 v m xs → v.ownBlock = some c → c < W.heap.size := fun hO hc => (own_lt hO hc).1
  have hlen : (R.ar ++ [(vn, l)]).length = R.ar.length + 1 := by rw [List.length_append]; rfl
  refine ⟨keeps_mine hk2 k3 h.base, h.base, ?_, ⟨h.bi.1, b3 (hb2 h1.bi.2.1 (by decide)) (by decide), h.bi.2.2⟩, ⟨h.bb.1, b3 (hb2 h1.bb.2.1 (by decide)) (by decide), h.bb.2.2⟩, ⟨h.ba.1, b3 (hb2 h1.ba.2.1 (by decide)) (by decide), h.ba.2.2⟩,
    ?_, fun i hi => ?_, ?_, o3 (ho2 h1.trace (by decide)) (by decide), fun i hi => ?_, fun i hi => ?_, h.apTI, fun i j hi hj => ?_, h.ck⟩
  · exact hB3
  · show World.ownsRow _ _ 61 1 va' (R.ar ++ [(vn, l)]).length ((R.ar ++ [(vn, l)]).map Prod.fst)
    rw [hlen, List.map_append]
    exact o3 hown (by decide)
  · show World.ownsRow _ _ 2 1 ((R.ar ++ [(vn, l)])[i]! : IntsM).1 _ _
    rw [ar_app hi]
    by_cases e : i = R.ar.length
    · rw [if_pos e]; exact o3 (ho2 hv (by decide)) (by decide)
    · rw [if_neg e]; exact o3 (ho2 (h1.row i (by rw [hlen] at hi; omega)) (by decide)) (by decide)
  · show (R.ar ++ [(vn, l)]).map Prod.snd = s.arrays ++ [l]
    rw [List.map_append, h.arr]; rfl
  · show ∀ b, ((R.ar ++ [(vn, l)])[i]! : IntsM).1.ownBlock = some b → R.vt.ownBlock ≠ some b
    rw [ar_app hi]
    by_cases e : i = R.ar.length
    · rw [if_pos e]; intro b hb hb2; have := hf b hb; have := old h.trace hb2; omega
    · rw [if_neg e]; exact h.apT i (by rw [hlen] at hi; omega)
  · show ((R.ar ++ [(vn, l)])[i]! : IntsM).1.ownBlock ≠ some R.gi
    rw [ar_app hi]
    by_cases e : i = R.ar.length
    · rw [if_pos e]; intro hb; have := hf _ hb; have := h.bi.2.1.lt; omega
    · rw [if_neg e]; exact h.apI i (by rw [hlen] at hi; omega)
  · show i ≠ j → ∀ b, ((R.ar ++ [(vn, l)])[i]! : IntsM).1.ownBlock = some b → ((R.ar ++ [(vn, l)])[j]! : IntsM).1.ownBlock ≠ some b
    rw [ar_app hi, ar_app hj]
    rw [hlen] at hi hj
    intro hij b hb hb2
    by_cases e : i = R.ar.length
    · rw [if_pos e] at hb
      rw [if_neg (by omega)] at hb2
      have := hf b hb
      have := old (h.row j (by omega)) hb2
      omega
    · rw [if_neg e] at hb
      by_cases e2 : j = R.ar.length
      · rw [if_pos e2] at hb2
        have := hf b hb2
        have := old (h.row i (by omega)) hb
        omega
      · rw [if_neg e2] at hb2
        exact h.apR i j (by omega) (by omega) hij b hb hb2
/-- a number is written -/
theorem WAt.wrote {wB W W1 W2 : World} {g : Nat} {R : RepM} {f : FuncM} {n : Nat} {s : StM} (h : WAt wB W g R f n s) (k1 : Keeps W W1 []) {vt' : Value} {x : Int} (hg : W1.grownBy W2 R.vt.ownBlock) (hs : W1.heap.size ≤ W2.heap.size)
    (hown : W2.ownsRow wB.heap.size 2 1 vt' (s.out.trace.length + 1) (s.out.trace.map (Value.int .i64) ++ [.int .i64 x]))
    (hnew : ∀ b, vt'.ownBlock = some b → R.vt.ownBlock = some b ∨ W1.heap.size ≤ b) :
    WAt wB (W2.setCell ⟨g, 12, none⟩ vt') g { R with vt := vt' } f n { s with out := { s.out with trace := s.out.trace ++ [x] } } := by
  have h1 := h.keep k1
  have hk2 : Keeps wB W2 [] := h1.k.grown hg (fun c hc => .inr (own_lt h1.trace hc).2)
  have hb2 : ∀ {t : TypeId} {c : Nat} {cs : Array Value}, Blk W1 c t cs → R.vt.ownBlock ≠ some c → Blk W2 c t cs := fun {t c cs} hB ht => (hg.block c hB.lt (fun e => ht e.symm)).trans hB
  have ho2 : ∀ {t : TypeId} {m : Nat} {v : Value} {xs : List Value}, W1.ownsRow wB.heap.size t 1 v m xs → (∀ b, v.ownBlock = some b → R.vt.ownBlock ≠ some b) → W2.ownsRow wB.heap.size t 1 v m xs := fun {t m v xs} hO ht => by
    refine ⟨hO.1, ?_⟩
    rcases hO.2 with h2 | ⟨c, cap, cur, hv, hc, hh, r⟩
    · exact .inl h2
    · exact .inr ⟨c, cap, cur, hv, hc, hb2 hh (ht c (by rw [hv]; rfl)), r⟩
  have B2 := hb2 h1.blk (own_ne h1.trace h1.blk (by decide))
  have k3 : Keeps W2 (W2.setCell ⟨g, 12, none⟩ vt') [g] := (Keeps.refl W2 [g]).setCell (.inl (by simp)) _
  have hB3 := B2.set_ 12 vt'
  have o3 : ∀ {t : TypeId} {m : Nat} {v : Value} {xs : List Value}, W2.ownsRow wB.heap.size t 1 v m xs → t ≠ 105 → (W2.setCell ⟨g, 12, none⟩ vt').ownsRow wB.heap.size t 1 v m xs := fun hO ht => own_keep hO k3 (fun c hc e => own_ne hO B2 ht (by rw [hc, List.mem_singleton.1 e]))
  have b3 : ∀ {t : TypeId} {c : Nat} {cs : Array Value}, Blk W2 c t cs → t ≠ 105 → Blk (W2.setCell ⟨g, 12, none⟩ vt') c t cs := fun hB ht => hB.keep k3 (by simp; exact blk_ne hB B2 ht)
  have old : ∀ {m c : Nat} {v : Value} {xs : List Value} {t : TypeId}, W1.ownsRow wB.heap.size t 1 v m xs → v.ownBlock = some c → c < W1.heap.size := fun hO hc => (own_lt hO hc).1
  refine ⟨keeps_mine hk2 k3 h.base, h.base, hB3, ⟨h.bi.1, b3 (hb2 h1.bi.2.1 h.apTI) (by decide), h.bi.2.2⟩, ⟨h.bb.1, b3 (hb2 h1.bb.2.1 (own_ne h1.trace h1.bb.2.1 (by decide))) (by decide), h.bb.2.2⟩, ⟨h.ba.1, b3 (hb2 h1.ba.2.1 (own_ne h1.trace h1.ba.2.1 (by decide))) (by decide), h.ba.2.2⟩,
    o3 (ho2 h1.rows (fun b hb => own_apart h1.rows h1.trace (by decide) hb)) (by decide), fun i hi => o3 (ho2 (h1.row i hi) (fun b hb => h.apT i hi b hb)) (by decide), h.arr, ?_, fun i hi b hb hb2 => ?_, h.apI, fun hb => ?_, h.apR, h.ck⟩
  · show World.ownsRow _ _ 2 1 vt' (s.out.trace ++ [x]).length ((s.out.trace ++ [x]).map _)
    rw [List.length_append, List.map_append]
    exact o3 hown (by decide)
  · rcases hnew b hb2 with e | e
    · exact h.apT i hi b hb e
    · have := old (h1.row i hi) hb; omega
  · rcases hnew _ hb with e | e
    · exact h.apTI e
    · have e1 : W1.heap.size ≤ R.gi := e
      have := h1.bi.2.1.lt; omega
def RunRet (wB : World) (g : Nat) (f : FuncM) (n : Nat) (s : StM) (e : Ending) (w' : World) : Prop := e = .returned (.tuple #[]) ∧ ∃ R, WAt wB w' g R f n s
theorem own_cell {w : World} {base n : Nat} {e : TypeId} {v : Value} {xs : List Value} (h : w.ownsRow base e 1 v n xs) {i : Nat} (hi : i < n) :
    ∃ g cap, v = .slice (some ⟨g, 0, none⟩) n cap ∧ w.cell? ⟨g, i, none⟩ = xs[i]? ∧ w.frozen? ⟨g, i, none⟩ = false ∧ v.ownBlock = some g := by
  rcases h.2 with ⟨_, h0⟩ | ⟨g, cap, cur, rfl, h2, h3, h4, h5, h6, h7⟩
  · omega
  · refine ⟨g, cap, rfl, ?_, Blk.frozen (t := e) h3 i, rfl⟩
    rw [Blk.cell (t := e) h3 i, ← h7, Nat.mul_one, List.getElem?_take, if_pos hi, Array.getElem?_toList]
section
variable {wB W : World} {g : Nat} {R : RepM} {f : FuncM} {n : Nat} {s : StM}
theorem WAt.c2 (h : WAt wB W g R f n s) : W.cell? ⟨g, 2, none⟩ = some f.blocks.1 := (h.blk.cell 2).trans rfl
theorem WAt.c3 (h : WAt wB W g R f n s) : W.cell? ⟨g, 3, none⟩ = some (.slice (some ⟨R.gi, 0, none⟩) n n) := (h.blk.cell 3).trans rfl
theorem WAt.c4 (h : WAt wB W g R f n s) : W.cell? ⟨g, 4, none⟩ = some (.slice (some ⟨R.gb, 0, none⟩) n n) := (h.blk.cell 4).trans rfl
theorem WAt.c5 (h : WAt wB W g R f n s) : W.cell? ⟨g, 5, none⟩ = some (.slice (some ⟨R.ga, 0, none⟩) n n) := (h.blk.cell 5).trans rfl
theorem WAt.c6 (h : WAt wB W g R f n s) : W.cell? ⟨g, 6, none⟩ = some R.va := (h.blk.cell 6).trans rfl
theorem WAt.c7 (h : WAt wB W g R f n s) : W.cell? ⟨g, 7, none⟩ = some (.int .i64 (s.block : Nat)) := (h.blk.cell 7).trans rfl
theorem WAt.c8 (h : WAt wB W g R f n s) : W.cell? ⟨g, 8, none⟩ = some (.int .i64 (s.pc : Nat)) := (h.blk.cell 8).trans rfl
theorem WAt.c12 (h : WAt wB W g R f n s) : W.cell? ⟨g, 12, none⟩ = some R.vt := (h.blk.cell 12).trans rfl
theorem WAt.c13 (h : WAt wB W g R f n s) : W.cell? ⟨g, 13, none⟩ = some (.int .i64 (s.out.steps : Nat)) := (h.blk.cell 13).trans rfl
theorem WAt.c22 (h : WAt wB W g R f n s) : W.cell? ⟨g, 22, none⟩ = some (.bool s.ended) := (h.blk.cell 22).trans rfl
theorem WAt.fz (h : WAt wB W g R f n s) (i : Nat) : W.frozen? ⟨g, i, none⟩ = false := h.blk.frozen i
/-- the row of arrays -/
theorem WAt.form (h : WAt wB W g R f n s) : ∃ a cap, R.va = .slice a s.arrays.length cap := by
  obtain ⟨a, cap, e, _, _⟩ := own_form h.rows
  exact ⟨a, cap, by rw [e, h.alen]⟩
theorem WAt.tform (h : WAt wB W g R f n s) : ∃ a cap, R.vt = .slice a s.out.trace.length cap := by
  obtain ⟨a, cap, e, _, _⟩ := own_form h.trace
  exact ⟨a, cap, e⟩
theorem WAt.arow (h : WAt wB W g R f n s) {a : Nat} (ha : a < s.arrays.length) : ∃ b cap bb cc, R.va = .slice (some ⟨b, 0, none⟩) s.arrays.length cap ∧ (R.ar[a]! : IntsM).1 = .slice bb s.arrays[a]!.length cc ∧ W.cell? ⟨b, a, none⟩ = some (.slice bb s.arrays[a]!.length cc) := by
  have hl := h.alen
  obtain ⟨b, cap, e, hc, _, _⟩ := own_cell h.rows (i := a) (by omega)
  obtain ⟨bb, cc, e2, _, _⟩ := own_form (h.row a (by omega))
  rw [h.aat ha] at e2
  refine ⟨b, cap, bb, cc, by rw [e, hl], e2, ?_⟩
  rw [hc, List.getElem?_map, List.getElem?_eq_getElem (by omega), Option.map_some, ← e2, getElem!_pos R.ar a (by omega)]
theorem WAt.elem (h : WAt wB W g R f n s) {a i : Nat} (ha : a < s.arrays.length) (hi : i < s.arrays[a]!.length) : ∃ b cap q cc, R.va = .slice (some ⟨b, 0, none⟩) s.arrays.length cap ∧ W.cell? ⟨b, a, none⟩ = some (.slice (some ⟨q, 0, none⟩) s.arrays[a]!.length cc) ∧
    W.cell? ⟨q, i, none⟩ = some (.int .i64 s.arrays[a]![i]!) ∧ W.frozen? ⟨q, i, none⟩ = false ∧ (R.ar[a]! : IntsM).1.ownBlock = some q := by
  have hl := h.alen
  obtain ⟨b, cap, bb, cc, e, e2, hc⟩ := h.arow ha
  have hr := h.row a (by omega)
  rw [h.aat ha] at hr
  obtain ⟨q, cc2, e3, hc2, hf, ho⟩ := own_cell hr hi
  rw [e2] at e3
  simp only [Value.slice.injEq] at e3
  obtain ⟨e4, _, e5⟩ := e3
  subst e4 e5
  refine ⟨b, cap, q, cc, e, hc, ?_, hf, ho⟩
  rw [hc2, List.getElem?_map, List.getElem?_eq_getElem hi, getElem!_pos s.arrays[a]! i hi]; rfl
end
theorem stateC_fin (R : RepM) (f : FuncM) (n : Nat) (s : StM) (z : Int) : ((stateC R f n s).setIfInBounds 9 (.int .i64 z)).setIfInBounds 22 (.bool true) = stateC R f n (s.fin z) := by simp [stateC, StM.fin]
theorem keeps_set2 (W : World) (g i j : Nat) (u v : Value) : Keeps W ((W.setCell ⟨g, i, none⟩ u).setCell ⟨g, j, none⟩ v) [g] := ((Keeps.refl W [g]).setCell (.inl (by simp)) _).setCell (.inl (by simp)) _
theorem keeps_set1 (W : World) (g i : Nat) (u : Value) : Keeps W (W.setCell ⟨g, i, none⟩ u) [g] := (Keeps.refl W [g]).setCell (.inl (by simp)) _

set_option maxRecDepth 100000 in
set_option maxHeartbeats 200000000 in
theorem end84_any (wB W : World) (g : Nat) (R : RepM) (f : FuncM) (n : Nat) (s : StM) (z : Int) (h : WAt wB W g R f n s) : Calls Tryd.prog 84 #[.pointer (some ⟨g, 0, none⟩), .int .i64 z] W fun e w' => e = .returned (.tuple #[]) ∧ WAt wB w' g R f n (s.fin z) := by
  have HW := kept h
  have HB := kept h.blk
  have f9 := HB.out.frozen 9
  have f22 := HB.out.frozen 22
  have c9 : W.cell? ⟨g, 9, none⟩ = some (.int .i64 s.out.ending) := (HB.out.cell 9).trans rfl
  have c22 := h.c22
  clear h
  go_enter Tryd.func84, Tryd.ntmps84
  go_wp2
  refine bodyPost_end (v := .tuple #[]) (by have h : Tryd.f84.results = #[] := (by kernel_rfl); simp [results, h]) rfl ⟨rfl, ?_⟩
  have hb := (HB.out.set_ 9 (.int .i64 z)).set_ 22 (.bool true)
  rw [stateC_fin] at hb
  exact HW.out.turn (keeps_set2 _ _ _ _ _ _) hb rfl rfl rfl rfl rfl HW.out.ck

set_option maxRecDepth 100000 in
set_option maxHeartbeats 200000000 in
theorem place_any (wB W : World) (g : Nat) (R : RepM) (f : FuncM) (n : Nat) (s : StM) (a b : Int) (h : WAt wB W g R f n s) : Calls Tryd.prog 104 #[.pointer (some ⟨g, 0, none⟩), .int .i64 a, .int .i64 b] W fun e w' => e = .returned (.bool (placeM s a b)) ∧ W = w' := by
  have HW := kept h
  obtain ⟨ra, rc, er⟩ := h.form
  have c6 := h.c6
  rw [er] at c6
  by_cases h0 : 0 ≤ a
  · obtain ⟨a, rfl⟩ : ∃ k : Nat, a = k := ⟨a.toNat, by omega⟩
    by_cases h1 : a < s.arrays.length
    · obtain ⟨q, qc, bb, cc, e1, e2, e3⟩ := h.arow h1
      rw [er] at e1
      simp only [Value.slice.injEq] at e1
      obtain ⟨rfl, _, rfl⟩ := e1
      have hpm : placeM s a b = (decide (0 ≤ b) && decide (b < (s.arrays[a]!.length : Int))) := by unfold placeM; simp [h1]
      have HP := kept hpm
      clear hpm h
      generalize s.arrays.length = m at *
      generalize s.arrays[a]!.length = k at *
      by_cases h2 : 0 ≤ b
      · go_enter Tryd.func104, Tryd.ntmps104
        go_wp2
        go_ret
        exact ⟨ret_bool (by rw [HP.out]; simp [h2]), rfl⟩
      · go_enter Tryd.func104, Tryd.ntmps104
        go_wp2
        go_ret
        exact ⟨ret_bool (by rw [HP.out, show decide (0 ≤ b) = false from decide_eq_false (by omega)]; rfl), rfl⟩
    · have hpm : placeM s a b = false := by unfold placeM; simp [h1]
      have HP := kept hpm
      clear hpm h
      generalize s.arrays.length = m at *
      go_enter Tryd.func104, Tryd.ntmps104
      go_wp2
      go_ret
      exact ⟨ret_bool (by rw [HP.out]), rfl⟩
  · have hpm : placeM s a b = false := by unfold placeM; simp [h0]
    have HP := kept hpm
    clear hpm h
    go_enter Tryd.func104, Tryd.ntmps104
    go_wp2
    go_ret
    exact ⟨ret_bool (by rw [HP.out]), rfl⟩
end Go.Proofs.YtjllbchfojonhaaDoor
