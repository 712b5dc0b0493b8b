/- What an instruction takes, and through a block, by the document; where an end leads; contracts. ; Where an end leads, through a block, by the document; contracts. ; Through a block, by the document; contract. ; Words of bits in memory; contracts. ; Sets joined in memory; contract. ; An empty set in memory; contract. ; Uses of an instruction; the words' library functions; a set's list; contracts. ; Clone, Equal, list of a set in memory; contracts. ; Back through a block; contract. ; Two rows of sets in memory. ; The flow to a standstill; contract. -/
import Derived.Test.YtjllbchfojonhaaDoorTypC
import Derived.Test.YtjllbchfojonhaaDoorLiveOne
import Derived.Test.YtjllbchfojonhaaDoorLives6
import Derived.Test.YtjllbchfojonhaaDoorShelfLv
import Derived.Test.YtjllbchfojonhaaDoorB2
import Derived.Deep.CutBlock
import Derived.Deep.Cut
import Derived.Deep.CutRange
import Derived.Deep.LoopGhost
namespace Go.Proofs.YtjllbchfojonhaaDoor
open Go.RowKit
set_option linter.unusedVariables false
set_option linter.unusedSimpArgs false

set_option maxRecDepth 100000 in
set_option maxHeartbeats 200000000 in
theorem takes14_any (x : InstM) (v : Int) (w : World) (hx : InstAt w x) : Calls Tryd.prog 82 #[.agg x.cells.toArray, .int .i64 v] w fun e w' => e = .returned (.bool (x.args.2.contains v)) ∧ Keeps w w' [] := by
 obtain ⟨ua, va1, e3, hle1, hm1, hz1⟩ := IntsAt.open_ hx
 have hpaL : x.args.2.length ≤ 9223372036854775807 := by unfold maxLen at hm1; omega
 have HZ1 := kept hz1
 simp only [InstM.cells, e3]
 clear hx e3 hz1 hm1 hle1
 generalize x.op = op at *
 generalize x.dst = dst at *
 generalize x.num = num at *
 generalize hl : x.args.2 = l at *
 clear hl
 generalize hna : l.length = na at *
 have HNA := kept hna
 clear hna
 have hk0 : Keeps w (w.alloc (.cells #[.int .i64 op, .int .i64 dst, .slice ua na va1, .int .i64 num] 42)) [] := (Keeps.refl _ []).alloc _
 have bb0 := Blk.new w 42 #[.int .i64 op, .int .i64 dst, .slice ua na va1, .int .i64 num]
 have Bm := kept bb0
 have HK := kept hk0
 obtain ⟨m0, m1, m2, m3⟩ := Bm.out.c4
 simp at m0 m1 m2 m3
 clear hk0 bb0
 go_enter Tryd.func82, Tryd.ntmps82
 go_wp2
 clear m0 m1 m2 m3
 generalize (w.alloc (.cells #[.int .i64 op, .int .i64 dst, .slice ua na va1, .int .i64 num] 42)) = W0 at *
 have Bm_W0 := Bm
 have TW0 := HK
 clear HK
 have HK := kept (Keeps.refl W0 [])
 obtain ⟨m0, m1, m2, m3⟩ := Bm.out.c4
 simp at m0 m1 m2 m3
 go_loop [10] (fun i => ∃ k : Nat, k ≤ na ∧ i = .int .i64 k ∧ Hid (∀ q, q < k → ¬ l[q]! = v)) (fun i => na - (intOf i).toNat)
 case atStart => exact ⟨0, Nat.zero_le _, rfl, fun j hj => absurd hj (Nat.not_lt_zero _)⟩
 case round =>
  obtain ⟨k, hk, rfl, A⟩ := hrel
  by_cases hlt : k < na
  ·have hltz : (k : Int) < (na : Int) := by omega
   rcases HZ1.out with hz | ⟨ra, ro, rfl, -, hra⟩
   ·omega
   have o0 := TW0.out.cellOf (hra k hlt)
   clear hra
   generalize hza : l[k]! = za at *
   have HZA := kept hza
   clear hza
   by_cases hq : za = v
   ·have HC := kept (show l.contains v = true by rw [List.contains_iff_mem, ← hq, ← HZA.out]; exact bang_mem (by rw [HNA.out]; exact hlt))
    have hqq : (za == v) = true := by simpa using hq
    clear hq
    go_wp2
    go_ret
    exact ⟨(by simpa using HC.out), (TW0.out.and_then HK.out)⟩
   ·have HQ := kept hq
    have hqq : (za == v) = false := by simpa using hq
    clear hq
    go_wp2
    go_round
    case rel =>
     refine ⟨k + 1, by omega, by go_num, (show Hid _ from fun q hq2 => ?_)⟩
     by_cases e : q = k
     ·subst e; rw [HZA.out]; exact HQ.out
     ·exact A.out q (by omega)
    case measure => simp [intOf]; omega
  ·have hltz : ¬ (k : Int) < (na : Int) := by omega
   obtain rfl : na = k := by omega
   have HC := kept (show l.contains v = false by
    cases e : l.contains v with
    | false => rfl
    | true =>
     rw [List.contains_iff_mem] at e
     obtain ⟨q, hq, he⟩ := List.mem_iff_getElem.1 e
     have := A.out q (by rw [← HNA.out]; exact hq)
     rw [getElem!_pos l q hq] at this
     exact absurd he this)
   go_wp2
   go_ret
   exact ⟨(by simpa using HC.out), (TW0.out.and_then HK.out)⟩
end Go.Proofs.YtjllbchfojonhaaDoor
namespace Go.Proofs.YtjllbchfojonhaaDoor
open Go.RowKit
set_option linter.unusedVariables false
set_option linter.unusedSimpArgs false

set_option maxRecDepth 100000 in
set_option maxHeartbeats 200000000 in

theorem row_ints1 {w : World} {g : Nat} {t : TypeId} {a : Int} (h : Blk w g t #[.int .i64 a]) : IntsAt w (.slice (some ⟨g, 0, none⟩) 1 1, [a]) := row_single (cs := [.int .i64 a]) h
theorem row_ints2 {w : World} {g : Nat} {t : TypeId} {a b : Int} (h : Blk w g t #[.int .i64 a, .int .i64 b]) : IntsAt w (.slice (some ⟨g, 0, none⟩) 2 2, [a, b]) := by
 refine ⟨_, 2, rfl, Nat.le_refl _, by simp [maxLen], .inr ⟨g, 0, rfl, h.lt, fun j e he i x hx => ?_⟩⟩
 simp only [Nat.mul_one, Nat.zero_add]
 have hi : i = 0 := by
  rcases i with _ | i
  ·rfl
  ·have : e.length = 1 := by
    simp only [List.map_cons, List.map_nil] at he
    rcases j with _ | _ | j <;> simp at he <;> (first | (rw [← he]; rfl) | cases he)
   have := (List.getElem?_eq_some_iff.1 hx).1
   omega
 subst hi
 rw [Nat.add_zero, h.cell j]
 rcases j with _ | _ | j <;> simp [intCells] at he <;> (subst he; simpa using hx)
theorem blk_at (W : World) (t : TypeId) (cs : Array Value) {g : Nat} (hg : W.heap.size = g) : Blk (W.alloc (.cells cs t)) g t cs := by
 subst hg; exact Blk.new W t cs
def EndsRet (w : World) (l : List Int) (e : Ending) (w' : World) : Prop := (∃ q : IntsM, e = .returned q.1 ∧ q.2 = l ∧ IntsAt w' q ∧ ∀ k, q.1.ownBlock = some k → w.heap.size ≤ k) ∧ Keeps w w' []
theorem ends_any (k v a b : Int) (bm : BlockM) (h1 : bm.kind = k) (h2 : bm.to0 = a) (h3 : bm.to1 = b) (w : World) : Calls Tryd.prog 74 #[.agg #[.int .i64 k, .int .i64 v, .int .i64 a, .int .i64 b]] w fun e w' => EndsRet w (endsM bm) e w' := by
 unfold endsM
 rw [h1, h2, h3]
 clear h1 h2 h3
 have hk0 : Keeps w (w.alloc (.cells #[.int .i64 k, .int .i64 v, .int .i64 a, .int .i64 b] 37)) [] := (Keeps.refl _ []).alloc _
 have bb0 := Blk.new w 37 #[.int .i64 k, .int .i64 v, .int .i64 a, .int .i64 b]
 have Bm := kept bb0
 have HK := kept hk0
 obtain ⟨m0, m1, m2, m3⟩ := Bm.out.c4
 simp at m0 m1 m2 m3
 clear hk0 bb0
 go_enter Tryd.func74, Tryd.ntmps74
 by_cases hk0 : k = 0
 ·rw [if_pos hk0]
  subst hk0
  go_wp2
  go_ret
  exact ⟨⟨(.slice (some ⟨w.heap.size + 1, 0, none⟩) 1 1, [a]), rfl, rfl, row_ints1 (blk_at _ 3 _ (size_alloc1 _ _)), fun k hk => by simp [Value.ownBlock] at hk; omega⟩, HK.out.alloc _⟩
 rw [if_neg hk0]
 by_cases hk1 : k = 1
 ·rw [if_pos hk1]
  subst hk1
  by_cases hab : a = b
  ·rw [if_pos hab]
   subst hab
   go_wp2
   go_ret
   exact ⟨⟨(.slice (some ⟨w.heap.size + 1, 0, none⟩) 1 1, [a]), rfl, rfl, row_ints1 (blk_at _ 3 _ (size_alloc1 _ _)), fun k hk => by simp [Value.ownBlock] at hk; omega⟩, HK.out.alloc _⟩
  ·rw [if_neg hab]
   go_wp2
   go_ret
   exact ⟨⟨(.slice (some ⟨w.heap.size + 1, 0, none⟩) 2 2, [a, b]), rfl, rfl, row_ints2 (blk_at _ 3 _ (size_alloc1 _ _)), fun k hk => by simp [Value.ownBlock] at hk; omega⟩, HK.out.alloc _⟩
 rw [if_neg hk1]
 go_wp2
 go_ret
 exact ⟨⟨(.slice none 0 0, []), rfl, rfl, row_none, fun k hk => by cases hk⟩, HK.out⟩
end Go.Proofs.YtjllbchfojonhaaDoor
namespace Go.Proofs.YtjllbchfojonhaaDoor
open Go.RowKit
set_option linter.unusedVariables false
set_option linter.unusedSimpArgs false

end Go.Proofs.YtjllbchfojonhaaDoor
namespace Go.Proofs.YtjllbchfojonhaaDoor
open Go.RowKit
set_option linter.unusedVariables false
set_option linter.unusedSimpArgs false

set_option maxRecDepth 100000 in
set_option maxHeartbeats 200000000 in

theorem or_u64 (a b : Nat) (ha : a < 18446744073709551616) (hb : b < 18446744073709551616) : bits .or .u64 (a : Int) (b : Int) = ((a ||| b : Nat) : Int) := by
 have h1 : (BitVec.ofInt 64 (a : Int)) = BitVec.ofNat 64 a := by rw [BitVec.ofInt_natCast]
 have h2 : (BitVec.ofInt 64 (b : Int)) = BitVec.ofNat 64 b := by rw [BitVec.ofInt_natCast]
 have h3 : (BitVec.ofNat 64 a ||| BitVec.ofNat 64 b).toNat = a ||| b := by
  rw [BitVec.toNat_or, BitVec.toNat_ofNat, BitVec.toNat_ofNat, Nat.mod_eq_of_lt ha, Nat.mod_eq_of_lt hb]
 show IntKind.u64.wrap ((BitVec.ofInt 64 (a : Int) ||| BitVec.ofInt 64 (b : Int)).toNat : Int) = _
 have := (BitVec.ofNat 64 a ||| BitVec.ofNat 64 b).isLt
 rw [h1, h2, IntKind.wrap_u64, h3]
 rw [h3] at this
 omega
theorem clear_u64 (a m : Nat) (ha : a < 18446744073709551616) (hm : m < 64) : bits .andNot .u64 (a : Int) ((2 ^ m : Nat) : Int) = ((clearN a m : Nat) : Int) := by
 obtain ⟨c, h1, h2, h3⟩ := andNot_u64 a (2 ^ m) ha (two_lt m hm)
 rw [h1]
 congr 1
 refine Nat.eq_of_testBit_eq fun i => ?_
 rw [clear_bit]
 by_cases hi : i < 64
 ·exact h3 i hi
 ·have e : (2 : Nat) ^ 64 ≤ 2 ^ i := Nat.pow_le_pow_right (by decide) (by omega)
  rw [Nat.testBit_lt_two_pow (Nat.lt_of_lt_of_le h2 e), Nat.testBit_lt_two_pow (Nat.lt_of_lt_of_le ha e)]
  rfl
/-- words, and what lies behind them -/
def wordsC (tl : List Value) (ws : List Nat) : Array Value := ((ws.map fun (x : Nat) => Value.int .u64 x) ++ tl).toArray
theorem words_at {tl : List Value} {ws : List Nat} {k : Nat} (hk : k < ws.length) : (wordsC tl ws)[k]? = some (.int .u64 (ws[k]! : Nat)) := by
 unfold wordsC
 rw [List.getElem?_toArray, List.getElem?_append_left (by simpa using hk), List.getElem?_map, List.getElem?_eq_getElem hk, getElem!_pos ws k hk]; rfl
theorem words_set (tl : List Value) (ws : List Nat) (k c : Nat) (hk : k < ws.length) : (wordsC tl ws).setIfInBounds k (.int .u64 (c : Nat)) = wordsC tl (ws.set k c) := by
 unfold wordsC
 rw [List.setIfInBounds_toArray, List.map_set, List.set_append_left _ _ (by simpa using hk)]
theorem set_drawn {tl : List Value} {w : World} {g : Nat} {ws : List Nat} (hb : Blk w g 125 (wordsC tl ws)) (q c : Nat) (hk : q < ws.length) : Blk (w.setCell ⟨g, q, none⟩ (.int .u64 (c : Nat))).drew g 125 (wordsC tl (ws.set q c)) ∧ Keeps w (w.setCell ⟨g, q, none⟩ (.int .u64 (c : Nat))).drew [g] := by
 have h1 := hb.set_ q (.int .u64 (c : Nat))
 rw [words_set _ _ _ _ hk] at h1
 exact ⟨h1.keep ((Keeps.refl _ []).drew) (by simp), ((Keeps.refl w [g]).setCell (.inl (by simp)) _).drew⟩
theorem add_any (tl : List Value) (ws : List Nat) (g cap v : Nat) (w : World) (hb : Blk w g 125 (wordsC tl ws)) (ho : WordsOK ws) (hv : v / 64 < ws.length) (hm : ws.length ≤ maxLen) (hv2 : v ≤ maxLen) : Calls Tryd.prog 78 #[.slice (some ⟨g, 0, none⟩) ws.length cap, .int .i64 (v : Nat)] w fun e w' => e = .returned (.tuple #[]) ∧ Blk w' g 125 (wordsC tl (addW ws v)) ∧ Keeps w w' [g] := by
 have c0 := ((Keeps.refl w []).drew).cellOf (hb.cell (v / 64) |>.trans (words_at hv))
 have f0 := (hb.keep ((Keeps.refl w []).drew) (by simp)).frozen (v / 64)
 have hq2 : (v : Int) / 64 = ((v / 64 : Nat) : Int) := by omega
 have hr2 : (v : Int) % 64 = ((v % 64 : Nat) : Int) := by omega
 have hW := ho.at (v / 64)
 have hm64 : v % 64 < 64 := by omega
 unfold addW
 generalize v / 64 = q at *
 generalize v % 64 = m at *
 generalize ws[q]! = W0 at *
 unfold maxLen at hm hv2
 have hqI : (q : Int) < (ws.length : Int) := by omega
 have hwq : IntKind.i64.wrap ((v : Int) / 64) = (q : Int) := by rw [hq2]; exact IntWalk.i64_in _ (by omega)
 have hwm : IntKind.i64.wrap ((v : Int) % 64) = (m : Int) := by rw [hr2]; exact IntWalk.i64_in _ (by omega)
 have hw1 : wrap64 (q : Int) = (q : Int) := by rw [← IntWalk.i64_left]; exact IntWalk.i64_in _ (by omega)
 have hw2 : wrap64 (m : Int) = (m : Int) := by rw [← IntWalk.i64_left]; exact IntWalk.i64_in _ (by omega)
 go_enter Tryd.func78, Tryd.ntmps78
 go_region
 have h2m : IntKind.u64.wrap (2 ^ m) = ((2 ^ m : Nat) : Int) := by
  have := two_lt m hm64
  rw [IntKind.wrap_u64, show (2 : Int) ^ m = ((2 ^ m : Nat) : Int) by push_cast; rfl]; generalize 2 ^ m = z at *; omega
 rw [h2m, or_u64 _ _ hW (two_lt m hm64)]
 exact bodyPost_end (v := .tuple #[]) (by have h : Tryd.f78.results = #[] := (by kernel_rfl); simp [results, h]) rfl ⟨rfl, set_drawn hb _ _ hv⟩
theorem drop_any (tl : List Value) (ws : List Nat) (g cap v : Nat) (w : World) (hb : Blk w g 125 (wordsC tl ws)) (ho : WordsOK ws) (hv : v / 64 < ws.length) (hm : ws.length ≤ maxLen) (hv2 : v ≤ maxLen) : Calls Tryd.prog 79 #[.slice (some ⟨g, 0, none⟩) ws.length cap, .int .i64 (v : Nat)] w fun e w' => e = .returned (.tuple #[]) ∧ Blk w' g 125 (wordsC tl (dropW ws v)) ∧ Keeps w w' [g] := by
 have c0 := ((Keeps.refl w []).drew).cellOf (hb.cell (v / 64) |>.trans (words_at hv))
 have f0 := (hb.keep ((Keeps.refl w []).drew) (by simp)).frozen (v / 64)
 have hq2 : (v : Int) / 64 = ((v / 64 : Nat) : Int) := by omega
 have hr2 : (v : Int) % 64 = ((v % 64 : Nat) : Int) := by omega
 have hW := ho.at (v / 64)
 have hm64 : v % 64 < 64 := by omega
 unfold dropW
 generalize v / 64 = q at *
 generalize v % 64 = m at *
 generalize ws[q]! = W0 at *
 unfold maxLen at hm hv2
 have hqI : (q : Int) < (ws.length : Int) := by omega
 have hwq : IntKind.i64.wrap ((v : Int) / 64) = (q : Int) := by rw [hq2]; exact IntWalk.i64_in _ (by omega)
 have hwm : IntKind.i64.wrap ((v : Int) % 64) = (m : Int) := by rw [hr2]; exact IntWalk.i64_in _ (by omega)
 have hw1 : wrap64 (q : Int) = (q : Int) := by rw [← IntWalk.i64_left]; exact IntWalk.i64_in _ (by omega)
 have hw2 : wrap64 (m : Int) = (m : Int) := by rw [← IntWalk.i64_left]; exact IntWalk.i64_in _ (by omega)
 go_enter Tryd.func79, Tryd.ntmps79
 go_region
 have h2m : IntKind.u64.wrap (2 ^ m) = ((2 ^ m : Nat) : Int) := by
  have := two_lt m hm64
  rw [IntKind.wrap_u64, show (2 : Int) ^ m = ((2 ^ m : Nat) : Int) by push_cast; rfl]; generalize 2 ^ m = z at *; omega
 rw [h2m, clear_u64 _ _ hW hm64]
 exact bodyPost_end (v := .tuple #[]) (by have h : Tryd.f79.results = #[] := (by kernel_rfl); simp [results, h]) rfl ⟨rfl, set_drawn hb _ _ hv⟩
end Go.Proofs.YtjllbchfojonhaaDoor
namespace Go.Proofs.YtjllbchfojonhaaDoor
open Go.RowKit
set_option linter.unusedVariables false
set_option linter.unusedSimpArgs false

set_option maxRecDepth 100000 in
set_option maxHeartbeats 200000000 in

theorem set_now {tl : List Value} {w : World} {g : Nat} {ws : List Nat} (hb : Blk w g 125 (wordsC tl ws)) (q c : Nat) (hk : q < ws.length) : Blk (w.setCell ⟨g, q, none⟩ (.int .u64 (c : Nat))) g 125 (wordsC tl (ws.set q c)) ∧ Keeps w (w.setCell ⟨g, q, none⟩ (.int .u64 (c : Nat))) [g] := by
 have h1 := hb.set_ q (.int .u64 (c : Nat))
 rw [words_set _ _ _ _ hk] at h1
 exact ⟨h1, (Keeps.refl w [g]).setCell (.inl (by simp)) _⟩
theorem join_any (t1 t2 : List Value) (s u : List Nat) (g h cs cu : Nat) (w : World) (hs : Blk w g 125 (wordsC t1 s)) (hu : Blk w h 125 (wordsC t2 u)) (hgh : g ≠ h) (ho : WordsOK s) (hou : WordsOK u) (hl : u.length = s.length) (hm : s.length ≤ maxLen) : Calls Tryd.prog 75 #[.slice (some ⟨g, 0, none⟩) s.length cs, .slice (some ⟨h, 0, none⟩) u.length cu] w fun e w' => e = .returned (.tuple #[]) ∧ Blk w' g 125 (wordsC t1 (joinW s u)) ∧ Keeps w w' [g] := by
 have HS := kept hs
 have HU := kept hu
 have HO := kept ho
 have HOU := kept hou
 have hmm : s.length ≤ 9223372036854775807 := by unfold maxLen at hm; omega
 clear hs hu ho hou hm
 unfold joinW
 generalize hn : s.length = n at *
 have HN := kept hn
 have HL := kept hl
 rw [hl]
 clear hn hl
 go_enter Tryd.func75, Tryd.ntmps75
 go_wp2
 go_loopw [8] (fun i wr => ∃ k : Nat, k ≤ n ∧ i = .int .i64 k ∧ Blk wr g 125 (wordsC t1 (joinTo s u k)) ∧ Keeps w wr [g]) (fun i _ => n - (intOf i).toNat)
 case atStart => exact ⟨0, Nat.zero_le _, rfl, by rw [joinTo_zero]; exact HS.out, Keeps.refl _ _⟩
 case round =>
  obtain ⟨k, hk, rfl, hB, hK⟩ := hrel
  have HB := kept hB
  have HK := kept hK
  clear hB hK
  by_cases hlt : k < n
  ·have hltz : (k : Int) < (n : Int) := by omega
   have HU2 := kept (HU.out.keep HK.out (by simp; omega))
   have c1 := (HU2.out.cell k).trans (words_at (by rw [HL.out]; exact hlt))
   have c0 := (HB.out.cell k).trans (words_at (by rw [joinTo_len, HN.out]; exact hlt))
   have e0 : (joinTo s u k)[k]! = s[k]! := by rw [joinTo_at _ _ _ _ (by rw [HN.out]; exact hlt), if_neg (Nat.lt_irrefl k)]
   rw [e0] at c0
   have f0 := HB.out.frozen k
   have HX := kept (set_now HB.out k (s[k]! ||| u[k]!) (by rw [joinTo_len, HN.out]; exact hlt))
   have HJ := kept (joinTo_step s u k (by rw [HN.out]; exact hlt))
   rw [← HJ.out] at HX
   have HV := kept (or_u64 s[k]! u[k]! (HO.out.at k) (HOU.out.at k))
   clear e0
   generalize s[k]! = a at *
   generalize u[k]! = b at *
   go_wp2
   rw [HV.out]
   exact ⟨⟨k + 1, by omega, by go_num, HX.out.1, HK.out.setCell (.inl (by simp)) _⟩, by simp [intOf]; omega⟩
  ·have hltz : ¬ (k : Int) < (n : Int) := by omega
   obtain rfl : n = k := by omega
   go_wp2
   exact bodyPost_end (v := .tuple #[]) (by have h : Tryd.f75.results = #[] := (by kernel_rfl); simp [results, h]) rfl ⟨rfl, HB.out, HK.out⟩
end Go.Proofs.YtjllbchfojonhaaDoor
namespace Go.Proofs.YtjllbchfojonhaaDoor
open Go.RowKit
set_option linter.unusedVariables false
set_option linter.unusedSimpArgs false

set_option maxRecDepth 100000 in
set_option maxHeartbeats 200000000 in

theorem made_zero (q : Nat) : madeCells (Value.int .u64 0).cells q = wordsC [] (List.replicate q 0) := by
 unfold wordsC
 apply Array.ext
 ·rw [size_madeCells]; simp
 ·intro i h1 h2
  unfold madeCells
  simp [Value.cells, Nat.mod_one]
theorem info125 : (Tryd.prog.info? 125).map (fun i => (i.zero, i.size, i.bytes)) = some (some (.int .u64 0), 1, 8) := by kernel_rfl
theorem empty_any (n : Nat) (w : World) (hn : n ≤ 1000000) : Calls Tryd.prog 73 #[.int .i64 (n : Nat)] w fun e w' => e = .returned (.slice (some ⟨w.heap.size, 0, none⟩) ((n + 63) / 64) ((n + 63) / 64)) ∧ Blk w' w.heap.size 125 (wordsC [] (List.replicate ((n + 63) / 64) 0)) ∧ Keeps w w' [] := by
 have hq2 : ((n : Int) + 63) / 64 = (((n + 63) / 64 : Nat) : Int) := by omega
 have hmm : (n + 63) / 64 ≤ 1000000 := by omega
 generalize (n + 63) / 64 = q at *
 have hwq : IntKind.i64.wrap (((n : Int) + 63) / 64) = (q : Int) := by rw [hq2]; exact IntWalk.i64_in _ (by omega)
 have hw1 : wrap64 (q : Int) = (q : Int) := by rw [← IntWalk.i64_left]; exact IntWalk.i64_in _ (by omega)
 obtain ⟨i, hi, he⟩ := Option.map_eq_some_iff.1 info125
 simp only [Prod.mk.injEq] at he
 obtain ⟨hz, hsz, hby⟩ := he
 have hr := Go.run_makeSlice (P := Tryd.prog) (w := w) 97 125 i (.int .u64 0) (by kernel_rfl) hi hz .i64 .i64 (q : Int) (q : Int) (by omega) (Int.le_refl _) (by rw [hsz]; omega) (by rw [hby]; omega) (by omega)
 rw [hsz, Int.toNat_natCast, Nat.mul_one, show madeCells (Value.int .u64 0).cells q = wordsC [] (List.replicate q 0) from made_zero q] at hr
 go_enter Tryd.func73, Tryd.ntmps73
 go_wp2
 go_ret
 exact ⟨rfl, Blk.new w 125 _, (Keeps.refl w []).alloc _⟩
end Go.Proofs.YtjllbchfojonhaaDoor
namespace Go.Proofs.YtjllbchfojonhaaDoor
open Go.RowKit Go.Shelf Go.Lib
set_option linter.unusedVariables false
set_option linter.unusedSimpArgs false

structure TabsL (w : World) : Prop where
 tabs : Tabs w
 de : TabAt 0 Lib.deBruijn64tab w
theorem TabsL.keep {w w' : World} (h : TabsL w) (k : Keeps w w' []) : TabsL w' := ⟨h.tabs.keep k, fun j hj => k.cellOf (h.de j hj)⟩
theorem tz_any (x : Nat) (hx : x < 18446744073709551616) (w : World) (ht : TabsL w) : Calls Tryd.prog 81 #[.int .u64 x] w fun e w' => e = .returned (.int .i64 (Lib.ctz 64 x : Nat)) ∧ w = w' :=
 (show Calls Tryd.prog 81 #[.int .u64 x] w fun e w' => e = .returned (.int .i64 (Lib.ctz 64 x : Nat)) ∧ w' = w from Any7.bits_TrailingZeros64 Tryd.lays7TZ x hx w (fun _ => ht.de)).mono fun _ _ h => ⟨h.1, h.2.symm⟩
theorem contains_any (q : IntsM) (x : Int) (w : World) (h : IntsAt w q) : Calls Tryd.prog 100 #[q.1, .int .i64 x] w fun e w' => e = .returned (.bool (q.2.contains x)) ∧ w = w' := by
 obtain ⟨a, cap, e1, h2, h3, h4⟩ := IntsAt.open_ h
 rw [e1]
 rcases h4 with h4 | ⟨b, off, rfl, hb, hc⟩
 ·have h5 : q.2 = [] := List.eq_nil_of_length_eq_zero h4
  rw [h5]
  exact (show Calls Tryd.prog 100 #[.slice a 0 cap, .int .i64 x] w fun e w' => e = .returned (.bool false) ∧ w' = w from Any.slices_Contains_int_empty Tryd.laysCont a cap x w).mono fun _ _ h => ⟨h.1, h.2.symm⟩
 ·refine (show Calls Tryd.prog 100 #[.slice (some ⟨b, off, none⟩) q.2.length cap, .int .i64 x] w fun e w' => e = .returned (.bool ((q.2.take q.2.length).contains x)) ∧ w' = w from
   Any.slices_Contains_int Tryd.laysCont b off q.2.length cap q.2 x w (Nat.le_refl _) (by unfold maxLen at h3; omega) (fun j hj => ?_)).mono fun _ _ h => ⟨by rw [h.1, List.take_length], h.2.symm⟩
  rw [hc j hj, getElem!_pos q.2 j hj, List.getD, List.getElem?_eq_getElem hj]; rfl
def usesTo (l : List Int) (k : Nat) : List Int := (l.take k).foldl (fun o v => if o.contains v = true then o else o ++ [v]) []
theorem usesTo_all (l : List Int) : usesTo l l.length = usesL l := by unfold usesTo usesL; rw [List.take_length]
theorem usesTo_zero (l : List Int) : usesTo l 0 = [] := by unfold usesTo; simp
theorem usesTo_step (l : List Int) (k : Nat) (hk : k < l.length) : usesTo l (k + 1) = if (usesTo l k).contains l[k]! = true then usesTo l k else usesTo l k ++ [l[k]!] := by
 unfold usesTo
 rw [List.take_succ_eq_append_getElem hk, List.foldl_append, getElem!_pos l k hk]; rfl
theorem usesTo_len (l : List Int) (k : Nat) : (usesTo l k).length ≤ k := by
 induction k with
 | zero => rw [usesTo_zero]; simp
 | succ k ih =>
  by_cases hk : k < l.length
  ·rw [usesTo_step l k hk]
   split
   ·omega
   ·rw [List.length_append]; simp; omega
  ·unfold usesTo at *
   rw [List.take_of_length_le (by omega)]
   rw [List.take_of_length_le (by omega)] at ih
   omega
theorem ints_row {w : World} {base : Nat} {v : Value} {l : List Int} (h : w.ownsRow base 3 1 v l.length (l.map (Value.int .i64))) : IntsAt w (v, l) := by
 have := row_of_own h
 rw [List.map_map] at this
 exact this
theorem own_base_ {w : World} {base base' : Nat} {e : TypeId} {size n : Nat} {v : Value} {xs : List Value} (h : w.ownsRow base e size v n xs) (hb : base' ≤ base) : w.ownsRow base' e size v n xs :=
 ⟨h.1, h.2.imp id (fun ⟨g, cap, cur, a, b, c⟩ => ⟨g, cap, cur, a, Nat.le_trans hb b, c⟩)⟩
def OwnInts (w w' : World) (l : List Int) (e : Ending) : Prop := ∃ v, e = .returned v ∧ w'.ownsRow w.heap.size 3 1 v l.length (l.map (Value.int .i64))

set_option maxRecDepth 100000 in
set_option maxHeartbeats 200000000 in
theorem uses_any (x : InstM) (w : World) (hx : InstAt w x) (hn : x.args.2.length ≤ 1000) : Calls Tryd.prog 80 #[.agg x.cells.toArray] w fun e w' => OwnInts w w' (usesL x.args.2) e ∧ Keeps w w' [] := by
 obtain ⟨i3, hi3, he3⟩ := Option.map_eq_some_iff.1 info3
 simp only [Prod.mk.injEq] at he3
 obtain ⟨hz3, hs3, hb3⟩ := he3
 obtain ⟨ua, va1, e3, hle1, hm1, hz1⟩ := IntsAt.open_ hx
 have hnb := kept hn
 clear hn
 have hmm : x.args.2.length ≤ 9223372036854775807 := by unfold maxLen at hm1; omega
 simp only [InstM.cells, e3]
 have HU := kept (usesTo_all x.args.2)
 have HZ := kept hz1
 clear hz1 e3 hx
 generalize x.args.2 = L at *
 generalize hN : L.length = n at *
 have HN := kept hN
 clear hN
 generalize x.op = pop at *
 generalize x.dst = pdst at *
 generalize x.num = pnum at *
 have hk0 : Keeps w (w.alloc (.cells #[.int .i64 pop, .int .i64 pdst, .slice ua n va1, .int .i64 pnum] 42)) [] := (Keeps.refl _ []).alloc _
 have bb0 := Blk.new w 42 #[.int .i64 pop, .int .i64 pdst, .slice ua n va1, .int .i64 pnum]
 have Bl := kept bb0
 have HK := kept hk0
 obtain ⟨l0, l1, l2, l3⟩ := Bl.out.c4
 simp at l0 l1 l2 l3
 clear hk0 bb0
 go_enter Tryd.func80, Tryd.ntmps80
 go_wp2
 clear l0 l1 l2 l3
 generalize (w.alloc (.cells #[.int .i64 pop, .int .i64 pdst, .slice ua n va1, .int .i64 pnum] 42)) = W0 at *
 have Bl_W0 := Bl
 have TW0 := HK
 clear HK
 have HK := kept (Keeps.refl W0 [])
 obtain ⟨l0, l1, l2, l3⟩ := Bl.out.c4
 simp at l0 l1 l2 l3
 go_loopw [3, 9] (fun o i wr => ∃ k : Nat, k ≤ n ∧ i = .int .i64 k ∧ wr.ownsRow W0.heap.size 3 1 o (usesTo L k).length ((usesTo L k).map (Value.int .i64)) ∧ Keeps W0 wr []) (fun _ i _ => n - (intOf i).toNat)
 case atStart => exact ⟨0, Nat.zero_le _, rfl, by rw [usesTo_zero]; exact World.ownsRow_nil _ _ _ _, HK.out⟩
 case round =>
  obtain ⟨k, hk, rfl, hO, hr⟩ := hrel
  have HO := kept hO
  clear l0 l1 l2 l3
  clear Bl HK
  have HK := kept hr
  have Bl := kept (Bl_W0.out.keep hr (by simp))
  clear hr
  obtain ⟨l0, l1, l2, l3⟩ := Bl.out.c4
  simp at l0 l1 l2 l3
  obtain ⟨oa, oc, rfl, hoc1, hoc2⟩ := own_form hO
  clear hO
  by_cases hlt : k < n
  ·have hltz : (k : Int) < (n : Int) := by omega
   rcases HZ.out with hz | ⟨ra, ro, rfl, -, hra⟩
   ·omega
   have n0 := (TW0.out.and_then HK.out).cellOf (hra k hlt)
   clear hra
   have HUS := kept (usesTo_step L k (by rw [HN.out]; exact hlt))
   have hlen := usesTo_len L k
   have CC := kept (fun x => contains_any (.slice oa (usesTo L k).length oc, usesTo L k) x wr (ints_row HO.out))
   generalize L[k]! = z at *
   generalize hcc : (usesTo L k).contains z = cc at *
   have HCC := kept hcc
   clear hcc
   have CC2 := kept (CC.out z)
   simp only [HCC.out] at CC2
   clear CC
   cases cc with
   | true =>
    go_wp2_with (go_at_call 100; refine (CC2.out).mono ?_; rintro e w3 ⟨rfl, rfl⟩)
    go_roundw
    case rel =>
     have e9 : usesTo L (k + 1) = usesTo L k := by rw [HUS.out]; simp
     exact ⟨k + 1, by omega, by go_num, by rw [e9]; exact HO.out, HK.out⟩
    case measure => simp [intOf]; omega
   | false =>
    have hkm : (usesTo L k).length + 1 ≤ maxLen := by have := hnb.out; unfold maxLen; omega
    have hky : ((usesTo L k).length + 1) * 8 ≤ 140737488355328 := by have := hnb.out; omega
    have hsz1 := HK.out.size
    go_wp2_with (first | (at_builtin; go_must (refine wpList_append_own _ rfl (.tmp 17) (.tmp 19) 23 rfl W0.heap.size 3 i3 (.int .i64 0) 1 8 Tryd.underlying23 hi3 hz3 hs3 hb3 rfl (by decide) _ _ _ rfl (HO.out.alloc _) ⟨wr.heap.size, 0, none⟩ 1 1 [.int .i64 z] rfl rfl (news_one _ _ _) (ones_one rfl) hkm hky (by simp; omega) ?_); intro v' w3 hown' hgrow3 _; have HK3 := kept (keeps_append hgrow3 HO.out HK.out (Nat.le_refl _)); have HO3 := kept hown'; clear hgrow3 hown') | (go_at_call 100; refine (CC2.out).mono ?_; rintro e w3 ⟨rfl, rfl⟩))
    go_roundw
    case rel =>
     have e9 : usesTo L (k + 1) = usesTo L k ++ [z] := by rw [HUS.out]; simp
     refine ⟨k + 1, by omega, by go_num, ?_, HK3.out⟩
     rw [e9, List.map_append, List.length_append]
     exact HO3.out
    case measure => simp [intOf]; omega
  ·have hltz : ¬ (k : Int) < (n : Int) := by omega
   obtain rfl : n = k := by omega
   go_wp2
   go_ret
   refine ⟨⟨.slice oa (usesTo L n).length oc, rfl, ?_⟩, TW0.out.and_then HK.out⟩
   have h9 := HO.out
   rw [HU.out] at h9 ⊢
   exact own_base_ h9 TW0.out.size
end Go.Proofs.YtjllbchfojonhaaDoor
namespace Go.Proofs.YtjllbchfojonhaaDoor
open Go.RowKit Go.Shelf Go.Lib
set_option linter.unusedVariables false
set_option linter.unusedSimpArgs false

def SetRet (w : World) (ws : List Nat) (e : Ending) (w' : World) : Prop :=
 ∃ g cap tl, e = .returned (.slice (some ⟨g, 0, none⟩) ws.length cap) ∧ w.heap.size ≤ g ∧ Blk w' g 125 (wordsC tl ws) ∧ Keeps w w' []
theorem words_of_own {w : World} {base : Nat} {v : Value} {ws : List Nat} (h : w.ownsRow base 125 1 v ws.length (ws.map fun (x : Nat) => Value.int .u64 x)) (hn : v ≠ .slice none 0 0) :
  ∃ g cap tl, v = .slice (some ⟨g, 0, none⟩) ws.length cap ∧ base ≤ g ∧ Blk w g 125 (wordsC tl ws) := by
 obtain ⟨h1, h2 | ⟨g, cap, cur, h2, h3, h4, h5, h6, h7, h8⟩⟩ := h
 ·exact absurd h2.1 hn
 ·refine ⟨g, cap, cur.toList.drop ws.length, h2, h3, ?_⟩
  unfold Blk
  rw [h4]
  have : wordsC (cur.toList.drop ws.length) ws = cur := by
   unfold wordsC
   rw [Nat.mul_one] at h8
   rw [← h8, List.take_append_drop]
  rw [this]

set_option maxRecDepth 100000 in
set_option maxHeartbeats 200000000 in
theorem clone_any (tl : List Value) (ws : List Nat) (g cap : Nat) (w : World) (hb : Blk w g 125 (wordsC tl ws)) (hm : ws.length ≤ 1000) : Calls Tryd.prog 77 #[.slice (some ⟨g, 0, none⟩) ws.length cap] w fun e w' => SetRet w ws e w' := by
 obtain ⟨i0, hi, he⟩ := Option.map_eq_some_iff.1 info125
 simp only [Prod.mk.injEq] at he
 obtain ⟨hz0, hz1, hz2⟩ := he
 have HB := kept hb
 have hx : ∀ w, Sem.run Tryd.prog (binOp BinOp.eql 97 (.slice (some ⟨g, 0, none⟩) ws.length cap) (.slice none 0 0)) w = .ok (.bool false) w := by intro w; rfl
 clear hb
 go_enter Tryd.func77, Tryd.ntmps77
 go_wp2_with (at_builtin; refine wpList_append_own_at _ rfl (.tmp 5) (.tmp 6) 97 rfl w.heap.size 125 i0 _ 1 8 Tryd.underlying97 hi hz0 hz1 hz2 rfl (by decide) _ 0 [] rfl ?c0 ⟨g, 0, none⟩ ws.length cap (ws.map fun (x : Nat) => Value.int .u64 x) rfl (by simp) ?c1 ?c2 ?c3 ?c4 ?c5 ?_)
 case c0 => exact ⟨rfl, .inr ⟨w.heap.size, 0, #[], rfl, Nat.le_refl _, heap_alloc_new w _, Nat.le_refl _, by simp [maxLen], rfl, rfl⟩⟩
 case c1 =>
  intro j u hj
  have hjl : j < ws.length := by
   have := (List.getElem?_eq_some_iff.1 hj).1
   simpa using this
  have h1 := ((HB.out.keep ((Keeps.refl w []).alloc (.cells #[] 125)) (by simp)).cell j).trans (words_at hjl)
  have e : u = .int .u64 (ws[j]! : Nat) := by
   rw [List.getElem?_map, List.getElem?_eq_getElem hjl] at hj
   rw [getElem!_pos ws j hjl]
   exact (Option.some.inj hj).symm
  rw [e, add_plain, Nat.zero_add]
  exact h1
 case c2 =>
  intro u hu
  obtain ⟨x, _, rfl⟩ := List.mem_map.1 hu
  rfl
 case c3 => unfold maxLen; omega
 case c4 => omega
 case c5 => simp
 intro v' w3 hown hg hnz hat
 have hnn : v' ≠ .slice none 0 0 := fun e => by first | exact hnz e | (have := (hnz.1 e).1; cases this)
 try simp only [List.nil_append, Nat.zero_add] at hown
 obtain ⟨g2, c2, t2, rfl, hg2, hB2⟩ := words_of_own hown hnn
 have HB2 := kept hB2
 have HK2 := kept (((Keeps.refl w []).alloc (.cells #[] 125)).grown hg (fun k hk => .inr (by simp [Value.ownBlock] at hk; omega)))
 clear hnz hat hown hg hB2 hnn HB
 go_wp2
 go_ret
 exact ⟨g2, c2, t2, rfl, hg2, HB2.out, HK2.out⟩
theorem list_ext_bang {s u : List Nat} (hl : u.length = s.length) (h : ∀ j, j < s.length → s[j]! = u[j]!) : s = u :=
 List.ext_getElem hl.symm fun k h1 h2 => by have := h k h1; rwa [getElem!_pos s k h1, getElem!_pos u k h2] at this

set_option maxRecDepth 100000 in
set_option maxHeartbeats 200000000 in
theorem equal_any (t1 t2 : List Value) (s u : List Nat) (g h cs cu : Nat) (w : World) (hs : Blk w g 125 (wordsC t1 s)) (hu : Blk w h 125 (wordsC t2 u)) (hl : u.length = s.length) (hm : s.length ≤ 1000) :
  Calls Tryd.prog 76 #[.slice (some ⟨g, 0, none⟩) s.length cs, .slice (some ⟨h, 0, none⟩) u.length cu] w fun e w' => e = .returned (.bool (decide (s = u))) ∧ Keeps w w' [] := by
 have HS := kept hs
 have HU := kept hu
 have HE := kept (list_ext_bang hl)
 clear hs hu
 generalize hn : s.length = n at *
 have HN := kept hn
 have HL := kept hl
 rw [hl]
 clear hn hl
 have hnn : ((n : Int) != (n : Int)) = false := by simp
 go_enter Tryd.func76, Tryd.ntmps76
 go_wp2
 go_loopw [13] (fun i wr => ∃ k : Nat, k ≤ n ∧ i = .int .i64 k ∧ Keeps w wr [] ∧ Hid (∀ j, j < k → s[j]! = u[j]!)) (fun i _ => n - (intOf i).toNat)
 case atStart => exact ⟨0, Nat.zero_le _, rfl, Keeps.refl _ _, fun j hj => absurd hj (Nat.not_lt_zero _)⟩
 case round =>
  obtain ⟨k, hk, rfl, hK, A⟩ := hrel
  have HK := kept hK
  clear hK
  by_cases hlt : k < n
  ·have hltz : (k : Int) < (n : Int) := by omega
   have c0 := ((HS.out.keep HK.out.drew (by simp)).cell k).trans (words_at (by rw [HN.out]; exact hlt))
   have c1 := ((HU.out.keep HK.out.drew (by simp)).cell k).trans (words_at (by rw [HL.out]; exact hlt))
   by_cases hq : s[k]! = u[k]!
   ·have HQ := kept hq
    rw [← hq] at c1
    clear hq
    obtain ⟨a, hA⟩ : ∃ a, s[k]! = a := ⟨_, rfl⟩
    rw [hA] at c0 c1
    clear hA
    have haa : ((a : Int) != (a : Int)) = false := by simp
    go_wp2
    go_region
    go_wp2
    go_roundw
    case rel =>
     refine ⟨k + 1, by omega, by go_num, HK.out.drew, (show Hid _ from fun q hq2 => ?_)⟩
     by_cases e : q = k
     ·subst e; exact HQ.out
     ·exact A.out q (by omega)
    case measure => simp [intOf]; omega
   ·have HD := kept (show decide (s = u) = false from decide_eq_false (fun e => hq (by rw [e])))
    generalize s[k]! = a at *
    generalize u[k]! = b at *
    have haa : ((a : Int) != (b : Int)) = true := by simp; omega
    go_wp2
    go_region
    go_wp2
    go_ret
    exact ⟨ret_bool HD.out.symm, HK.out.drew⟩
  ·have hltz : ¬ (k : Int) < (n : Int) := by omega
   obtain rfl : n = k := by omega
   have HD := kept (show decide (s = u) = true from decide_eq_true (HE.out A.out))
   go_wp2
   go_ret
   exact ⟨ret_bool HD.out.symm, HK.out⟩

def listTo (ws : List Nat) (k : Nat) : List Nat := (List.range (64 * k)).filter (bitB ws)
theorem listTo_all (ws : List Nat) : listTo ws ws.length = listB ws := rfl
theorem listTo_step (ws : List Nat) (k : Nat) (hk : k < ws.length) : listTo ws (k + 1) = listTo ws k ++ (bitsOf ws[k]!).map (k * 64 + ·) := list_take ws k hk
theorem listTo_len (ws : List Nat) (k : Nat) : (listTo ws k).length ≤ 64 * k := by
 unfold listTo
 have := List.length_filter_le (bitB ws) (List.range (64 * k))
 rwa [List.length_range] at this
def natI (l : List Nat) : List Int := l.map Int.ofNat
theorem and_u64 (a b : Nat) (ha : a < 18446744073709551616) (hb : b < 18446744073709551616) : bits .and .u64 (a : Int) (b : Int) = ((a &&& b : Nat) : Int) := by
 have h1 : (BitVec.ofInt 64 (a : Int)) = BitVec.ofNat 64 a := by rw [BitVec.ofInt_natCast]
 have h2 : (BitVec.ofInt 64 (b : Int)) = BitVec.ofNat 64 b := by rw [BitVec.ofInt_natCast]
 have h3 : (BitVec.ofNat 64 a &&& BitVec.ofNat 64 b).toNat = a &&& b := by
  rw [BitVec.toNat_and, BitVec.toNat_ofNat, BitVec.toNat_ofNat, Nat.mod_eq_of_lt ha, Nat.mod_eq_of_lt hb]
 show IntKind.u64.wrap ((BitVec.ofInt 64 (a : Int) &&& BitVec.ofInt 64 (b : Int)).toNat : Int) = _
 have := (BitVec.ofNat 64 a &&& BitVec.ofNat 64 b).isLt
 rw [h1, h2, IntKind.wrap_u64, h3]
 rw [h3] at this
 omega

set_option maxRecDepth 100000 in
set_option maxHeartbeats 200000000 in
theorem list_any (tl : List Value) (ws : List Nat) (g cap : Nat) (w : World) (ht : TabsL w) (hb : Blk w g 125 (wordsC tl ws)) (ho : WordsOK ws) (hm : ws.length ≤ 1000) : Calls Tryd.prog 49 #[.slice (some ⟨g, 0, none⟩) ws.length cap] w fun e w' => OwnInts w w' (natI (listB ws)) e ∧ Keeps w w' [] := by
 obtain ⟨i3, hi3, he3⟩ := Option.map_eq_some_iff.1 info3
 simp only [Prod.mk.injEq] at he3
 obtain ⟨hz3, hs3, hb3⟩ := he3
 have HT := kept ht
 have HB := kept hb
 have HO := kept ho
 have HLL := kept (listTo_all ws)
 clear ht hb ho
 generalize hn : ws.length = n at *
 have HN := kept hn
 clear hn
 go_enter Tryd.func49, Tryd.ntmps49
 go_wp2
 go_loopw [3, 8] (fun o i wr => ∃ k : Nat, k ≤ n ∧ i = .int .i64 k ∧ wr.ownsRow w.heap.size 3 1 o (natI (listTo ws k)).length ((natI (listTo ws k)).map (Value.int .i64)) ∧ Keeps w wr []) (fun _ i _ => n - (intOf i).toNat)
 case atStart => exact ⟨0, Nat.zero_le _, rfl, World.ownsRow_nil _ _ _ _, Keeps.refl _ _⟩
 case round =>
  obtain ⟨k, hk, rfl, hO, hr⟩ := hrel
  obtain ⟨wo, hwo⟩ : ∃ wo : World, wo = wr := ⟨_, rfl⟩
  subst hwo
  have HK := kept hr
  have HR := kept hO
  clear hr hO
  by_cases hlt : k < n
  ·have hltz : (k : Int) < (n : Int) := by omega
   have c0 := ((HB.out.keep HK.out (by simp)).cell k).trans (words_at (by rw [HN.out]; exact hlt))
   have HST := kept (listTo_step ws k (by rw [HN.out]; exact hlt))
   have hle := listTo_len ws (k + 1)
   have hW := HO.out.at k
   generalize ws[k]! = W at *
   have HSTL := kept hle
   clear hle
   go_wp2
   go_loopw [3, 5] (fun o x wr => ∃ (u : Nat) (R : List Nat), x = .int .u64 u ∧ u < 18446744073709551616 ∧ Hid (R ++ (bitsOf u).map (k * 64 + ·) = listTo ws (k + 1)) ∧ wr.ownsRow w.heap.size 3 1 o (natI R).length ((natI R).map (Value.int .i64)) ∧ Keeps w wr []) (fun _ x _ => (intOf x).toNat)
   case atStart => exact ⟨W, listTo ws k, rfl, hW, HST.out.symm, HR.out, HK.out⟩
   case round =>
    obtain ⟨u, R, rfl, hu, A, hO, hr⟩ := hrel
    have HK2 := kept hr
    have HR2 := kept hO
    clear hr
    obtain ⟨oa, oc, rfl, hoc1, hoc2⟩ := own_form hO
    clear hO
    by_cases hu0 : u = 0
    ·subst hu0
     have e9 : R = listTo ws (k + 1) := by have := A.out; rw [bitsOf_zero] at this; simpa using this
     have HE9 := kept e9
     clear e9
     go_wp2
     go_roundw
     case rel => exact ⟨k + 1, by omega, by go_num, by rw [← HE9.out]; exact HR2.out, HK2.out⟩
     case measure => simp [intOf]; omega
    ·have A2 := A.out
     rw [bitsOf_step u hu0 hu] at A2
     have hlen : R.length + 1 ≤ 64 * (k + 1) := by
      have h1 := congrArg List.length A2
      rw [List.length_append, List.length_map, List.length_cons] at h1
      have := HSTL.out
      omega
     have htz : Lib.ctz 64 u < 64 := (clear_low u hu0 hu).1
     have CT := kept (tz_any u hu wr (HT.out.keep HK2.out))
     have hand : bits .and .u64 (u : Int) ((u - 1 : Nat) : Int) = ((u &&& (u - 1) : Nat) : Int) := and_u64 u (u - 1) hu (by omega)
     have hsub : IntKind.u64.wrap ((u : Int) - 1) = ((u - 1 : Nat) : Int) := by rw [IntKind.wrap_u64]; omega
     have hless := clear_less u hu0
     have hune : ((u : Int) != 0) = true := by simp; omega
     have HA2 := kept A2
     clear A2 A
     generalize Lib.ctz 64 u = tz at *
     have hmul : IntKind.i64.wrap ((k : Int) * 64) = ((k * 64 : Nat) : Int) := by rw [show ((k : Int) * 64) = ((k * 64 : Nat) : Int) by omega]; exact IntWalk.i64_in _ (by omega)
     have hadd : IntKind.i64.wrap (((k * 64 : Nat) : Int) + (tz : Int)) = ((k * 64 + tz : Nat) : Int) := by rw [show (((k * 64 : Nat) : Int) + (tz : Int)) = ((k * 64 + tz : Nat) : Int) by omega]; exact IntWalk.i64_in _ (by omega)
     have hRI : (natI R).length = R.length := by unfold natI; rw [List.length_map]
     have hkm : (natI R).length + 1 ≤ maxLen := by unfold maxLen; omega
     have hky : ((natI R).length + 1) * 8 ≤ 140737488355328 := by omega
     have HRI := kept hRI
     clear hRI
     generalize u &&& (u - 1) = u' at *
     generalize u - 1 = um at *
     have hsz1 := HK2.out.size
     go_wp2_with (first | (at_builtin; go_must (refine wpList_append_own _ rfl (.tmp 19) (.tmp 25) 23 rfl w.heap.size 3 i3 (.int .i64 0) 1 8 Tryd.underlying23 hi3 hz3 hs3 hb3 rfl (by decide) _ _ _ rfl (HR2.out.alloc _) ⟨wr.heap.size, 0, none⟩ 1 1 [.int .i64 ((k * 64 + tz : Nat) : Int)] rfl rfl (news_one _ _ _) (ones_one rfl) hkm hky (by simp; omega) ?_); intro v' w3 hown' hgrow3 _; have HK3 := kept (keeps_append hgrow3 HR2.out HK2.out (Nat.le_refl _)); have HO3 := kept hown'; clear hgrow3 hown') | (go_at_call 81; refine (CT.out).mono ?_; rintro e w3 ⟨rfl, rfl⟩))
     refine ⟨⟨u', R ++ [k * 64 + tz], rfl, by omega, ?_, ?_, HK3.out⟩, by simp [intOf]; omega⟩
     ·have := HA2.out
      show _ = _
      rw [List.append_assoc]
      rw [List.map_cons] at this
      exact this
     ·have h9 := HO3.out
      have e1 : natI (R ++ [k * 64 + tz]) = natI R ++ [((k * 64 + tz : Nat) : Int)] := by unfold natI; rw [List.map_append]; rfl
      rw [e1, List.map_append, List.length_append]
      exact h9
  ·have hltz : ¬ (k : Int) < (n : Int) := by omega
   obtain rfl : n = k := by omega
   go_wp2
   go_ret
   refine ⟨⟨_, rfl, ?_⟩, HK.out⟩
   rw [← HLL.out]
   exact HR.out
end Go.Proofs.YtjllbchfojonhaaDoor
namespace Go.Proofs.YtjllbchfojonhaaDoor
open Go.RowKit Go.Shelf Go.Lib
set_option linter.unusedVariables false
set_option linter.unusedSimpArgs false

theorem keeps_own {a b c : World} {g : Nat} (h : Keeps a b []) (k : Keeps b c [g]) (hg : a.heap.size ≤ g) : Keeps a c [] := by
 have := h.trans k
 exact this.mono (fun q hq => by simp at hq; subst hq; exact .inr hg)
theorem instsW_at (l : List InstM) (k : Nat) (hk : k < l.length) (ws : List Nat) : instsW (l.drop k) ws = instW l[k]! (instsW (l.drop (k + 1)) ws) := by
 unfold instsW
 rw [List.drop_eq_getElem_cons hk, List.foldr_cons, getElem!_pos l k hk]
theorem instsW_end (l : List InstM) (ws : List Nat) : instsW (l.drop l.length) ws = ws := by
 unfold instsW; rw [List.drop_length]; rfl
theorem addsW_step (ws : List Nat) (l : List Int) (j : Nat) (hj : j < l.length) : addsW ws (l.take (j + 1)) = addW (addsW ws (l.take j)) (l[j]!).toNat := by
 unfold addsW
 rw [List.take_succ_eq_append_getElem hj, List.foldl_append, getElem!_pos l j hj]; rfl
theorem addsW_zero (ws : List Nat) (l : List Int) : addsW ws (l.take 0) = ws := by unfold addsW; simp
theorem uses_in {x : InstM} {n : Nat} (h : InstIn n x) {j : Nat} (hj : j < (usesL x.args.2).length) : 0 ≤ (usesL x.args.2)[j]! ∧ (usesL x.args.2)[j]! < (n : Int) :=
 h.1 _ (uses_mem.1 (bang_mem hj))
theorem uses_len (l : List Int) : (usesL l).length ≤ l.length := by rw [← usesTo_all]; exact usesTo_len l _
theorem set_ret {w w' : World} {R : List Nat} {m g cap : Nat} {tl : List Value} (hm : R.length = m) (hg : w.heap.size ≤ g) (hB : Blk w' g 125 (wordsC tl R)) (hk : Keeps w w' []) : SetRet w R (.returned (.slice (some ⟨g, 0, none⟩) m cap)) w' := by
 subst hm; exact ⟨g, cap, tl, rfl, hg, hB, hk⟩
set_option maxRecDepth 100000 in
set_option maxHeartbeats 200000000 in
theorem back_any (b : BlockM) (tl : List Value) (ws : List Nat) (g0 cap0 n place : Nat) (w : World) (hb : BlockAt w b) (hW : Blk w g0 125 (wordsC tl ws)) (ho : WordsOK ws) (hl : ws.length = (n + 63) / 64) (hn : n ≤ 1000) (hbi : BlockIn n b)
  (hla : ∀ x ∈ b.insts.2, x.args.2.length ≤ 1000) (hp : place ≤ b.insts.2.length) (hil : b.insts.2.length ≤ 1000) :
  Calls Tryd.prog 48 #[.agg b.cells.toArray, .slice (some ⟨g0, 0, none⟩) ws.length cap0, .int .i64 (place : Nat)] w fun e w' => SetRet w (backW b ws place) e w' := by
 obtain ⟨pa, pc, pe, -, -, -⟩ := hb.phis.open_
 obtain ⟨qa, qc, qe, hqm, hqm2, hqc⟩ := hb.insts.open_
 have HQC := kept hqc
 have HQI := kept (fun k (hk : k < b.insts.2.length) => hb.inst (b.insts.2[k]!) (bang_mem (l := b.insts.2) (k := k) hk))
 have HIN := kept (fun k (hk : k < b.insts.2.length) => hbi.1 (b.insts.2[k]!) (bang_mem (l := b.insts.2) (k := k) hk))
 have HLA := kept (fun k (hk : k < b.insts.2.length) => hla (b.insts.2[k]!) (bang_mem (l := b.insts.2) (k := k) hk))
 have HTV := kept hbi.2
 have HR := kept (show instsW (b.insts.2.drop place) (if b.kind = 0 then ws else addW ws b.var.toNat) = backW b ws place from rfl)
 have HRL := kept (backW_len b ws place)
 simp only [BlockM.cells, pe, qe]
 generalize backW b ws place = R at *
 have HEND := kept (fun S => instsW_end b.insts.2 S)
 clear hb pe qe hqm hqm2 hqc hbi hla
 generalize b.insts.2 = IL at *
 generalize hQN : IL.length = qn at *
 have HQN := kept hQN
 clear hQN
 generalize b.phis.2.length = pn at *
 generalize b.name = yn at *
 generalize b.kind = yk at *
 generalize b.var = yv at *
 generalize b.to0 = y0 at *
 generalize b.to1 = y1 at *
 have hm16 : ws.length ≤ 1000 := by omega
 have HO := kept ho
 have HWW := kept hW
 have hlW := kept hl
 clear ho hW
 generalize hmL : ws.length = m at *
 have HML := kept hmL
 clear hmL hl
 have hk0 : Keeps w (w.alloc (.cells #[.string yn, .slice pa pn pc, .slice qa qn qc, .int .i64 yk, .int .i64 yv, .int .i64 y0, .int .i64 y1] 39)) [] := (Keeps.refl _ []).alloc _
 have bb0 := Blk.new w 39 #[.string yn, .slice pa pn pc, .slice qa qn qc, .int .i64 yk, .int .i64 yv, .int .i64 y0, .int .i64 y1]
 have Bm := kept bb0
 have HK := kept hk0
 obtain ⟨m0, m1, m2, m3, m4, m5, m6⟩ := Bm.out.c7
 simp at m0 m1 m2 m3 m4 m5 m6
 clear hk0 bb0
 have hsz0 : w.heap.size + 1 ≤ (w.alloc (.cells #[.string yn, .slice pa pn pc, .slice qa qn qc, .int .i64 yk, .int .i64 yv, .int .i64 y0, .int .i64 y1] 39)).heap.size := by show _ ≤ (Array.push _ _).size; simp [Array.size_push]
 have HSZ := kept hsz0
 clear hsz0
 have CC := kept (clone_any tl ws g0 cap0 _ (HWW.out.keep HK.out (by simp)) (by rw [HML.out]; exact hm16))
 rw [HML.out] at CC
 go_enter Tryd.func48, Tryd.ntmps48
 by_cases hyk : yk = 0
 ·as_aux_lemma =>
   subst hyk
   rw [if_pos rfl] at HR
   go_upto_region 5 with (first | (go_at_call 77; go_must (refine (CC.out).mono ?_; rintro e w1 ⟨g, cap, t2, rfl, hg, hB1, k3⟩; rw [HML.out]; clear m0 m1 m2 m3 m4 m5 m6; have HG := kept (Nat.le_trans HSZ.out hg); have HB := kept hB1; replace Bm := kept (Bm.out.keep k3 (by simp)); replace HK := kept (HK.out.and_then k3); clear hg hB1 k3 CC; obtain ⟨m0, m1, m2, m3, m4, m5, m6⟩ := Bm.out.c7; simp at m0 m1 m2 m3 m4 m5 m6)) | fail)
   have HS0 := kept HO.out
   have HS0L := kept HML.out
   have HSL := kept (fun k => (instsW_len (IL.drop k) ws).trans HS0L.out)
   have HSO := kept (fun k => instsW_ok (IL.drop k) HS0.out)
   have HAT := kept (fun k (hk : k < qn) => instsW_at IL k (by rw [HQN.out]; exact hk) ws)
   clear m0 m1 m2 m3 m4 m5 m6
   go_loopw [8] (fun i wr => ∃ k : Nat, place ≤ k ∧ k ≤ qn ∧ i = .int .i64 ((k : Int) - 1) ∧ Blk wr g 125 (wordsC t2 (instsW (IL.drop k) ws)) ∧ Blk wr w.heap.size 39 #[.string yn, .slice pa pn pc, .slice qa qn qc, .int .i64 0, .int .i64 yv, .int .i64 y0, .int .i64 y1] ∧ Keeps w wr []) (fun i _ => (intOf i + 1).toNat)
   case atStart => exact ⟨qn, hp, Nat.le_refl _, by go_num, by have h := HB.out; rw [← HEND.out ws] at h; exact h, Bm.out, HK.out⟩
   case round =>
    obtain ⟨k, hpk, hk, rfl, hB, hBm, hr⟩ := hrel
    obtain ⟨wo, hwo⟩ : ∃ wo : World, wo = wr := ⟨_, rfl⟩
    subst hwo
    clear HB Bm HK
    have HB := kept hB
    have Bm := kept hBm
    have HK := kept hr
    clear hB hBm hr
    obtain ⟨m0, m1, m2, m3, m4, m5, m6⟩ := Bm.out.c7
    simp at m0 m1 m2 m3 m4 m5 m6
    by_cases hlt : place < k
    ·obtain ⟨k', rfl⟩ : ∃ k', k = k' + 1 := ⟨k - 1, by omega⟩
     have hk1 : (((k' + 1 : Nat) : Int) - 1) = (k' : Int) := by omega
     rw [hk1]
     clear hk1
     have hge : (place : Int) ≤ (k' : Int) := by omega
     have hltq : (k' : Int) < (qn : Int) := by omega
     have hk'q : k' < qn := by omega
     obtain ⟨pb, po, e2, hpb, hpcell⟩ := HQC.out k' (by first | exact hk'q | (rw [HQN.out]; exact hk'q))
     subst e2
     have n0 := HK.out.cellOf (hpcell 0 _ rfl)
     have n1 := HK.out.cellOf (hpcell 1 _ rfl)
     have n2 := HK.out.cellOf (hpcell 2 _ rfl)
     have n3 := HK.out.cellOf (hpcell 3 _ rfl)
     simp only [Nat.add_zero] at n0
     clear hpcell
     have HXI := kept (HQI.out k' (by first | exact hk'q | (rw [HQN.out]; exact hk'q)))
     have HXN := kept (HIN.out k' (by first | exact hk'q | (rw [HQN.out]; exact hk'q)))
     have HXL := kept (HLA.out k' (by first | exact hk'q | (rw [HQN.out]; exact hk'q)))
     have HA1 := kept (HAT.out k' hk'q)
     generalize IL[k']! = x at *
     generalize hcu : instsW (IL.drop k') ws = cur' at *
     have HCU := kept hcu
     clear hcu
     have HCL := kept (HSL.out (k' + 1))
     have HCO := kept (HSO.out (k' + 1))
     generalize instsW (IL.drop (k' + 1)) ws = cur at *
     obtain ⟨u1, v1, e1, -⟩ := IntsAt.open_ HXI.out
     rw [e1] at n2
     have CU := kept (fun W (k : Keeps w W []) => uses_any x W (Row.keep HXI.out k) HXL.out)
     simp only [InstM.cells, e1] at CU
     have HUL := kept (uses_len x.args.2)
     have HUI := kept (fun j hj => uses_in HXN.out (j := j) hj)
     have HUD := kept HXN.out.2
     have HIW := kept (show instW x cur = addsW (if 0 ≤ x.dst then dropW cur x.dst.toNat else cur) (usesL x.args.2) from rfl)
     rw [← HA1.out] at HIW
     clear HA1
     have HUL2 := kept (Nat.le_trans HUL.out HXL.out)
     generalize usesL x.args.2 = U at *
     clear HUL HXL
     generalize x.args.2.length = pna at *
     clear e1 HXI HXN
     generalize x.op = pop at *
     generalize x.dst = pdst at *
     generalize x.num = pnum at *
     generalize hUN : U.length = un at *
     have HUN := kept hUN
     clear hUN
     have hunb := HUL2.out
     go_upto_region 8 with (fail)
     have hgo : g < wo.heap.size := HB.out.lt
     have hmo : w.heap.size < wo.heap.size := Bm.out.lt
     have Bq := kept (Blk.new wo 42 #[.int .i64 pop, .int .i64 pdst, .slice u1 pna v1, .int .i64 pnum])
     have hkx : Keeps wo (wo.alloc (.cells #[.int .i64 pop, .int .i64 pdst, .slice u1 pna v1, .int .i64 pnum] 42)) [] := (Keeps.refl wo []).alloc _
     replace HB := kept (HB.out.keep hkx (by simp))
     replace Bm := kept (Bm.out.keep hkx (by simp))
     replace HK := kept (HK.out.and_then hkx)
     clear m0 m1 m2 m3 m4 m5 m6 n0 n1 n2 n3 hkx
     generalize wo.alloc (.cells #[.int .i64 pop, .int .i64 pdst, .slice u1 pna v1, .int .i64 pnum] 42) = X at *
     generalize wo.heap.size = xa at *
     obtain ⟨m0, m1, m2, m3, m4, m5, m6⟩ := Bm.out.c7
     simp at m0 m1 m2 m3 m4 m5 m6
     obtain ⟨q0, q1, q2, q3⟩ := Bq.out.c4
     simp at q0 q1 q2 q3
     by_cases hd : 0 ≤ pdst
     ·as_aux_lemma =>
       obtain ⟨dn, rfl⟩ : ∃ dn : Nat, pdst = dn := ⟨pdst.toNat, by omega⟩
       rw [if_pos hd, Int.toNat_natCast] at HIW
       have hdn : dn < n := by have := HUD.out; omega
       have hd64 : dn / 64 < m := by have := hlW.out; omega
       have HC1 := kept (dropW_ok HCO.out dn)
       have HC1L := kept ((dropW_len cur dn).trans HCL.out)
       have CA : Hid (Calls Tryd.prog 79 #[.slice (some ⟨g, 0, none⟩) m cap, .int .i64 (dn : Nat)] X fun e w' => e = .returned (.tuple #[]) ∧ Blk w' g 125 (wordsC t2 (dropW cur dn)) ∧ Keeps X w' [g]) := by
        have h := drop_any t2 cur g cap dn X HB.out HCO.out (by rw [HCL.out]; exact hd64) (by rw [HCL.out]; unfold maxLen; omega) (by unfold maxLen; omega)
        rw [HCL.out] at h
        exact h
       go_upto_region 10 with (first | (go_at_call 79; go_must (refine (CA.out).mono ?_; rintro e w3 ⟨rfl, hBn, k3⟩; clear m0 m1 m2 m3 m4 m5 m6 q0 q1 q2 q3; have HBx := kept hBn; have Bmx := kept (Bm.out.keep k3 (by have := HG.out; simp; omega)); have Bqx := kept (Bq.out.keep k3 (by have := HG.out; simp; omega)); have HKx := kept (keeps_own HK.out k3 (by have := HG.out; omega)); clear hBn k3 HB HK CA Bm Bq; have HB := HBx; have HK := HKx; have Bm := Bmx; have Bq := Bqx; clear HBx HKx Bmx Bqx; obtain ⟨m0, m1, m2, m3, m4, m5, m6⟩ := Bm.out.c7; simp at m0 m1 m2 m3 m4 m5 m6; obtain ⟨q0, q1, q2, q3⟩ := Bq.out.c4; simp at q0 q1 q2 q3)) | fail)
       have CU2 := kept (CU.out _ HK.out)
       have HGU : Hid True := trivial
       go_wp2_with (first | (go_at_call 80; refine (CU2.out).mono ?_; rintro e w4 ⟨⟨vu, rfl, hUO⟩, k3⟩; have hgl := HB.out.lt; clear m0 m1 m2 m3 m4 m5 m6 q0 q1 q2 q3; have HUO := kept hUO; replace HB := kept (HB.out.keep k3 (by simp)); replace Bm := kept (Bm.out.keep k3 (by simp)); replace HK := kept (HK.out.and_then k3); clear hUO k3 Bq CU2; obtain ⟨ua, uc, rfl, huc1, huc2⟩ := own_form HUO.out; rw [HUN.out] at HUO ⊢; have HGL := kept hgl; clear hgl) | fail)
       go_loopw [47] (fun i wr => ∃ j : Nat, j ≤ un ∧ i = .int .i64 j ∧ Blk wr g 125 (wordsC t2 (addsW (dropW cur dn) (U.take j))) ∧ Blk wr w.heap.size 39 #[.string yn, .slice pa pn pc, .slice (some ⟨pb, po, none⟩) qn qc, .int .i64 0, .int .i64 yv, .int .i64 y0, .int .i64 y1] ∧ wr.ownsRow (g + 1) 3 1 (.slice ua un uc) un (U.map (Value.int .i64)) ∧ Keeps w wr []) (fun i _ => un - (intOf i).toNat)
       case atStart => exact ⟨0, Nat.zero_le _, rfl, by rw [addsW_zero]; exact HB.out, Bm.out, own_base_ HUO.out (by have := HGL.out; omega), HK.out⟩
       case round =>
        obtain ⟨j, hj, rfl, hB, hBm, hUO, hr⟩ := hrel
        obtain ⟨w5, hw5⟩ : ∃ w5 : World, w5 = wr := ⟨_, rfl⟩
        subst hw5
        clear HB Bm HUO HK
        have HB := kept hB
        have Bm := kept hBm
        have HUO := kept hUO
        have HK := kept hr
        clear hB hBm hUO hr
        by_cases hltj : j < un
        ·have hltjz : (j : Int) < (un : Int) := by omega
         obtain ⟨gu, cu, eu, hgu, -, -⟩ := own_some HUO.out (by omega)
         obtain ⟨rfl, rfl⟩ : ua = some ⟨gu, 0, none⟩ ∧ uc = cu := by simpa using eu
         clear eu
         have c0 := HUO.out.cellAt j (by omega)
         have huu := HUI.out j (by first | exact hltj | (rw [HUN.out]; exact hltj))
         have HAS := kept (addsW_step (dropW cur dn) U j (by rw [HUN.out]; exact hltj))
         rw [List.getElem?_map, List.getElem?_eq_getElem (by rw [HUN.out]; exact hltj), ← getElem!_pos U j (by rw [HUN.out]; exact hltj)] at c0
         simp only [Option.map_some] at c0
         have HAO := kept (addsW_ok (U.take j) HC1.out)
         have HAL := kept ((addsW_len (U.take j) (dropW cur dn)).trans HC1L.out)
         generalize U[j]! = uv at *
         obtain ⟨vn, rfl⟩ : ∃ vn : Nat, uv = vn := ⟨uv.toNat, by omega⟩
         rw [Int.toNat_natCast] at HAS
         have hv64 : vn / 64 < m := by have := huu.2; have := hlW.out; omega
         have hvn : vn < n := by have := huu.2; omega
         clear huu
         have CA : Hid (Calls Tryd.prog 78 #[.slice (some ⟨g, 0, none⟩) m cap, .int .i64 (vn : Nat)] w5 fun e w' => e = .returned (.tuple #[]) ∧ Blk w' g 125 (wordsC t2 (addW (addsW (dropW cur dn) (U.take j)) vn)) ∧ Keeps w5 w' [g]) := by
          have h := add_any t2 (addsW (dropW cur dn) (U.take j)) g cap vn w5 HB.out HAO.out (by rw [HAL.out]; exact hv64) (by rw [HAL.out]; unfold maxLen; omega) (by unfold maxLen; omega)
          rw [HAL.out] at h
          exact h
         go_wp2_with (first | (go_at_call 78; go_must (refine (CA.out).mono ?_; rintro e w6 ⟨rfl, hBn, k3⟩; have HBx := kept hBn; have Bmx := kept (Bm.out.keep k3 (by have := HG.out; simp; omega)); have HUx := kept (own_keep HUO.out k3 (fun k hk => by have h9 := (own_lt HUO.out hk).2; simp; omega)); have HKx := kept (keeps_own HK.out k3 (by have := HG.out; omega)); clear hBn k3 HB HK CA Bm HUO; have HB := HBx; have HK := HKx; have Bm := Bmx; have HUO := HUx; clear HBx HKx Bmx HUx)) | fail)
         go_roundw
         case rel => exact ⟨j + 1, by omega, by go_num, by rw [HAS.out]; exact HB.out, Bm.out, HUO.out, HK.out⟩
         case measure => simp [intOf] <;> omega
        ·have hltjz : ¬ (j : Int) < (un : Int) := by omega
         obtain rfl : un = j := by omega
         have HFIN : Hid (addsW (dropW cur dn) (U.take un) = cur') := by rw [← HUN.out, List.take_length]; exact HIW.out.symm
         have HBF := HB.out
         rw [HFIN.out] at HBF
         have HBG := kept HBF
         clear HBF HB
         go_wp2
         go_roundw
         case rel => exact ⟨k', by omega, by omega, by go_num, by rw [HCU.out]; exact HBG.out, Bm.out, HK.out⟩
         case measure => simp [intOf] <;> omega
     ·as_aux_lemma =>
       rw [if_neg hd] at HIW
       have HC1 := HCO
       have HC1L := HCL
       go_upto_region 10 with (fail)
       have CU2 := kept (CU.out _ HK.out)
       have HGU : Hid True := trivial
       go_wp2_with (first | (go_at_call 80; refine (CU2.out).mono ?_; rintro e w4 ⟨⟨vu, rfl, hUO⟩, k3⟩; have hgl := HB.out.lt; clear m0 m1 m2 m3 m4 m5 m6 q0 q1 q2 q3; have HUO := kept hUO; replace HB := kept (HB.out.keep k3 (by simp)); replace Bm := kept (Bm.out.keep k3 (by simp)); replace HK := kept (HK.out.and_then k3); clear hUO k3 Bq CU2; obtain ⟨ua, uc, rfl, huc1, huc2⟩ := own_form HUO.out; rw [HUN.out] at HUO ⊢; have HGL := kept hgl; clear hgl) | fail)
       go_loopw [47] (fun i wr => ∃ j : Nat, j ≤ un ∧ i = .int .i64 j ∧ Blk wr g 125 (wordsC t2 (addsW cur (U.take j))) ∧ Blk wr w.heap.size 39 #[.string yn, .slice pa pn pc, .slice (some ⟨pb, po, none⟩) qn qc, .int .i64 0, .int .i64 yv, .int .i64 y0, .int .i64 y1] ∧ wr.ownsRow (g + 1) 3 1 (.slice ua un uc) un (U.map (Value.int .i64)) ∧ Keeps w wr []) (fun i _ => un - (intOf i).toNat)
       case atStart => exact ⟨0, Nat.zero_le _, rfl, by rw [addsW_zero]; exact HB.out, Bm.out, own_base_ HUO.out (by have := HGL.out; omega), HK.out⟩
       case round =>
        obtain ⟨j, hj, rfl, hB, hBm, hUO, hr⟩ := hrel
        obtain ⟨w5, hw5⟩ : ∃ w5 : World, w5 = wr := ⟨_, rfl⟩
        subst hw5
        clear HB Bm HUO HK
        have HB := kept hB
        have Bm := kept hBm
        have HUO := kept hUO
        have HK := kept hr
        clear hB hBm hUO hr
        by_cases hltj : j < un
        ·have hltjz : (j : Int) < (un : Int) := by omega
         obtain ⟨gu, cu, eu, hgu, -, -⟩ := own_some HUO.out (by omega)
         obtain ⟨rfl, rfl⟩ : ua = some ⟨gu, 0, none⟩ ∧ uc = cu := by simpa using eu
         clear eu
         have c0 := HUO.out.cellAt j (by omega)
         have huu := HUI.out j (by first | exact hltj | (rw [HUN.out]; exact hltj))
         have HAS := kept (addsW_step cur U j (by rw [HUN.out]; exact hltj))
         rw [List.getElem?_map, List.getElem?_eq_getElem (by rw [HUN.out]; exact hltj), ← getElem!_pos U j (by rw [HUN.out]; exact hltj)] at c0
         simp only [Option.map_some] at c0
         have HAO := kept (addsW_ok (U.take j) HC1.out)
         have HAL := kept ((addsW_len (U.take j) cur).trans HC1L.out)
         generalize U[j]! = uv at *
         obtain ⟨vn, rfl⟩ : ∃ vn : Nat, uv = vn := ⟨uv.toNat, by omega⟩
         rw [Int.toNat_natCast] at HAS
         have hv64 : vn / 64 < m := by have := huu.2; have := hlW.out; omega
         have hvn : vn < n := by have := huu.2; omega
         clear huu
         have CA : Hid (Calls Tryd.prog 78 #[.slice (some ⟨g, 0, none⟩) m cap, .int .i64 (vn : Nat)] w5 fun e w' => e = .returned (.tuple #[]) ∧ Blk w' g 125 (wordsC t2 (addW (addsW cur (U.take j)) vn)) ∧ Keeps w5 w' [g]) := by
          have h := add_any t2 (addsW cur (U.take j)) g cap vn w5 HB.out HAO.out (by rw [HAL.out]; exact hv64) (by rw [HAL.out]; unfold maxLen; omega) (by unfold maxLen; omega)
          rw [HAL.out] at h
          exact h
         go_wp2_with (first | (go_at_call 78; go_must (refine (CA.out).mono ?_; rintro e w6 ⟨rfl, hBn, k3⟩; have HBx := kept hBn; have Bmx := kept (Bm.out.keep k3 (by have := HG.out; simp; omega)); have HUx := kept (own_keep HUO.out k3 (fun k hk => by have h9 := (own_lt HUO.out hk).2; simp; omega)); have HKx := kept (keeps_own HK.out k3 (by have := HG.out; omega)); clear hBn k3 HB HK CA Bm HUO; have HB := HBx; have HK := HKx; have Bm := Bmx; have HUO := HUx; clear HBx HKx Bmx HUx)) | fail)
         go_roundw
         case rel => exact ⟨j + 1, by omega, by go_num, by rw [HAS.out]; exact HB.out, Bm.out, HUO.out, HK.out⟩
         case measure => simp [intOf] <;> omega
        ·have hltjz : ¬ (j : Int) < (un : Int) := by omega
         obtain rfl : un = j := by omega
         have HFIN : Hid (addsW cur (U.take un) = cur') := by rw [← HUN.out, List.take_length]; exact HIW.out.symm
         have HBF := HB.out
         rw [HFIN.out] at HBF
         have HBG := kept HBF
         clear HBF HB
         go_wp2
         go_roundw
         case rel => exact ⟨k', by omega, by omega, by go_num, by rw [HCU.out]; exact HBG.out, Bm.out, HK.out⟩
         case measure => simp [intOf] <;> omega
    ·obtain rfl : place = k := by omega
     have hge : ¬ (place : Int) ≤ (place : Int) - 1 := by omega
     go_wp2
     go_ret
     have h := HB.out
     rw [HR.out] at h
     exact set_ret HRL.out (by have := HG.out; omega) h HK.out
 ·as_aux_lemma =>
   rw [if_neg hyk] at HR
   have hykb : (yk != 0) = true := by simp; exact hyk
   have hyv := HTV.out hyk
   obtain ⟨vn, rfl⟩ : ∃ vn : Nat, yv = vn := ⟨yv.toNat, by omega⟩
   rw [Int.toNat_natCast] at HR
   have hvn : vn < n := by omega
   have hv64 : vn / 64 < m := by have := hlW.out; omega
   clear hyv
   go_upto_region 3 with (first | (go_at_call 77; go_must (refine (CC.out).mono ?_; rintro e w1 ⟨g, cap, t2, rfl, hg, hB1, k3⟩; rw [HML.out]; clear m0 m1 m2 m3 m4 m5 m6; have HG := kept (Nat.le_trans HSZ.out hg); have HB := kept hB1; replace Bm := kept (Bm.out.keep k3 (by simp)); replace HK := kept (HK.out.and_then k3); clear hg hB1 k3 CC; obtain ⟨m0, m1, m2, m3, m4, m5, m6⟩ := Bm.out.c7; simp at m0 m1 m2 m3 m4 m5 m6)) | fail)
   have CA : Hid (Calls Tryd.prog 78 #[.slice (some ⟨g, 0, none⟩) m cap, .int .i64 (vn : Nat)] w1 fun e w' => e = .returned (.tuple #[]) ∧ Blk w' g 125 (wordsC t2 (addW ws vn)) ∧ Keeps w1 w' [g]) := by
    have h := add_any t2 ws g cap vn w1 HB.out HO.out (by rw [HML.out]; exact hv64) (by rw [HML.out]; unfold maxLen; omega) (by unfold maxLen; omega)
    rw [HML.out] at h
    exact h
   go_upto_region 5 with (first | (go_at_call 78; go_must (refine (CA.out).mono ?_; rintro e w2 ⟨rfl, hBn, k3⟩; clear m0 m1 m2 m3 m4 m5 m6; have HBx := kept hBn; have Bmx := kept (Bm.out.keep k3 (by have := HG.out; simp; omega)); have HKx := kept (keeps_own HK.out k3 (by have := HG.out; omega)); clear hBn k3 HB HK CA Bm; have HB := HBx; have HK := HKx; have Bm := Bmx; clear HBx HKx Bmx; obtain ⟨m0, m1, m2, m3, m4, m5, m6⟩ := Bm.out.c7; simp at m0 m1 m2 m3 m4 m5 m6)) | fail)
   have HS0 := kept (addW_ok HO.out vn)
   have HS0L := kept ((addW_len ws vn).trans HML.out)
   have HSL := kept (fun k => (instsW_len (IL.drop k) (addW ws vn)).trans HS0L.out)
   have HSO := kept (fun k => instsW_ok (IL.drop k) HS0.out)
   have HAT := kept (fun k (hk : k < qn) => instsW_at IL k (by rw [HQN.out]; exact hk) (addW ws vn))
   clear m0 m1 m2 m3 m4 m5 m6
   go_loopw [8] (fun i wr => ∃ k : Nat, place ≤ k ∧ k ≤ qn ∧ i = .int .i64 ((k : Int) - 1) ∧ Blk wr g 125 (wordsC t2 (instsW (IL.drop k) (addW ws vn))) ∧ Blk wr w.heap.size 39 #[.string yn, .slice pa pn pc, .slice qa qn qc, .int .i64 yk, .int .i64 (vn : Nat), .int .i64 y0, .int .i64 y1] ∧ Keeps w wr []) (fun i _ => (intOf i + 1).toNat)
   case atStart => exact ⟨qn, hp, Nat.le_refl _, by go_num, by have h := HB.out; rw [← HEND.out (addW ws vn)] at h; exact h, Bm.out, HK.out⟩
   case round =>
    obtain ⟨k, hpk, hk, rfl, hB, hBm, hr⟩ := hrel
    obtain ⟨wo, hwo⟩ : ∃ wo : World, wo = wr := ⟨_, rfl⟩
    subst hwo
    clear HB Bm HK
    have HB := kept hB
    have Bm := kept hBm
    have HK := kept hr
    clear hB hBm hr
    obtain ⟨m0, m1, m2, m3, m4, m5, m6⟩ := Bm.out.c7
    simp at m0 m1 m2 m3 m4 m5 m6
    by_cases hlt : place < k
    ·obtain ⟨k', rfl⟩ : ∃ k', k = k' + 1 := ⟨k - 1, by omega⟩
     have hk1 : (((k' + 1 : Nat) : Int) - 1) = (k' : Int) := by omega
     rw [hk1]
     clear hk1
     have hge : (place : Int) ≤ (k' : Int) := by omega
     have hltq : (k' : Int) < (qn : Int) := by omega
     have hk'q : k' < qn := by omega
     obtain ⟨pb, po, e2, hpb, hpcell⟩ := HQC.out k' (by first | exact hk'q | (rw [HQN.out]; exact hk'q))
     subst e2
     have n0 := HK.out.cellOf (hpcell 0 _ rfl)
     have n1 := HK.out.cellOf (hpcell 1 _ rfl)
     have n2 := HK.out.cellOf (hpcell 2 _ rfl)
     have n3 := HK.out.cellOf (hpcell 3 _ rfl)
     simp only [Nat.add_zero] at n0
     clear hpcell
     have HXI := kept (HQI.out k' (by first | exact hk'q | (rw [HQN.out]; exact hk'q)))
     have HXN := kept (HIN.out k' (by first | exact hk'q | (rw [HQN.out]; exact hk'q)))
     have HXL := kept (HLA.out k' (by first | exact hk'q | (rw [HQN.out]; exact hk'q)))
     have HA1 := kept (HAT.out k' hk'q)
     generalize IL[k']! = x at *
     generalize hcu : instsW (IL.drop k') (addW ws vn) = cur' at *
     have HCU := kept hcu
     clear hcu
     have HCL := kept (HSL.out (k' + 1))
     have HCO := kept (HSO.out (k' + 1))
     generalize instsW (IL.drop (k' + 1)) (addW ws vn) = cur at *
     obtain ⟨u1, v1, e1, -⟩ := IntsAt.open_ HXI.out
     rw [e1] at n2
     have CU := kept (fun W (k : Keeps w W []) => uses_any x W (Row.keep HXI.out k) HXL.out)
     simp only [InstM.cells, e1] at CU
     have HUL := kept (uses_len x.args.2)
     have HUI := kept (fun j hj => uses_in HXN.out (j := j) hj)
     have HUD := kept HXN.out.2
     have HIW := kept (show instW x cur = addsW (if 0 ≤ x.dst then dropW cur x.dst.toNat else cur) (usesL x.args.2) from rfl)
     rw [← HA1.out] at HIW
     clear HA1
     have HUL2 := kept (Nat.le_trans HUL.out HXL.out)
     generalize usesL x.args.2 = U at *
     clear HUL HXL
     generalize x.args.2.length = pna at *
     clear e1 HXI HXN
     generalize x.op = pop at *
     generalize x.dst = pdst at *
     generalize x.num = pnum at *
     generalize hUN : U.length = un at *
     have HUN := kept hUN
     clear hUN
     have hunb := HUL2.out
     go_upto_region 8 with (fail)
     have hgo : g < wo.heap.size := HB.out.lt
     have hmo : w.heap.size < wo.heap.size := Bm.out.lt
     have Bq := kept (Blk.new wo 42 #[.int .i64 pop, .int .i64 pdst, .slice u1 pna v1, .int .i64 pnum])
     have hkx : Keeps wo (wo.alloc (.cells #[.int .i64 pop, .int .i64 pdst, .slice u1 pna v1, .int .i64 pnum] 42)) [] := (Keeps.refl wo []).alloc _
     replace HB := kept (HB.out.keep hkx (by simp))
     replace Bm := kept (Bm.out.keep hkx (by simp))
     replace HK := kept (HK.out.and_then hkx)
     clear m0 m1 m2 m3 m4 m5 m6 n0 n1 n2 n3 hkx
     generalize wo.alloc (.cells #[.int .i64 pop, .int .i64 pdst, .slice u1 pna v1, .int .i64 pnum] 42) = X at *
     generalize wo.heap.size = xa at *
     obtain ⟨m0, m1, m2, m3, m4, m5, m6⟩ := Bm.out.c7
     simp at m0 m1 m2 m3 m4 m5 m6
     obtain ⟨q0, q1, q2, q3⟩ := Bq.out.c4
     simp at q0 q1 q2 q3
     by_cases hd : 0 ≤ pdst
     ·as_aux_lemma =>
       obtain ⟨dn, rfl⟩ : ∃ dn : Nat, pdst = dn := ⟨pdst.toNat, by omega⟩
       rw [if_pos hd, Int.toNat_natCast] at HIW
       have hdn : dn < n := by have := HUD.out; omega
       have hd64 : dn / 64 < m := by have := hlW.out; omega
       have HC1 := kept (dropW_ok HCO.out dn)
       have HC1L := kept ((dropW_len cur dn).trans HCL.out)
       have CA : Hid (Calls Tryd.prog 79 #[.slice (some ⟨g, 0, none⟩) m cap, .int .i64 (dn : Nat)] X fun e w' => e = .returned (.tuple #[]) ∧ Blk w' g 125 (wordsC t2 (dropW cur dn)) ∧ Keeps X w' [g]) := by
        have h := drop_any t2 cur g cap dn X HB.out HCO.out (by rw [HCL.out]; exact hd64) (by rw [HCL.out]; unfold maxLen; omega) (by unfold maxLen; omega)
        rw [HCL.out] at h
        exact h
       go_upto_region 10 with (first | (go_at_call 79; go_must (refine (CA.out).mono ?_; rintro e w3 ⟨rfl, hBn, k3⟩; clear m0 m1 m2 m3 m4 m5 m6 q0 q1 q2 q3; have HBx := kept hBn; have Bmx := kept (Bm.out.keep k3 (by have := HG.out; simp; omega)); have Bqx := kept (Bq.out.keep k3 (by have := HG.out; simp; omega)); have HKx := kept (keeps_own HK.out k3 (by have := HG.out; omega)); clear hBn k3 HB HK CA Bm Bq; have HB := HBx; have HK := HKx; have Bm := Bmx; have Bq := Bqx; clear HBx HKx Bmx Bqx; obtain ⟨m0, m1, m2, m3, m4, m5, m6⟩ := Bm.out.c7; simp at m0 m1 m2 m3 m4 m5 m6; obtain ⟨q0, q1, q2, q3⟩ := Bq.out.c4; simp at q0 q1 q2 q3)) | fail)
       have CU2 := kept (CU.out _ HK.out)
       have HGU : Hid True := trivial
       go_wp2_with (first | (go_at_call 80; refine (CU2.out).mono ?_; rintro e w4 ⟨⟨vu, rfl, hUO⟩, k3⟩; have hgl := HB.out.lt; clear m0 m1 m2 m3 m4 m5 m6 q0 q1 q2 q3; have HUO := kept hUO; replace HB := kept (HB.out.keep k3 (by simp)); replace Bm := kept (Bm.out.keep k3 (by simp)); replace HK := kept (HK.out.and_then k3); clear hUO k3 Bq CU2; obtain ⟨ua, uc, rfl, huc1, huc2⟩ := own_form HUO.out; rw [HUN.out] at HUO ⊢; have HGL := kept hgl; clear hgl) | fail)
       go_loopw [47] (fun i wr => ∃ j : Nat, j ≤ un ∧ i = .int .i64 j ∧ Blk wr g 125 (wordsC t2 (addsW (dropW cur dn) (U.take j))) ∧ Blk wr w.heap.size 39 #[.string yn, .slice pa pn pc, .slice (some ⟨pb, po, none⟩) qn qc, .int .i64 yk, .int .i64 (vn : Nat), .int .i64 y0, .int .i64 y1] ∧ wr.ownsRow (g + 1) 3 1 (.slice ua un uc) un (U.map (Value.int .i64)) ∧ Keeps w wr []) (fun i _ => un - (intOf i).toNat)
       case atStart => exact ⟨0, Nat.zero_le _, rfl, by rw [addsW_zero]; exact HB.out, Bm.out, own_base_ HUO.out (by have := HGL.out; omega), HK.out⟩
       case round =>
        obtain ⟨j, hj, rfl, hB, hBm, hUO, hr⟩ := hrel
        obtain ⟨w5, hw5⟩ : ∃ w5 : World, w5 = wr := ⟨_, rfl⟩
        subst hw5
        clear HB Bm HUO HK
        have HB := kept hB
        have Bm := kept hBm
        have HUO := kept hUO
        have HK := kept hr
        clear hB hBm hUO hr
        by_cases hltj : j < un
        ·have hltjz : (j : Int) < (un : Int) := by omega
         obtain ⟨gu, cu, eu, hgu, -, -⟩ := own_some HUO.out (by omega)
         obtain ⟨rfl, rfl⟩ : ua = some ⟨gu, 0, none⟩ ∧ uc = cu := by simpa using eu
         clear eu
         have c0 := HUO.out.cellAt j (by omega)
         have huu := HUI.out j (by first | exact hltj | (rw [HUN.out]; exact hltj))
         have HAS := kept (addsW_step (dropW cur dn) U j (by rw [HUN.out]; exact hltj))
         rw [List.getElem?_map, List.getElem?_eq_getElem (by rw [HUN.out]; exact hltj), ← getElem!_pos U j (by rw [HUN.out]; exact hltj)] at c0
         simp only [Option.map_some] at c0
         have HAO := kept (addsW_ok (U.take j) HC1.out)
         have HAL := kept ((addsW_len (U.take j) (dropW cur dn)).trans HC1L.out)
         generalize U[j]! = uv at *
         obtain ⟨vn, rfl⟩ : ∃ vn : Nat, uv = vn := ⟨uv.toNat, by omega⟩
         rw [Int.toNat_natCast] at HAS
         have hv64 : vn / 64 < m := by have := huu.2; have := hlW.out; omega
         have hvn : vn < n := by have := huu.2; omega
         clear huu
         have CA : Hid (Calls Tryd.prog 78 #[.slice (some ⟨g, 0, none⟩) m cap, .int .i64 (vn : Nat)] w5 fun e w' => e = .returned (.tuple #[]) ∧ Blk w' g 125 (wordsC t2 (addW (addsW (dropW cur dn) (U.take j)) vn)) ∧ Keeps w5 w' [g]) := by
          have h := add_any t2 (addsW (dropW cur dn) (U.take j)) g cap vn w5 HB.out HAO.out (by rw [HAL.out]; exact hv64) (by rw [HAL.out]; unfold maxLen; omega) (by unfold maxLen; omega)
          rw [HAL.out] at h
          exact h
         go_wp2_with (first | (go_at_call 78; go_must (refine (CA.out).mono ?_; rintro e w6 ⟨rfl, hBn, k3⟩; have HBx := kept hBn; have Bmx := kept (Bm.out.keep k3 (by have := HG.out; simp; omega)); have HUx := kept (own_keep HUO.out k3 (fun k hk => by have h9 := (own_lt HUO.out hk).2; simp; omega)); have HKx := kept (keeps_own HK.out k3 (by have := HG.out; omega)); clear hBn k3 HB HK CA Bm HUO; have HB := HBx; have HK := HKx; have Bm := Bmx; have HUO := HUx; clear HBx HKx Bmx HUx)) | fail)
         go_roundw
         case rel => exact ⟨j + 1, by omega, by go_num, by rw [HAS.out]; exact HB.out, Bm.out, HUO.out, HK.out⟩
         case measure => simp [intOf] <;> omega
        ·have hltjz : ¬ (j : Int) < (un : Int) := by omega
         obtain rfl : un = j := by omega
         have HFIN : Hid (addsW (dropW cur dn) (U.take un) = cur') := by rw [← HUN.out, List.take_length]; exact HIW.out.symm
         have HBF := HB.out
         rw [HFIN.out] at HBF
         have HBG := kept HBF
         clear HBF HB
         go_wp2
         go_roundw
         case rel => exact ⟨k', by omega, by omega, by go_num, by rw [HCU.out]; exact HBG.out, Bm.out, HK.out⟩
         case measure => simp [intOf] <;> omega
     ·as_aux_lemma =>
       rw [if_neg hd] at HIW
       have HC1 := HCO
       have HC1L := HCL
       go_upto_region 10 with (fail)
       have CU2 := kept (CU.out _ HK.out)
       have HGU : Hid True := trivial
       go_wp2_with (first | (go_at_call 80; refine (CU2.out).mono ?_; rintro e w4 ⟨⟨vu, rfl, hUO⟩, k3⟩; have hgl := HB.out.lt; clear m0 m1 m2 m3 m4 m5 m6 q0 q1 q2 q3; have HUO := kept hUO; replace HB := kept (HB.out.keep k3 (by simp)); replace Bm := kept (Bm.out.keep k3 (by simp)); replace HK := kept (HK.out.and_then k3); clear hUO k3 Bq CU2; obtain ⟨ua, uc, rfl, huc1, huc2⟩ := own_form HUO.out; rw [HUN.out] at HUO ⊢; have HGL := kept hgl; clear hgl) | fail)
       go_loopw [47] (fun i wr => ∃ j : Nat, j ≤ un ∧ i = .int .i64 j ∧ Blk wr g 125 (wordsC t2 (addsW cur (U.take j))) ∧ Blk wr w.heap.size 39 #[.string yn, .slice pa pn pc, .slice (some ⟨pb, po, none⟩) qn qc, .int .i64 yk, .int .i64 (vn : Nat), .int .i64 y0, .int .i64 y1] ∧ wr.ownsRow (g + 1) 3 1 (.slice ua un uc) un (U.map (Value.int .i64)) ∧ Keeps w wr []) (fun i _ => un - (intOf i).toNat)
       case atStart => exact ⟨0, Nat.zero_le _, rfl, by rw [addsW_zero]; exact HB.out, Bm.out, own_base_ HUO.out (by have := HGL.out; omega), HK.out⟩
       case round =>
        obtain ⟨j, hj, rfl, hB, hBm, hUO, hr⟩ := hrel
        obtain ⟨w5, hw5⟩ : ∃ w5 : World, w5 = wr := ⟨_, rfl⟩
        subst hw5
        clear HB Bm HUO HK
        have HB := kept hB
        have Bm := kept hBm
        have HUO := kept hUO
        have HK := kept hr
        clear hB hBm hUO hr
        by_cases hltj : j < un
        ·have hltjz : (j : Int) < (un : Int) := by omega
         obtain ⟨gu, cu, eu, hgu, -, -⟩ := own_some HUO.out (by omega)
         obtain ⟨rfl, rfl⟩ : ua = some ⟨gu, 0, none⟩ ∧ uc = cu := by simpa using eu
         clear eu
         have c0 := HUO.out.cellAt j (by omega)
         have huu := HUI.out j (by first | exact hltj | (rw [HUN.out]; exact hltj))
         have HAS := kept (addsW_step cur U j (by rw [HUN.out]; exact hltj))
         rw [List.getElem?_map, List.getElem?_eq_getElem (by rw [HUN.out]; exact hltj), ← getElem!_pos U j (by rw [HUN.out]; exact hltj)] at c0
         simp only [Option.map_some] at c0
         have HAO := kept (addsW_ok (U.take j) HC1.out)
         have HAL := kept ((addsW_len (U.take j) cur).trans HC1L.out)
         generalize U[j]! = uv at *
         obtain ⟨vn, rfl⟩ : ∃ vn : Nat, uv = vn := ⟨uv.toNat, by omega⟩
         rw [Int.toNat_natCast] at HAS
         have hv64 : vn / 64 < m := by have := huu.2; have := hlW.out; omega
         have hvn : vn < n := by have := huu.2; omega
         clear huu
         have CA : Hid (Calls Tryd.prog 78 #[.slice (some ⟨g, 0, none⟩) m cap, .int .i64 (vn : Nat)] w5 fun e w' => e = .returned (.tuple #[]) ∧ Blk w' g 125 (wordsC t2 (addW (addsW cur (U.take j)) vn)) ∧ Keeps w5 w' [g]) := by
          have h := add_any t2 (addsW cur (U.take j)) g cap vn w5 HB.out HAO.out (by rw [HAL.out]; exact hv64) (by rw [HAL.out]; unfold maxLen; omega) (by unfold maxLen; omega)
          rw [HAL.out] at h
          exact h
         go_wp2_with (first | (go_at_call 78; go_must (refine (CA.out).mono ?_; rintro e w6 ⟨rfl, hBn, k3⟩; have HBx := kept hBn; have Bmx := kept (Bm.out.keep k3 (by have := HG.out; simp; omega)); have HUx := kept (own_keep HUO.out k3 (fun k hk => by have h9 := (own_lt HUO.out hk).2; simp; omega)); have HKx := kept (keeps_own HK.out k3 (by have := HG.out; omega)); clear hBn k3 HB HK CA Bm HUO; have HB := HBx; have HK := HKx; have Bm := Bmx; have HUO := HUx; clear HBx HKx Bmx HUx)) | fail)
         go_roundw
         case rel => exact ⟨j + 1, by omega, by go_num, by rw [HAS.out]; exact HB.out, Bm.out, HUO.out, HK.out⟩
         case measure => simp [intOf] <;> omega
        ·have hltjz : ¬ (j : Int) < (un : Int) := by omega
         obtain rfl : un = j := by omega
         have HFIN : Hid (addsW cur (U.take un) = cur') := by rw [← HUN.out, List.take_length]; exact HIW.out.symm
         have HBF := HB.out
         rw [HFIN.out] at HBF
         have HBG := kept HBF
         clear HBF HB
         go_wp2
         go_roundw
         case rel => exact ⟨k', by omega, by omega, by go_num, by rw [HCU.out]; exact HBG.out, Bm.out, HK.out⟩
         case measure => simp [intOf] <;> omega
    ·obtain rfl : place = k := by omega
     have hge : ¬ (place : Int) ≤ (place : Int) - 1 := by omega
     go_wp2
     go_ret
     have h := HB.out
     rw [HR.out] at h
     exact set_ret HRL.out (by have := HG.out; omega) h HK.out
end Go.Proofs.YtjllbchfojonhaaDoor
namespace Go.Proofs.YtjllbchfojonhaaDoor
open Go.RowKit Go.Shelf Go.Lib
set_option linter.unusedVariables false
set_option linter.unusedSimpArgs false

structure SetM where
 g : Nat
 cap : Nat
 tl : List Value
 ws : List Nat
instance : Inhabited SetM := ⟨⟨0, 0, [], []⟩⟩
def SetM.with_ (s : SetM) (ws : List Nat) : SetM := ⟨s.g, s.cap, s.tl, ws⟩
def SetM.val (m : Nat) (s : SetM) : Value := .slice (some ⟨s.g, 0, none⟩) m s.cap
def wsOf (l : List SetM) : List (List Nat) := l.map SetM.ws
def SetOK (w : World) (base m : Nat) (s : SetM) : Prop := base ≤ s.g ∧ Blk w s.g 125 (wordsC s.tl s.ws) ∧ s.ws.length = m
theorem SetOK.keep {w w' : World} {base m : Nat} {s : SetM} {S : List Nat} (h : SetOK w base m s) (k : Keeps w w' S) (hS : s.g ∉ S) : SetOK w' base m s := ⟨h.1, h.2.1.keep k hS, h.2.2⟩
structure Sets2 (w : World) (base m : Nat) (v1 v2 : Value) (A B : List SetM) : Prop where
 r1 : w.ownsRow base 97 1 v1 A.length (A.map (SetM.val m))
 r2 : w.ownsRow base 97 1 v2 B.length (B.map (SetM.val m))
 ap : ∀ k, v1.ownBlock = some k → v2.ownBlock ≠ some k
 b1 : ∀ s ∈ A, SetOK w base m s
 b2 : ∀ s ∈ B, SetOK w base m s
 n2 : ∀ i j, i < B.length → j < B.length → i ≠ j → B[i]!.g ≠ B[j]!.g
 n12 : ∀ s ∈ A, ∀ t ∈ B, s.g ≠ t.g
theorem cell_block_eq {w w' : World} {b o : Nat} (h : w'.heap[b]? = w.heap[b]?) : w'.cell? ⟨b, o, none⟩ = w.cell? ⟨b, o, none⟩ := by
 unfold World.cell?
 simp only [h]
section
variable {w w' : World} {base m : Nat} {v1 v2 : Value} {A B : List SetM}
theorem Sets2.keep (h : Sets2 w base m v1 v2 A B) (k : Keeps w w' []) : Sets2 w' base m v1 v2 A B :=
 ⟨own_keep h.r1 k (by simp), own_keep h.r2 k (by simp), h.ap, fun s hs => (h.b1 s hs).keep k (by simp), fun s hs => (h.b2 s hs).keep k (by simp), h.n2, h.n12⟩
theorem sm_set {l : List SetM} {i j : Nat} {b : SetM} (hi : i < l.length) : (l.set i b)[j]! = if j = i then b else l[j]! := by
 by_cases hj : j < l.length
 ·rw [getElem!_pos _ j (by simpa using hj), getElem!_pos l j hj, List.getElem_set]
  by_cases e : i = j
  ·rw [if_pos e, if_pos e.symm]
  ·rw [if_neg e, if_neg (Ne.symm e)]
 ·rw [getElem!_neg _ j (by simpa using hj), getElem!_neg l j hj, if_neg (by omega)]
theorem mem_at {l : List SetM} {s : SetM} (h : s ∈ l) : ∃ i, i < l.length ∧ l[i]! = s := by
 obtain ⟨i, hi, e⟩ := List.mem_iff_getElem.1 h
 exact ⟨i, hi, by rw [getElem!_pos l i hi]; exact e⟩
theorem val_set (l : List SetM) (i : Nat) (hi : i < l.length) (ws : List Nat) : (l.set i (l[i]!.with_ ws)).map (SetM.val m) = l.map (SetM.val m) := by
 rw [List.map_set]
 refine List.ext_getElem (by simp) fun k h1 h2 => ?_
 rw [List.getElem_set]
 by_cases e : i = k
 ·subst e
  rw [if_pos rfl, List.getElem_map, getElem!_pos l i hi]; rfl
 ·rw [if_neg e]
theorem Sets2.cell1 (h : Sets2 w base m v1 v2 A B) {G n c : Nat} (hv : v1 = .slice (some ⟨G, 0, none⟩) n c) (hn : n = A.length) {i : Nat} (hi : i < n) : w.cell? ⟨G, i, none⟩ = some (A[i]!.val m) := by
 subst hn; subst hv
 rw [h.r1.cellAt i (by omega), List.getElem?_map, List.getElem?_eq_getElem hi, getElem!_pos A i hi]; rfl
theorem Sets2.frozen1 (h : Sets2 w base m v1 v2 A B) {G n c : Nat} (hv : v1 = .slice (some ⟨G, 0, none⟩) n c) (hn : n = A.length) (i : Nat) : w.frozen? ⟨G, i, none⟩ = false := by
 subst hn; subst hv
 exact h.r1.frozenAt i
theorem Sets2.cell2 (h : Sets2 w base m v1 v2 A B) {G n c : Nat} (hv : v2 = .slice (some ⟨G, 0, none⟩) n c) (hn : n = B.length) {i : Nat} (hi : i < n) : w.cell? ⟨G, i, none⟩ = some (B[i]!.val m) := by
 subst hn; subst hv
 rw [h.r2.cellAt i (by omega), List.getElem?_map, List.getElem?_eq_getElem hi, getElem!_pos B i hi]; rfl
theorem Sets2.join (h : Sets2 w base m v1 v2 A B) {i : Nat} (hi : i < B.length) {ws : List Nat} (hB : Blk w' B[i]!.g 125 (wordsC B[i]!.tl ws)) (hk : Keeps w w' [B[i]!.g]) (hl : ws.length = m) :
  Sets2 w' base m v1 v2 A (B.set i (B[i]!.with_ ws)) := by
 have hbi := h.b2 _ (bang_mem hi)
 have hn1 : ∀ k, v1.ownBlock = some k → k ∉ [B[i]!.g] := fun k hk e => by
  simp only [List.mem_singleton] at e
  exact own_ne h.r1 hbi.2.1 (by decide) (by rw [hk, e])
 have hn2 : ∀ k, v2.ownBlock = some k → k ∉ [B[i]!.g] := fun k hk e => by
  simp only [List.mem_singleton] at e
  exact own_ne h.r2 hbi.2.1 (by decide) (by rw [hk, e])
 have hg : ∀ j : Nat, (B.set i (B[i]!.with_ ws))[j]!.g = B[j]!.g := fun j => by
  rw [sm_set hi]; split
  ·rename_i e; rw [e]; rfl
  ·rfl
 refine ⟨own_keep h.r1 hk hn1, ?_, h.ap, fun s hs => (h.b1 s hs).keep hk (by simp only [List.mem_singleton]; exact h.n12 s hs _ (bang_mem hi)), fun s hs => ?_, fun a b ha hb hab => ?_, fun s hs t ht => ?_⟩
 ·rw [val_set _ _ hi, List.length_set]; exact own_keep h.r2 hk hn2
 ·obtain ⟨j, hj, rfl⟩ := mem_at hs
  rw [List.length_set] at hj
  rw [sm_set hi]
  by_cases e : j = i
  ·rw [if_pos e]; exact ⟨hbi.1, hB, hl⟩
  ·rw [if_neg e]
   exact (h.b2 _ (bang_mem hj)).keep hk (by simp only [List.mem_singleton]; exact h.n2 j i hj hi e)
 ·rw [hg, hg]
  rw [List.length_set] at ha hb
  exact h.n2 a b ha hb hab
 ·obtain ⟨j, hj, rfl⟩ := mem_at ht
  rw [List.length_set] at hj
  rw [hg]
  exact h.n12 s hs _ (bang_mem hj)
theorem Sets2.put (h : Sets2 w base m v1 v2 A B) {G c : Nat} (hv : v1 = .slice (some ⟨G, 0, none⟩) A.length c) {i : Nat} (hi : i < A.length) {s : SetM} (hs : SetOK w base m s) (hf : ∀ t ∈ B, s.g ≠ t.g) :
  Sets2 (w.setCell ⟨G, i, none⟩ (s.val m)) base m v1 v2 (A.set i s) B ∧ Keeps w (w.setCell ⟨G, i, none⟩ (s.val m)) [G] := by
 have hk : Keeps w (w.setCell ⟨G, i, none⟩ (s.val m)) [G] := (Keeps.refl w [G]).setCell (.inl (by simp)) _
 have hgo : v1.ownBlock = some G := by rw [hv]; rfl
 have hG : ∀ t : SetM, SetOK w base m t → t.g ∉ [G] := fun t ht e => by
  simp only [List.mem_singleton] at e
  exact own_ne h.r1 ht.2.1 (by decide) (by rw [hgo, e])
 refine ⟨⟨?_, own_keep h.r2 hk (fun k hk2 e => ?_), h.ap, fun t ht => ?_, fun t ht => (h.b2 t ht).keep hk (hG t (h.b2 t ht)), h.n2, fun t ht u hu => ?_⟩, hk⟩
 ·have h1 := h.r1
  rw [hv] at h1 ⊢
  rw [List.map_set, List.length_set]
  exact (h1.stored i (s.val m)).1
 ·simp only [List.mem_singleton] at e
  exact h.ap G hgo (by rw [hk2, e])
 ·rcases List.mem_or_eq_of_mem_set ht with h1 | rfl
  ·exact (h.b1 t h1).keep hk (hG t (h.b1 t h1))
  ·exact hs.keep hk (hG _ hs)
 ·rcases List.mem_or_eq_of_mem_set ht with h1 | rfl
  ·exact h.n12 t h1 u hu
  ·exact hf u hu
theorem sm_snoc {l : List SetM} {s : SetM} {j : Nat} (hj : j < l.length + 1) : (l ++ [s])[j]! = if j < l.length then l[j]! else s := by
 rw [getElem!_pos _ j (by simpa using hj)]
 by_cases h : j < l.length
 ·rw [if_pos h, List.getElem_append_left h, getElem!_pos l j h]
 ·rw [if_neg h, List.getElem_append_right (by omega)]; simp
/-- a fresh set behind the first row -/
theorem Sets2.app1 {W3 : World} {x : Value} {v1' : Value} {s : SetM} (h : Sets2 w base m v1 v2 A B) (hs : SetOK w base m s) (hf : ∀ t ∈ B, s.g ≠ t.g)
  (ho : W3.ownsRow base 97 1 v1' (A.length + 1) (A.map (SetM.val m) ++ [s.val m])) (hg : (w.alloc (.cells #[x] 97)).grownBy W3 v1.ownBlock) (hat : v1'.ownBlock = v1.ownBlock ∨ v1'.ownBlock = some (w.alloc (.cells #[x] 97)).heap.size) :
  Sets2 W3 base m v1' v2 (A ++ [s]) B := by
 have hk : Keeps w (w.alloc (.cells #[x] 97)) [] := (Keeps.refl w []).alloc _
 have hne1 : ∀ t : SetM, SetOK w base m t → ∀ k, v1.ownBlock = some k → k ≠ t.g := fun t ht k hk e => own_ne h.r1 ht.2.1 (by decide) (by rw [hk, e])
 have bk : ∀ t : SetM, SetOK w base m t → SetOK W3 base m t := fun t ht => ⟨ht.1, blk_append hg ht.2.1 (hne1 t ht), ht.2.2⟩
 refine ⟨by rw [List.map_append, List.length_append]; exact ho, ?_, fun k hk1 hk2 => ?_, fun t ht => ?_, fun t ht => bk t (h.b2 t ht), h.n2, fun t ht u hu => ?_⟩
 ·refine (own_keep h.r2 hk (by simp)).kept hg ?_
  cases e : v2.ownBlock with
  | none => exact .inl rfl
  | some k => exact .inr (fun e2 => h.ap k e2.symm e)
 ·rcases hat with e | e
  ·exact h.ap k (by rw [← e]; exact hk1) hk2
  ·rw [hk1] at e
   have := (own_lt h.r2 hk2).1
   have h2 : w.heap.size < (w.alloc (.cells #[x] 97)).heap.size := by show _ < (Array.push _ _).size; rw [Array.size_push]; omega
   simp only [Option.some.injEq] at e
   omega
 ·rcases List.mem_append.1 ht with h1 | h1
  ·exact bk t (h.b1 t h1)
  ·rw [List.mem_singleton.1 h1]; exact bk s hs
 ·rcases List.mem_append.1 ht with h1 | h1
  ·exact h.n12 t h1 u hu
  ·rw [List.mem_singleton.1 h1]; exact hf u hu
theorem Sets2.app2 {W3 : World} {x : Value} {v2' : Value} {s : SetM} (h : Sets2 w base m v1 v2 A B) (hs : SetOK w base m s) (hf : ∀ t ∈ B, t.g ≠ s.g) (hf1 : ∀ t ∈ A, t.g ≠ s.g)
  (ho : W3.ownsRow base 97 1 v2' (B.length + 1) (B.map (SetM.val m) ++ [s.val m])) (hg : (w.alloc (.cells #[x] 97)).grownBy W3 v2.ownBlock) (hat : v2'.ownBlock = v2.ownBlock ∨ v2'.ownBlock = some (w.alloc (.cells #[x] 97)).heap.size) :
  Sets2 W3 base m v1 v2' A (B ++ [s]) := by
 have hk : Keeps w (w.alloc (.cells #[x] 97)) [] := (Keeps.refl w []).alloc _
 have hne1 : ∀ t : SetM, SetOK w base m t → ∀ k, v2.ownBlock = some k → k ≠ t.g := fun t ht k hk e => own_ne h.r2 ht.2.1 (by decide) (by rw [hk, e])
 have bk : ∀ t : SetM, SetOK w base m t → SetOK W3 base m t := fun t ht => ⟨ht.1, blk_append hg ht.2.1 (hne1 t ht), ht.2.2⟩
 refine ⟨?_, by rw [List.map_append, List.length_append]; exact ho, fun k hk1 hk2 => ?_, fun t ht => bk t (h.b1 t ht), fun t ht => ?_, fun a b ha hb hab => ?_, fun t ht u hu => ?_⟩
 ·refine (own_keep h.r1 hk (by simp)).kept hg ?_
  cases e : v1.ownBlock with
  | none => exact .inl rfl
  | some k => exact .inr (fun e2 => h.ap k e e2.symm)
 ·rcases hat with e | e
  ·exact h.ap k hk1 (by rw [← e]; exact hk2)
  ·rw [hk2] at e
   have := (own_lt h.r1 hk1).1
   have h2 : w.heap.size < (w.alloc (.cells #[x] 97)).heap.size := by show _ < (Array.push _ _).size; rw [Array.size_push]; omega
   simp only [Option.some.injEq] at e
   omega
 ·rcases List.mem_append.1 ht with h1 | h1
  ·exact bk t (h.b2 t h1)
  ·rw [List.mem_singleton.1 h1]; exact bk s hs
 ·rw [List.length_append, List.length_singleton] at ha hb
  rw [sm_snoc ha, sm_snoc hb]
  by_cases ha1 : a < B.length
  ·by_cases hb1 : b < B.length
   ·rw [if_pos ha1, if_pos hb1]; exact h.n2 a b ha1 hb1 hab
   ·rw [if_pos ha1, if_neg hb1]; exact hf _ (bang_mem ha1)
  ·by_cases hb1 : b < B.length
   ·rw [if_neg ha1, if_pos hb1]; exact (hf _ (bang_mem hb1)).symm
   ·omega
 ·rcases List.mem_append.1 hu with h1 | h1
  ·exact h.n12 t ht u h1
  ·rw [List.mem_singleton.1 h1]; exact hf1 t ht
theorem sets_nil : Sets2 w base m (.slice none 0 0) (.slice none 0 0) [] [] :=
 ⟨World.ownsRow_nil _ _ _ _, World.ownsRow_nil _ _ _ _, fun k hk => (by cases hk), by simp, by simp, by simp, by simp⟩
theorem wsOf_at {l : List SetM} {i : Nat} (hi : i < l.length) : (wsOf l)[i]! = l[i]!.ws := by
 unfold wsOf; rw [getElem!_pos _ i (by simpa using hi), List.getElem_map, getElem!_pos l i hi]
theorem wsOf_set (l : List SetM) (i : Nat) (s : SetM) : wsOf (l.set i s) = (wsOf l).set i s.ws := by unfold wsOf; rw [List.map_set]
theorem wsOf_len (l : List SetM) : (wsOf l).length = l.length := by unfold wsOf; rw [List.length_map]
theorem rep_bang {α : Type} [Inhabited α] {n k : Nat} (x : α) (h : k < n) : (List.replicate n x)[k]! = x := by
 rw [getElem!_pos _ k (by simpa using h)]; simp
theorem bit_zero (m v : Nat) : bitB (List.replicate m 0) v = false := by
 unfold bitB
 by_cases h : v / 64 < m
 ·rw [rep_bang _ h]; exact Nat.zero_testBit _
 ·rw [getElem!_neg _ _ (by simpa using h)]; exact Nat.zero_testBit _
theorem flow_start (blk : Nat → BlockM) (nb n : Nat) : FlowInv blk nb n (List.replicate nb (List.replicate ((n + 63) / 64) 0)) (List.replicate nb (List.replicate ((n + 63) / 64) 0)) := by
 have hz : ∀ b, b < nb → (List.replicate nb (List.replicate ((n + 63) / 64) 0))[b]! = List.replicate ((n + 63) / 64) 0 := fun b hb => rep_bang _ hb
 have hw : WordsOK (List.replicate ((n + 63) / 64) 0) := fun x hx => by rw [(List.mem_replicate.1 hx).2]; decide
 refine ⟨by simp, by simp, fun b hb => by rw [hz b hb]; exact ⟨by simp, hw⟩, fun b hb => by rw [hz b hb]; exact ⟨by simp, hw⟩, fun b hb v hv => ?_, fun b hb v hv => ?_, fun b hb v hv => ?_⟩
 all_goals
  rw [hz b hb, bit_zero] at hv
  cases hv
theorem IntsAt.keepS {q : IntsM} {S : List Nat} (h : IntsAt w q) (k : Keeps w w' S) (hS : ∀ k, q.1.ownBlock = some k → k ∉ S) : IntsAt w' q := by
 obtain ⟨a, cap, h1, h2, h3, h4⟩ := h
 refine ⟨a, cap, h1, h2, h3, ?_⟩
 rcases h4 with h4 | ⟨b, off, h5, h6, h7⟩
 ·exact .inl h4
 ·refine .inr ⟨b, off, h5, by have := k.size; omega, fun j e he i x hx => ?_⟩
  have hb : b ∉ S := hS b (by rw [h1, h5]; rfl)
  have h8 := h7 j e he i x hx
  rw [cell_block_eq (k.block b h6 hb)]
  exact h8
end
end Go.Proofs.YtjllbchfojonhaaDoor
namespace Go.Proofs.YtjllbchfojonhaaDoor
open Go.RowKit Go.Shelf Go.Lib
set_option linter.unusedVariables false
set_option linter.unusedSimpArgs false

structure LiveP (f : FuncM) : Prop where
 nv : f.nv ≤ 512
 nb0 : 0 < f.nb
 nb : f.nb ≤ 64
 blk : ∀ b, b < f.nb → BlockIn f.nv f.blocks.2[b]! ∧ (∀ x ∈ f.blocks.2[b]!.insts.2, x.args.2.length ≤ 1000) ∧ f.blocks.2[b]!.insts.2.length ≤ 1000 ∧ ∀ z ∈ endsM f.blocks.2[b]!, 0 ≤ z ∧ z < (f.nb : Int)
def FuncM.blk (f : FuncM) (b : Nat) : BlockM := f.blocks.2[b]!
theorem LiveP.succ {f : FuncM} (h : LiveP f) : ∀ b, b < f.nb → ∀ c, c ∈ sOf f.blk b → c < f.nb := fun b hb c hc => by
 obtain ⟨z, hz, rfl⟩ := mem_succ.1 hc
 have := (h.blk b hb).2.2.2 z hz
 omega
theorem LiveP.bin {f : FuncM} (h : LiveP f) : ∀ b, b < f.nb → BlockIn f.nv (f.blk b) := fun b hb => (h.blk b hb).1
def FlowHead (f : FuncM) (m g : Nat) (b : Bool) (I O : List (List Nat)) : Prop := (b = true ∧ 1 + (f.nb * (64 * m) - sumB m I) ≤ g) ∨ (b = false ∧ FlowFix f.blk f.nb I O 0)
def FlowMid (f : FuncM) (m k : Nat) (b : Bool) (I0 I O : List (List Nat)) : Prop := (b = false → I = I0 ∧ FlowFix f.blk f.nb I O k) ∧ (b = true → sumB m I0 < sumB m I)
theorem mid_start (f : FuncM) (m : Nat) (I O : List (List Nat)) : FlowMid f m f.nb false I I O := ⟨fun _ => ⟨rfl, fun b h1 h2 => by omega⟩, fun h => by cases h⟩
theorem mid_end {f : FuncM} {m g : Nat} {b : Bool} {I0 I O : List (List Nat)} (hl : I.length = f.nb) (hg : 1 + (f.nb * (64 * m) - sumB m I0) ≤ g + 1) (h : FlowMid f m 0 b I0 I O) : FlowHead f m g b I O := by
 cases b with
 | false => exact .inr ⟨rfl, (h.1 rfl).2⟩
 | true =>
  have h1 := h.2 rfl
  have h2 := sumB_top m I
  rw [hl] at h2
  refine .inl ⟨rfl, ?_⟩
  generalize f.nb * (64 * m) = T at *
  omega
def FlowRet (w : World) (f : FuncM) (e : Ending) (w' : World) : Prop :=
 ∃ v1 v2 A B base, e = .returned (.tuple #[v1, v2]) ∧ w.heap.size ≤ base ∧ Sets2 w' base ((f.nv + 63) / 64) v1 v2 A B ∧ FlowInv f.blk f.nb f.nv (wsOf A) (wsOf B) ∧ FlowFix f.blk f.nb (wsOf A) (wsOf B) 0 ∧ Keeps w w' []
theorem info97 : (Tryd.prog.info? 97).map (fun i => (i.zero, i.size, i.bytes)) = some (some (.slice none 0 0), 1, 24) := by kernel_rfl
theorem rep_snoc {α : Type} (k : Nat) (x : α) : List.replicate k x ++ [x] = List.replicate (k + 1) x := by rw [List.replicate_succ']
theorem wsOf_snoc (l : List SetM) (s : SetM) : wsOf (l ++ [s]) = wsOf l ++ [s.ws] := by unfold wsOf; simp
def joinsTo (A : List SetM) (s : List Nat) (E : List Int) (j : Nat) : List Nat := joinsW s ((E.take j).map fun z => (wsOf A)[z.toNat]!)
theorem joinsTo_zero (A : List SetM) (s : List Nat) (E : List Int) : joinsTo A s E 0 = s := by unfold joinsTo joinsW; simp
theorem joinsTo_step (A : List SetM) (s : List Nat) (E : List Int) (j : Nat) (hj : j < E.length) : joinsTo A s E (j + 1) = joinW (joinsTo A s E j) (wsOf A)[(E[j]!).toNat]! := by
 unfold joinsTo joinsW
 rw [List.take_succ_eq_append_getElem hj, List.map_append, List.foldl_append, getElem!_pos E j hj]; rfl
theorem set_same (B : List SetM) (i : Nat) (hi : i < B.length) : B.set i (B[i]!.with_ B[i]!.ws) = B := by
 have : B[i]!.with_ B[i]!.ws = B[i] := by rw [getElem!_pos B i hi]; rfl
 rw [this, List.set_getElem_self]

theorem join_sets {W : World} {base m k zn : Nat} {v1 v2 : Value} {A B : List SetM} {Bk Az : SetM} {s : List Nat} (h : Sets2 W base m v1 v2 A (B.set k (Bk.with_ s))) (hk : k < B.length) (hz : zn < A.length) (hA : A[zn]! = Az) (ho : WordsOK s) (hou : WordsOK Az.ws) (hm : m ≤ 1000) :
  Calls Tryd.prog 75 #[.slice (some ⟨Bk.g, 0, none⟩) m Bk.cap, .slice (some ⟨Az.g, 0, none⟩) m Az.cap] W fun e w' => e = .returned (.tuple #[]) ∧ Sets2 w' base m v1 v2 A (B.set k (Bk.with_ (joinW s Az.ws))) ∧ Keeps W w' [Bk.g] ∧ base ≤ Bk.g ∧ Bk.g < W.heap.size := by
 have hk2 : k < (B.set k (Bk.with_ s)).length := by rw [List.length_set]; exact hk
 have e1 : (B.set k (Bk.with_ s))[k]! = Bk.with_ s := by rw [sm_set hk, if_pos rfl]
 have hb := h.b2 _ (bang_mem hk2)
 rw [e1] at hb
 have ha := h.b1 _ (bang_mem hz)
 rw [hA] at ha
 have hne : Bk.g ≠ Az.g := by
  have := h.n12 _ (bang_mem hz) _ (bang_mem hk2)
  rw [e1, hA] at this
  exact fun e => this e.symm
 have hsl : s.length = m := hb.2.2
 have c := join_any Bk.tl Az.tl s Az.ws Bk.g Az.g Bk.cap Az.cap W hb.2.1 ha.2.1 hne ho hou (by rw [ha.2.2, hsl]) (by rw [hsl]; unfold maxLen; omega)
 rw [ha.2.2, hsl] at c
 refine c.mono ?_
 rintro e w' ⟨h1, h2, h3⟩
 have hj := h.join hk2 (w' := w') (ws := joinW s Az.ws) (by rw [e1]; exact h2) (by rw [e1]; exact h3) (by rw [joinW_len, hsl])
 rw [e1, List.set_set] at hj
 exact ⟨h1, hj, h3, hb.1, hb.2.1.lt⟩
theorem ends_len (b : BlockM) : (endsM b).length ≤ 2 := by
 unfold endsM
 split
 ·simp
 ·split
  ·split <;> simp
  ·simp
theorem mid_same {f : FuncM} {m k : Nat} {b : Bool} {I0 I O O' : List (List Nat)} (h : FlowMid f m (k + 1) b I0 I O) (hx : FlowFix f.blk f.nb I O (k + 1) → FlowFix f.blk f.nb I O' k) : FlowMid f m k b I0 I O' :=
 ⟨fun e => ⟨(h.1 e).1, hx (h.1 e).2⟩, h.2⟩
theorem mid_more {f : FuncM} {m k : Nat} {b : Bool} {I0 I I' O O' : List (List Nat)} (h : FlowMid f m (k + 1) b I0 I O) (hx : sumB m I < sumB m I') : FlowMid f m k true I0 I' O' :=
 ⟨fun e => (by cases e), fun _ => by
  cases b with
  | false => rw [← (h.1 rfl).1]; exact hx
  | true => exact Nat.lt_trans (h.2 rfl) hx⟩

set_option maxRecDepth 100000 in
set_option maxHeartbeats 200000000 in
theorem flow_any (f : FuncM) (w : World) (hf : FuncAt w f) (hp : LiveP f) : Calls Tryd.prog 47 #[f.val] w fun e w' => FlowRet w f e w' := by
 obtain ⟨i97, hi97, he97⟩ := Option.map_eq_some_iff.1 info97
 simp only [Prod.mk.injEq] at he97
 obtain ⟨hz97, hs97, hb97⟩ := he97
 unfold FlowRet
 have hnv := hp.nv
 have hnb := hp.nb
 have hnb0 := hp.nb0
 have HSU := kept hp.succ
 have HBI := kept hp.bin
 have HBL := kept (fun b hb => (hp.blk b hb).2)
 have HFB := kept (fun k (hk : k < f.nb) => hf.block (f.blocks.2[k]!) (bang_mem (l := f.blocks.2) (k := k) hk))
 have HM := kept (show ((f.nv + 63) / 64) = (f.nv + 63) / 64 from rfl)
 have hm64 : (f.nv + 63) / 64 ≤ 1000 := by omega
 have HST := kept (flow_start f.blk f.nb f.nv)
 have HFO := kept (fun I O (h : FlowInv f.blk f.nb f.nv I O) i (hi : i < f.nb) => flow_out h HSU.out HBI.out hi)
 have HFI := kept (fun I O (h : FlowInv f.blk f.nb f.nv I O) i (hi : i < f.nb) => flow_in h HBI.out hi)
 have HFS := kept (fun I O (h : FlowInv f.blk f.nb f.nv I O) i (hi : i < f.nb) => fix_same h HSU.out hi)
 have HSM := kept (fun I O (h : FlowInv f.blk f.nb f.nv I O) i (hi : i < f.nb) => sum_more h HSU.out HBI.out hi)
 have HOK := kept (fun I O (h : FlowInv f.blk f.nb f.nv I O) i (hi : i < f.nb) => out_ok h HSU.out hi)
 have CB := kept (fun (i : Nat) (hi : i < f.nb) tl ws g0 cap0 W (k : Keeps w W []) h1 h2 h3 => (show Calls Tryd.prog 48 #[.agg (f.blocks.2[i]!).cells.toArray, .slice (some ⟨g0, 0, none⟩) ws.length cap0, .int .i64 0] W fun e w' => SetRet W (backW f.blocks.2[i]! ws 0) e w' from back_any f.blocks.2[i]! tl ws g0 cap0 f.nv 0 W ((HFB.out i hi).keep k) h1 h2 h3 (by omega) (HBI.out i hi) (HBL.out i hi).1 (Nat.zero_le _) (HBL.out i hi).2.1))
 have CE := kept (fun W => empty_any f.nv W (by omega))
 obtain ⟨a0, c0, e0, -, -, hc0⟩ := hf.vars.open_
 obtain ⟨a1, c1, e1, -, -, hc1⟩ := (show Row w 1 f.params.1 (f.params.2.map intCells) from hf.params).open_
 obtain ⟨a2, c2, e2, -, -, hc2⟩ := hf.blocks.open_
 have hval : f.val = .agg #[.slice a0 f.nv c0, .slice a1 f.np c1, .slice a2 f.nb c2] := by unfold FuncM.val FuncM.nv FuncM.np FuncM.nb; rw [e0, e1, e2]
 have h1 : #[f.vars.1, f.params.1, f.blocks.1] = #[.slice a0 f.nv c0, .slice a1 f.np c1, .slice a2 f.nb c2] := by unfold FuncM.nv FuncM.np FuncM.nb; rw [e0, e1, e2]
 have HF := kept hf
 have HC0 := kept hc0
 have HC1 := kept hc1
 have HC2 := kept hc2
 have HNV := kept (show f.vars.2.length = f.nv from rfl)
 have HNP := kept (show f.params.2.length = f.np from rfl)
 have HNB := kept (show f.blocks.2.length = f.nb from rfl)
 rw [hval]
 clear e0 e1 e2 hval h1 hf hc0 hc1 HC0 HC1 hc2 hp HF
 generalize hmm : (f.nv + 63) / 64 = m at *
 have HMM := kept hmm
 clear hmm HM
 have hk0 : Keeps w (w.alloc (.cells #[.slice a0 f.nv c0, .slice a1 f.np c1, .slice a2 f.nb c2] 26)) [] := (Keeps.refl _ []).alloc _
 have bb0 := Blk.new w 26 #[.slice a0 f.nv c0, .slice a1 f.np c1, .slice a2 f.nb c2]
 have Bl := kept bb0
 have HK := kept hk0
 obtain ⟨l0, l1, l2⟩ := Bl.out.c3
 simp at l0 l1 l2
 clear hk0 bb0
 go_enter Tryd.func47, Tryd.ntmps47
 go_wp2
 clear l0 l1 l2
 generalize (w.alloc (.cells #[.slice a0 f.nv c0, .slice a1 f.np c1, .slice a2 f.nb c2] 26)) = W0 at *
 have Bl_W0 := Bl
 have TW0 := HK
 clear HK
 have HK := kept (Keeps.refl W0 [])
 obtain ⟨l0, l1, l2⟩ := Bl.out.c3
 simp at l0 l1 l2
 go_loopw [2, 3, 16] (fun a b i wr => ∃ (k : Nat) (A B : List SetM), k ≤ f.nb ∧ i = .int .i64 k ∧ A.length = k ∧ B.length = k ∧ Sets2 wr W0.heap.size m a b A B ∧ Hid (wsOf A = List.replicate k (List.replicate m 0) ∧ wsOf B = List.replicate k (List.replicate m 0)) ∧ Keeps W0 wr []) (fun _ _ i _ => f.nb - (intOf i).toNat)
 case atStart => exact ⟨0, [], [], Nat.zero_le _, rfl, rfl, rfl, sets_nil, ⟨rfl, rfl⟩, HK.out⟩
 case round =>
  obtain ⟨k, A, B, hk, rfl, hAl, hBl, hS, HW, hr⟩ := hrel
  have HS := kept hS
  have HAL := kept hAl
  have HBLn := kept hBl
  clear hS hAl hBl
  clear l0 l1 l2
  clear Bl HK
  have HK := kept hr
  have Bl := kept (Bl_W0.out.keep hr (by simp))
  clear hr
  obtain ⟨l0, l1, l2⟩ := Bl.out.c3
  simp at l0 l1 l2
  by_cases hlt : k < f.nb
  ·as_aux_lemma =>
    have hltz : (k : Int) < (f.nb : Int) := by omega
    have hsz1 := HK.out.size
    have CE1 := kept (CE.out wr)
    have hkm : A.length + 1 ≤ maxLen := by rw [HAL.out]; unfold maxLen; omega
    have hky : (A.length + 1) * 24 ≤ 140737488355328 := by rw [HAL.out]; omega
    have hkm2 : B.length + 1 ≤ maxLen := by rw [HBLn.out]; unfold maxLen; omega
    have hky2 : (B.length + 1) * 24 ≤ 140737488355328 := by rw [HBLn.out]; omega
    go_wp2_with (first | (at_builtin; (refine wpList_append_own_at _ rfl (.tmp 18) (.tmp 21) 93 rfl W0.heap.size 97 i97 (.slice none 0 0) 1 24 Tryd.underlying93 hi97 hz97 hs97 hb97 rfl (by decide) _ _ _ rfl (HS.out.r1.alloc _) ⟨w1.heap.size, 0, none⟩ 1 1 [.slice (some ⟨wr.heap.size, 0, none⟩) m m] rfl rfl (news_one _ _ _) (ones_one rfl) hkm hky (by simp; omega) ?_); intro v1' w2 hown' hgrow3 _ hat; clear l0 l1 l2; have HSx := kept (HS.out.app1 (s := ⟨wr.heap.size, m, [], List.replicate m 0⟩) HS1.out HF0.out hown' hgrow3 hat); have HKx := kept (keeps_append hgrow3 HS.out.r1 HK.out (Nat.le_refl _)); clear HK Bl HS HS1 HF0 hown' hgrow3 hat; have HK := HKx; have HS := HSx; clear HKx HSx; have Bl := kept (Bl_W0.out.keep HK.out (by simp)); obtain ⟨l0, l1, l2⟩ := Bl.out.c3; simp at l0 l1 l2; have hsz3 := HK.out.size; have CE2 := kept (CE.out w2)) | (at_builtin; go_must (refine wpList_append_own_at _ rfl (.tmp 23) (.tmp 26) 93 rfl W0.heap.size 97 i97 (.slice none 0 0) 1 24 Tryd.underlying93 hi97 hz97 hs97 hb97 rfl (by decide) _ _ _ rfl (HS.out.r2.alloc _) ⟨w3.heap.size, 0, none⟩ 1 1 [.slice (some ⟨w2.heap.size, 0, none⟩) m m] rfl rfl (news_one _ _ _) (ones_one rfl) hkm2 hky2 (by simp; omega) ?_); intro v2' w4 hown' hgrow3 _ hat; clear l0 l1 l2; have HSx := kept (HS.out.app2 (s := ⟨w2.heap.size, m, [], List.replicate m 0⟩) HS1.out HF0.out HF9.out hown' hgrow3 hat); have HKx := kept (keeps_append hgrow3 HS.out.r2 HK.out (Nat.le_refl _)); clear HK Bl HS HS1 HF0 hown' hgrow3 hat; have HK := HKx; have HS := HSx; clear HKx HSx; have Bl := kept (Bl_W0.out.keep HK.out (by simp)); obtain ⟨l0, l1, l2⟩ := Bl.out.c3; simp at l0 l1 l2) | (go_at_call 73; (refine (CE1.out).mono ?_; rintro e w1 ⟨rfl, hB1, k3⟩; clear l0 l1 l2; have HF0 := kept (fun t ht => Nat.ne_of_gt (show t.g < wr.heap.size from (HS.out.b2 t ht).2.1.lt)); have HS1 := kept (show SetOK w1 W0.heap.size m ⟨wr.heap.size, m, [], List.replicate m 0⟩ from ⟨hsz1, hB1, by simp⟩); have HSx := kept (HS.out.keep k3); have hsz2 := k3.size; have HKx := kept (HK.out.and_then k3); clear HK Bl HS hB1 k3 CE1; have HK := HKx; have HS := HSx; clear HKx HSx; have Bl := kept (Bl_W0.out.keep HK.out (by simp)); obtain ⟨l0, l1, l2⟩ := Bl.out.c3; simp at l0 l1 l2)) | (go_at_call 73; go_must (refine (CE2.out).mono ?_; rintro e w3 ⟨rfl, hB1, k3⟩; clear l0 l1 l2; have HF0 := kept (fun t ht => Nat.ne_of_lt (show t.g < w2.heap.size from (HS.out.b2 t ht).2.1.lt)); have HF9 := kept (fun t ht => Nat.ne_of_lt (show t.g < w2.heap.size from (HS.out.b1 t ht).2.1.lt)); have HS1 := kept (show SetOK w3 W0.heap.size m ⟨w2.heap.size, m, [], List.replicate m 0⟩ from ⟨hsz3, hB1, by simp⟩); have HSx := kept (HS.out.keep k3); have hsz4 := k3.size; have HKx := kept (HK.out.and_then k3); clear HK Bl HS hB1 k3 CE2; have HK := HKx; have HS := HSx; clear HKx HSx; have Bl := kept (Bl_W0.out.keep HK.out (by simp)); obtain ⟨l0, l1, l2⟩ := Bl.out.c3; simp at l0 l1 l2)) | fail)
    go_roundw
    case rel =>
     refine ⟨k + 1, A ++ [⟨wr.heap.size, m, [], List.replicate m 0⟩], B ++ [⟨w2.heap.size, m, [], List.replicate m 0⟩], by omega, by go_num, by rw [List.length_append, HAL.out]; rfl, by rw [List.length_append, HBLn.out]; rfl, HS.out, (show Hid _ from ⟨?_, ?_⟩), HK.out⟩
     ·rw [wsOf_snoc, HW.out.1]; exact rep_snoc _ _
     ·rw [wsOf_snoc, HW.out.2]; exact rep_snoc _ _
    case measure => simp [intOf] <;> omega
  ·as_aux_lemma =>
    have hltz : ¬ (k : Int) < (f.nb : Int) := by omega
    obtain rfl : f.nb = k := by omega
    have HI : Hid (FlowInv f.blk f.nb f.nv (wsOf A) (wsOf B)) := by have h := HST.out; show FlowInv _ _ _ _ _; rw [HW.out.1, HW.out.2]; exact h
    clear HW HST CE hltz hlt hk
    have hr1 := HS.out.r1
    rw [HAL.out] at hr1
    obtain ⟨G1, d1, ev1, hG1, -, -⟩ := own_some hr1 hnb0
    subst ev1
    have hr2 := HS.out.r2
    rw [HBLn.out] at hr2
    obtain ⟨G2, d2, ev2, hG2, -, -⟩ := own_some hr2 hnb0
    subst ev2
    clear hr1 hr2
    go_wp2
    go_loopg [5] (1 + f.nb * (64 * m)) (fun g a wr => ∃ (A B : List SetM) (b : Bool), a = .bool b ∧ A.length = f.nb ∧ B.length = f.nb ∧ Sets2 wr W0.heap.size m (.slice (some ⟨G1, 0, none⟩) f.nb d1) (.slice (some ⟨G2, 0, none⟩) f.nb d2) A B ∧ Hid (FlowInv f.blk f.nb f.nv (wsOf A) (wsOf B)) ∧ Hid (FlowHead f m g b (wsOf A) (wsOf B)) ∧ Keeps W0 wr [])
    case atStart => exact ⟨A, B, true, rfl, HAL.out, HBLn.out, HS.out, HI, .inl ⟨rfl, by omega⟩, HK.out⟩
    case round =>
     clear HI HS HAL HBLn
     obtain ⟨A, B, b, rfl, hAl, hBl, hS, HI, HH, hr⟩ := hrel
     have HS := kept hS
     have HAL := kept hAl
     have HBLn := kept hBl
     clear hS hAl hBl
     obtain ⟨wo, hwo⟩ : ∃ wo : World, wo = wr := ⟨_, rfl⟩
     subst hwo
     clear l0 l1 l2
     clear Bl HK
     have HK := kept hr
     have Bl := kept (Bl_W0.out.keep hr (by simp))
     clear hr
     obtain ⟨l0, l1, l2⟩ := Bl.out.c3
     simp at l0 l1 l2
     cases b with
     | false =>
      have HFX : Hid (FlowFix f.blk f.nb (wsOf A) (wsOf B) 0) := HH.out.elim (fun h => absurd h.1 (by simp)) (fun h => h.2)
      go_wp2
      exact bodyPost_ret (v := .tuple #[(.slice (some ⟨G1, 0, none⟩) f.nb d1), (.slice (some ⟨G2, 0, none⟩) f.nb d2)]) (by simp [results, Tryd.results47, go_sem]) rfl ⟨_, _, A, B, W0.heap.size, rfl, TW0.out.size, HS.out, HI.out, HFX.out, TW0.out.and_then HK.out⟩
     | true =>
      as_aux_lemma =>
       have HG : Hid (1 + (f.nb * (64 * m) - sumB m (wsOf A)) ≤ gk) := HH.out.elim (fun h => h.2) (fun h => absurd h.1 (by simp))
       clear HH
       obtain ⟨gq, rfl⟩ : ∃ gq, gk = gq + 1 := ⟨gk - 1, by have := HG.out; omega⟩
       have hn1 : (((f.nb : Int) - 1)) = ((f.nb : Int) - 1) := rfl
       clear hn1
       go_wp2
       go_loopw [5, 6] (fun a i wr => ∃ (k : Nat) (A' B' : List SetM) (b : Bool), k ≤ f.nb ∧ i = .int .i64 ((k : Int) - 1) ∧ a = .bool b ∧ A'.length = f.nb ∧ B'.length = f.nb ∧ Sets2 wr W0.heap.size m (.slice (some ⟨G1, 0, none⟩) f.nb d1) (.slice (some ⟨G2, 0, none⟩) f.nb d2) A' B' ∧ Hid (FlowInv f.blk f.nb f.nv (wsOf A') (wsOf B')) ∧ Hid (FlowMid f m k b (wsOf A) (wsOf A') (wsOf B')) ∧ Keeps W0 wr []) (fun _ i _ => (intOf i + 1).toNat)
       case atStart => exact ⟨f.nb, A, B, false, Nat.le_refl _, by go_num, rfl, HAL.out, HBLn.out, HS.out, HI, mid_start _ _ _ _, HK.out⟩
       case round =>
        have HA0 := HG
        clear HS HI HBLn HAL
        generalize wsOf A = I0 at *
        obtain ⟨k, A, B, b, hk, rfl, rfl, hAl, hBl, hS, HI, HMd, hr⟩ := hrel
        have HS := kept hS
        have HAL := kept hAl
        have HBLn := kept hBl
        clear hS hAl hBl
        obtain ⟨wi, hwi⟩ : ∃ wi : World, wi = wr := ⟨_, rfl⟩
        subst hwi
        clear l0 l1 l2
        clear Bl HK
        have HK := kept hr
        have Bl := kept (Bl_W0.out.keep hr (by simp))
        clear hr
        obtain ⟨l0, l1, l2⟩ := Bl.out.c3
        simp at l0 l1 l2
        by_cases hlt : 0 < k
        ·as_aux_lemma =>
          obtain ⟨k', rfl⟩ : ∃ k', k = k' + 1 := ⟨k - 1, by omega⟩
          have hk1 : (((k' + 1 : Nat) : Int) - 1) = (k' : Int) := by omega
          rw [hk1]
          clear hk1
          have hge : (0 : Int) ≤ (k' : Int) := by omega
          have hk'n : k' < f.nb := by omega
          have hltq : (k' : Int) < (f.nb : Int) := by omega
          obtain ⟨bb, off, e2, hbl, hcell⟩ := HC2.out k' (by rw [HNB.out]; exact hk'n)
          subst e2
          have n0 := (TW0.out.and_then HK.out).cellOf (hcell 0 _ rfl)
          have n1 := (TW0.out.and_then HK.out).cellOf (hcell 1 _ rfl)
          have n2 := (TW0.out.and_then HK.out).cellOf (hcell 2 _ rfl)
          have n3 := (TW0.out.and_then HK.out).cellOf (hcell 3 _ rfl)
          have n4 := (TW0.out.and_then HK.out).cellOf (hcell 4 _ rfl)
          have n5 := (TW0.out.and_then HK.out).cellOf (hcell 5 _ rfl)
          have n6 := (TW0.out.and_then HK.out).cellOf (hcell 6 _ rfl)
          simp only [Nat.add_zero] at n0
          have HCL := kept hcell
          clear hcell
          have CBk := kept (CB.out k' hk'n)
          have HEZ := kept ((HBL.out k' hk'n).2.2)
          have HFOk := kept (HFO.out _ _ HI.out k' hk'n)
          have HFSk := kept (HFS.out _ _ HI.out k' hk'n)
          have HSMk := kept (HSM.out _ _ HI.out k' hk'n)
          have HOKk := kept (HOK.out _ _ HI.out k' hk'n)
          have HOU := kept (show outOf f.blk (wsOf A) (wsOf B) k' = joinsW (wsOf B)[k']! ((endsM (f.blk k')).map fun zz => (wsOf A)[zz.toNat]!) from rfl)
          have HYB := kept (HFB.out k' hk'n)
          obtain ⟨pa, pc, pe, -, -, -⟩ := HYB.out.phis.open_
          obtain ⟨qa, qc, qe, -, -, -⟩ := HYB.out.insts.open_
          have HBK := kept (show f.blk k' = f.blocks.2[k']! from rfl)
          generalize hy : f.blocks.2[k']! = y at *
          have HY := kept hy
          clear hy
          rw [pe] at n1
          rw [qe] at n2
          have HCLc := kept (show y.cells = [.string y.name, .slice pa y.phis.2.length pc, .slice qa y.insts.2.length qc, .int .i64 y.kind, .int .i64 y.var, .int .i64 y.to0, .int .i64 y.to1] by unfold BlockM.cells; rw [pe, qe])
          clear HYB pe qe
          have CBq := kept (fun tl ws g0 cap0 W k h1 h2 h3 => CBk.out tl ws g0 cap0 W k h1 h2 h3)
          simp only [HCLc.out] at CBq
          clear CBk
          have CEn := kept (fun W => ends_any y.kind y.var y.to0 y.to1 y rfl rfl rfl W)
          rw [HBK.out] at HOU
          have CEn2 := kept (CEn.out wi)
          clear CEn
          generalize hE : endsM y = E at *
          have HEE := kept hE
          clear hE
          generalize y.name = yn at *
          generalize y.kind = yk at *
          generalize y.var = yv at *
          generalize y.to0 = y0 at *
          generalize y.to1 = y1 at *
          generalize y.phis.2.length = pn at *
          generalize y.insts.2.length = qn at *
          go_wp2_with (first | (go_at_call 74; go_must (refine (CEn2.out).mono ?_; rintro e w3 ⟨⟨⟨qq, qE⟩, rfl, hq2, hqi, hqo⟩, k3⟩; simp only at hq2; subst hq2; obtain ⟨ea, ec, ee, -, hem, -⟩ := IntsAt.open_ hqi; simp only at ee; subst ee; clear hem; dsimp only; clear l0 l1 l2; clear n0 n1 n2 n3 n4 n5 n6; have hgl : ∀ t ∈ B, t.g < wi.heap.size := fun t ht => (HS.out.b2 t ht).2.1.lt; have HQI := kept hqi; have HQO := kept hqo; have HGL := kept hgl; have HSx := kept (HS.out.keep k3); have HKx := kept (HK.out.and_then k3); clear HK Bl HS hqi hqo hgl k3 CEn2; have HK := HKx; have HS := HSx; clear HKx HSx; have Bl := kept (Bl_W0.out.keep HK.out (by simp)); obtain ⟨l0, l1, l2⟩ := Bl.out.c3; simp at l0 l1 l2)) | fail)
          have hen2 := ends_len y
          rw [HEE.out] at hen2
          have HWB := kept (wsOf_at (l := B) (i := k') (by rw [HBLn.out]; exact hk'n))
          have HOJ := kept (fun j => joinsW_ok (s := (wsOf B)[k']!) (ts := (qE.take j).map fun zz => (wsOf A)[zz.toNat]!) ((HI.out.ow k' hk'n).2) (fun t ht => by obtain ⟨zz, hz, rfl⟩ := List.mem_map.1 ht; exact (HI.out.iw _ (by have := HEZ.out zz (List.mem_of_mem_take hz); omega)).2))
          have HSB := kept (set_same B k' (by rw [HBLn.out]; exact hk'n))
          have HOU2 := kept (show outOf f.blk (wsOf A) (wsOf B) k' = joinsTo A (wsOf B)[k']! qE qE.length by rw [HOU.out]; unfold joinsTo; rw [List.take_length])
          rw [HWB.out] at HOJ HOU2
          have HGk := kept (HGL.out _ (bang_mem (l := B) (k := k') (by rw [HBLn.out]; exact hk'n)))
          generalize hbk : B[k']! = Bk at *
          have HBk := kept hbk
          clear hbk HOU HGL
          generalize hol : outOf f.blk (wsOf A) (wsOf B) k' = OO at *
          clear hol
          go_loopw [46] (fun i wr => ∃ j : Nat, j ≤ qE.length ∧ i = .int .i64 j ∧ Sets2 wr W0.heap.size m (.slice (some ⟨G1, 0, none⟩) f.nb d1) (.slice (some ⟨G2, 0, none⟩) f.nb d2) A (B.set k' (Bk.with_ (joinsTo A Bk.ws qE j))) ∧ IntsAt wr (.slice ea qE.length ec, qE) ∧ Keeps W0 wr []) (fun i _ => qE.length - (intOf i).toNat)
          case atStart => exact ⟨0, Nat.zero_le _, rfl, by rw [joinsTo_zero, HSB.out]; exact HS.out, HQI.out, HK.out⟩
          case round =>
           clear HS HQI
           obtain ⟨j, hj, rfl, hS, hq, hr⟩ := hrel
           have HS := kept hS
           have HQI := kept hq
           clear hS hq
           obtain ⟨wj, hwj⟩ : ∃ wj : World, wj = wr := ⟨_, rfl⟩
           subst hwj
           clear l0 l1 l2
           clear Bl HK
           have HK := kept hr
           have Bl := kept (Bl_W0.out.keep hr (by simp))
           clear hr
           obtain ⟨l0, l1, l2⟩ := Bl.out.c3
           simp at l0 l1 l2
           by_cases hltj : j < qE.length
           ·as_aux_lemma =>
             have hltjz : (j : Int) < (qE.length : Int) := by omega
             obtain ⟨a2, c2', e2, -, -, h4⟩ := IntsAt.open_ HQI.out
             simp only [Value.slice.injEq] at e2
             obtain ⟨rfl, -, rfl⟩ := e2
             rcases h4 with h4 | ⟨ra, ro, rfl, -, hra⟩
             ·simp only at h4; omega
             have o0 := hra j hltj
             clear hra
             simp only at o0
             have hzz := HEZ.out _ (bang_mem (l := qE) (k := j) hltj)
             have HJS := kept (joinsTo_step A Bk.ws qE j hltj)
             generalize qE[j]! = z at *
             obtain ⟨zn, rfl⟩ : ∃ zn : Nat, z = zn := ⟨z.toNat, by omega⟩
             rw [Int.toNat_natCast] at HJS
             have hzn : zn < f.nb := by omega
             have hznI : (zn : Int) < (f.nb : Int) := by omega
             clear hzz
             have HAZ := kept (wsOf_at (l := A) (i := zn) (by rw [HAL.out]; exact hzn))
             have HOZ := kept (HI.out.iw zn hzn).2
             rw [HAZ.out] at HOZ HJS
             have r1 := HS.out.cell1 rfl (HAL.out.symm) hzn
             have r2 := HS.out.cell2 rfl (by rw [List.length_set, HBLn.out]) hk'n
             rw [sm_set (by rw [HBLn.out]; exact hk'n), if_pos rfl] at r2
             generalize hAz : A[zn]! = Az at *
             have HAz := kept hAz
             clear hAz
             have CJ := kept (fun W (h : Sets2 W W0.heap.size m (.slice (some ⟨G1, 0, none⟩) f.nb d1) (.slice (some ⟨G2, 0, none⟩) f.nb d2) A (B.set k' (Bk.with_ (joinsTo A Bk.ws qE j)))) => join_sets h (by rw [HBLn.out]; exact hk'n) (by rw [HAL.out]; exact hzn) HAz.out (HOJ.out j) HOZ.out hm64)
             simp only [SetM.val, SetM.with_] at r1 r2
             go_upto_region 15 with (fail)
             refine wp_region_held_drew (S := (fun w' => w'.cell? ⟨G1, zn, none⟩ = some (.slice (some ⟨Az.g, 0, none⟩) m Az.cap) ∧ w'.cell? ⟨G2, k', none⟩ = some (.slice (some ⟨Bk.g, 0, none⟩) m Bk.cap))) (by kernel_rfl) ?jhSs (fun hHeld => ?_)
             case jhSs => exact ⟨r1, r2⟩
             clear l0 l1 l2
             clear r1 r2 o0
             have hkd : Keeps wj (World.drew wj) [] := (Keeps.refl wj []).drew
             have HSx := kept (HS.out.keep hkd)
             have HQx := kept (Row.keep HQI.out hkd : IntsAt _ _)
             have HKx := kept (HK.out.and_then hkd)
             clear hkd HS HQI HK Bl
             have HS := HSx
             have HQI := HQx
             have HK := HKx
             clear HSx HQx HKx
             generalize World.drew wj = X0 at *
             have r1 := HS.out.cell1 rfl (HAL.out.symm) hzn
             have r2 := HS.out.cell2 rfl (by rw [List.length_set, HBLn.out]) hk'n
             rw [sm_set (by rw [HBLn.out]; exact hk'n), if_pos rfl] at r2
             rw [HAz.out] at r1
             simp only [SetM.val, SetM.with_] at r1 r2
             refine tl 0 ⟨some 50, .move (.tmp 3), 93, "live.go:70", #[], none⟩ rfl hHeld ?_
             refine tl 1 ⟨some 51, .move (.tmp 6), 3, "live.go:70", #[], none⟩ rfl hHeld ?_
             refine tl 2 ⟨some 52, .indexAddr 93 (.tmp 50) (.tmp 51), 0, "live.go:70", #[⟨0, .data⟩, ⟨1, .data⟩], none⟩ rfl hHeld ?_
             refine tl 3 ⟨some 53, .load 97 (.tmp 52), 97, "live.go:70", #[⟨2, .data⟩], none⟩ rfl hHeld ?_
             refine tl 4 ⟨some 54, .move (.tmp 2), 93, "live.go:70", #[], none⟩ rfl hHeld ?_
             refine tl 5 ⟨some 55, .move (.tmp 8), 3, "live.go:70", #[], none⟩ rfl hHeld ?_
             refine tl 6 ⟨some 56, .indexAddr 93 (.tmp 54) (.tmp 55), 0, "live.go:70", #[⟨4, .data⟩, ⟨5, .data⟩], none⟩ rfl hHeld ?_
             refine tl 7 ⟨some 57, .load 97 (.tmp 56), 97, "live.go:70", #[⟨6, .data⟩], none⟩ rfl hHeld ?_
             refine wpAnyH_ready (rs := [8]) (by kernel_rfl) (by simp) ?_
             refine AllReadyH.cons (o := ⟨some 58, .call ⟨.value (.func 75), #[.tmp 53, .tmp 57], #[97, 97]⟩, 0, "live.go:70", #[⟨3, .data⟩, ⟨7, .data⟩], none⟩) rfl (fun K hK => ?_) AllReadyH.nil
             go_simp
             (with_reducible refine (CJ.out _ HS.out).mono ?_)
             rintro e wx ⟨rfl, hS2, k3, hgb, hgl⟩
             show K _ _
             clear hHeld
             have HSx := kept hS2
             have HKx := kept (keeps_own HK.out k3 hgb)
             have HQx := kept (IntsAt.keepS HQI.out k3 (fun k hk => by have h9 := HQO.out k hk; have := HGk.out; simp; omega))
             clear hS2 k3 hgb hgl HS HK HQI r1 r2
             have HS := HSx
             have HQI := HQx
             have HK := HKx
             clear HSx HQx HKx
             rw [← HJS.out] at HS
             have r1 := HS.out.cell1 rfl (HAL.out.symm) hzn
             have r2 := HS.out.cell2 rfl (by rw [List.length_set, HBLn.out]) hk'n
             rw [sm_set (by rw [HBLn.out]; exact hk'n), if_pos rfl] at r2
             rw [HAz.out] at r1
             simp only [SetM.val, SetM.with_] at r1 r2
             refine hK.out _ _ ?jhS8 (fun hHeld => ?_)
             case jhS8 => exact ⟨r1, r2⟩
             clear hK K
             try simp only [Act.put, sA, sB, sC]
             refine wpAnyH_done (by kernel_rfl) ?_ _
             clear hHeld
             clear r1 r2
             have Bl := kept (Bl_W0.out.keep HK.out (by simp))
             obtain ⟨l0, l1, l2⟩ := Bl.out.c3
             simp at l0 l1 l2
             go_wp2
             go_roundw
             case rel => exact ⟨j + 1, by omega, by go_num, HS.out, HQI.out, HK.out⟩
             case measure => simp [intOf] <;> omega
           ·as_aux_lemma =>
             have hltjz : ¬ (j : Int) < (qE.length : Int) := by omega
             obtain rfl : qE.length = j := by omega
             rw [← HOU2.out] at HS
             clear HQI HQO
             have hoo2 := HOU2.out
             have HOOW : Hid (WordsOK OO) := by have h := HOJ.out qE.length; show WordsOK OO; rw [hoo2]; exact h
             clear hoo2 HOU2 HOJ HSB
             have HB1L : Hid ((B.set k' (Bk.with_ OO)).length = f.nb) := by show _ = _; rw [List.length_set]; exact HBLn.out
             have HB1W : Hid (wsOf (B.set k' (Bk.with_ OO)) = (wsOf B).set k' OO) := wsOf_set _ _ _
             have HB1k : Hid ((B.set k' (Bk.with_ OO))[k']! = Bk.with_ OO) := by show _ = _; rw [sm_set (by rw [HBLn.out]; exact hk'n), if_pos rfl]
             have HI1 := kept HFOk.out
             rw [← HB1W.out] at HI1
             generalize B.set k' (Bk.with_ OO) = B1 at *
             obtain ⟨wf, hwf⟩ : ∃ wf : World, wf = wj := ⟨_, rfl⟩
             subst hwf
             have HCM : Hid (∀ (i : Nat) (x : Value), [.string yn, .slice pa pn pc, .slice qa qn qc, .int .i64 yk, .int .i64 yv, .int .i64 y0, .int .i64 y1][i]? = some x → w.cell? ⟨bb, off + k' * 7 + i, none⟩ = some x) := fun i x hx => HCL.out i x (by rw [HCLc.out]; exact hx)
             clear HCL HCLc
             have n0 := (TW0.out.and_then HK.out).cellOf (HCM.out 0 _ rfl)
             have n1 := (TW0.out.and_then HK.out).cellOf (HCM.out 1 _ rfl)
             have n2 := (TW0.out.and_then HK.out).cellOf (HCM.out 2 _ rfl)
             have n3 := (TW0.out.and_then HK.out).cellOf (HCM.out 3 _ rfl)
             have n4 := (TW0.out.and_then HK.out).cellOf (HCM.out 4 _ rfl)
             have n5 := (TW0.out.and_then HK.out).cellOf (HCM.out 5 _ rfl)
             have n6 := (TW0.out.and_then HK.out).cellOf (HCM.out 6 _ rfl)
             simp only [Nat.add_zero] at n0
             have r2 := HS.out.cell2 rfl (HB1L.out.symm) hk'n
             rw [HB1k.out] at r2
             simp only [SetM.val, SetM.with_] at r2
             go_upto_region 17 with (fail)
             refine wp_region_held_drew (S := (fun w' => w'.cell? ⟨w.heap.size, 2, none⟩ = some (.slice (some ⟨bb, off, none⟩) f.nb c2) ∧ w'.cell? ⟨bb, off + k' * 7, none⟩ = some (.string yn) ∧ w'.cell? ⟨bb, off + k' * 7 + 1, none⟩ = some (.slice pa pn pc) ∧ w'.cell? ⟨bb, off + k' * 7 + 2, none⟩ = some (.slice qa qn qc) ∧ w'.cell? ⟨bb, off + k' * 7 + 3, none⟩ = some (.int .i64 yk) ∧ w'.cell? ⟨bb, off + k' * 7 + 4, none⟩ = some (.int .i64 yv) ∧ w'.cell? ⟨bb, off + k' * 7 + 5, none⟩ = some (.int .i64 y0) ∧ w'.cell? ⟨bb, off + k' * 7 + 6, none⟩ = some (.int .i64 y1) ∧ w'.cell? ⟨G2, k', none⟩ = some (.slice (some ⟨Bk.g, 0, none⟩) m Bk.cap))) (by kernel_rfl) ?bhSs (fun hHeld => ?_)
             case bhSs => exact ⟨l2, n0, n1, n2, n3, n4, n5, n6, r2⟩
             clear l0 l1 l2
             clear n0 n1 n2 n3 n4 n5 n6 r2
             have hkd : Keeps wf (World.drew wf) [] := (Keeps.refl wf []).drew
             replace HS := kept (HS.out.keep hkd)
             replace HK := kept (HK.out.and_then hkd)
             clear hkd Bl
             generalize World.drew wf = X1 at *
             have n0 := (TW0.out.and_then HK.out).cellOf (HCM.out 0 _ rfl)
             have n1 := (TW0.out.and_then HK.out).cellOf (HCM.out 1 _ rfl)
             have n2 := (TW0.out.and_then HK.out).cellOf (HCM.out 2 _ rfl)
             have n3 := (TW0.out.and_then HK.out).cellOf (HCM.out 3 _ rfl)
             have n4 := (TW0.out.and_then HK.out).cellOf (HCM.out 4 _ rfl)
             have n5 := (TW0.out.and_then HK.out).cellOf (HCM.out 5 _ rfl)
             have n6 := (TW0.out.and_then HK.out).cellOf (HCM.out 6 _ rfl)
             simp only [Nat.add_zero] at n0
             have r2 := HS.out.cell2 rfl (HB1L.out.symm) hk'n
             rw [HB1k.out] at r2
             simp only [SetM.val, SetM.with_] at r2
             have Bl := kept (Bl_W0.out.keep HK.out (by simp))
             obtain ⟨l0, l1, l2⟩ := Bl.out.c3
             simp at l0 l1 l2
             have HBB : Hid (Blk X1 Bk.g 125 (wordsC Bk.tl OO) ∧ OO.length = m) := by have h := HS.out.b2 _ (bang_mem (l := B1) (k := k') (by rw [HB1L.out]; exact hk'n)); rw [HB1k.out] at h; exact h.2
             have CBz := kept (CBq.out Bk.tl OO Bk.g Bk.cap X1 (TW0.out.and_then HK.out) HBB.out.1 HOOW.out HBB.out.2)
             rw [HBB.out.2] at CBz
             refine tl 0 ⟨some 60, .fieldAddr 26 (.tmp 1) 2, 0, "live.go:72", #[], none⟩ rfl hHeld ?_
             refine tl 1 ⟨some 61, .load 24 (.tmp 60), 24, "live.go:72", #[⟨0, .data⟩], none⟩ rfl hHeld ?_
             refine tl 2 ⟨some 62, .move (.tmp 6), 3, "live.go:72", #[], none⟩ rfl hHeld ?_
             refine tl 3 ⟨some 63, .indexAddr 24 (.tmp 61) (.tmp 62), 0, "live.go:72", #[⟨1, .data⟩, ⟨2, .data⟩], none⟩ rfl hHeld ?_
             refine tl 4 ⟨some 64, .load 39 (.tmp 63), 39, "live.go:72", #[⟨3, .data⟩], none⟩ rfl hHeld ?_
             refine tl 5 ⟨some 65, .move (.tmp 3), 93, "live.go:72", #[], none⟩ rfl hHeld ?_
             refine tl 6 ⟨some 66, .move (.tmp 6), 3, "live.go:72", #[], none⟩ rfl hHeld ?_
             refine tl 7 ⟨some 67, .indexAddr 93 (.tmp 65) (.tmp 66), 0, "live.go:72", #[⟨5, .data⟩, ⟨6, .data⟩], none⟩ rfl hHeld ?_
             refine tl 8 ⟨some 68, .load 97 (.tmp 67), 97, "live.go:72", #[⟨7, .data⟩], none⟩ rfl hHeld ?_
             refine wpAnyH_ready (rs := [9]) (by kernel_rfl) (by simp) ?_
             refine AllReadyH.cons (o := ⟨some 69, .call ⟨.value (.func 48), #[.tmp 64, .tmp 68, .const (Value.int IntKind.i64 0)], #[39, 97, 3]⟩, 97, "live.go:72", #[⟨4, .data⟩, ⟨8, .data⟩], none⟩) rfl (fun K hK => ?_) AllReadyH.nil
             go_simp
             (with_reducible refine (CBz.out).mono ?_)
             rintro e wx ⟨gn, cn, tn, rfl, hgn, hBn, k3⟩
             show K _ _
             clear hHeld
             rw [show (backW y OO 0).length = m from (backW_len y OO 0).trans HBB.out.2]
             have HSx := kept (HS.out.keep k3)
             have HFN := kept (fun t ht => Nat.ne_of_gt (Nat.lt_of_lt_of_le (show t.g < X1.heap.size from (HS.out.b2 t ht).2.1.lt) hgn))
             have hRL := (backW_len y OO 0).trans HBB.out.2
             have HSN : Hid (SetOK wx W0.heap.size m ⟨gn, cn, tn, backW y OO 0⟩) := ⟨(show W0.heap.size ≤ gn from by have := HK.out.size; omega), hBn, hRL⟩
             have HKx := kept (HK.out.and_then k3)
             clear HS HK hBn hgn k3 hRL Bl n0 n1 n2 n3 n4 n5 n6 r2 l0 l1 l2
             have HS := HSx
             have HK := HKx
             clear HSx HKx
             have n0 := (TW0.out.and_then HK.out).cellOf (HCM.out 0 _ rfl)
             have n1 := (TW0.out.and_then HK.out).cellOf (HCM.out 1 _ rfl)
             have n2 := (TW0.out.and_then HK.out).cellOf (HCM.out 2 _ rfl)
             have n3 := (TW0.out.and_then HK.out).cellOf (HCM.out 3 _ rfl)
             have n4 := (TW0.out.and_then HK.out).cellOf (HCM.out 4 _ rfl)
             have n5 := (TW0.out.and_then HK.out).cellOf (HCM.out 5 _ rfl)
             have n6 := (TW0.out.and_then HK.out).cellOf (HCM.out 6 _ rfl)
             simp only [Nat.add_zero] at n0
             have r2 := HS.out.cell2 rfl (HB1L.out.symm) hk'n
             rw [HB1k.out] at r2
             simp only [SetM.val, SetM.with_] at r2
             have Bl := kept (Bl_W0.out.keep HK.out (by simp))
             obtain ⟨l0, l1, l2⟩ := Bl.out.c3
             simp at l0 l1 l2
             refine hK.out _ _ ?bhS9 (fun hHeld => ?_)
             case bhS9 => exact ⟨l2, n0, n1, n2, n3, n4, n5, n6, r2⟩
             clear hK K
             try simp only [Act.put, sA, sB, sC]
             refine tl 10 ⟨some 9, .assign (.tmp 69), 97, "live.go:72", #[⟨9, .data⟩, ⟨9, .chain⟩, ⟨0, .phase⟩, ⟨1, .phase⟩, ⟨2, .phase⟩, ⟨3, .phase⟩, ⟨4, .phase⟩, ⟨5, .phase⟩, ⟨6, .phase⟩, ⟨7, .phase⟩, ⟨8, .phase⟩, ⟨9, .phase⟩], none⟩ rfl hHeld ?_
             refine wpAnyH_done (by kernel_rfl) ?_ _
             clear hHeld
             clear n0 n1 n2 n3 n4 n5 n6 r2
             have HRO : Hid (WordsOK (backW y OO 0)) := backW_ok y HOOW.out 0
             have HBE : Hid (f.blk k' = y) := HBK.out
             have HAK := kept (wsOf_at (l := A) (i := k') (by rw [HAL.out]; exact hk'n))
             have r1 := HS.out.cell1 rfl (HAL.out.symm) hk'n
             have HAB := kept (HS.out.b1 _ (bang_mem (l := A) (k := k') (by rw [HAL.out]; exact hk'n)))
             generalize hak : A[k']! = Ak at *
             have HAk := kept hak
             clear hak
             simp only [SetM.val] at r1
             generalize hRR : backW y OO 0 = RR at *
             have HRR := kept hRR
             clear hRR
             have CEq := kept (equal_any tn Ak.tl RR Ak.ws gn Ak.g cn Ak.cap wx HSN.out.2.1 HAB.out.2.1 (by rw [HAB.out.2.2, HSN.out.2.2]) (by rw [HSN.out.2.2]; exact hm64))
             rw [HSN.out.2.2, HAB.out.2.2] at CEq
             obtain ⟨EB, hEB⟩ : ∃ EB, decide (RR = Ak.ws) = EB := ⟨_, rfl⟩
             rw [hEB] at CEq
             have HEB := kept hEB
             clear hEB
             cases EB with
             | true =>
              have he : RR = Ak.ws := of_decide_eq_true HEB.out
              have HMn : Hid (FlowMid f m k' b I0 (wsOf A) (wsOf B1)) := by rw [HB1W.out]; exact mid_same HMd.out (fun hx => HFSk.out hx (by rw [HBE.out, HRR.out, HAK.out]; exact he))
              clear he HEB
              go_wp2_with (first | (go_at_call 76; go_must (refine (CEq.out).mono ?_; rintro e w8 ⟨rfl, k3⟩; clear r1; clear l0 l1 l2; replace HS := kept (HS.out.keep k3); replace HSN := kept (HSN.out.keep k3 (by simp)); replace HK := kept (HK.out.and_then k3); clear HAB CEq Bl k3; have r1 := HS.out.cell1 rfl (HAL.out.symm) hk'n; simp only [SetM.val] at r1; have Bl := kept (Bl_W0.out.keep HK.out (by simp)); obtain ⟨l0, l1, l2⟩ := Bl.out.c3; simp at l0 l1 l2)) | fail)
              go_roundw
              case rel => exact ⟨k', A, B1, b, by omega, by go_num, rfl, HAL.out, HB1L.out, HS.out, HI1, HMn, HK.out⟩
              case measure => simp [intOf] <;> omega
             | false =>
              have he : ¬ RR = Ak.ws := of_decide_eq_false HEB.out
              have HWN : Hid (wsOf (A.set k' ⟨gn, cn, tn, RR⟩) = (wsOf A).set k' RR) := wsOf_set _ _ _
              have HIn : Hid (FlowInv f.blk f.nb f.nv (wsOf (A.set k' ⟨gn, cn, tn, RR⟩)) (wsOf B1)) := by have h := HFI.out _ _ HI1.out k' hk'n; have e0 : (wsOf B1)[k']! = OO := (by rw [wsOf_at (by rw [HB1L.out]; exact hk'n), HB1k.out]; rfl); rw [e0, HBE.out, HRR.out] at h; show FlowInv _ _ _ _ _; rw [HWN.out]; exact h
              have HMn : Hid (FlowMid f m k' true I0 (wsOf (A.set k' ⟨gn, cn, tn, RR⟩)) (wsOf B1)) := mid_more HMd.out (by have h := HSMk.out (by rw [HBE.out, HRR.out, HAK.out]; exact he); rw [HBE.out, HRR.out] at h; rw [HWN.out]; exact h)
              clear he HEB
              go_wp2_with (first | (go_at_call 76; go_must (refine (CEq.out).mono ?_; rintro e w8 ⟨rfl, k3⟩; clear r1; clear l0 l1 l2; replace HS := kept (HS.out.keep k3); replace HSN := kept (HSN.out.keep k3 (by simp)); replace HK := kept (HK.out.and_then k3); clear HAB CEq Bl k3; have r1 := HS.out.cell1 rfl (HAL.out.symm) hk'n; simp only [SetM.val] at r1; have f1 := HS.out.frozen1 rfl (HAL.out.symm) k'; have Bl := kept (Bl_W0.out.keep HK.out (by simp)); obtain ⟨l0, l1, l2⟩ := Bl.out.c3; simp at l0 l1 l2)) | fail)
              have HPT := kept (HS.out.put (by rw [HAL.out]) (by rw [HAL.out]; exact hk'n) HSN.out HFN.out)
              have HKP := kept (keeps_own HK.out HPT.out.2 hG1)
              simp only [SetM.val] at HPT HKP
              refine ⟨⟨k', (A.set k' ⟨gn, cn, tn, RR⟩), B1, true, by omega, by go_num, rfl, ?_, HB1L.out, HPT.out.1, HIn, HMn, HKP.out⟩, by simp [intOf] <;> omega⟩
              rw [List.length_set]; exact HAL.out
        ·as_aux_lemma =>
          obtain rfl : k = 0 := by omega
          go_wp2
          have HHd := kept (mid_end (by rw [wsOf_len]; exact HAL.out) HG.out HMd.out)
          go_roundg gq
          case measure => omega
          case rel => exact ⟨A, B, b, rfl, HAL.out, HBLn.out, HS.out, HI, HHd, HK.out⟩
end Go.Proofs.YtjllbchfojonhaaDoor
