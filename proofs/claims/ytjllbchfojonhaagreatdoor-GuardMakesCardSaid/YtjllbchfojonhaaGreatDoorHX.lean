/- The document's blocks that are reached: From; the walk. ; The laws' Typed; which blocks are reached (the document's); does an instruction stand ahead (earlier); contracts. ; The check that matches a raw instruction (ops.Needs); contract. ; Is a raw instruction guarded? (field.guarded); the walk. ; Raw instructions that aren't guarded (guard.Places); is a program guarded (guard.Guarded); the walks. ; The chapter's example (lives); contract. -/
import Derived.Test.YtjllbchfojonhaaGreatDoorGK
import Derived.Deep.CutBlock
import Derived.Deep.Cut
import Derived.Deep.CutRange
import Derived.Test.YtjllbchfojonhaaGreatDoorGX
import Derived.Test.YtjllbchfojonhaaGreatDoorFewX
import Derived.Test.YtjllbchfojonhaaGreatDoorRefShB
import Derived.Test.YtjllbchfojonhaaGreatDoorRefTy
import Derived.OwnWalk
namespace Go.Proofs.YtjllbchfojonhaaGreatDoor
open Go.RowKit
set_option linter.unusedVariables false
set_option linter.unusedSimpArgs false
end Go.Proofs.YtjllbchfojonhaaGreatDoor
namespace Go.Proofs.YtjllbchfojonhaaGreatDoor
open Go.RowKit
set_option linter.unusedVariables false
set_option linter.unusedSimpArgs false
theorem fewBl_all : ∀ (l : List BlockM) (n : Nat), (fewBl l n).isSome = true → ∀ b ∈ l, b.phis.2.length ≤ 400 ∧ b.insts.2.length ≤ 400
 | [], _, _ => by simp
 | b :: l, n, h => fun c hc => by
  unfold fewBl fewOne at h
  split at h
  ·cases h
  ·rename_i h0
   obtain ⟨z, hz⟩ := Option.isSome_iff_exists.1 h
   obtain ⟨m, _, hm⟩ := Option.bind_eq_some_iff.1 hz
   obtain ⟨m2, _, hm2⟩ := Option.bind_eq_some_iff.1 hm
   split at hm2
   ·cases hm2
   ·rcases List.mem_cons.1 hc with rfl | hc
    ·omega
    ·exact fewBl_all l m2 (by rw [hm2]; rfl) c hc
theorem few_p {f : FuncM} (h : fewB f = true) : FewP f := by
 unfold fewB at h
 split at h
 ·cases h
 ·rename_i h0
  obtain ⟨z, hz⟩ := Option.isSome_iff_exists.1 h
  obtain ⟨n, _, hn⟩ := Option.bind_eq_some_iff.1 hz
  exact ⟨by omega, by omega, by omega, fun b hb => by have h9 := fewBl_all _ n (by rw [hn]; rfl) b hb; omega⟩
def typed10 (f : FuncM) : Bool := fewB f && (shapedB f && typedB f)
theorem typed10_iff {f : FuncM} : typed10 f = true ↔ fewB f = true ∧ typedE f = 0 := by
 unfold typed10 typedE
 rw [Bool.and_eq_true]
 refine and_congr_right fun _ => ?_
 split
 ·rename_i h; simp [h]
 ·rename_i h; simp [h]
set_option maxRecDepth 100000 in
set_option maxHeartbeats 200000000 in
theorem shaped31_any (f : FuncM) (w : World) (ht : Tabs w) (hf : FuncAt w f) (hfew : FewP f) : Calls Tryz.prog 31 #[f.val] w fun e w' => e = .returned (.bool (shapedB f)) ∧ Keeps w w' [] := by
 have CS := kept (fun W h1 (h2 : FuncAt W f) => refShaped_any0 f W h1 h2 hfew)
 rw [shaped_eq] at CS
 have HTB := kept ht
 obtain ⟨a0, c0, a1, c1, a2, c2, e0, e1, e2, hval, h1, HF, HC0, HC1, HC2, HNV, HNP, HNB⟩ := fopen hf
 rw [hval] at CS ⊢
 clear hval h1 e0 e1 e2 hf HC0 HC1 HC2 ht hfew
 obtain ⟨HK, Bl⟩ := fbox w 26 #[.slice a0 f.nv c0, .slice a1 f.np c1, .slice a2 f.nb c2]
 obtain ⟨l0, l1, l2⟩ := Bl.out.c3
 simp at l0 l1 l2
 go_enter Tryz.func31, Tryz.ntmps31
 go_wp2_with (first | (go_at_call 52; refine (CS.out _ (HTB.out.keep HK.out) (HF.out.keep HK.out)).mono ?_; rintro e w3 ⟨rfl, k3⟩; clear l0 l1 l2; replace Bl := kept (Bl.out.keep k3 (by simp)); replace HK := kept (HK.out.and_then k3); obtain ⟨l0, l1, l2⟩ := Bl.out.c3; simp at l0 l1 l2; clear k3))
 go_ret
 exact ⟨rfl, HK.out⟩
set_option maxRecDepth 100000 in
set_option maxHeartbeats 200000000 in
theorem typed25_any (f : FuncM) (w : World) (ht : Tabs w) (hf : FuncAt w f) (hfew : FewP f) : Calls Tryz.prog 25 #[f.val] w fun e w' => e = .returned (.bool (shapedB f && typedB f)) ∧ Keeps w w' [] := by
 have C31 := kept (fun W h1 (h2 : FuncAt W f) => shaped31_any f W h1 h2 hfew)
 have C47 := kept (fun (hS : shapedB f = true) W (h : FuncAt W f) => refTyped_any f W h hS hfew)
 have HTB := kept ht
 obtain ⟨a0, c0, a1, c1, a2, c2, e0, e1, e2, hval, h1, HF, HC0, HC1, HC2, HNV, HNP, HNB⟩ := fopen hf
 rw [hval] at C31 C47 ⊢
 clear hval h1 e0 e1 e2 hf HC0 HC1 HC2 ht hfew
 obtain ⟨HK, Bl⟩ := fbox w 26 #[.slice a0 f.nv c0, .slice a1 f.np c1, .slice a2 f.nb c2]
 obtain ⟨l0, l1, l2⟩ := Bl.out.c3
 simp at l0 l1 l2
 go_enter Tryz.func25, Tryz.ntmps25
 cases hS : shapedB f with
 | false =>
  rw [hS] at C31
  clear C47 hS
  go_wp2_with (first | (go_at_call 31; refine (C31.out _ (HTB.out.keep HK.out) (HF.out.keep HK.out)).mono ?_; rintro e w3 ⟨rfl, k3⟩; clear l0 l1 l2; replace Bl := kept (Bl.out.keep k3 (by simp)); replace HK := kept (HK.out.and_then k3); obtain ⟨l0, l1, l2⟩ := Bl.out.c3; simp at l0 l1 l2; clear k3))
  go_ret
  exact ⟨by first | rfl | (simp), HK.out⟩
 | true =>
  have C47x := kept (C47.out hS)
  clear C47
  rw [hS] at C31
  clear hS
  generalize typedB f = T at *
  cases T
  ·go_wp2_with (first | (go_at_call 31; refine (C31.out _ (HTB.out.keep HK.out) (HF.out.keep HK.out)).mono ?_; rintro e w3 ⟨rfl, k3⟩; clear l0 l1 l2; replace Bl := kept (Bl.out.keep k3 (by simp)); replace HK := kept (HK.out.and_then k3); obtain ⟨l0, l1, l2⟩ := Bl.out.c3; simp at l0 l1 l2; clear k3) | (go_at_call 47; refine (C47x.out _ (HF.out.keep HK.out)).mono ?_; rintro e w3 ⟨rfl, k3⟩; clear l0 l1 l2; replace Bl := kept (Bl.out.keep k3 (by simp)); replace HK := kept (HK.out.and_then k3); obtain ⟨l0, l1, l2⟩ := Bl.out.c3; simp at l0 l1 l2; clear k3))
   go_ret
   exact ⟨by first | rfl | (simp), HK.out⟩
  ·go_wp2_with (first | (go_at_call 31; refine (C31.out _ (HTB.out.keep HK.out) (HF.out.keep HK.out)).mono ?_; rintro e w3 ⟨rfl, k3⟩; clear l0 l1 l2; replace Bl := kept (Bl.out.keep k3 (by simp)); replace HK := kept (HK.out.and_then k3); obtain ⟨l0, l1, l2⟩ := Bl.out.c3; simp at l0 l1 l2; clear k3) | (go_at_call 47; refine (C47x.out _ (HF.out.keep HK.out)).mono ?_; rintro e w3 ⟨rfl, k3⟩; clear l0 l1 l2; replace Bl := kept (Bl.out.keep k3 (by simp)); replace HK := kept (HK.out.and_then k3); obtain ⟨l0, l1, l2⟩ := Bl.out.c3; simp at l0 l1 l2; clear k3))
   go_ret
   exact ⟨by first | rfl | (simp), HK.out⟩
set_option maxRecDepth 100000 in
set_option maxHeartbeats 200000000 in
theorem typed10_any (f : FuncM) (w : World) (ht : Tabs w) (hf : FuncAt w f) : Calls Tryz.prog 9 #[f.val] w fun e w' => e = .returned (.bool (typed10 f)) ∧ Keeps w w' [] := by
 have C16 := kept (fun W (h2 : FuncAt W f) => few_exact f W h2)
 have C25 := kept (fun (hS : fewB f = true) W h1 (h : FuncAt W f) => typed25_any f W h1 h (few_p hS))
 have HTB := kept ht
 have HT0 := kept (show typed10 f = (fewB f && (shapedB f && typedB f)) from rfl)
 generalize typed10 f = R at *
 obtain ⟨a0, c0, a1, c1, a2, c2, e0, e1, e2, hval, h1, HF, HC0, HC1, HC2, HNV, HNP, HNB⟩ := fopen hf
 rw [hval] at C16 C25 ⊢
 clear hval h1 e0 e1 e2 hf HC0 HC1 HC2 ht
 obtain ⟨HK, Bl⟩ := fbox w 26 #[.slice a0 f.nv c0, .slice a1 f.np c1, .slice a2 f.nb c2]
 obtain ⟨l0, l1, l2⟩ := Bl.out.c3
 simp at l0 l1 l2
 go_enter Tryz.func9, Tryz.ntmps9
 cases hS : fewB f with
 | false =>
  rw [hS] at C16 HT0
  clear C25 hS
  go_wp2_with (first | (go_at_call 16; refine (C16.out _ (HF.out.keep HK.out)).mono ?_; rintro e w3 ⟨rfl, k3⟩; clear l0 l1 l2; replace Bl := kept (Bl.out.keep k3 (by simp)); replace HK := kept (HK.out.and_then k3); obtain ⟨l0, l1, l2⟩ := Bl.out.c3; simp at l0 l1 l2; clear k3))
  go_ret
  exact ⟨ret_bool (by rw [HT0.out]; simp [*]), HK.out⟩
 | true =>
  have C25x := kept (C25.out hS)
  clear C25
  rw [hS] at C16 HT0
  clear hS
  generalize (shapedB f && typedB f) = T at *
  cases T
  ·go_wp2_with (first | (go_at_call 16; refine (C16.out _ (HF.out.keep HK.out)).mono ?_; rintro e w3 ⟨rfl, k3⟩; clear l0 l1 l2; replace Bl := kept (Bl.out.keep k3 (by simp)); replace HK := kept (HK.out.and_then k3); obtain ⟨l0, l1, l2⟩ := Bl.out.c3; simp at l0 l1 l2; clear k3) | (go_at_call 25; refine (C25x.out _ (HTB.out.keep HK.out) (HF.out.keep HK.out)).mono ?_; rintro e w3 ⟨rfl, k3⟩; clear l0 l1 l2; replace Bl := kept (Bl.out.keep k3 (by simp)); replace HK := kept (HK.out.and_then k3); obtain ⟨l0, l1, l2⟩ := Bl.out.c3; simp at l0 l1 l2; clear k3))
   go_ret
   exact ⟨ret_bool (by rw [HT0.out]; simp [*]), HK.out⟩
  ·go_wp2_with (first | (go_at_call 16; refine (C16.out _ (HF.out.keep HK.out)).mono ?_; rintro e w3 ⟨rfl, k3⟩; clear l0 l1 l2; replace Bl := kept (Bl.out.keep k3 (by simp)); replace HK := kept (HK.out.and_then k3); obtain ⟨l0, l1, l2⟩ := Bl.out.c3; simp at l0 l1 l2; clear k3) | (go_at_call 25; refine (C25x.out _ (HTB.out.keep HK.out) (HF.out.keep HK.out)).mono ?_; rintro e w3 ⟨rfl, k3⟩; clear l0 l1 l2; replace Bl := kept (Bl.out.keep k3 (by simp)); replace HK := kept (HK.out.and_then k3); obtain ⟨l0, l1, l2⟩ := Bl.out.c3; simp at l0 l1 l2; clear k3))
   go_ret
   exact ⟨ret_bool (by rw [HT0.out]; simp [*]), HK.out⟩
end Go.Proofs.YtjllbchfojonhaaGreatDoor
namespace Go.Proofs.YtjllbchfojonhaaGreatDoor
open Go.RowKit
set_option linter.unusedVariables false
set_option linter.unusedSimpArgs false
def inL (l : List Int) (x : Int) : Bool := l.contains x
theorem inL_iff {l : List Int} {x : Int} : inL l x = true ↔ x ∈ l := List.contains_iff_mem
def rawL : List Int := [5, 6, 12, 13, 14, 15]
theorem index_ops (v : Value) (l : List Int) (x : Int) (w : World) (hq : Row w 1 v (l.map intCells)) : Calls Tryz.prog 131 #[v, .int .i64 x] w fun e w' => (∃ z : Int, e = .returned (.int .i64 z) ∧ Hid (decide (0 ≤ z) = inL l x)) ∧ w = w' := by
 obtain ⟨a, cap, rfl, hl, hm, hc0⟩ := hq.open_
 obtain ⟨n, hn⟩ : ∃ n, l.length = n := ⟨_, rfl⟩
 have HC := kept hc0
 rw [hn] at hl ⊢
 have HN := kept hn
 have hnI : (n : Int) ≤ 9223372036854775807 := by unfold maxLen at hm; omega
 clear hq hc0 hn
 go_enter Tryz.func131, Tryz.ntmps131
 go_wp2
 go_loopw [5, 8] (fun _ s8 wr => ∃ kk : Nat, kk ≤ n ∧ s8 = .int .i64 kk ∧ w = wr ∧ Hid (∀ j, j < kk → ¬ x = l[j]!)) (fun _ s8 _ => n - (intOf s8).toNat)
 case atStart => exact ⟨0, Nat.zero_le _, rfl, rfl, fun j hj => absurd hj (Nat.not_lt_zero _)⟩
 case round =>
  obtain ⟨kk, hkk, rfl, hk, A⟩ := hrel
  subst hk
  by_cases hlt : kk < n
  ·have hltz : (kk : Int) < (n : Int) := by omega
   have hlt' : kk < l.length := by rw [HN.out]; exact hlt
   obtain ⟨b, off, rfl, hb, hc⟩ := HC.out kk hlt'
   clear HC
   have l0 := hc 0 _ rfl
   simp only [Nat.mul_one, Nat.add_zero] at l0
   have B := kept (bang_mem hlt')
   generalize hy : l[kk]! = y at l0 B
   have HY := kept hy
   clear hy hc
   by_cases hxy : x = y
   ·subst hxy
    go_wp2
    go_ret
    exact ⟨⟨_, rfl, kept (by rw [decide_eq_true (by omega)]; exact (inL_iff.2 B.out).symm)⟩, by first | rfl | trivial⟩
   ·have hxb : (x == y) = false := by simpa using hxy
    go_wp2
    go_roundw
    case rel => exact ⟨kk + 1, by omega, by go_num, by first | rfl | trivial, (show Hid _ from fun j hj => by rcases Nat.lt_succ_iff_lt_or_eq.1 hj with h | h; exact A.out j h; (rw [h, HY.out]; exact hxy))⟩
    case measure => simp [intOf]; omega
  ·have hltz : ¬ (kk : Int) < (n : Int) := by omega
   have : kk = n := by omega
   subst this
   go_wp2
   go_ret
   refine ⟨⟨_, rfl, (show Hid _ from ?_)⟩, by first | rfl | trivial⟩
   show decide _ = inL l x
   rw [decide_eq_false (by omega), Eq.comm, ← Bool.not_eq_true, inL_iff]
   intro hm
   obtain ⟨i, hi, he⟩ := List.mem_iff_getElem.1 hm
   exact A.out i (by have h9 := HN.out; omega) (by rw [getElem!_pos l i hi]; exact he.symm)
theorem contains_ops (v : Value) (l : List Int) (x : Int) (w : World) (hq : Row w 1 v (l.map intCells)) : Calls Tryz.prog 108 #[v, .int .i64 x] w fun e w' => e = .returned (.bool (inL l x)) ∧ w = w' := by
 have C := kept (index_ops v l x w hq)
 obtain ⟨a, cap, rfl, _, _, _⟩ := hq.open_
 generalize inL l x = R at *
 generalize l.length = n at *
 clear hq
 go_enter Tryz.func108, Tryz.ntmps108
 go_wp2_with (refine (C.out).mono ?_; rintro e w' ⟨⟨z, rfl, hz⟩, rfl⟩; have HZ := kept hz; clear hz)
 go_ret
 exact ⟨ret_bool (by rw [← HZ.out.out]), by first | rfl | trivial⟩
theorem row_six {w : World} {g : Nat} {t : TypeId} : Blk w g t #[.int .i64 5, .int .i64 6, .int .i64 12, .int .i64 13, .int .i64 14, .int .i64 15] → Row w 1 (.slice (some ⟨g, 0, none⟩) 6 6) (rawL.map intCells) := fun h => by
 refine ⟨_, 6, rfl, Nat.le_refl _, by simp [maxLen], .inr ⟨g, 0, rfl, h.lt, fun j e he i x hx => ?_⟩⟩
 have hj : j < 6 := by have := (List.getElem?_eq_some_iff.1 he).1; simpa [rawL] using this
 have he2 : e = [Value.int .i64 rawL[j]!] := by
  rw [List.getElem?_map, getElem?_pos_bang (l := rawL) (by simpa [rawL] using hj)] at he
  simpa [intCells] using he.symm
 subst he2
 have hi : i = 0 := by have := (List.getElem?_eq_some_iff.1 hx).1; simpa using this
 subst hi
 simp only [Nat.mul_one, Nat.zero_add, Nat.add_zero]
 rw [h.cell j]
 have : x = Value.int .i64 rawL[j]! := by simpa using hx.symm
 rw [this]
 rcases (by omega : j = 0 ∨ j = 1 ∨ j = 2 ∨ j = 3 ∨ j = 4 ∨ j = 5) with rfl | rfl | rfl | rfl | rfl | rfl <;> rfl
theorem raw_any (op : Int) (w : World) : Calls Tryz.prog 73 #[.int .i64 op] w fun e w' => e = .returned (.bool (inL rawL op)) ∧ Keeps w w' [] := by
 have k := kept ((Keeps.refl w []).alloc (.cells #[.int .i64 5, .int .i64 6, .int .i64 12, .int .i64 13, .int .i64 14, .int .i64 15] 41))
 have C := kept (contains_ops _ rawL op _ (row_six (Blk.new w 41 _)))
 go_enter Tryz.func73, Tryz.ntmps73
 go_wp2_with (go_at_call 108; refine (C.out).mono ?_; rintro e w' ⟨rfl, rfl⟩)
 go_ret
 exact ⟨rfl, k.out⟩
def needC (k : Nat) : Int × Nat × Nat := if k = 5 ∨ k = 6 then (20, 1, 1) else if k = 13 ∨ k = 14 then (18, 0, 2) else if k = 12 then (19, 0, 1) else if k = 15 then (24, 0, 1) else (0, 0, 0)
def needA (x : InstM) (k : Nat) : List Int := (x.args.2.drop (needC k).2.1).take (needC k).2.2
def NeedRet (x : InstM) (k : Nat) (w' : World) (v : Value) : Prop := IntsAt w' (v, needA x k)
theorem needC_no {k : Nat} (h : inL rawL (k : Int) = false) : needC k = (0, 0, 0) := by
 have hn : ¬ (k : Int) ∈ rawL := fun hm => by rw [inL_iff.2 hm] at h; cases h
 simp only [rawL, List.mem_cons, List.not_mem_nil, or_false, not_or] at hn
 unfold needC
 rw [if_neg (by omega), if_neg (by omega), if_neg (by omega), if_neg (by omega)]
theorem raw_cases {k : Nat} (hk : k < 27) (h : inL rawL (k : Int) = true) : k = 5 ∨ k = 6 ∨ k = 12 ∨ k = 13 ∨ k = 14 ∨ k = 15 := by
 have hm := inL_iff.1 h
 simp only [rawL, List.mem_cons, List.not_mem_nil, or_false] at hm
 omega
theorem need_row {w : World} {ab ao n c : Nat} {l : List Int} (h : Row w 1 (.slice (some ⟨ab, ao, none⟩) n c) (l.map intCells)) (lo m : Nat) (hk : lo + m ≤ n) (hc : n ≤ c) : Row w 1 (.slice (some ⟨ab, ao + lo, none⟩) m (c - lo)) (((l.drop lo).take m).map intCells) := by
 have h9 := h.part lo m (c - lo) hk (by omega) (by obtain ⟨a, cap, e, h1, h2, _⟩ := h; simp only [Value.slice.injEq] at e; omega)
 rw [Option.map_some, add_plain, Nat.mul_one] at h9
 rw [← List.map_drop, ← List.map_take] at h9
 exact h9
set_option maxRecDepth 100000 in
set_option maxHeartbeats 200000000 in
theorem needs45_any (x : InstM) (k : Nat) (w : World) (hx : InstAt w x) (hk : k < 27) (ho : x.op = k) (hl : x.args.2.length = (ktakes k).size) : Calls Tryz.prog 45 #[.agg #[.int .i64 x.op, .int .i64 x.dst, x.args.1, .int .i64 x.num]] w fun e w' => (∃ v, e = .returned (.tuple #[.int .i64 (needC k).1, v, .bool (inL rawL (k : Int))]) ∧ NeedRet x k w' v) ∧ Keeps w w' [] := by
 obtain ⟨xa, xc, xe, hxl, hxm, hxc⟩ := Row.open_ (M := Int) (cells := intCells) (show Row w 1 x.args.1 (x.args.2.map intCells) from hx)
 have HX := kept (show Row w 1 x.args.1 (x.args.2.map intCells) from hx)
 rw [xe] at HX
 have CR := kept (fun W => raw_any (k : Int) W)
 have CTk := kept (fun W => takes_len k hk W)
 have HNA := kept (show ∀ W v, IntsAt W (v, needA x k) → NeedRet x k W v from fun _ _ h => h)
 have HND := kept (show needA x k = (x.args.2.drop (needC k).2.1).take (needC k).2.2 from rfl)
 rw [xe, ho]
 obtain ⟨al, hal⟩ : ∃ al, x.args.2 = al := ⟨_, rfl⟩
 rw [hal] at hl hxl hxc HX HND ⊢
 have HXM := kept hxm
 have htB : (ktakes k).size ≤ 100 := (takes_small k hk).1
 generalize hts : (ktakes k).size = xn at *
 rw [hl] at hxl hxc HX ⊢
 have HTS := kept hts
 have HAL := kept hl
 clear hts hl hx xe ho hal
 generalize x.dst = xd at *
 generalize x.num = xm at *
 obtain ⟨HK, Bl⟩ := fbox w 43 #[.int .i64 (k : Nat), .int .i64 xd, .slice xa xn xc, .int .i64 xm]
 obtain ⟨l0, l1, l2, l3⟩ := Bl.out.c4
 simp at l0 l1 l2 l3
 go_enter Tryz.func45, Tryz.ntmps45
 go_upto_region 1 with (fail)
 clear l0 l1 l2 l3
 generalize (w.alloc (.cells #[.int .i64 (k : Nat), .int .i64 xd, .slice xa xn xc, .int .i64 xm] 43)) = W0 at *
 have Bl_W0 := Bl
 have TW0 := HK
 clear HK
 have HK := kept (Keeps.refl W0 [])
 obtain ⟨l0, l1, l2, l3⟩ := Bl.out.c4
 simp at l0 l1 l2 l3
 cases hrw : inL rawL (k : Int) with
 | false =>
  rw [hrw] at CR
  have HRW := kept hrw
  clear hrw CTk
  refine wp_region_held_drew (S := (fun w' => w'.cell? ⟨w.heap.size, 0, none⟩ = some (.int .i64 (k : Nat)) ∧ w'.cell? ⟨w.heap.size, 1, none⟩ = some (.int .i64 xd) ∧ w'.cell? ⟨w.heap.size, 2, none⟩ = some (.slice xa xn xc) ∧ w'.cell? ⟨w.heap.size, 3, none⟩ = some (.int .i64 xm))) (by kernel_rfl) ?ahSs (fun hHeld => ?_)
  case ahSs => exact ⟨l0, l1, l2, l3⟩
  clear l0 l1 l2 l3
  replace Bl := kept (Bl.out.keep ((Keeps.refl _ []).drew) (by simp))
  replace HK := kept (HK.out.drew)
  generalize World.drew _ = X0 at *
  obtain ⟨l0, l1, l2, l3⟩ := Bl.out.c4
  simp at l0 l1 l2 l3
  refine tl 0 ⟨some 7, _, _, _, _, _⟩ rfl hHeld ?_
  refine tl 1 ⟨some 8, _, _, _, _, _⟩ rfl hHeld ?_
  refine t1 2 fun K hK => ?_
  go_simp
  (with_reducible refine (CR.out _).mono ?_)
  rintro e wx ⟨rfl, k3⟩
  show K _ _
  clear hHeld
  clear l0 l1 l2 l3
  replace Bl := kept (Bl.out.keep k3 (by simp))
  replace HK := kept (HK.out.and_then k3)
  obtain ⟨l0, l1, l2, l3⟩ := Bl.out.c4
  simp at l0 l1 l2 l3
  clear k3
  refine hK.out _ _ ?ahS2 (fun hHeld => ?_)
  case ahS2 => exact ⟨l0, l1, l2, l3⟩
  clear hK K
  try simp only [Act.put, sA, sB, sC]
  refine tl 3 ⟨some 10, _, _, _, _, _⟩ rfl hHeld ?_
  refine tl 4 ⟨some 11, _, _, _, _, _⟩ rfl hHeld ?_
  refine tu 5 ⟨some 12, .fieldAddr 43 (.tmp 1) 2, _, _, _, _⟩ rfl hHeld ?_
  refine tu 6 ⟨some 13, .load 23 (.tmp 12), _, _, _, _⟩ rfl hHeld ?_
  refine tu 7 ⟨some 14, .call ⟨.builtin .len, #[.tmp 13], #[23]⟩, _, _, _, _⟩ rfl hHeld ?_
  refine tu 8 ⟨some 15, .fieldAddr 43 (.tmp 1) 0, _, _, _, _⟩ rfl hHeld ?_
  refine tu 9 ⟨some 16, .load 41 (.tmp 15), _, _, _, _⟩ rfl hHeld ?_
  refine tu 10 ⟨some 17, .call ⟨.value (.func 74), #[.tmp 16], #[41]⟩, _, _, _, _⟩ rfl hHeld ?_
  refine tu 11 ⟨some 18, .call ⟨.builtin .len, #[.tmp 17], #[133]⟩, _, _, _, _⟩ rfl hHeld ?_
  refine tu 12 ⟨some 19, .binOp BinOp.lss 3 (.tmp 14) (.tmp 18) 3, _, _, _, _⟩ rfl hHeld ?_
  refine tl 13 ⟨some 20, _, _, _, _, _⟩ rfl hHeld ?_
  refine wpAnyH_done (by kernel_rfl) ?_ _
  clear hHeld
  go_wp2
  go_ret3
  exact ⟨⟨.slice none 0 0, by rw [needC_no HRW.out, HRW.out]; rfl, HNA.out _ _ (by rw [HND.out, needC_no HRW.out]; exact row_none)⟩, (TW0.out.and_then HK.out)⟩
 | true =>
  rw [hrw] at CR
  have HRW := kept hrw
  clear hrw
  refine wp_region_held_drew (S := (fun w' => w'.cell? ⟨w.heap.size, 0, none⟩ = some (.int .i64 (k : Nat)) ∧ w'.cell? ⟨w.heap.size, 1, none⟩ = some (.int .i64 xd) ∧ w'.cell? ⟨w.heap.size, 2, none⟩ = some (.slice xa xn xc) ∧ w'.cell? ⟨w.heap.size, 3, none⟩ = some (.int .i64 xm))) (by kernel_rfl) ?bhSs (fun hHeld => ?_)
  case bhSs => exact ⟨l0, l1, l2, l3⟩
  clear l0 l1 l2 l3
  replace Bl := kept (Bl.out.keep ((Keeps.refl _ []).drew) (by simp))
  replace HK := kept (HK.out.drew)
  generalize World.drew _ = X0 at *
  obtain ⟨l0, l1, l2, l3⟩ := Bl.out.c4
  simp at l0 l1 l2 l3
  refine tl 0 ⟨some 7, _, _, _, _, _⟩ rfl hHeld ?_
  refine tl 1 ⟨some 8, _, _, _, _, _⟩ rfl hHeld ?_
  refine t1 2 fun K hK => ?_
  go_simp
  (with_reducible refine (CR.out _).mono ?_)
  rintro e wx ⟨rfl, k3⟩
  show K _ _
  clear hHeld
  clear l0 l1 l2 l3
  replace Bl := kept (Bl.out.keep k3 (by simp))
  replace HK := kept (HK.out.and_then k3)
  obtain ⟨l0, l1, l2, l3⟩ := Bl.out.c4
  simp at l0 l1 l2 l3
  clear k3
  refine hK.out _ _ ?bhS2 (fun hHeld => ?_)
  case bhS2 => exact ⟨l0, l1, l2, l3⟩
  clear hK K
  try simp only [Act.put, sA, sB, sC]
  refine tl 3 ⟨some 10, _, _, _, _, _⟩ rfl hHeld ?_
  refine tl 4 ⟨some 11, _, _, _, _, _⟩ rfl hHeld ?_
  refine tl 5 ⟨some 12, _, _, _, _, _⟩ rfl hHeld ?_
  refine tl 6 ⟨some 13, _, _, _, _, _⟩ rfl hHeld ?_
  refine tl 7 ⟨some 14, _, _, _, _, _⟩ rfl hHeld ?_
  refine tl 8 ⟨some 15, _, _, _, _, _⟩ rfl hHeld ?_
  refine tl 9 ⟨some 16, _, _, _, _, _⟩ rfl hHeld ?_
  refine t1 10 fun K hK => ?_
  go_simp
  (with_reducible refine (CTk.out _).mono ?_)
  rintro e wx ⟨tva, tvc, rfl, k3⟩
  show K _ _
  clear hHeld
  clear l0 l1 l2 l3
  replace Bl := kept (Bl.out.keep k3 (by simp))
  replace HK := kept (HK.out.and_then k3)
  obtain ⟨l0, l1, l2, l3⟩ := Bl.out.c4
  simp at l0 l1 l2 l3
  clear k3
  refine hK.out _ _ ?bhS10 (fun hHeld => ?_)
  case bhS10 => exact ⟨l0, l1, l2, l3⟩
  clear hK K
  try simp only [Act.put, sA, sB, sC]
  refine tl 11 ⟨some 18, _, _, _, _, _⟩ rfl hHeld ?_
  refine tl 12 ⟨some 19, _, _, _, _, _⟩ rfl hHeld ?_
  refine tl 13 ⟨some 20, _, _, _, _, _⟩ rfl hHeld ?_
  refine wpAnyH_done (by kernel_rfl) ?_ _
  clear hHeld
  have hlz : ¬ (xn : Int) < (xn : Int) := by omega
  have HRC := kept (raw_cases hk HRW.out)
  obtain ⟨ab, ao, rfl, -, -⟩ := hxc 0 (by have h9 := HRC.out; have h8 := HTS.out; rcases h9 with h | h | h | h | h | h <;> (subst h; rw [← h8]; decide))
  clear hxc CR CTk HRW
  rcases HRC.out with h | h | h | h | h | h
  ·subst h
   have hs : (ktakes 5).size = 2 := by decide
   have hxn2 : xn = 2 := by have h8 := HTS.out; omega
   subst hxn2
   have hb1 : (2 : Int) ≤ (xc : Int) := by omega
   have hb2 : ¬ xc = 1 := by omega
   go_wp2_with (first | (go_at_call 36; refine (clone_ints _ ((al.drop 1).take 1) _ (need_row (Row.keep HX.out (TW0.out.and_then HK.out)) 1 1 (by omega) (by omega)) (by rw [List.length_take]; omega)).mono ?_; rintro e w9 ⟨⟨nv, rfl, hnv⟩, k9⟩; have HNV := kept (ints_of_own hnv); have HK9 := kept k9; clear hnv k9))
   go_ret3
   exact ⟨⟨_, rfl, HNA.out _ _ (by rw [HND.out]; exact HNV.out)⟩, (TW0.out.and_then HK.out).and_then HK9.out⟩
  ·subst h
   have hs : (ktakes 6).size = 2 := by decide
   have hxn2 : xn = 2 := by have h8 := HTS.out; omega
   subst hxn2
   have hb1 : (2 : Int) ≤ (xc : Int) := by omega
   have hb2 : ¬ xc = 1 := by omega
   go_wp2_with (first | (go_at_call 36; refine (clone_ints _ ((al.drop 1).take 1) _ (need_row (Row.keep HX.out (TW0.out.and_then HK.out)) 1 1 (by omega) (by omega)) (by rw [List.length_take]; omega)).mono ?_; rintro e w9 ⟨⟨nv, rfl, hnv⟩, k9⟩; have HNV := kept (ints_of_own hnv); have HK9 := kept k9; clear hnv k9))
   go_ret3
   exact ⟨⟨_, rfl, HNA.out _ _ (by rw [HND.out]; exact HNV.out)⟩, (TW0.out.and_then HK.out).and_then HK9.out⟩
  ·subst h
   have hs : (ktakes 12).size = 1 := by decide
   have hxn2 : xn = 1 := by have h8 := HTS.out; omega
   subst hxn2
   have hb1 : (1 : Int) ≤ (xc : Int) := by omega
   have hb2 : ¬ xc = 0 := by omega
   go_wp2_with (first | (go_at_call 36; refine (clone_ints _ ((al.drop 0).take 1) _ (need_row (Row.keep HX.out (TW0.out.and_then HK.out)) 0 1 (by omega) (by omega)) (by rw [List.length_take]; omega)).mono ?_; rintro e w9 ⟨⟨nv, rfl, hnv⟩, k9⟩; have HNV := kept (ints_of_own hnv); have HK9 := kept k9; clear hnv k9))
   go_ret3
   exact ⟨⟨_, rfl, HNA.out _ _ (by rw [HND.out]; exact HNV.out)⟩, (TW0.out.and_then HK.out).and_then HK9.out⟩
  ·subst h
   have hs : (ktakes 13).size = 2 := by decide
   have hxn2 : xn = 2 := by have h8 := HTS.out; omega
   subst hxn2
   have hb1 : (2 : Int) ≤ (xc : Int) := by omega
   have hb2 : ¬ xc = 0 := by omega
   go_wp2_with (first | (go_at_call 36; refine (clone_ints _ ((al.drop 0).take 2) _ (need_row (Row.keep HX.out (TW0.out.and_then HK.out)) 0 2 (by omega) (by omega)) (by rw [List.length_take]; omega)).mono ?_; rintro e w9 ⟨⟨nv, rfl, hnv⟩, k9⟩; have HNV := kept (ints_of_own hnv); have HK9 := kept k9; clear hnv k9))
   go_ret3
   exact ⟨⟨_, rfl, HNA.out _ _ (by rw [HND.out]; exact HNV.out)⟩, (TW0.out.and_then HK.out).and_then HK9.out⟩
  ·subst h
   have hs : (ktakes 14).size = 3 := by decide
   have hxn2 : xn = 3 := by have h8 := HTS.out; omega
   subst hxn2
   have hb1 : (2 : Int) ≤ (xc : Int) := by omega
   have hb2 : ¬ xc = 0 := by omega
   go_wp2_with (first | (go_at_call 36; refine (clone_ints _ ((al.drop 0).take 2) _ (need_row (Row.keep HX.out (TW0.out.and_then HK.out)) 0 2 (by omega) (by omega)) (by rw [List.length_take]; omega)).mono ?_; rintro e w9 ⟨⟨nv, rfl, hnv⟩, k9⟩; have HNV := kept (ints_of_own hnv); have HK9 := kept k9; clear hnv k9))
   go_ret3
   exact ⟨⟨_, rfl, HNA.out _ _ (by rw [HND.out]; exact HNV.out)⟩, (TW0.out.and_then HK.out).and_then HK9.out⟩
  ·subst h
   have hs : (ktakes 15).size = 1 := by decide
   have hxn2 : xn = 1 := by have h8 := HTS.out; omega
   subst hxn2
   have hb1 : (1 : Int) ≤ (xc : Int) := by omega
   have hb2 : ¬ xc = 0 := by omega
   go_wp2_with (first | (go_at_call 36; refine (clone_ints _ ((al.drop 0).take 1) _ (need_row (Row.keep HX.out (TW0.out.and_then HK.out)) 0 1 (by omega) (by omega)) (by rw [List.length_take]; omega)).mono ?_; rintro e w9 ⟨⟨nv, rfl, hnv⟩, k9⟩; have HNV := kept (ints_of_own hnv); have HK9 := kept k9; clear hnv k9))
   go_ret3
   exact ⟨⟨_, rfl, HNA.out _ _ (by rw [HND.out]; exact HNV.out)⟩, (TW0.out.and_then HK.out).and_then HK9.out⟩
end Go.Proofs.YtjllbchfojonhaaGreatDoor
namespace Go.Proofs.YtjllbchfojonhaaGreatDoor
open Go.RowKit Go.Shelf Go.Lib
set_option linter.unusedVariables false
set_option linter.unusedSimpArgs false
/-- the check that an instruction wants is good there, or it is not raw, or not reached -/
def GuardP (f : FuncM) (b pl : Nat) : Prop := inL rawL f.blocks.2[b]!.insts.2[pl]!.op = false ∨ ¬ RWay (succF f) b ∨ GoodP f (needC f.blocks.2[b]!.insts.2[pl]!.op.toNat).1 (needA f.blocks.2[b]!.insts.2[pl]! f.blocks.2[b]!.insts.2[pl]!.op.toNat) b pl
open Classical in
noncomputable def guardD (f : FuncM) (b pl : Nat) : Bool := decide (GuardP f b pl)
open Classical in
theorem guardD_yes {f : FuncM} {b pl : Nat} (h : GuardP f b pl) : guardD f b pl = true := decide_eq_true h
open Classical in
theorem guardD_no {f : FuncM} {b pl : Nat} (h : ¬ GuardP f b pl) : guardD f b pl = false := decide_eq_false h
theorem fold_false {op : Int} {l : List Int} : ∀ xs : List InstM, (∀ x ∈ xs, isB x op l = false) → xs.foldl (instG op l) false = false
 | [], _ => rfl
 | x :: xs, h => by
  rw [List.foldl_cons]
  have : instG op l false x = false := by
   unfold instG; split
   ·rfl
   ·rw [h x (List.mem_cons_self ..)]; rfl
  rw [this]; exact fold_false xs fun y hy => h y (List.mem_cons_of_mem _ hy)
theorem phis_false {l : List Int} : ∀ ps : List PhiM, ps.foldl (phiG l) false = false
 | [] => rfl
 | p :: ps => by
  rw [List.foldl_cons]
  have : phiG l false p = false := by unfold phiG; split <;> rfl
  rw [this]; exact phis_false ps
theorem thr_none {f : FuncM} {op : Int} {l : List Int} (h : ∀ x ∈ instsF f, isB x op l = false) {b : Nat} (hb : b < f.nb) (pl : Nat) : throughM f.blocks.2[b]! op l pl false = false := by
 unfold throughM
 rw [phis_false]
 exact fold_false _ fun x hx => h x (List.mem_flatMap.2 ⟨_, bang_mem hb, List.mem_of_mem_take hx⟩)
theorem bad_none {f : FuncM} (hE : EndsOK f) {op : Int} {l : List Int} (h : ∀ x ∈ instsF f, isB x op l = false) {b pl : Nat} (hr : RWay (succF f) b) : ¬ GoodP f op l b pl := fun hg => by
 have key : ∀ a, RWay (succF f) a → GWay (succF f) (tF f op l) a false := fun a ha => by
  induction ha with
  | start => exact .start
  | @step a c ha hs ih =>
   have h2 := GWay.step ih hs
   have h3 : tF f op l a false = false := thr_none h (rway_nb hE ha) _
   rwa [h3] at h2
 have h1 := hg false (key b hr)
 rw [thr_none h (rway_nb hE hr)] at h1
 cases h1
theorem no_same {f : FuncM} {c : CheckM} (hc : chkB c.op = true) (h : (collectF f).any (sameB c) = false) : ∀ x ∈ instsF f, isB x c.op c.args.2 = false := fun x hx => by
 rw [Bool.eq_false_iff]
 intro e
 obtain ⟨h1, h2⟩ := isB_iff.1 e
 have h3 := collect_mem _ x hx (by rw [h1]; exact hc)
 obtain ⟨d, hd, hs⟩ := List.any_eq_true.1 h3
 obtain ⟨h4, h5⟩ := sameB_iff.1 hs
 have : (collectF f).any (sameB c) = true := List.any_eq_true.2 ⟨d, hd, sameB_iff.2 ⟨h1.symm.trans h4, h2.symm.trans h5⟩⟩
 rw [h] at this; cases this
theorem idx_none {cs : List CheckM} {c : CheckM} (h : cs.any (sameB c) = false) : Lib.idxBy (fun _ y => sameB c y) cs default = -1 := by
 have h9 := Lib.idxBy_miss (fun _ y => sameB c y) cs cs.length default (fun j hj => by
  rw [List.any_eq_false] at h
  have := h cs[j]! (bang_mem hj)
  simpa using this)
 rwa [List.take_length] at h9
open Classical in
theorem good_same {f : FuncM} {b pl : Nat} {c d : CheckM} (h : sameB c d = true) : goodD f b pl d = true ↔ GoodP f c.op c.args.2 b pl := by
 obtain ⟨h1, h2⟩ := sameB_iff.1 h
 unfold goodD
 rw [decide_eq_true_eq, ← h1, ← h2]
theorem need_chk {k : Nat} (hk : k < 27) (h : inL rawL (k : Int) = true) : chkB (needC k).1 = true := by
 rcases raw_cases hk h with h | h | h | h | h | h <;> (subst h; decide)
set_option maxRecDepth 100000 in
set_option maxHeartbeats 200000000 in
theorem guarded40_any (f : FuncM) (th : List Bool) (I : List (List Bool)) (lv tv iv : Value) (vs : List Value) (L b pl : Nat) (w : World) (hF : FieldAt w L f (collectF f) th I lv tv iv vs) (hO : FieldOK f (collectF f) th I) (hR : ReachOK f th) (hG : GoodI f I) (hE : EndsOK f) (hb : b < f.nb) (hpl : pl < f.blocks.2[b]!.insts.2.length)
  (hk : 0 ≤ f.blocks.2[b]!.insts.2[pl]!.op ∧ f.blocks.2[b]!.insts.2[pl]!.op < 27) (hl : f.blocks.2[b]!.insts.2[pl]!.args.2.length = (ktakes f.blocks.2[b]!.insts.2[pl]!.op.toNat).size) :
  Calls Tryz.prog 40 #[.pointer (some ⟨L, 0, none⟩), .int .i64 (b : Nat), .int .i64 (pl : Nat)] w fun e w' => e = .returned (.bool (guardD f b pl)) ∧ Keeps w w' [] := by
 have HFA := kept hF
 have HFO := kept hO
 have HTH := kept hR
 have HE := kept hE
 have hnb := hO.nb
 have GY := kept (fun h => guardD_yes (f := f) (b := b) (pl := pl) h)
 have GN := kept (fun h => guardD_no (f := f) (b := b) (pl := pl) h)
 have GP : Hid (GuardP f b pl ↔ (inL rawL f.blocks.2[b]!.insts.2[pl]!.op = false ∨ ¬ RWay (succF f) b ∨ GoodP f (needC f.blocks.2[b]!.insts.2[pl]!.op.toNat).1 (needA f.blocks.2[b]!.insts.2[pl]! f.blocks.2[b]!.insts.2[pl]!.op.toNat) b pl)) := kept Iff.rfl
 generalize guardD f b pl = R at *
 obtain ⟨a2, c2, e2, -, -, hc2⟩ := hF.fn.blocks.open_
 have hyb := hF.fn.block _ (bang_mem (l := f.blocks.2) (k := b) hb)
 obtain ⟨qa, qc, qe, -, -, hqc⟩ := hyb.insts.open_
 obtain ⟨pa, pc, pe, -, -, -⟩ := hyb.phis.open_
 have hxa := hyb.inst _ (bang_mem (l := f.blocks.2[b]!.insts.2) (k := pl) hpl)
 have HRG := kept (fun i (hi : i < (collectF f).length) (hr : RWay (succF f) b) => thr_good hG (pl := pl) hi hr)
 have CTh := kept (fun (W : World) (hW : Keeps w W []) => through_any (collectF f) f.blocks.2[b]! pl L lv tv iv f.vars.1 f.params.1 f.blocks.1 vs[b]! I[b]! W (hF.box.keep hW (by simp)) (hF.keep hW).row (hF.keep hW).la (bits_of_own ((hF.keep hW).ir b (by rw [hO.li]; exact hb))) (hO.lw b hb) hO.nc ((hF.keep hW).fn.block _ (bang_mem hb)) (Nat.le_of_lt hpl) (hO.bd b hb) (hO.ok b hb))
 rw [show (f.blocks.2[b]!).cells.toArray = #[.string (f.blocks.2[b]!).name, .slice pa (f.blocks.2[b]!).phis.2.length pc, .slice qa (f.blocks.2[b]!).insts.2.length qc, .int .i64 (f.blocks.2[b]!).kind, .int .i64 (f.blocks.2[b]!).var, .int .i64 (f.blocks.2[b]!).to0, .int .i64 (f.blocks.2[b]!).to1] by unfold BlockM.cells; rw [pe, qe]] at CTh
 have CNu := kept (fun (c : CheckM) (W : World) (hW : Keeps w W []) (hc : IntsAt W c.args) => number_any c L lv tv iv f.vars.1 f.params.1 f.blocks.1 (collectF f) W (hF.box.keep hW (by simp)) hc (hF.keep hW).row (hF.keep hW).la)
 have hok := hO.ok b hb
 have HOK := kept hok
 clear hok
 obtain ⟨bb, off, e8, hbb, hbc⟩ := hc2 b hb
 have HBC := kept hbc
 obtain ⟨ib, io, e7, hib, hic⟩ := hqc pl hpl
 have HIC := kept hic
 subst e8
 subst e7
 obtain ⟨x, hx⟩ : ∃ x, f.blocks.2[b]!.insts.2[pl]! = x := ⟨_, rfl⟩
 rw [hx] at hk hl hxa HIC GP
 obtain ⟨k, hkk⟩ : ∃ k : Nat, x.op = k := ⟨x.op.toNat, by omega⟩
 rw [show x.op.toNat = k by rw [hkk, Int.toNat_natCast]] at hl GP
 rw [hkk] at GP
 have hk27 : k < 27 := by omega
 obtain ⟨xa, xc, xe, -, -, -⟩ := Row.open_ (M := Int) (cells := intCells) (show Row w 1 x.args.1 (x.args.2.map intCells) from hxa)
 have CNe := kept (fun (W : World) (hW : Keeps w W []) => needs45_any x k W (show InstAt W x from Row.keep (show Row w 1 x.args.1 (x.args.2.map intCells) from hxa) hW) hk27 hkk hl)
 rw [xe, hkk] at CNe
 have HHB := kept (show f.blocks.1 = .slice (some ⟨bb, off, none⟩) f.nb c2 from e2)
 have HL2 : Hid (w.cell? ⟨L, 2, none⟩ = some (.slice (some ⟨bb, off, none⟩) f.nb c2)) := kept (by have h9 := hF.box.cell 2; rw [← HHB.out]; simpa using h9)
 have HBC2 : Hid (w.cell? ⟨bb, off + b * 7 + 2, none⟩ = some (.slice (some ⟨ib, io, none⟩) (f.blocks.2[b]!).insts.2.length qc)) := kept (HBC.out 2 _ (by unfold BlockM.cells; rw [qe]; rfl))
 have HIC2 : Hid (∀ (i : Nat) (z : Value), [.int .i64 (k : Nat), .int .i64 x.dst, .slice xa x.args.2.length xc, .int .i64 x.num][i]? = some z → w.cell? ⟨ib, io + pl * 4 + i, none⟩ = some z) := kept (fun i z hz => HIC.out i z (by unfold InstM.cells; rw [hkk, xe]; exact hz))
 obtain ⟨tg, tc, e9, -, -, htc⟩ := own_at hF.t (by rw [hO.lt]; omega)
 rw [hO.lt] at e9 htc
 have HT0 := kept ((htc b hb).trans (bitV_at (by rw [hO.lt]; exact hb)))
 obtain ⟨ia, ic, e7, -, -, hii⟩ := own_at hF.i (by rw [hO.li]; omega)
 rw [hO.li] at e7 hii
 have HII := kept ((hii b hb).trans (getElem?_pos_bang (by have h9 := hF.i.1; rw [hO.li] at h9; omega)))
 subst e9
 subst e7
 have HL4 : Hid (w.cell? ⟨L, 4, none⟩ = some (.slice (some ⟨tg, 0, none⟩) f.nb tc)) := kept (by have h9 := hF.box.cell 4; simpa using h9)
 have HL5 : Hid (w.cell? ⟨L, 5, none⟩ = some (.slice (some ⟨ia, 0, none⟩) f.nb ic)) := kept (by have h9 := hF.box.cell 5; simpa using h9)
 have hilB := (hO.bd b hb).2
 have HXX := kept hx
 clear hx htc hii hxa hyb hqc hc2 hbc hic xe HIC hF hO hR hG hE hkk hk hl e2 HFA
 have hbz : (b : Int) < (f.nb : Int) := by omega
 have hplz : (pl : Int) < ((f.blocks.2[b]!).insts.2.length : Int) := by omega
 have HB7 : Hid (∀ (i : Nat) (z : Value), [.string (f.blocks.2[b]!).name, .slice pa (f.blocks.2[b]!).phis.2.length pc, .slice (some ⟨ib, io, none⟩) (f.blocks.2[b]!).insts.2.length qc, .int .i64 (f.blocks.2[b]!).kind, .int .i64 (f.blocks.2[b]!).var, .int .i64 (f.blocks.2[b]!).to0, .int .i64 (f.blocks.2[b]!).to1][i]? = some z → w.cell? ⟨bb, off + b * 7 + i, none⟩ = some z) := kept (fun i z hz => HBC.out i z (by unfold BlockM.cells; rw [pe, qe]; exact hz))
 clear HBC pe qe
 obtain ⟨yn, hyn⟩ : ∃ z, (f.blocks.2[b]!).name = z := ⟨_, rfl⟩
 obtain ⟨pn, hpn⟩ : ∃ z, (f.blocks.2[b]!).phis.2.length = z := ⟨_, rfl⟩
 obtain ⟨qn, hqn⟩ : ∃ z, (f.blocks.2[b]!).insts.2.length = z := ⟨_, rfl⟩
 obtain ⟨yk, hyk⟩ : ∃ z, (f.blocks.2[b]!).kind = z := ⟨_, rfl⟩
 obtain ⟨yv, hyv⟩ : ∃ z, (f.blocks.2[b]!).var = z := ⟨_, rfl⟩
 obtain ⟨y0, hy0⟩ : ∃ z, (f.blocks.2[b]!).to0 = z := ⟨_, rfl⟩
 obtain ⟨y1, hy1⟩ : ∃ z, (f.blocks.2[b]!).to1 = z := ⟨_, rfl⟩
 simp only [hyn, hpn, hqn, hyk, hyv, hy0, hy1] at CTh HB7 HBC2
 rw [hqn] at hplz hilB hpl
 clear hyn hpn hqn hyk hyv hy0 hy1
 generalize x.args.2.length = xn at *
 generalize x.dst = xd at *
 generalize x.num = xm at *
 have f2 := HL2.out
 have b2 := HBC2.out
 have x0 := HIC2.out 0 _ rfl
 have x1 := HIC2.out 1 _ rfl
 have x2 := HIC2.out 2 _ rfl
 have x3 := HIC2.out 3 _ rfl
 simp only [Nat.add_zero] at x0
 have f4 := HL4.out
 have t0 := HT0.out
 have HK := kept (Keeps.refl w [])
 go_enter Tryz.func40, Tryz.ntmps40
 cases hrw : inL rawL (k : Int) with
 | false =>
  rw [hrw] at CNe
  have HRW := kept hrw
  clear hrw
  go_wp2_with (first | (go_at_call 45; go_must (refine (CNe.out _ (Keeps.refl _ _)).mono ?_); rintro e w3 ⟨⟨nv, rfl, hnr⟩, k3⟩; have HNR := kept hnr; replace HK := kept k3; replace f4 := k3.cellOf f4; replace t0 := k3.cellOf t0; clear hnr k3 f2 b2 x0 x1 x2 x3))
  go_ret
  exact ⟨ret_bool (GY.out (GP.out.2 (.inl HRW.out))).symm, HK.out⟩
 | true =>
  rw [hrw] at CNe
  have HRW := kept hrw
  clear hrw
  have HTP := kept (show th[b]! = th[b]! from rfl)
  generalize htp : th[b]! = tp at t0
  replace HTP := kept htp
  clear htp
  cases tp
  ·go_wp2_with (first | (go_at_call 45; go_must (refine (CNe.out _ (Keeps.refl _ _)).mono ?_); rintro e w3 ⟨⟨nv, rfl, hnr⟩, k3⟩; have HNR := kept hnr; replace HK := kept k3; replace f4 := k3.cellOf f4; replace t0 := k3.cellOf t0; clear hnr k3 f2 b2 x0 x1 x2 x3))
   go_ret
   exact ⟨ret_bool (GY.out (GP.out.2 (.inr (.inl fun hr => by have h9 := (HTH.out.mem b hb).2 hr; rw [HTP.out] at h9; cases h9)))).symm, HK.out⟩
  ·have HRR := kept ((HTH.out.mem b hb).1 HTP.out)
   go_upto_region 4 with (first | (go_at_call 45; go_must (refine (CNe.out _ (Keeps.refl _ _)).mono ?_); rintro e w3 ⟨⟨nv, rfl, hnr⟩, k3⟩; have HNR := kept hnr; replace HK := kept k3; replace f4 := k3.cellOf f4; replace t0 := k3.cellOf t0; clear hnr k3 f2 b2 x0 x1 x2 x3))
   clear f4 t0 CNe
   have hnvi : IntsAt w3 (nv, needA x k) := HNR.out
   obtain ⟨na, nc2, hne, -, -, -⟩ := Row.open_ (M := Int) (cells := intCells) hnvi
   have HNI := kept hnvi
   dsimp only at hne
   subst hne
   clear hnvi HNR
   obtain ⟨code, hcode⟩ : ∃ z, (needC k).1 = z := ⟨_, rfl⟩
   rw [hcode] at GP ⊢
   have HCC := kept (show chkB code = true by rw [← hcode]; exact need_chk hk27 HRW.out)
   clear hcode
   obtain ⟨na2, hna2⟩ : ∃ z, needA x k = z := ⟨_, rfl⟩
   rw [hna2] at GP HNI ⊢
   clear hna2
   have CNx := kept (fun (W : World) (hW : Keeps w3 W []) => CNu.out ⟨code, (.slice na na2.length nc2, na2)⟩ W (HK.out.and_then hW) (Row.keep HNI.out hW))
   clear CNu
   cases han : (collectF f).any (sameB ⟨code, (.slice na na2.length nc2, na2)⟩) with
   | false =>
    have HAN := kept han
    rw [idx_none han] at CNx
    clear han
    go_upto_region 5 with (first | (go_at_call 68; go_must (refine (CNx.out _ (Keeps.refl _ _)).mono ?_); rintro e w4 ⟨rfl, k4⟩; replace HK := kept (HK.out.and_then k4); clear k4))
    refine wp_region_held_drew (S := (fun _ => True)) (by kernel_rfl) ?ghS (fun hHeld => ?_)
    case ghS => exact trivial
    refine tl 0 ⟨some 45, _, _, _, _, _⟩ rfl hHeld ?_
    refine tl 1 ⟨some 46, _, _, _, _, _⟩ rfl hHeld ?_
    refine tl 2 ⟨some 47, _, _, _, _, _⟩ rfl hHeld ?_
    refine tu 3 ⟨some 48, .move (.tmp 0), _, _, _, _⟩ rfl hHeld ?_
    refine tu 4 ⟨some 49, .move (.tmp 0), _, _, _, _⟩ rfl hHeld ?_
    refine tu 5 ⟨some 50, .nilCheck (.tmp 49), _, _, _, _⟩ rfl hHeld ?_
    refine tu 6 ⟨some 51, .fieldAddr 89 (.tmp 50) 3, _, _, _, _⟩ rfl hHeld ?_
    refine tu 7 ⟨some 52, .load 87 (.tmp 51), _, _, _, _⟩ rfl hHeld ?_
    refine tu 8 ⟨some 53, .move (.tmp 1), _, _, _, _⟩ rfl hHeld ?_
    refine tu 9 ⟨some 54, .indexAddr 87 (.tmp 52) (.tmp 53), _, _, _, _⟩ rfl hHeld ?_
    refine tu 10 ⟨some 55, .load 39 (.tmp 54), _, _, _, _⟩ rfl hHeld ?_
    refine tu 11 ⟨some 56, .move (.tmp 0), _, _, _, _⟩ rfl hHeld ?_
    refine tu 12 ⟨some 57, .nilCheck (.tmp 56), _, _, _, _⟩ rfl hHeld ?_
    refine tu 13 ⟨some 58, .fieldAddr 89 (.tmp 57) 0, _, _, _, _⟩ rfl hHeld ?_
    refine tu 14 ⟨some 59, .fieldAddr 26 (.tmp 58) 2, _, _, _, _⟩ rfl hHeld ?_
    refine tu 15 ⟨some 60, .load 24 (.tmp 59), _, _, _, _⟩ rfl hHeld ?_
    refine tu 16 ⟨some 61, .move (.tmp 1), _, _, _, _⟩ rfl hHeld ?_
    refine tu 17 ⟨some 62, .indexAddr 24 (.tmp 60) (.tmp 61), _, _, _, _⟩ rfl hHeld ?_
    refine tu 18 ⟨some 63, .load 38 (.tmp 62), _, _, _, _⟩ rfl hHeld ?_
    refine tu 19 ⟨some 64, .move (.tmp 2), _, _, _, _⟩ rfl hHeld ?_
    refine tu 20 ⟨some 65, .call ⟨.value (.func 35), #[.tmp 48, .tmp 55, .tmp 63, .tmp 64], #[85, 39, 38, 3]⟩, _, _, _, _⟩ rfl hHeld ?_
    refine tu 21 ⟨some 66, .move (.tmp 10), _, _, _, _⟩ rfl hHeld ?_
    refine tu 22 ⟨some 67, .indexAddr 39 (.tmp 65) (.tmp 66), _, _, _, _⟩ rfl hHeld ?_
    refine tu 23 ⟨some 68, .load 4 (.tmp 67), _, _, _, _⟩ rfl hHeld ?_
    refine tl 24 ⟨some 69, _, _, _, _, _⟩ rfl hHeld ?_
    refine tl 25 ⟨some 6, _, _, _, _, _⟩ rfl hHeld ?_
    refine wpAnyH_done (by kernel_rfl) ?_ _
    clear hHeld
    go_wp2
    go_ret
    exact ⟨ret_bool (GN.out fun h => by rcases GP.out.1 h with h1 | h1 | h1; (rw [HRW.out] at h1; cases h1); exact h1 HRR.out; exact bad_none HE.out (no_same HCC.out HAN.out) HRR.out h1).symm, HK.out.drew⟩
   | true =>
    obtain ⟨i0, hi0, hs0, hid⟩ := idx_uniq HOK.out han
    have HGS := kept (good_same (f := f) (b := b) (pl := pl) hs0)
    have HR0 := kept (show (throughL (collectF f) f.blocks.2[b]! pl I[b]!)[i0]! = goodD f b pl (collectF f)[i0]! by unfold throughL; rw [range_at _ hi0]; exact HRG.out i0 hi0 HRR.out)
    have HRL := kept (throughL_len (cs := collectF f) (y := f.blocks.2[b]!) (l := I[b]!) pl)
    rw [hid] at CNx
    clear han hid hs0 HRG HOK
    have hncB : (collectF f).length ≤ 100000 := HFO.out.nc
    generalize throughL (collectF f) f.blocks.2[b]! pl I[b]! = RR at *
    generalize hgd : goodD f b pl (collectF f)[i0]! = gd at *
    clear hgd
    obtain ⟨nc, hnc⟩ : ∃ z, (collectF f).length = z := ⟨_, rfl⟩
    rw [hnc] at CTh hi0 HRL hncB
    clear hnc
    generalize vs[b]! = vp at *
    go_upto_region 5 with (first | (go_at_call 68; go_must (refine (CNx.out _ (Keeps.refl _ _)).mono ?_); rintro e w4 ⟨rfl, k4⟩; replace HK := kept (HK.out.and_then k4); clear k4))
    have hi0z : (i0 : Int) < (nc : Int) := by omega
    clear CNx
    have f2 := HK.out.cellOf HL2.out
    have f5 := HK.out.cellOf HL5.out
    have i1 := HK.out.cellOf HII.out
    have n0 := HK.out.cellOf (HB7.out 0 _ rfl)
    have n1 := HK.out.cellOf (HB7.out 1 _ rfl)
    have n2 := HK.out.cellOf (HB7.out 2 _ rfl)
    have n3 := HK.out.cellOf (HB7.out 3 _ rfl)
    have n4 := HK.out.cellOf (HB7.out 4 _ rfl)
    have n5 := HK.out.cellOf (HB7.out 5 _ rfl)
    have n6 := HK.out.cellOf (HB7.out 6 _ rfl)
    simp only [Nat.add_zero] at n0
    refine wp_region_held_drew (S := (fun w' => w'.cell? ⟨L, 2, none⟩ = some (.slice (some ⟨bb, off, none⟩) f.nb c2) ∧ w'.cell? ⟨L, 5, none⟩ = some (.slice (some ⟨ia, 0, none⟩) f.nb ic) ∧ w'.cell? ⟨ia, b, none⟩ = some vp ∧ w'.cell? ⟨bb, off + b * 7, none⟩ = some (.string yn) ∧ w'.cell? ⟨bb, off + b * 7 + 1, none⟩ = some (.slice pa pn pc) ∧ w'.cell? ⟨bb, off + b * 7 + 2, none⟩ = some (.slice (some ⟨ib, io, none⟩) qn qc) ∧ w'.cell? ⟨bb, off + b * 7 + 3, none⟩ = some (.int .i64 yk) ∧ w'.cell? ⟨bb, off + b * 7 + 4, none⟩ = some (.int .i64 yv) ∧ w'.cell? ⟨bb, off + b * 7 + 5, none⟩ = some (.int .i64 y0) ∧ w'.cell? ⟨bb, off + b * 7 + 6, none⟩ = some (.int .i64 y1))) (by kernel_rfl) ?ghS (fun hHeld => ?_)
    case ghS => exact ⟨f2, f5, i1, n0, n1, n2, n3, n4, n5, n6⟩
    clear f2 f5 i1 n0 n1 n2 n3 n4 n5 n6
    replace HK := kept (HK.out.drew)
    generalize World.drew _ = X0 at *
    have f2 := HK.out.cellOf HL2.out
    have f5 := HK.out.cellOf HL5.out
    have i1 := HK.out.cellOf HII.out
    have n0 := HK.out.cellOf (HB7.out 0 _ rfl)
    have n1 := HK.out.cellOf (HB7.out 1 _ rfl)
    have n2 := HK.out.cellOf (HB7.out 2 _ rfl)
    have n3 := HK.out.cellOf (HB7.out 3 _ rfl)
    have n4 := HK.out.cellOf (HB7.out 4 _ rfl)
    have n5 := HK.out.cellOf (HB7.out 5 _ rfl)
    have n6 := HK.out.cellOf (HB7.out 6 _ rfl)
    simp only [Nat.add_zero] at n0
    refine tl 0 ⟨some 45, _, _, _, _, _⟩ rfl hHeld ?_
    refine tl 1 ⟨some 46, _, _, _, _, _⟩ rfl hHeld ?_
    refine tl 2 ⟨some 47, _, _, _, _, _⟩ rfl hHeld ?_
    refine tl 3 ⟨some 48, _, _, _, _, _⟩ rfl hHeld ?_
    refine tl 4 ⟨some 49, _, _, _, _, _⟩ rfl hHeld ?_
    refine tl 5 ⟨some 50, _, _, _, _, _⟩ rfl hHeld ?_
    refine tl 6 ⟨some 51, _, _, _, _, _⟩ rfl hHeld ?_
    refine tl 7 ⟨some 52, _, _, _, _, _⟩ rfl hHeld ?_
    refine tl 8 ⟨some 53, _, _, _, _, _⟩ rfl hHeld ?_
    refine tl 9 ⟨some 54, _, _, _, _, _⟩ rfl hHeld ?_
    refine tl 10 ⟨some 55, _, _, _, _, _⟩ rfl hHeld ?_
    refine tl 11 ⟨some 56, _, _, _, _, _⟩ rfl hHeld ?_
    refine tl 12 ⟨some 57, _, _, _, _, _⟩ rfl hHeld ?_
    refine tl 13 ⟨some 58, _, _, _, _, _⟩ rfl hHeld ?_
    refine tl 14 ⟨some 59, _, _, _, _, _⟩ rfl hHeld ?_
    refine tl 15 ⟨some 60, _, _, _, _, _⟩ rfl hHeld ?_
    refine tl 16 ⟨some 61, _, _, _, _, _⟩ rfl hHeld ?_
    refine tl 17 ⟨some 62, _, _, _, _, _⟩ rfl hHeld ?_
    refine tl 18 ⟨some 63, _, _, _, _, _⟩ rfl hHeld ?_
    refine tl 19 ⟨some 64, _, _, _, _, _⟩ rfl hHeld ?_
    refine tl 21 ⟨some 66, _, _, _, _, _⟩ rfl hHeld ?_
    refine t2 [20] ?_
    refine t3 (fun K hK => ?_) ?_
    ·clear hHeld
     go_simp
     (with_reducible refine (CTh.out _ HK.out).mono ?_)
     rintro e Y1 ⟨⟨rv, rfl, hrv⟩, k5⟩
     obtain ⟨rg, rc, rfl, -, -, -⟩ := own_at hrv (by omega)
     have OR := kept hrv
     clear hrv f2 f5 i1 n0 n1 n2 n3 n4 n5 n6
     replace HK := kept (HK.out.and_then k5)
     clear k5
     show K _ _
     have f2 := HK.out.cellOf HL2.out
     have f5 := HK.out.cellOf HL5.out
     have i1 := HK.out.cellOf HII.out
     have n0 := HK.out.cellOf (HB7.out 0 _ rfl)
     have n1 := HK.out.cellOf (HB7.out 1 _ rfl)
     have n2 := HK.out.cellOf (HB7.out 2 _ rfl)
     have n3 := HK.out.cellOf (HB7.out 3 _ rfl)
     have n4 := HK.out.cellOf (HB7.out 4 _ rfl)
     have n5 := HK.out.cellOf (HB7.out 5 _ rfl)
     have n6 := HK.out.cellOf (HB7.out 6 _ rfl)
     simp only [Nat.add_zero] at n0
     refine hK.out _ _ ?gh1 (fun hHeld => ?_)
     case gh1 => exact ⟨f2, f5, i1, n0, n1, n2, n3, n4, n5, n6⟩
     clear hK K
     try simp only [Act.put, sA, sB, sC]
     refine tl 22 ⟨some 67, _, _, _, _, _⟩ rfl hHeld ?_
     refine t2 [23] ?_
     refine t3 (fun K hK => ?_) ?_
     ·clear hHeld
      obtain ⟨rg2, rc2, e1, -, -, hrc⟩ := own_at OR.out (by omega)
      simp only [Value.slice.injEq, Option.some.injEq, Addr.mk.injEq] at e1
      obtain ⟨⟨rfl, -, -⟩, -, rfl⟩ := e1
      have r0 := (hrc i0 hi0).trans (bitV_at (by rw [HRL.out]; exact hi0))
      rw [HR0.out] at r0
      clear hrc
      go_simp
      clear r0
      show K _ _
      refine hK.out _ _ ?gh2 (fun hHeld => ?_)
      case gh2 => exact ⟨f2, f5, i1, n0, n1, n2, n3, n4, n5, n6⟩
      clear hK K
      try simp only [Act.put, sA, sB, sC]
      refine tl 24 ⟨some 69, _, _, _, _, _⟩ rfl hHeld ?_
      refine tl 25 ⟨some 6, _, _, _, _, _⟩ rfl hHeld ?_
      refine wpAnyH_done (by kernel_rfl) ?_ _
      clear hHeld
      clear f2 f5 i1 n0 n1 n2 n3 n4 n5 n6
      go_wp2
      go_ret
      exact ⟨ret_bool (by cases gd; exact (GN.out fun h => by rcases GP.out.1 h with h1 | h1 | h1; (rw [HRW.out] at h1; cases h1); exact h1 HRR.out; (have h2 := HGS.out.2 h1; cases h2)).symm; exact (GY.out (GP.out.2 (.inr (.inr (HGS.out.1 rfl))))).symm), HK.out⟩
     exact t4
    exact t4
end Go.Proofs.YtjllbchfojonhaaGreatDoor
namespace Go.Proofs.YtjllbchfojonhaaGreatDoor
open Go.RowKit Go.Shelf Go.Lib
set_option linter.unusedVariables false
set_option linter.unusedSimpArgs false
def prC (p : Nat × Nat) : List Value := [.int .i64 (p.1 : Int), .int .i64 (p.2 : Int)]
noncomputable def lackB (f : FuncM) (b j : Nat) : List (Nat × Nat) := (((List.range j).filter fun i => !guardD f b i)).map fun i => (b, i)
noncomputable def lackTo (f : FuncM) (b j : Nat) : List (Nat × Nat) := ((List.range b).flatMap fun a => lackB f a f.blocks.2[a]!.insts.2.length) ++ lackB f b j
noncomputable def placesL (f : FuncM) : List (Nat × Nat) := if typedE f = 0 then lackTo f f.nb 0 else []
def PlRet (f : FuncM) (w : World) (v : Value) : Prop := Row w 2 v ((placesL f).map prC)
section
variable {f : FuncM} {b j : Nat}
theorem lack_zero : lackTo f 0 0 = [] := by simp [lackTo, lackB]
theorem lack_snoc (h : guardD f b j = false) : lackTo f b (j + 1) = lackTo f b j ++ [(b, j)] := by
 unfold lackTo lackB
 rw [List.range_succ, List.filter_append, List.map_append, ← List.append_assoc, List.filter_cons_of_pos (by rw [h]; rfl)]; rfl
theorem lack_same (h : guardD f b j = true) : lackTo f b (j + 1) = lackTo f b j := by
 unfold lackTo lackB
 rw [List.range_succ, List.filter_append, List.map_append, ← List.append_assoc, List.filter_cons_of_neg (by rw [h]; simp)]; simp
theorem lack_next : lackTo f (b + 1) 0 = lackTo f b f.blocks.2[b]!.insts.2.length := by
 unfold lackTo
 rw [List.range_succ, List.flatMap_append]
 simp [lackB]
theorem prC_len (l : List (Nat × Nat)) : ∀ e ∈ l.map prC, e.length = 2 := fun e he => by
 obtain ⟨p, _, rfl⟩ := List.mem_map.1 he; rfl
end
theorem info34 : (Tryz.prog.info? 34).map (fun i => (i.zero, i.size, i.bytes)) = some (some (.agg #[.int .i64 0, .int .i64 0]), 2, 16) := by kernel_rfl
theorem inst_ok {f : FuncM} (hT : typedE f = 0) {b pl : Nat} (hb : b < f.nb) (hpl : pl < f.blocks.2[b]!.insts.2.length) : (0 ≤ f.blocks.2[b]!.insts.2[pl]!.op ∧ f.blocks.2[b]!.insts.2[pl]!.op < 27) ∧ f.blocks.2[b]!.insts.2[pl]!.args.2.length = (ktakes f.blocks.2[b]!.insts.2[pl]!.op.toNat).size := by
 obtain ⟨h0, hl, _⟩ := inst_parts ((shaped_blocks (typed_shaped hT).1 _ (bang_mem (l := f.blocks.2) hb)).2.1 _ (bang_mem hpl))
 exact ⟨h0, hl⟩
set_option maxRecDepth 100000 in
set_option maxHeartbeats 200000000 in
theorem places_any (f : FuncM) (w : World) (ht : Tabs w) (hf : FuncAt w f) (hfew : FewP f) : Calls Tryz.prog 17 #[f.val] w fun e w' => (∃ v, e = .returned v ∧ PlRet f w' v) ∧ Keeps w w' [] := by
 obtain ⟨i34, hi34, he34⟩ := Option.map_eq_some_iff.1 info34
 simp only [Prod.mk.injEq] at he34
 obtain ⟨hz34, hs34, hb34⟩ := he34
 obtain ⟨hN, hbd⟩ := few_insts hfew
 have CT := kept (fun W h1 (h2 : FuncAt W f) => typedF_any f W h1 h2 hfew)
 have CLk := kept (fun (hT : typedE f = 0) W h1 (h2 : FuncAt W f) => look_any f W h1 h2 hfew hT hN hbd)
 have HTB := kept ht
 have HFW := kept hfew
 have hnbF := hfew.nb
 have HPY := kept (fun (h : typedE f = 0) => show placesL f = lackTo f f.nb 0 by unfold placesL; rw [if_pos h])
 have HPN := kept (fun (h : ¬ typedE f = 0) => show placesL f = [] by unfold placesL; rw [if_neg h])
 have HPR := kept (show ∀ W v, Row W 2 v ((placesL f).map prC) → PlRet f W v from fun _ _ h => h)
 obtain ⟨a0, c0, a1, c1, a2, c2, e0, e1, e2, hval, h1, HF, HC0, HC1, HC2, HNV, HNP, HNB⟩ := fopen hf
 rw [hval] at CT CLk ⊢
 clear hval h1 e0 e1 e2 hf HC0 HC1 ht hN hbd hfew
 obtain ⟨HK, Bl⟩ := fbox w 26 #[.slice a0 f.nv c0, .slice a1 f.np c1, .slice a2 f.nb c2]
 obtain ⟨l0, l1, l2⟩ := Bl.out.c3
 simp at l0 l1 l2
 go_enter Tryz.func17, Tryz.ntmps17
 by_cases hT : typedE f = 0
 ·have HTT := kept hT
  rw [hT] at CT
  have CLo := kept (CLk.out hT)
  have HE := kept (ends_ok hT HFW.out)
  clear CLk hT
  go_upto_region 4 with (first | (go_at_call 33; refine (CT.out _ (HTB.out.keep HK.out) (HF.out.keep HK.out)).mono ?_; rintro e w3 ⟨rfl, k3⟩; clear l0 l1 l2; replace Bl := kept (Bl.out.keep k3 (by simp)); replace HK := kept (HK.out.and_then k3); obtain ⟨l0, l1, l2⟩ := Bl.out.c3; simp at l0 l1 l2; clear k3) | (go_at_call 34; refine (CLo.out _ (HTB.out.keep HK.out) (HF.out.keep HK.out)).mono ?_; rintro e w3 ⟨⟨L, rfl, hlk⟩, k3⟩; have HLK := kept hlk; clear hlk; clear l0 l1 l2; replace Bl := kept (Bl.out.keep k3 (by simp)); replace HK := kept (HK.out.and_then k3); obtain ⟨l0, l1, l2⟩ := Bl.out.c3; simp at l0 l1 l2; clear k3))
  obtain ⟨th, I, lv, tv, iv, vs, hFI, hFO, hTH, hGI⟩ := HLK.out
  obtain ⟨W6, hW6⟩ : ∃ W6 : World, W6 = w3 := ⟨_, rfl⟩
  subst hW6
  have CG := kept (fun b pl (hb : b < f.nb) (hpl : pl < f.blocks.2[b]!.insts.2.length) W (hW : Keeps W6 W []) => guarded40_any f th I lv tv iv vs L b pl W (hFI.keep hW) hFO hTH hGI HE.out hb hpl (inst_ok HTT.out hb hpl).1 (inst_ok HTT.out hb hpl).2)
  clear hFI hFO hTH hGI HLK CT CLo
  clear l0 l1 l2
  have Bl_W6 := Bl
  have TW6 := HK
  clear HK
  have HK := kept (Keeps.refl W6 [])
  obtain ⟨l0, l1, l2⟩ := Bl.out.c3
  simp at l0 l1 l2
  go_wp2
  go_loopw [4, 15] (fun a' i' wx => ∃ b : Nat, b ≤ f.nb ∧ i' = .int .i64 b ∧ wx.ownsRow W6.heap.size 34 2 a' (lackTo f b 0).length ((lackTo f b 0).map prC).flatten ∧ Hid ((lackTo f b 0).length ≤ 1000 * b + 0) ∧ Keeps W6 wx []) (fun _ i' _ => f.nb - (intOf i').toNat)
  case atStart => exact ⟨0, Nat.zero_le _, rfl, by rw [lack_zero]; exact World.ownsRow_nil _ _ _ _, by rw [lack_zero]; exact Nat.zero_le _, HK.out⟩
  case round =>
   obtain ⟨b, hb, rfl, hO, hL, hr⟩ := hrel
   clear l0 l1 l2
   clear Bl HK
   have HK := kept hr
   have Bl := kept (Bl_W6.out.keep hr (by simp))
   clear hr
   obtain ⟨l0, l1, l2⟩ := Bl.out.c3
   simp at l0 l1 l2
   have OO := kept hO
   have HL := kept hL.out
   clear hO hL
   obtain ⟨oa, oc, rfl, -, -⟩ := own_form OO.out
   by_cases hlb : b < f.nb
   ·have hlbz : (b : Int) < (f.nb : Int) := by omega
    obtain ⟨yb, yo, e8, hyb, hbc⟩ := HC2.out b (by rw [HNB.out]; exact hlb)
    obtain rfl := e8
    have HBA := kept (HF.out.block _ (bang_mem (l := f.blocks.2) (k := b) hlb))
    obtain ⟨qa, qc, e7, -, -, -⟩ := HBA.out.insts.open_
    have y2 := (TW6.out.and_then HK.out).cellOf (hbc 2 _ rfl)
    rw [e7] at y2
    clear hbc HC2 e7 HBA
    have hil := (HFW.out.block _ (bang_mem (l := f.blocks.2) (k := b) hlb)).2
    have CGb := kept (fun pl hpl W hW => CG.out b pl hlb hpl W hW)
    have LNX := kept (lack_next (f := f) (b := b))
    clear CG
    obtain ⟨yil, hyl⟩ : ∃ z, f.blocks.2[b]!.insts.2.length = z := ⟨_, rfl⟩
    simp only [hyl] at CGb LNX y2 hil
    clear hyl
    go_wp2
    clear y2
    go_loopw [4, 25] (fun a' i' wx => ∃ j : Nat, j ≤ yil ∧ i' = .int .i64 j ∧ wx.ownsRow W6.heap.size 34 2 a' (lackTo f b j).length ((lackTo f b j).map prC).flatten ∧ Hid ((lackTo f b j).length ≤ 1000 * b + j) ∧ Keeps W6 wx []) (fun _ i' _ => yil - (intOf i').toNat)
    case atStart => exact ⟨0, Nat.zero_le _, rfl, OO.out, HL.out, HK.out⟩
    case round =>
     obtain ⟨j, hj, rfl, hO, hL, hr⟩ := hrel
     clear OO HL
     clear l0 l1 l2
     clear Bl HK
     have HK := kept hr
     have Bl := kept (Bl_W6.out.keep hr (by simp))
     clear hr
     obtain ⟨l0, l1, l2⟩ := Bl.out.c3
     simp at l0 l1 l2
     have OO := kept hO
     have HL := kept hL.out
     clear hO hL
     obtain ⟨oa, oc, rfl, -, -⟩ := own_form OO.out
     by_cases hlj : j < yil
     ·have hljz : (j : Int) < (yil : Int) := by omega
      have CGj := kept (CGb.out j hlj)
      have LSN := kept (fun h => lack_snoc (f := f) (b := b) (j := j) h)
      have LSM := kept (fun h => lack_same (f := f) (b := b) (j := j) h)
      generalize hgd : guardD f b j = gd at *
      have HGD := kept hgd
      clear hgd CGb
      generalize lackTo f b j = LT at *
      cases gd
      ·go_upto_region 12 with (first | (go_at_call 40; refine (CGj.out _ HK.out).mono ?_; rintro e w3 ⟨rfl, k3⟩; replace OO := kept (own_keep OO.out k3 (by simp)); clear l0 l1 l2; replace Bl := kept (Bl.out.keep k3 (by simp)); replace HK := kept (HK.out.and_then k3); obtain ⟨l0, l1, l2⟩ := Bl.out.c3; simp at l0 l1 l2; clear k3))
       have HSZ := kept HK.out.size
       go_wp2_with (first | (at_builtin; go_must (refine wpList_append_row rfl (.tmp 33) (.tmp 37) 51 rfl W6.heap.size 34 i34 (.agg #[.int .i64 0, .int .i64 0]) 2 16 Tryz.underlying51 hi34 hz34 hs34 hb34 rfl (by decide) (.slice oa LT.length oc) LT.length ((LT.map prC).flatten) rfl (own_keep OO.out ((Keeps.refl w3 []).alloc _) (by simp)) (.slice (some ⟨w3.heap.size, 0, none⟩) 1 1) [[.int .i64 (b : Nat), .int .i64 (j : Nat)]] rfl (row_single (Blk.new w3 34 _)) (by simp) (by simp [Value.oneCell']) (by have h9 := HL.out; simp; unfold maxLen; omega) (by have h9 := HL.out; simp; omega) (by rw [size_alloc1]; have h9 := HSZ.out; omega) ?_); intro v1 w4 hown hgrow; have hKx := kept (keeps_grown HK.out OO.out (Nat.le_refl _) hgrow); have hO4 := kept hown; clear hown hgrow))
       go_roundw
       case rel => exact ⟨j + 1, by omega, by go_num, by rw [LSN.out (by first | rfl | trivial), List.length_append, List.map_append, List.flatten_append]; have h9 := hO4.out; simpa [prC] using h9, kept (by rw [LSN.out (by first | rfl | trivial), List.length_append]; have h9 := HL.out; simp only [List.length_singleton]; omega), hKx.out⟩
       case measure => simp [intOf]; omega
      ·go_wp2_with (first | (go_at_call 40; refine (CGj.out _ HK.out).mono ?_; rintro e w3 ⟨rfl, k3⟩; replace OO := kept (own_keep OO.out k3 (by simp)); clear l0 l1 l2; replace Bl := kept (Bl.out.keep k3 (by simp)); replace HK := kept (HK.out.and_then k3); obtain ⟨l0, l1, l2⟩ := Bl.out.c3; simp at l0 l1 l2; clear k3))
       go_roundw
       case rel => exact ⟨j + 1, by omega, by go_num, by rw [LSM.out (by first | rfl | trivial)]; exact OO.out, kept (by rw [LSM.out (by first | rfl | trivial)]; have h9 := HL.out; omega), HK.out⟩
       case measure => simp [intOf]; omega
     ·have hljz : ¬ (j : Int) < (yil : Int) := by omega
      obtain rfl : j = yil := by omega
      go_wp2
      go_roundw
      case rel => exact ⟨b + 1, by omega, by go_num, by rw [LNX.out]; exact OO.out, kept (by rw [LNX.out]; have h9 := HL.out; omega), HK.out⟩
      case measure => simp [intOf]; omega
   ·have hlbz : ¬ (b : Int) < (f.nb : Int) := by omega
    obtain rfl : b = f.nb := by omega
    go_wp2
    go_ret
    exact ⟨⟨_, rfl, HPR.out _ _ (by rw [HPY.out HTT.out]; exact row_flat (prC_len _) (by omega) OO.out)⟩, (TW6.out.and_then HK.out)⟩
 ·have hT3 : typedE f = 3 := by unfold typedE at hT ⊢; split; (rename_i h; rw [if_pos h] at hT; exact absurd rfl hT); rfl
  have HTN := kept hT
  rw [hT3] at CT
  clear CLk hT hT3
  go_wp2_with (first | (go_at_call 33; refine (CT.out _ (HTB.out.keep HK.out) (HF.out.keep HK.out)).mono ?_; rintro e w3 ⟨rfl, k3⟩; clear l0 l1 l2; replace Bl := kept (Bl.out.keep k3 (by simp)); replace HK := kept (HK.out.and_then k3); obtain ⟨l0, l1, l2⟩ := Bl.out.c3; simp at l0 l1 l2; clear k3))
  go_ret
  exact ⟨⟨_, rfl, HPR.out _ _ (by rw [HPN.out HTN.out]; exact row_none)⟩, HK.out⟩
noncomputable def guardedB (f : FuncM) : Bool := decide (typedE f = 0) && decide ((placesL f).length = 0)
set_option maxRecDepth 100000 in
set_option maxHeartbeats 200000000 in
theorem guarded18_any (f : FuncM) (w : World) (ht : Tabs w) (hf : FuncAt w f) (hfew : FewP f) : Calls Tryz.prog 18 #[f.val] w fun e w' => e = .returned (.bool (guardedB f)) ∧ Keeps w w' [] := by
 have CT := kept (fun W h1 (h2 : FuncAt W f) => typedF_any f W h1 h2 hfew)
 have CP := kept (fun W h1 (h2 : FuncAt W f) => places_any f W h1 h2 hfew)
 have HTB := kept ht
 have HGB := kept (show guardedB f = (decide (typedE f = 0) && decide ((placesL f).length = 0)) from rfl)
 generalize guardedB f = R at *
 obtain ⟨a0, c0, a1, c1, a2, c2, e0, e1, e2, hval, h1, HF, HC0, HC1, HC2, HNV, HNP, HNB⟩ := fopen hf
 rw [hval] at CT CP ⊢
 clear hval h1 e0 e1 e2 hf HC0 HC1 HC2 ht hfew
 obtain ⟨HK, Bl⟩ := fbox w 26 #[.slice a0 f.nv c0, .slice a1 f.np c1, .slice a2 f.nb c2]
 obtain ⟨l0, l1, l2⟩ := Bl.out.c3
 simp at l0 l1 l2
 go_enter Tryz.func18, Tryz.ntmps18
 by_cases hT : typedE f = 0
 ·rw [hT] at CT HGB
  clear hT
  by_cases hz : (placesL f).length = 0
  ·have hzz : (((placesL f).length : Int) == 0) = true := by simp [hz]
   have HZ := kept hz
   go_wp2_with (first | (go_at_call 33; refine (CT.out _ (HTB.out.keep HK.out) (HF.out.keep HK.out)).mono ?_; rintro e w3 ⟨rfl, k3⟩; clear l0 l1 l2; replace Bl := kept (Bl.out.keep k3 (by simp)); replace HK := kept (HK.out.and_then k3); obtain ⟨l0, l1, l2⟩ := Bl.out.c3; simp at l0 l1 l2; clear k3) | (go_at_call 17; refine (CP.out _ (HTB.out.keep HK.out) (HF.out.keep HK.out)).mono ?_; rintro e w3 ⟨⟨pv, rfl, hpl⟩, k3⟩; obtain ⟨pa, pc, e9, -⟩ := (show Row w3 2 pv ((placesL f).map prC) from hpl); rw [List.length_map] at e9; subst e9; clear hpl; clear l0 l1 l2; replace Bl := kept (Bl.out.keep k3 (by simp)); replace HK := kept (HK.out.and_then k3); obtain ⟨l0, l1, l2⟩ := Bl.out.c3; simp at l0 l1 l2; clear k3))
   go_ret
   exact ⟨ret_bool (by rw [HGB.out, HZ.out]; rfl), HK.out⟩
  ·have hzz : (((placesL f).length : Int) == 0) = false := beq_eq_false_iff_ne.2 (show ((placesL f).length : Int) ≠ 0 by omega)
   have HZ := kept hz
   go_wp2_with (first | (go_at_call 33; refine (CT.out _ (HTB.out.keep HK.out) (HF.out.keep HK.out)).mono ?_; rintro e w3 ⟨rfl, k3⟩; clear l0 l1 l2; replace Bl := kept (Bl.out.keep k3 (by simp)); replace HK := kept (HK.out.and_then k3); obtain ⟨l0, l1, l2⟩ := Bl.out.c3; simp at l0 l1 l2; clear k3) | (go_at_call 17; refine (CP.out _ (HTB.out.keep HK.out) (HF.out.keep HK.out)).mono ?_; rintro e w3 ⟨⟨pv, rfl, hpl⟩, k3⟩; obtain ⟨pa, pc, e9, -⟩ := (show Row w3 2 pv ((placesL f).map prC) from hpl); rw [List.length_map] at e9; subst e9; clear hpl; clear l0 l1 l2; replace Bl := kept (Bl.out.keep k3 (by simp)); replace HK := kept (HK.out.and_then k3); obtain ⟨l0, l1, l2⟩ := Bl.out.c3; simp at l0 l1 l2; clear k3))
   go_ret
   exact ⟨ret_bool (by rw [HGB.out, decide_eq_false HZ.out]; rfl), HK.out⟩
 ·have hT3 : typedE f = 3 := by unfold typedE at hT ⊢; split; (rename_i h; rw [if_pos h] at hT; exact absurd rfl hT); rfl
  rw [hT3] at CT HGB
  clear CP hT hT3
  go_wp2_with (first | (go_at_call 33; refine (CT.out _ (HTB.out.keep HK.out) (HF.out.keep HK.out)).mono ?_; rintro e w3 ⟨rfl, k3⟩; clear l0 l1 l2; replace Bl := kept (Bl.out.keep k3 (by simp)); replace HK := kept (HK.out.and_then k3); obtain ⟨l0, l1, l2⟩ := Bl.out.c3; simp at l0 l1 l2; clear k3))
  go_ret
  exact ⟨ret_bool (by rw [HGB.out]; rfl), HK.out⟩
end Go.Proofs.YtjllbchfojonhaaGreatDoor
namespace Go.Proofs.YtjllbchfojonhaaGreatDoor
open Go.RowKit Go.Shelf Go.Lib
set_option linter.unusedVariables false
set_option linter.unusedSimpArgs false
theorem row_blk {w : World} {g : Nat} {t : TypeId} {size n : Nat} {es : List (List Value)} (hsz : ∀ l ∈ es, l.length = size) (hn : es.length = n) (hm : n ≤ maxLen) (h : Blk w g t es.flatten.toArray) : Row w size (.slice (some ⟨g, 0, none⟩) n n) es :=
 ⟨some ⟨g, 0, none⟩, n, by rw [hn], by omega, hm, .inr ⟨g, 0, rfl, h.lt, fun j e he i x hx => by
  have hi : i < size := by rw [← hsz e (List.mem_of_getElem? he)]; exact (List.getElem?_eq_some_iff.1 hx).1
  have h2 := flat_get hsz j i hi
  rw [he] at h2
  simp only [Option.bind_some] at h2
  rw [hx] at h2
  rw [h.cell, Nat.zero_add, List.getElem?_toArray]; exact h2⟩⟩
def exI (g2 g3 g4 g5 : Nat) : List InstM := [⟨20, -1, (.slice (some ⟨g2, 0, none⟩) 1 1, [0]), 0⟩, ⟨5, 1, (.slice (some ⟨g3, 0, none⟩) 2 2, [1, 0]), 0⟩, ⟨1, 0, (.slice (some ⟨g4, 0, none⟩) 1 1, [1]), 0⟩, ⟨5, 1, (.slice (some ⟨g5, 0, none⟩) 2 2, [1, 0]), 0⟩]
def exB (g2 g3 g4 g5 g6 : Nat) : BlockM := ⟨⟨#[97]⟩, (.slice none 0 0, []), (.slice (some ⟨g6, 0, none⟩) 4 4, exI g2 g3 g4 g5), 2, 0, 0, 0⟩
def exG (g0 g1 g2 g3 g4 g5 g6 g7 : Nat) : FuncM := ⟨(.slice (some ⟨g0, 0, none⟩) 2 2, [⟨⟨#[110]⟩, 0⟩, ⟨⟨#[109]⟩, 0⟩]), (.slice (some ⟨g1, 0, none⟩) 2 2, [0, 1]), (.slice (some ⟨g7, 0, none⟩) 1 1, [exB g2 g3 g4 g5 g6])⟩
theorem exG_typed (g0 g1 g2 g3 g4 g5 g6 g7 : Nat) : typedE (exG g0 g1 g2 g3 g4 g5 g6 g7) = 0 := by kernel_rfl
theorem exG_few (g0 g1 g2 g3 g4 g5 g6 g7 : Nat) : FewP (exG g0 g1 g2 g3 g4 g5 g6 g7) := ⟨by show 2 ≤ 100; omega, by show 1 ≤ 40; omega, by show 2 ≤ 20; omega, fun b hb => by
 rw [List.mem_singleton.1 hb]; exact ⟨Nat.zero_le _, by show 4 ≤ 1000; omega⟩⟩
theorem exG_at {w : World} {g0 g1 g2 g3 g4 g5 g6 g7 : Nat} (h0 : Blk w g0 83 #[.string ⟨#[110]⟩, .int .i64 0, .string ⟨#[109]⟩, .int .i64 0]) (h1 : Blk w g1 3 #[.int .i64 0, .int .i64 1]) (h2 : Blk w g2 3 #[.int .i64 0]) (h3 : Blk w g3 3 #[.int .i64 1, .int .i64 0]) (h4 : Blk w g4 3 #[.int .i64 1]) (h5 : Blk w g5 3 #[.int .i64 1, .int .i64 0])
  (h6 : Blk w g6 43 #[.int .i64 20, .int .i64 (-1), .slice (some ⟨g2, 0, none⟩) 1 1, .int .i64 0, .int .i64 5, .int .i64 1, .slice (some ⟨g3, 0, none⟩) 2 2, .int .i64 0, .int .i64 1, .int .i64 0, .slice (some ⟨g4, 0, none⟩) 1 1, .int .i64 0, .int .i64 5, .int .i64 1, .slice (some ⟨g5, 0, none⟩) 2 2, .int .i64 0])
  (h7 : Blk w g7 38 #[.string ⟨#[97]⟩, .slice none 0 0, .slice (some ⟨g6, 0, none⟩) 4 4, .int .i64 2, .int .i64 0, .int .i64 0, .int .i64 0]) : FuncAt w (exG g0 g1 g2 g3 g4 g5 g6 g7) :=
 ⟨row_blk (size := 2) (es := [[.string ⟨#[110]⟩, .int .i64 0], [.string ⟨#[109]⟩, .int .i64 0]]) (by simp) rfl (by simp [maxLen]) h0, fun v hv => by
  rcases List.mem_cons.1 hv with rfl | hv
  ·show 1 ≤ maxLen; simp [maxLen]
  ·rw [List.mem_singleton.1 hv]; show 1 ≤ maxLen; simp [maxLen], row_ints2 h1, row_single (cs := (exB g2 g3 g4 g5 g6).cells) h7, fun b hb => by
  rw [List.mem_singleton.1 hb]
  refine ⟨row_none, fun p hp => absurd hp List.not_mem_nil, row_blk (size := 4) (es := (exI g2 g3 g4 g5).map InstM.cells) (by simp [exI, InstM.cells]) rfl (by simp [maxLen]) h6, fun p hp => ?_, by show 1 ≤ maxLen; simp [maxLen]⟩
  have hp2 : p ∈ exI g2 g3 g4 g5 := hp
  simp only [exI, List.mem_cons, List.not_mem_nil, or_false] at hp2
  rcases hp2 with rfl | rfl | rfl | rfl
  ·exact row_ints1 h2
  ·exact row_ints2 h3
  ·exact row_ints1 h4
  ·exact row_ints2 h5⟩
section
variable (g0 g1 g2 g3 g4 g5 g6 g7 : Nat)
theorem exG_succ : succF (exG g0 g1 g2 g3 g4 g5 g6 g7) 0 = [] := by kernel_rfl
theorem exG_way {t : Nat → Bool → Bool} {b : Nat} {g : Bool} (h : GWay (succF (exG g0 g1 g2 g3 g4 g5 g6 g7)) t b g) : b = 0 ∧ g = false := by
 induction h with
 | start => exact ⟨rfl, rfl⟩
 | @step a c g hw hs ih =>
  exfalso
  rw [ih.1, exG_succ] at hs
  cases hs
theorem exG_good (op : Int) (l : List Int) (pl : Nat) : GoodP (exG g0 g1 g2 g3 g4 g5 g6 g7) op l 0 pl ↔ throughM (exB g2 g3 g4 g5 g6) op l pl false = true := by
 constructor
 ·intro h; exact h false .start
 ·intro h g hg
  rw [(exG_way g0 g1 g2 g3 g4 g5 g6 g7 hg).2]; exact h
theorem exG_reach : RWay (succF (exG g0 g1 g2 g3 g4 g5 g6 g7)) 0 := .start
theorem exG_coll : collectF (exG g0 g1 g2 g3 g4 g5 g6 g7) = [⟨20, (.slice (some ⟨g2, 0, none⟩) 1 1, [0])⟩] := by kernel_rfl
open Classical in
theorem exG_gd (pl : Nat) (b : Bool) (h : throughM (exB g2 g3 g4 g5 g6) 20 [0] pl false = b) : goodD (exG g0 g1 g2 g3 g4 g5 g6 g7) 0 pl ⟨20, (.slice (some ⟨g2, 0, none⟩) 1 1, [0])⟩ = b := by
 unfold goodD
 rw [Bool.eq_iff_iff, decide_eq_true_eq]
 show GoodP _ 20 [0] 0 pl ↔ _
 rw [exG_good, h]
theorem exG_ok (p : Nat) (hp : p ≤ 4) : PassOK (exG g0 g1 g2 g3 g4 g5 g6 g7) (0 : Nat) (p : Nat) := ⟨exG_typed .., by decide, by show (0 : Int) < (1 : Nat); decide, by omega, by show (p : Int) ≤ (4 : Nat); omega, exG_reach ..⟩
theorem exG_passed (p : Nat) (hp : p ≤ 4) (b : Bool) (h : throughM (exB g2 g3 g4 g5 g6) 20 [0] p false = b) : (passedL (exG g0 g1 g2 g3 g4 g5 g6 g7) (0 : Nat) (p : Nat)).length = if b = true then 1 else 0 := by
 unfold passedL
 rw [if_pos (exG_ok g0 g1 g2 g3 g4 g5 g6 g7 p hp), List.length_map, exG_coll, Int.toNat_natCast, Int.toNat_natCast]
 have hg := exG_gd g0 g1 g2 g3 g4 g5 g6 g7 p b h
 cases b
 ·rw [List.filter_cons_of_neg (by rw [hg]; simp)]; rfl
 ·rw [List.filter_cons_of_pos (by rw [hg])]; rfl
theorem exG_g0 : guardD (exG g0 g1 g2 g3 g4 g5 g6 g7) 0 0 = true := guardD_yes (.inl (by show inL rawL 20 = false; kernel_rfl))
theorem exG_g1 : guardD (exG g0 g1 g2 g3 g4 g5 g6 g7) 0 1 = true := guardD_yes (.inr (.inr ((exG_good g0 g1 g2 g3 g4 g5 g6 g7 20 [0] 1).2 (by kernel_rfl))))
theorem exG_g2 : guardD (exG g0 g1 g2 g3 g4 g5 g6 g7) 0 2 = true := guardD_yes (.inl (by show inL rawL 1 = false; kernel_rfl))
theorem exG_g3 : guardD (exG g0 g1 g2 g3 g4 g5 g6 g7) 0 3 = false := guardD_no fun h => by
 rcases h with h | h | h
 ·have : inL rawL 5 = true := by kernel_rfl
  rw [show (exG g0 g1 g2 g3 g4 g5 g6 g7).blocks.2[0]!.insts.2[3]!.op = 5 from rfl, this] at h; cases h
 ·exact h (exG_reach ..)
 ·have h2 := (exG_good g0 g1 g2 g3 g4 g5 g6 g7 20 [0] 3).1 h
  rw [show throughM (exB g2 g3 g4 g5 g6) 20 [0] 3 false = false by kernel_rfl] at h2; cases h2
theorem exG_places : placesL (exG g0 g1 g2 g3 g4 g5 g6 g7) = [(0, 3)] := by
 unfold placesL
 rw [if_pos (exG_typed ..)]
 show lackTo (exG g0 g1 g2 g3 g4 g5 g6 g7) 1 0 = _
 rw [show (1 : Nat) = 0 + 1 from rfl, lack_next]
 show lackTo (exG g0 g1 g2 g3 g4 g5 g6 g7) 0 4 = _
 rw [show (4 : Nat) = 3 + 1 from rfl, lack_snoc (exG_g3 ..), show (3 : Nat) = 2 + 1 from rfl, lack_same (exG_g2 ..), show (2 : Nat) = 1 + 1 from rfl, lack_same (exG_g1 ..), show (1 : Nat) = 0 + 1 from rfl, lack_same (exG_g0 ..), lack_zero]; rfl
end
theorem pl_one {w : World} {v : Value} {l : List (Nat × Nat)} (h : Row w 2 v (l.map prC)) (hl : l = [(0, 3)]) : ∃ b c, v = .slice (some b) 1 c ∧ w.cell? b = some (.int .i64 0) ∧ w.cell? ⟨b.block, b.off + 1, none⟩ = some (.int .i64 3) := by
 subst hl
 obtain ⟨a, cap, rfl, h2, h3, h4⟩ := h
 rcases h4 with h4 | ⟨b, off, rfl, hb, hc⟩
 ·simp at h4
 ·refine ⟨⟨b, off, none⟩, cap, rfl, ?_, ?_⟩
  ·have := hc 0 _ rfl 0 _ rfl; simpa using this
  ·have := hc 0 _ rfl 1 _ rfl; simpa using this
theorem ck_len {f : FuncM} {b p : Int} {w : World} {v : Value} {n : Nat} (h : CkRet f b p w v) (hl : (passedL f b p).length = n) : ∃ a c, v = .slice a n c := by
 obtain ⟨l, ⟨a, cap, rfl, -⟩, -, hk⟩ := h
 have : l.length = n := by rw [← hl, ← hk, List.length_map]
 exact ⟨a, cap, by rw [List.length_map, this]⟩
set_option maxRecDepth 100000 in
set_option maxHeartbeats 200000000 in
theorem lives8_any (w : World) (ht : Tabs w) : Calls Tryz.prog 8 #[] w fun e w' => e = .returned (.bool true) ∧ Keeps w w' [] := by
 have hk0 : Keeps w (w.alloc (.cells #[Value.string ⟨#[110]⟩, .int .i64 0, .string ⟨#[109]⟩, .int .i64 0] 83)) [] := (Keeps.refl _ []).alloc _
 have bb0 := Blk.new w 83 #[Value.string ⟨#[110]⟩, .int .i64 0, .string ⟨#[109]⟩, .int .i64 0]
 have hk1 : Keeps (w.alloc (.cells #[Value.string ⟨#[110]⟩, .int .i64 0, .string ⟨#[109]⟩, .int .i64 0] 83)) ((w.alloc (.cells #[Value.string ⟨#[110]⟩, .int .i64 0, .string ⟨#[109]⟩, .int .i64 0] 83)).alloc (.cells #[.int .i64 0, .int .i64 1] 3)) [] := (Keeps.refl _ []).alloc _
 have bb1 := Blk.new (w.alloc (.cells #[Value.string ⟨#[110]⟩, .int .i64 0, .string ⟨#[109]⟩, .int .i64 0] 83)) 3 #[.int .i64 0, .int .i64 1]
 have hk2 : Keeps ((w.alloc (.cells #[Value.string ⟨#[110]⟩, .int .i64 0, .string ⟨#[109]⟩, .int .i64 0] 83)).alloc (.cells #[.int .i64 0, .int .i64 1] 3)) (((w.alloc (.cells #[Value.string ⟨#[110]⟩, .int .i64 0, .string ⟨#[109]⟩, .int .i64 0] 83)).alloc (.cells #[.int .i64 0, .int .i64 1] 3)).alloc (.cells #[.int .i64 0] 3)) [] := (Keeps.refl _ []).alloc _
 have bb2 := Blk.new ((w.alloc (.cells #[Value.string ⟨#[110]⟩, .int .i64 0, .string ⟨#[109]⟩, .int .i64 0] 83)).alloc (.cells #[.int .i64 0, .int .i64 1] 3)) 3 #[.int .i64 0]
 have hk3 : Keeps (((w.alloc (.cells #[Value.string ⟨#[110]⟩, .int .i64 0, .string ⟨#[109]⟩, .int .i64 0] 83)).alloc (.cells #[.int .i64 0, .int .i64 1] 3)).alloc (.cells #[.int .i64 0] 3)) ((((w.alloc (.cells #[Value.string ⟨#[110]⟩, .int .i64 0, .string ⟨#[109]⟩, .int .i64 0] 83)).alloc (.cells #[.int .i64 0, .int .i64 1] 3)).alloc (.cells #[.int .i64 0] 3)).alloc (.cells #[.int .i64 1, .int .i64 0] 3)) [] := (Keeps.refl _ []).alloc _
 have bb3 := Blk.new (((w.alloc (.cells #[Value.string ⟨#[110]⟩, .int .i64 0, .string ⟨#[109]⟩, .int .i64 0] 83)).alloc (.cells #[.int .i64 0, .int .i64 1] 3)).alloc (.cells #[.int .i64 0] 3)) 3 #[.int .i64 1, .int .i64 0]
 have hk4 : Keeps ((((w.alloc (.cells #[Value.string ⟨#[110]⟩, .int .i64 0, .string ⟨#[109]⟩, .int .i64 0] 83)).alloc (.cells #[.int .i64 0, .int .i64 1] 3)).alloc (.cells #[.int .i64 0] 3)).alloc (.cells #[.int .i64 1, .int .i64 0] 3)) (((((w.alloc (.cells #[Value.string ⟨#[110]⟩, .int .i64 0, .string ⟨#[109]⟩, .int .i64 0] 83)).alloc (.cells #[.int .i64 0, .int .i64 1] 3)).alloc (.cells #[.int .i64 0] 3)).alloc (.cells #[.int .i64 1, .int .i64 0] 3)).alloc (.cells #[.int .i64 1] 3)) [] := (Keeps.refl _ []).alloc _
 have bb4 := Blk.new ((((w.alloc (.cells #[Value.string ⟨#[110]⟩, .int .i64 0, .string ⟨#[109]⟩, .int .i64 0] 83)).alloc (.cells #[.int .i64 0, .int .i64 1] 3)).alloc (.cells #[.int .i64 0] 3)).alloc (.cells #[.int .i64 1, .int .i64 0] 3)) 3 #[.int .i64 1]
 have hk5 : Keeps (((((w.alloc (.cells #[Value.string ⟨#[110]⟩, .int .i64 0, .string ⟨#[109]⟩, .int .i64 0] 83)).alloc (.cells #[.int .i64 0, .int .i64 1] 3)).alloc (.cells #[.int .i64 0] 3)).alloc (.cells #[.int .i64 1, .int .i64 0] 3)).alloc (.cells #[.int .i64 1] 3)) ((((((w.alloc (.cells #[Value.string ⟨#[110]⟩, .int .i64 0, .string ⟨#[109]⟩, .int .i64 0] 83)).alloc (.cells #[.int .i64 0, .int .i64 1] 3)).alloc (.cells #[.int .i64 0] 3)).alloc (.cells #[.int .i64 1, .int .i64 0] 3)).alloc (.cells #[.int .i64 1] 3)).alloc (.cells #[.int .i64 1, .int .i64 0] 3)) [] := (Keeps.refl _ []).alloc _
 have bb5 := Blk.new (((((w.alloc (.cells #[Value.string ⟨#[110]⟩, .int .i64 0, .string ⟨#[109]⟩, .int .i64 0] 83)).alloc (.cells #[.int .i64 0, .int .i64 1] 3)).alloc (.cells #[.int .i64 0] 3)).alloc (.cells #[.int .i64 1, .int .i64 0] 3)).alloc (.cells #[.int .i64 1] 3)) 3 #[.int .i64 1, .int .i64 0]
 have hk6 : Keeps ((((((w.alloc (.cells #[Value.string ⟨#[110]⟩, .int .i64 0, .string ⟨#[109]⟩, .int .i64 0] 83)).alloc (.cells #[.int .i64 0, .int .i64 1] 3)).alloc (.cells #[.int .i64 0] 3)).alloc (.cells #[.int .i64 1, .int .i64 0] 3)).alloc (.cells #[.int .i64 1] 3)).alloc (.cells #[.int .i64 1, .int .i64 0] 3)) (((((((w.alloc (.cells #[Value.string ⟨#[110]⟩, .int .i64 0, .string ⟨#[109]⟩, .int .i64 0] 83)).alloc (.cells #[.int .i64 0, .int .i64 1] 3)).alloc (.cells #[.int .i64 0] 3)).alloc (.cells #[.int .i64 1, .int .i64 0] 3)).alloc (.cells #[.int .i64 1] 3)).alloc (.cells #[.int .i64 1, .int .i64 0] 3)).alloc (.cells #[.int .i64 20, .int .i64 (-1), .slice (some ⟨w.heap.size + 1 + 1, 0, none⟩) 1 1, .int .i64 0, .int .i64 5, .int .i64 1, .slice (some ⟨w.heap.size + 1 + 1 + 1, 0, none⟩) 2 2, .int .i64 0, .int .i64 1, .int .i64 0, .slice (some ⟨w.heap.size + 1 + 1 + 1 + 1, 0, none⟩) 1 1, .int .i64 0, .int .i64 5, .int .i64 1, .slice (some ⟨w.heap.size + 1 + 1 + 1 + 1 + 1, 0, none⟩) 2 2, .int .i64 0] 43)) [] := (Keeps.refl _ []).alloc _
 have bb6 := Blk.new ((((((w.alloc (.cells #[Value.string ⟨#[110]⟩, .int .i64 0, .string ⟨#[109]⟩, .int .i64 0] 83)).alloc (.cells #[.int .i64 0, .int .i64 1] 3)).alloc (.cells #[.int .i64 0] 3)).alloc (.cells #[.int .i64 1, .int .i64 0] 3)).alloc (.cells #[.int .i64 1] 3)).alloc (.cells #[.int .i64 1, .int .i64 0] 3)) 43 #[.int .i64 20, .int .i64 (-1), .slice (some ⟨w.heap.size + 1 + 1, 0, none⟩) 1 1, .int .i64 0, .int .i64 5, .int .i64 1, .slice (some ⟨w.heap.size + 1 + 1 + 1, 0, none⟩) 2 2, .int .i64 0, .int .i64 1, .int .i64 0, .slice (some ⟨w.heap.size + 1 + 1 + 1 + 1, 0, none⟩) 1 1, .int .i64 0, .int .i64 5, .int .i64 1, .slice (some ⟨w.heap.size + 1 + 1 + 1 + 1 + 1, 0, none⟩) 2 2, .int .i64 0]
 have hk7 : Keeps (((((((w.alloc (.cells #[Value.string ⟨#[110]⟩, .int .i64 0, .string ⟨#[109]⟩, .int .i64 0] 83)).alloc (.cells #[.int .i64 0, .int .i64 1] 3)).alloc (.cells #[.int .i64 0] 3)).alloc (.cells #[.int .i64 1, .int .i64 0] 3)).alloc (.cells #[.int .i64 1] 3)).alloc (.cells #[.int .i64 1, .int .i64 0] 3)).alloc (.cells #[.int .i64 20, .int .i64 (-1), .slice (some ⟨w.heap.size + 1 + 1, 0, none⟩) 1 1, .int .i64 0, .int .i64 5, .int .i64 1, .slice (some ⟨w.heap.size + 1 + 1 + 1, 0, none⟩) 2 2, .int .i64 0, .int .i64 1, .int .i64 0, .slice (some ⟨w.heap.size + 1 + 1 + 1 + 1, 0, none⟩) 1 1, .int .i64 0, .int .i64 5, .int .i64 1, .slice (some ⟨w.heap.size + 1 + 1 + 1 + 1 + 1, 0, none⟩) 2 2, .int .i64 0] 43)) ((((((((w.alloc (.cells #[Value.string ⟨#[110]⟩, .int .i64 0, .string ⟨#[109]⟩, .int .i64 0] 83)).alloc (.cells #[.int .i64 0, .int .i64 1] 3)).alloc (.cells #[.int .i64 0] 3)).alloc (.cells #[.int .i64 1, .int .i64 0] 3)).alloc (.cells #[.int .i64 1] 3)).alloc (.cells #[.int .i64 1, .int .i64 0] 3)).alloc (.cells #[.int .i64 20, .int .i64 (-1), .slice (some ⟨w.heap.size + 1 + 1, 0, none⟩) 1 1, .int .i64 0, .int .i64 5, .int .i64 1, .slice (some ⟨w.heap.size + 1 + 1 + 1, 0, none⟩) 2 2, .int .i64 0, .int .i64 1, .int .i64 0, .slice (some ⟨w.heap.size + 1 + 1 + 1 + 1, 0, none⟩) 1 1, .int .i64 0, .int .i64 5, .int .i64 1, .slice (some ⟨w.heap.size + 1 + 1 + 1 + 1 + 1, 0, none⟩) 2 2, .int .i64 0] 43)).alloc (.cells #[.string ⟨#[97]⟩, .slice none 0 0, .slice (some ⟨w.heap.size + 1 + 1 + 1 + 1 + 1 + 1, 0, none⟩) 4 4, .int .i64 2, .int .i64 0, .int .i64 0, .int .i64 0] 38)) [] := (Keeps.refl _ []).alloc _
 have bb7 := Blk.new (((((((w.alloc (.cells #[Value.string ⟨#[110]⟩, .int .i64 0, .string ⟨#[109]⟩, .int .i64 0] 83)).alloc (.cells #[.int .i64 0, .int .i64 1] 3)).alloc (.cells #[.int .i64 0] 3)).alloc (.cells #[.int .i64 1, .int .i64 0] 3)).alloc (.cells #[.int .i64 1] 3)).alloc (.cells #[.int .i64 1, .int .i64 0] 3)).alloc (.cells #[.int .i64 20, .int .i64 (-1), .slice (some ⟨w.heap.size + 1 + 1, 0, none⟩) 1 1, .int .i64 0, .int .i64 5, .int .i64 1, .slice (some ⟨w.heap.size + 1 + 1 + 1, 0, none⟩) 2 2, .int .i64 0, .int .i64 1, .int .i64 0, .slice (some ⟨w.heap.size + 1 + 1 + 1 + 1, 0, none⟩) 1 1, .int .i64 0, .int .i64 5, .int .i64 1, .slice (some ⟨w.heap.size + 1 + 1 + 1 + 1 + 1, 0, none⟩) 2 2, .int .i64 0] 43)) 38 #[.string ⟨#[97]⟩, .slice none 0 0, .slice (some ⟨w.heap.size + 1 + 1 + 1 + 1 + 1 + 1, 0, none⟩) 4 4, .int .i64 2, .int .i64 0, .int .i64 0, .int .i64 0]
 have hk8 : Keeps ((((((((w.alloc (.cells #[Value.string ⟨#[110]⟩, .int .i64 0, .string ⟨#[109]⟩, .int .i64 0] 83)).alloc (.cells #[.int .i64 0, .int .i64 1] 3)).alloc (.cells #[.int .i64 0] 3)).alloc (.cells #[.int .i64 1, .int .i64 0] 3)).alloc (.cells #[.int .i64 1] 3)).alloc (.cells #[.int .i64 1, .int .i64 0] 3)).alloc (.cells #[.int .i64 20, .int .i64 (-1), .slice (some ⟨w.heap.size + 1 + 1, 0, none⟩) 1 1, .int .i64 0, .int .i64 5, .int .i64 1, .slice (some ⟨w.heap.size + 1 + 1 + 1, 0, none⟩) 2 2, .int .i64 0, .int .i64 1, .int .i64 0, .slice (some ⟨w.heap.size + 1 + 1 + 1 + 1, 0, none⟩) 1 1, .int .i64 0, .int .i64 5, .int .i64 1, .slice (some ⟨w.heap.size + 1 + 1 + 1 + 1 + 1, 0, none⟩) 2 2, .int .i64 0] 43)).alloc (.cells #[.string ⟨#[97]⟩, .slice none 0 0, .slice (some ⟨w.heap.size + 1 + 1 + 1 + 1 + 1 + 1, 0, none⟩) 4 4, .int .i64 2, .int .i64 0, .int .i64 0, .int .i64 0] 38)) (((((((((w.alloc (.cells #[Value.string ⟨#[110]⟩, .int .i64 0, .string ⟨#[109]⟩, .int .i64 0] 83)).alloc (.cells #[.int .i64 0, .int .i64 1] 3)).alloc (.cells #[.int .i64 0] 3)).alloc (.cells #[.int .i64 1, .int .i64 0] 3)).alloc (.cells #[.int .i64 1] 3)).alloc (.cells #[.int .i64 1, .int .i64 0] 3)).alloc (.cells #[.int .i64 20, .int .i64 (-1), .slice (some ⟨w.heap.size + 1 + 1, 0, none⟩) 1 1, .int .i64 0, .int .i64 5, .int .i64 1, .slice (some ⟨w.heap.size + 1 + 1 + 1, 0, none⟩) 2 2, .int .i64 0, .int .i64 1, .int .i64 0, .slice (some ⟨w.heap.size + 1 + 1 + 1 + 1, 0, none⟩) 1 1, .int .i64 0, .int .i64 5, .int .i64 1, .slice (some ⟨w.heap.size + 1 + 1 + 1 + 1 + 1, 0, none⟩) 2 2, .int .i64 0] 43)).alloc (.cells #[.string ⟨#[97]⟩, .slice none 0 0, .slice (some ⟨w.heap.size + 1 + 1 + 1 + 1 + 1 + 1, 0, none⟩) 4 4, .int .i64 2, .int .i64 0, .int .i64 0, .int .i64 0] 38)).alloc (.cells #[.slice (some ⟨w.heap.size, 0, none⟩) 2 2, .slice (some ⟨w.heap.size + 1, 0, none⟩) 2 2, .slice (some ⟨w.heap.size + 1 + 1 + 1 + 1 + 1 + 1 + 1, 0, none⟩) 1 1] 26)) [] := (Keeps.refl _ []).alloc _
 have bb8 := Blk.new ((((((((w.alloc (.cells #[Value.string ⟨#[110]⟩, .int .i64 0, .string ⟨#[109]⟩, .int .i64 0] 83)).alloc (.cells #[.int .i64 0, .int .i64 1] 3)).alloc (.cells #[.int .i64 0] 3)).alloc (.cells #[.int .i64 1, .int .i64 0] 3)).alloc (.cells #[.int .i64 1] 3)).alloc (.cells #[.int .i64 1, .int .i64 0] 3)).alloc (.cells #[.int .i64 20, .int .i64 (-1), .slice (some ⟨w.heap.size + 1 + 1, 0, none⟩) 1 1, .int .i64 0, .int .i64 5, .int .i64 1, .slice (some ⟨w.heap.size + 1 + 1 + 1, 0, none⟩) 2 2, .int .i64 0, .int .i64 1, .int .i64 0, .slice (some ⟨w.heap.size + 1 + 1 + 1 + 1, 0, none⟩) 1 1, .int .i64 0, .int .i64 5, .int .i64 1, .slice (some ⟨w.heap.size + 1 + 1 + 1 + 1 + 1, 0, none⟩) 2 2, .int .i64 0] 43)).alloc (.cells #[.string ⟨#[97]⟩, .slice none 0 0, .slice (some ⟨w.heap.size + 1 + 1 + 1 + 1 + 1 + 1, 0, none⟩) 4 4, .int .i64 2, .int .i64 0, .int .i64 0, .int .i64 0] 38)) 26 #[.slice (some ⟨w.heap.size, 0, none⟩) 2 2, .slice (some ⟨w.heap.size + 1, 0, none⟩) 2 2, .slice (some ⟨w.heap.size + 1 + 1 + 1 + 1 + 1 + 1 + 1, 0, none⟩) 1 1]
 have hs0 : w.heap.size = w.heap.size := rfl
 have hs1 : (w.alloc (.cells #[Value.string ⟨#[110]⟩, .int .i64 0, .string ⟨#[109]⟩, .int .i64 0] 83)).heap.size = w.heap.size + 1 := (show (Array.push _ _).size = _ from (Array.size_push _).trans (congrArg (fun z => z + 1) hs0))
 rw [hs1] at bb1
 have hs2 : ((w.alloc (.cells #[Value.string ⟨#[110]⟩, .int .i64 0, .string ⟨#[109]⟩, .int .i64 0] 83)).alloc (.cells #[.int .i64 0, .int .i64 1] 3)).heap.size = w.heap.size + 1 + 1 := (show (Array.push _ _).size = _ from (Array.size_push _).trans (congrArg (fun z => z + 1) hs1))
 rw [hs2] at bb2
 have hs3 : (((w.alloc (.cells #[Value.string ⟨#[110]⟩, .int .i64 0, .string ⟨#[109]⟩, .int .i64 0] 83)).alloc (.cells #[.int .i64 0, .int .i64 1] 3)).alloc (.cells #[.int .i64 0] 3)).heap.size = w.heap.size + 1 + 1 + 1 := (show (Array.push _ _).size = _ from (Array.size_push _).trans (congrArg (fun z => z + 1) hs2))
 rw [hs3] at bb3
 have hs4 : ((((w.alloc (.cells #[Value.string ⟨#[110]⟩, .int .i64 0, .string ⟨#[109]⟩, .int .i64 0] 83)).alloc (.cells #[.int .i64 0, .int .i64 1] 3)).alloc (.cells #[.int .i64 0] 3)).alloc (.cells #[.int .i64 1, .int .i64 0] 3)).heap.size = w.heap.size + 1 + 1 + 1 + 1 := (show (Array.push _ _).size = _ from (Array.size_push _).trans (congrArg (fun z => z + 1) hs3))
 rw [hs4] at bb4
 have hs5 : (((((w.alloc (.cells #[Value.string ⟨#[110]⟩, .int .i64 0, .string ⟨#[109]⟩, .int .i64 0] 83)).alloc (.cells #[.int .i64 0, .int .i64 1] 3)).alloc (.cells #[.int .i64 0] 3)).alloc (.cells #[.int .i64 1, .int .i64 0] 3)).alloc (.cells #[.int .i64 1] 3)).heap.size = w.heap.size + 1 + 1 + 1 + 1 + 1 := (show (Array.push _ _).size = _ from (Array.size_push _).trans (congrArg (fun z => z + 1) hs4))
 rw [hs5] at bb5
 have hs6 : ((((((w.alloc (.cells #[Value.string ⟨#[110]⟩, .int .i64 0, .string ⟨#[109]⟩, .int .i64 0] 83)).alloc (.cells #[.int .i64 0, .int .i64 1] 3)).alloc (.cells #[.int .i64 0] 3)).alloc (.cells #[.int .i64 1, .int .i64 0] 3)).alloc (.cells #[.int .i64 1] 3)).alloc (.cells #[.int .i64 1, .int .i64 0] 3)).heap.size = w.heap.size + 1 + 1 + 1 + 1 + 1 + 1 := (show (Array.push _ _).size = _ from (Array.size_push _).trans (congrArg (fun z => z + 1) hs5))
 rw [hs6] at bb6
 have hs7 : (((((((w.alloc (.cells #[Value.string ⟨#[110]⟩, .int .i64 0, .string ⟨#[109]⟩, .int .i64 0] 83)).alloc (.cells #[.int .i64 0, .int .i64 1] 3)).alloc (.cells #[.int .i64 0] 3)).alloc (.cells #[.int .i64 1, .int .i64 0] 3)).alloc (.cells #[.int .i64 1] 3)).alloc (.cells #[.int .i64 1, .int .i64 0] 3)).alloc (.cells #[.int .i64 20, .int .i64 (-1), .slice (some ⟨w.heap.size + 1 + 1, 0, none⟩) 1 1, .int .i64 0, .int .i64 5, .int .i64 1, .slice (some ⟨w.heap.size + 1 + 1 + 1, 0, none⟩) 2 2, .int .i64 0, .int .i64 1, .int .i64 0, .slice (some ⟨w.heap.size + 1 + 1 + 1 + 1, 0, none⟩) 1 1, .int .i64 0, .int .i64 5, .int .i64 1, .slice (some ⟨w.heap.size + 1 + 1 + 1 + 1 + 1, 0, none⟩) 2 2, .int .i64 0] 43)).heap.size = w.heap.size + 1 + 1 + 1 + 1 + 1 + 1 + 1 := (show (Array.push _ _).size = _ from (Array.size_push _).trans (congrArg (fun z => z + 1) hs6))
 rw [hs7] at bb7
 have hs8 : ((((((((w.alloc (.cells #[Value.string ⟨#[110]⟩, .int .i64 0, .string ⟨#[109]⟩, .int .i64 0] 83)).alloc (.cells #[.int .i64 0, .int .i64 1] 3)).alloc (.cells #[.int .i64 0] 3)).alloc (.cells #[.int .i64 1, .int .i64 0] 3)).alloc (.cells #[.int .i64 1] 3)).alloc (.cells #[.int .i64 1, .int .i64 0] 3)).alloc (.cells #[.int .i64 20, .int .i64 (-1), .slice (some ⟨w.heap.size + 1 + 1, 0, none⟩) 1 1, .int .i64 0, .int .i64 5, .int .i64 1, .slice (some ⟨w.heap.size + 1 + 1 + 1, 0, none⟩) 2 2, .int .i64 0, .int .i64 1, .int .i64 0, .slice (some ⟨w.heap.size + 1 + 1 + 1 + 1, 0, none⟩) 1 1, .int .i64 0, .int .i64 5, .int .i64 1, .slice (some ⟨w.heap.size + 1 + 1 + 1 + 1 + 1, 0, none⟩) 2 2, .int .i64 0] 43)).alloc (.cells #[.string ⟨#[97]⟩, .slice none 0 0, .slice (some ⟨w.heap.size + 1 + 1 + 1 + 1 + 1 + 1, 0, none⟩) 4 4, .int .i64 2, .int .i64 0, .int .i64 0, .int .i64 0] 38)).heap.size = w.heap.size + 1 + 1 + 1 + 1 + 1 + 1 + 1 + 1 := (show (Array.push _ _).size = _ from (Array.size_push _).trans (congrArg (fun z => z + 1) hs7))
 rw [hs8] at bb8
 have b0 := ((((((((bb0.keep hk1 (by simp)).keep hk2 (by simp)).keep hk3 (by simp)).keep hk4 (by simp)).keep hk5 (by simp)).keep hk6 (by simp)).keep hk7 (by simp)).keep hk8 (by simp))
 have b1 := (((((((bb1.keep hk2 (by simp)).keep hk3 (by simp)).keep hk4 (by simp)).keep hk5 (by simp)).keep hk6 (by simp)).keep hk7 (by simp)).keep hk8 (by simp))
 have b2 := ((((((bb2.keep hk3 (by simp)).keep hk4 (by simp)).keep hk5 (by simp)).keep hk6 (by simp)).keep hk7 (by simp)).keep hk8 (by simp))
 have b3 := (((((bb3.keep hk4 (by simp)).keep hk5 (by simp)).keep hk6 (by simp)).keep hk7 (by simp)).keep hk8 (by simp))
 have b4 := ((((bb4.keep hk5 (by simp)).keep hk6 (by simp)).keep hk7 (by simp)).keep hk8 (by simp))
 have b5 := (((bb5.keep hk6 (by simp)).keep hk7 (by simp)).keep hk8 (by simp))
 have b6 := ((bb6.keep hk7 (by simp)).keep hk8 (by simp))
 have b7 := (bb7.keep hk8 (by simp))
 have b8 := bb8
 have HK := kept ((((((((hk0.and_then hk1).and_then hk2).and_then hk3).and_then hk4).and_then hk5).and_then hk6).and_then hk7).and_then hk8)
 clear hs0 hs1 hs2 hs3 hs4 hs5 hs6 hs7 hs8 bb0 bb1 bb2 bb3 bb4 bb5 bb6 bb7 bb8 hk0 hk1 hk2 hk3 hk4 hk5 hk6 hk7 hk8
 have HF := kept (exG_at b0 b1 b2 b3 b4 b5 b6 b7)
 have HT := kept (ht.keep HK.out)
 have CP := kept (fun W (kW : Keeps _ W []) => places_any _ W (HT.out.keep kW) (HF.out.keep kW) (exG_few _ _ _ _ _ _ _ _))
 have CA := kept (fun W (kW : Keeps _ W []) => passed_any _ ((0 : Nat) : Int) ((1 : Nat) : Int) W (HT.out.keep kW) (HF.out.keep kW) (exG_few _ _ _ _ _ _ _ _))
 have CB := kept (fun W (kW : Keeps _ W []) => passed_any _ ((0 : Nat) : Int) ((3 : Nat) : Int) W (HT.out.keep kW) (HF.out.keep kW) (exG_few _ _ _ _ _ _ _ _))
 have LA := kept (exG_passed (w.heap.size) (w.heap.size + 1) (w.heap.size + 1 + 1) (w.heap.size + 1 + 1 + 1) (w.heap.size + 1 + 1 + 1 + 1) (w.heap.size + 1 + 1 + 1 + 1 + 1) (w.heap.size + 1 + 1 + 1 + 1 + 1 + 1) (w.heap.size + 1 + 1 + 1 + 1 + 1 + 1 + 1) 1 (by omega) true (by kernel_rfl))
 have LB := kept (exG_passed (w.heap.size) (w.heap.size + 1) (w.heap.size + 1 + 1) (w.heap.size + 1 + 1 + 1) (w.heap.size + 1 + 1 + 1 + 1) (w.heap.size + 1 + 1 + 1 + 1 + 1) (w.heap.size + 1 + 1 + 1 + 1 + 1 + 1) (w.heap.size + 1 + 1 + 1 + 1 + 1 + 1 + 1) 3 (by omega) false (by kernel_rfl))
 have LP := kept (exG_places (w.heap.size) (w.heap.size + 1) (w.heap.size + 1 + 1) (w.heap.size + 1 + 1 + 1) (w.heap.size + 1 + 1 + 1 + 1) (w.heap.size + 1 + 1 + 1 + 1 + 1) (w.heap.size + 1 + 1 + 1 + 1 + 1 + 1) (w.heap.size + 1 + 1 + 1 + 1 + 1 + 1 + 1))
 have HV9 : ((exG (w.heap.size) (w.heap.size + 1) (w.heap.size + 1 + 1) (w.heap.size + 1 + 1 + 1) (w.heap.size + 1 + 1 + 1 + 1) (w.heap.size + 1 + 1 + 1 + 1 + 1) (w.heap.size + 1 + 1 + 1 + 1 + 1 + 1) (w.heap.size + 1 + 1 + 1 + 1 + 1 + 1 + 1))).val = .agg #[.slice (some ⟨w.heap.size, 0, none⟩) 2 2, .slice (some ⟨w.heap.size + 1, 0, none⟩) 2 2, .slice (some ⟨w.heap.size + 1 + 1 + 1 + 1 + 1 + 1 + 1, 0, none⟩) 1 1] := rfl
 rw [HV9] at CP CA CB
 clear HV9
 generalize (exG (w.heap.size) (w.heap.size + 1) (w.heap.size + 1 + 1) (w.heap.size + 1 + 1 + 1) (w.heap.size + 1 + 1 + 1 + 1) (w.heap.size + 1 + 1 + 1 + 1 + 1) (w.heap.size + 1 + 1 + 1 + 1 + 1 + 1) (w.heap.size + 1 + 1 + 1 + 1 + 1 + 1 + 1)) = F at *
 have Bf := kept b8
 clear b0 b1 b2 b3 b4 b5 b6 b7 b8 HF ht
 have hte := fun w => two_eql 0 3 0 3 w
 go_enter Tryz.func8, Tryz.ntmps8
 go_upto_region 2 with (fail)
 generalize (((((((((w.alloc (.cells #[Value.string ⟨#[110]⟩, .int .i64 0, .string ⟨#[109]⟩, .int .i64 0] 83)).alloc (.cells #[.int .i64 0, .int .i64 1] 3)).alloc (.cells #[.int .i64 0] 3)).alloc (.cells #[.int .i64 1, .int .i64 0] 3)).alloc (.cells #[.int .i64 1] 3)).alloc (.cells #[.int .i64 1, .int .i64 0] 3)).alloc (.cells #[.int .i64 20, .int .i64 (-1), .slice (some ⟨w.heap.size + 1 + 1, 0, none⟩) 1 1, .int .i64 0, .int .i64 5, .int .i64 1, .slice (some ⟨w.heap.size + 1 + 1 + 1, 0, none⟩) 2 2, .int .i64 0, .int .i64 1, .int .i64 0, .slice (some ⟨w.heap.size + 1 + 1 + 1 + 1, 0, none⟩) 1 1, .int .i64 0, .int .i64 5, .int .i64 1, .slice (some ⟨w.heap.size + 1 + 1 + 1 + 1 + 1, 0, none⟩) 2 2, .int .i64 0] 43)).alloc (.cells #[.string ⟨#[97]⟩, .slice none 0 0, .slice (some ⟨w.heap.size + 1 + 1 + 1 + 1 + 1 + 1, 0, none⟩) 4 4, .int .i64 2, .int .i64 0, .int .i64 0, .int .i64 0] 38)).alloc (.cells #[.slice (some ⟨w.heap.size, 0, none⟩) 2 2, .slice (some ⟨w.heap.size + 1, 0, none⟩) 2 2, .slice (some ⟨w.heap.size + 1 + 1 + 1 + 1 + 1 + 1 + 1, 0, none⟩) 1 1] 26)) = W9 at *
 obtain ⟨l0, l1, l2⟩ := Bf.out.c3
 simp at l0 l1 l2
 have KX := kept (Keeps.refl W9 [])
 go_wp2_with (first | (go_at_call 17; have CPx := CP; clear CP; go_must (refine (CPx.out _ KX.out).mono ?_); rintro e w3 ⟨⟨pv, rfl, hpl⟩, k3⟩; obtain ⟨pb, pc, rfl, z0, z1⟩ := pl_one (show Row w3 2 pv ((placesL F).map prC) from hpl) LP.out; clear hpl CPx; clear l0 l1 l2; replace Bf := kept (Bf.out.keep k3 (by simp)); replace KX := kept (KX.out.and_then k3); obtain ⟨l0, l1, l2⟩ := Bf.out.c3; simp at l0 l1 l2; clear k3) | (go_at_call 10; have CAx := CA; clear CA; go_must (refine (CAx.out _ KX.out).mono ?_); rintro e w3 ⟨⟨pv2, rfl, hpl⟩, k3⟩; obtain ⟨qa1, qc1, rfl⟩ := ck_len hpl LA.out; clear hpl CAx; clear l0 l1 l2; replace Bf := kept (Bf.out.keep k3 (by simp)); replace KX := kept (KX.out.and_then k3); obtain ⟨l0, l1, l2⟩ := Bf.out.c3; simp at l0 l1 l2; clear k3; try clear z0 z1) | (go_at_call 10; have CBx := CB; clear CB; go_must (refine (CBx.out _ KX.out).mono ?_); rintro e w3 ⟨⟨pv3, rfl, hpl⟩, k3⟩; obtain ⟨qa2, qc2, rfl⟩ := ck_len hpl LB.out; clear hpl CBx; clear l0 l1 l2; replace Bf := kept (Bf.out.keep k3 (by simp)); replace KX := kept (KX.out.and_then k3); obtain ⟨l0, l1, l2⟩ := Bf.out.c3; simp at l0 l1 l2; clear k3))
 go_ret
 exact ⟨rfl, HK.out.and_then KX.out⟩
end Go.Proofs.YtjllbchfojonhaaGreatDoor
