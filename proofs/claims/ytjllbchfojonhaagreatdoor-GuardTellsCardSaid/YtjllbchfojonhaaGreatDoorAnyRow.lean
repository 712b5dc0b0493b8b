/- slices.IndexFunc, ContainsFunc over instructions and phis, with a predicate that may lay memory of its own; contracts. -/
import Derived.Test.YtjllbchfojonhaaGreatDoorB2
namespace Go.Proofs.YtjllbchfojonhaaGreatDoor
open Go.RowKit
set_option linter.unusedVariables false

/-- what is asked of a predicate over these -/
def Predinsts (g : Nat) (lb : Array Value) (p : InstM → Bool) (l : List InstM) (w : World) : Prop :=
 ∀ (W : World) (k : Nat), k < l.length → Keeps w W [] → Calls Tryz.prog g (#[.agg (l[k]!).cells.toArray] ++ lb) W fun e w' => e = .returned (.bool (p l[k]!)) ∧ Keeps W w' []
set_option maxHeartbeats 1000000 in
theorem index_insts (g : Nat) (lb : Array Value) (p : InstM → Bool) (v : Value) (l : List InstM) (w : World) (hq : Row w 4 v (l.map InstM.cells)) (hp : Predinsts g lb p l w) (eg : ∀ args w, (callFunc g args).run Tryz.prog w = .ok (.enter g args) w) :
  Calls Tryz.prog 121 #[v, .func (.func g) #[] lb] w fun e w' => e = .returned (.int .i64 (Lib.idxBy (fun _ y => p y) l default)) ∧ Keeps w w' [] := by
 obtain ⟨a, cap, rfl, hl, hm, hc0⟩ := hq.open_
 obtain ⟨n, hn⟩ : ∃ n, l.length = n := ⟨_, rfl⟩
 have HC := kept hc0
 rw [hn] at hl ⊢
 have HN := kept hn
 have HP := kept hp
 have hnI : (n : Int) ≤ 9223372036854775807 := by unfold maxLen at hm; omega
 clear hp hq hc0 hn
 go_enter Tryz.func121, Tryz.ntmps121
 go_wp2
 go_loopw [5, 8] (fun _ s8 wr => ∃ kk : Nat, kk ≤ n ∧ s8 = .int .i64 kk ∧ Keeps w wr [] ∧ Hid (∀ j, j < kk → p l[j]! = false)) (fun _ s8 _ => n - (intOf s8).toNat)
 case atStart => exact ⟨0, Nat.zero_le _, rfl, Keeps.refl w _, fun j hj => absurd hj (Nat.not_lt_zero _)⟩
 case round =>
  obtain ⟨kk, hkk, rfl, hk, A⟩ := hrel
  have HK := kept hk
  clear hk
  by_cases hlt : kk < n
  ·have hltz : (kk : Int) < (n : Int) := by omega
   have hlt' : kk < l.length := by rw [HN.out]; exact hlt
   obtain ⟨b, off, rfl, hb, hc⟩ := HC.out kk hlt'
   have hcall := HP.out wr kk hlt' HK.out
   clear HC HP
   generalize hy : l[kk]! = y at hc hcall
   have B := kept hy
   clear hy
   have l0 := HK.out.cellOf (hc 0 _ rfl)
   have l1 := HK.out.cellOf (hc 1 _ rfl)
   have l2 := HK.out.cellOf (hc 2 _ rfl)
   have l3 := HK.out.cellOf (hc 3 _ rfl)
   simp only [Nat.add_zero] at l0
   simp only [InstM.cells] at hcall
   cases hq : p y with
   | true =>
    rw [hq] at hcall
    have CC := kept hcall
    clear hcall hc
    go_wp2_with (go_at_fn g; refine (CC.out).mono ?_; rintro e w' ⟨rfl, hb'⟩)
    go_ret
    refine ⟨?_, HK.out.and_then hb'⟩
    have h9 := Lib.idxBy_hit (fun _ y => p y) l n kk default hlt (by rw [HN.out]; omega) (by show p l[kk]! = true; rw [B.out]; exact hq) A.out
    rw [← HN.out, List.take_length] at h9
    rw [h9]
    rfl
   | false =>
    rw [hq] at hcall
    have CC := kept hcall
    clear hcall hc
    go_wp2_with (go_at_fn g; refine (CC.out).mono ?_; rintro e w' ⟨rfl, hb'⟩)
    have HB := kept hb'
    clear hb'
    go_roundw
    case rel =>
     refine ⟨kk + 1, by omega, by go_num, HK.out.and_then HB.out, (show Hid _ from fun j hj => ?_)⟩
     by_cases e : j = kk
     ·subst e
      rw [B.out]; exact hq
     ·exact A.out j (by omega)
    case measure => simp [intOf]; omega
  ·have hltz : ¬ (kk : Int) < (n : Int) := by omega
   have : kk = n := by omega
   subst this
   go_wp2
   go_ret
   refine ⟨?_, HK.out⟩
   have h9 := Lib.idxBy_miss (fun _ y => p y) l kk default A.out
   rw [← HN.out, List.take_length] at h9
   exact congrArg (fun z : Int => Ending.returned (Value.int .i64 z)) h9.symm
theorem any_insts (g : Nat) (lb : Array Value) (p : InstM → Bool) (v : Value) (l : List InstM) (w : World) (hq : Row w 4 v (l.map InstM.cells)) (hp : Predinsts g lb p l w) (eg : ∀ args w, (callFunc g args).run Tryz.prog w = .ok (.enter g args) w) :
  Calls Tryz.prog 89 #[v, .func (.func g) #[] lb] w fun e w' => e = .returned (.bool (l.any p)) ∧ Keeps w w' [] := by
 have C := kept (index_insts g lb p v l w hq hp eg)
 obtain ⟨a, cap, rfl, _, _, _⟩ := hq.open_
 have hx := Lib.idxBy_nonneg_iff (fun _ y => p y) l default
 rw [← hx]
 generalize Lib.idxBy (fun _ y => p y) l default = z at *
 generalize l.length = n at *
 clear hx hq hp
 by_cases h0 : 0 ≤ z
 all_goals
  go_enter Tryz.func89, Tryz.ntmps89
  go_wp2_with (refine (C.out).mono ?_; rintro e w' ⟨rfl, k⟩; have K := kept k; clear k)
  go_ret
  exact ⟨ret_bool (by simp [h0]), K.out⟩

/-- what is asked of a predicate over these -/
def Predphis (g : Nat) (lb : Array Value) (p : PhiM → Bool) (l : List PhiM) (w : World) : Prop :=
 ∀ (W : World) (k : Nat), k < l.length → Keeps w W [] → Calls Tryz.prog g (#[.agg (l[k]!).cells.toArray] ++ lb) W fun e w' => e = .returned (.bool (p l[k]!)) ∧ Keeps W w' []
set_option maxHeartbeats 1000000 in
theorem index_phis (g : Nat) (lb : Array Value) (p : PhiM → Bool) (v : Value) (l : List PhiM) (w : World) (hq : Row w 3 v (l.map PhiM.cells)) (hp : Predphis g lb p l w) (eg : ∀ args w, (callFunc g args).run Tryz.prog w = .ok (.enter g args) w) :
  Calls Tryz.prog 116 #[v, .func (.func g) #[] lb] w fun e w' => e = .returned (.int .i64 (Lib.idxBy (fun _ y => p y) l default)) ∧ Keeps w w' [] := by
 obtain ⟨a, cap, rfl, hl, hm, hc0⟩ := hq.open_
 obtain ⟨n, hn⟩ : ∃ n, l.length = n := ⟨_, rfl⟩
 have HC := kept hc0
 rw [hn] at hl ⊢
 have HN := kept hn
 have HP := kept hp
 have hnI : (n : Int) ≤ 9223372036854775807 := by unfold maxLen at hm; omega
 clear hp hq hc0 hn
 go_enter Tryz.func116, Tryz.ntmps116
 go_wp2
 go_loopw [5, 8] (fun _ s8 wr => ∃ kk : Nat, kk ≤ n ∧ s8 = .int .i64 kk ∧ Keeps w wr [] ∧ Hid (∀ j, j < kk → p l[j]! = false)) (fun _ s8 _ => n - (intOf s8).toNat)
 case atStart => exact ⟨0, Nat.zero_le _, rfl, Keeps.refl w _, fun j hj => absurd hj (Nat.not_lt_zero _)⟩
 case round =>
  obtain ⟨kk, hkk, rfl, hk, A⟩ := hrel
  have HK := kept hk
  clear hk
  by_cases hlt : kk < n
  ·have hltz : (kk : Int) < (n : Int) := by omega
   have hlt' : kk < l.length := by rw [HN.out]; exact hlt
   obtain ⟨b, off, rfl, hb, hc⟩ := HC.out kk hlt'
   have hcall := HP.out wr kk hlt' HK.out
   clear HC HP
   generalize hy : l[kk]! = y at hc hcall
   have B := kept hy
   clear hy
   have l0 := HK.out.cellOf (hc 0 _ rfl)
   have l1 := HK.out.cellOf (hc 1 _ rfl)
   have l2 := HK.out.cellOf (hc 2 _ rfl)
   simp only [Nat.add_zero] at l0
   simp only [PhiM.cells] at hcall
   cases hq : p y with
   | true =>
    rw [hq] at hcall
    have CC := kept hcall
    clear hcall hc
    go_wp2_with (go_at_fn g; refine (CC.out).mono ?_; rintro e w' ⟨rfl, hb'⟩)
    go_ret
    refine ⟨?_, HK.out.and_then hb'⟩
    have h9 := Lib.idxBy_hit (fun _ y => p y) l n kk default hlt (by rw [HN.out]; omega) (by show p l[kk]! = true; rw [B.out]; exact hq) A.out
    rw [← HN.out, List.take_length] at h9
    rw [h9]
    rfl
   | false =>
    rw [hq] at hcall
    have CC := kept hcall
    clear hcall hc
    go_wp2_with (go_at_fn g; refine (CC.out).mono ?_; rintro e w' ⟨rfl, hb'⟩)
    have HB := kept hb'
    clear hb'
    go_roundw
    case rel =>
     refine ⟨kk + 1, by omega, by go_num, HK.out.and_then HB.out, (show Hid _ from fun j hj => ?_)⟩
     by_cases e : j = kk
     ·subst e
      rw [B.out]; exact hq
     ·exact A.out j (by omega)
    case measure => simp [intOf]; omega
  ·have hltz : ¬ (kk : Int) < (n : Int) := by omega
   have : kk = n := by omega
   subst this
   go_wp2
   go_ret
   refine ⟨?_, HK.out⟩
   have h9 := Lib.idxBy_miss (fun _ y => p y) l kk default A.out
   rw [← HN.out, List.take_length] at h9
   exact congrArg (fun z : Int => Ending.returned (Value.int .i64 z)) h9.symm
theorem any_phis (g : Nat) (lb : Array Value) (p : PhiM → Bool) (v : Value) (l : List PhiM) (w : World) (hq : Row w 3 v (l.map PhiM.cells)) (hp : Predphis g lb p l w) (eg : ∀ args w, (callFunc g args).run Tryz.prog w = .ok (.enter g args) w) :
  Calls Tryz.prog 86 #[v, .func (.func g) #[] lb] w fun e w' => e = .returned (.bool (l.any p)) ∧ Keeps w w' [] := by
 have C := kept (index_phis g lb p v l w hq hp eg)
 obtain ⟨a, cap, rfl, _, _, _⟩ := hq.open_
 have hx := Lib.idxBy_nonneg_iff (fun _ y => p y) l default
 rw [← hx]
 generalize Lib.idxBy (fun _ y => p y) l default = z at *
 generalize l.length = n at *
 clear hx hq hp
 by_cases h0 : 0 ≤ z
 all_goals
  go_enter Tryz.func86, Tryz.ntmps86
  go_wp2_with (refine (C.out).mono ?_; rintro e w' ⟨rfl, k⟩; have K := kept k; clear k)
  go_ret
  exact ⟨ret_bool (by simp [h0]), K.out⟩
end Go.Proofs.YtjllbchfojonhaaGreatDoor
