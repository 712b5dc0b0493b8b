/- slices.IndexFunc, ContainsFunc over numbers, with a predicate whose contract holds at the list's members; contracts. -/
import Derived.Test.YtjllbchfojonhaaGreatDoorB2
namespace Go.Proofs.YtjllbchfojonhaaGreatDoor
open Go.RowKit
set_option linter.unusedVariables false

/-- what is asked of a predicate over these numbers -/
def PredIntL (g : Nat) (lb : Array Value) (p : Int → Bool) (l : List Int) (w : World) : Prop :=
 ∀ (W : World) (k : Nat), k < l.length → Keeps w W [] → Calls Tryz.prog g (#[.int .i64 l[k]!] ++ lb) W fun e w' => e = .returned (.bool (p l[k]!)) ∧ Keeps W w' []

theorem index_intsL (g : Nat) (lb : Array Value) (p : Int → Bool) (q : IntsM) (w : World) (hq : IntsAt w q) (hp : PredIntL g lb p q.2 w) (eg : ∀ args w, (callFunc g args).run Tryz.prog w = .ok (.enter g args) w) :
  Calls Tryz.prog 124 #[q.1, .func (.func g) #[] lb] w fun e w' => e = .returned (.int .i64 (Lib.idxBy (fun _ y => p y) q.2 default)) ∧ Keeps w w' [] := by
 obtain ⟨a, cap, e1, hl, hm, hc⟩ := hq.open_
 rw [e1]
 obtain ⟨v, l⟩ := q
 simp only at hl hc ⊢
 obtain ⟨n, hn⟩ : ∃ n, l.length = n := ⟨_, rfl⟩
 rw [hn] at hl hc ⊢
 have HN := kept hn
 clear e1 hq
 have HP := kept hp
 have hnI : (n : Int) ≤ 9223372036854775807 := by unfold maxLen at hm; omega
 clear hp
 go_enter Tryz.func124, Tryz.ntmps124
 go_wp2
 go_loopw [5, 8] (fun _ s8 wr => ∃ kk : Nat, kk ≤ n ∧ s8 = .int .i64 kk ∧ Keeps w wr [] ∧ Hid (∀ j, j < kk → p l[j]! = false)) (fun _ s8 _ => n - (intOf s8).toNat)
 case atStart => exact ⟨0, Nat.zero_le _, rfl, Keeps.refl w _, fun j hj => absurd hj (Nat.not_lt_zero _)⟩
 case round =>
  obtain ⟨kk, hkk, rfl, hk, A⟩ := hrel
  have HK := kept hk
  clear hk
  by_cases hlt : kk < n
  ·have hltz : (kk : Int) < (n : Int) := by omega
   rcases hc with hc | ⟨b, off, rfl, hb, hc⟩
   ·omega
   have l2 := HK.out.cellOf (hc kk hlt)
   have hcall := HP.out wr kk (by rw [HN.out]; exact hlt) HK.out
   generalize hy : l[kk]! = y at l2 hcall
   have B := kept hy
   clear hy hc
   cases hq : p y with
   | true =>
    rw [hq] at hcall
    have CC := kept hcall
    clear hcall
    go_wp2_with (go_at_fn g; refine (CC.out).mono ?_; rintro e w' ⟨rfl, hb'⟩)
    go_ret
    refine ⟨?_, HK.out.and_then hb'⟩
    have h9 := Lib.idxBy_hit (fun _ y => p y) l n kk default hlt (by omega) (by show p l[kk]! = true; rw [B.out]; exact hq) A.out
    rw [← hn, List.take_length] at h9
    rw [h9]
    rfl
   | false =>
    rw [hq] at hcall
    have CC := kept hcall
    clear hcall
    go_wp2_with (go_at_fn g; refine (CC.out).mono ?_; rintro e w' ⟨rfl, hb'⟩)
    have HB := kept hb'
    clear hb'
    go_roundw
    case rel =>
     refine ⟨kk + 1, by omega, by go_num, HK.out.and_then HB.out, (show Hid _ from fun j hj => ?_)⟩
     by_cases e : j = kk
     ·subst e
      rw [B.out]; exact hq
     ·exact A.out j (by omega)
    case measure => simp [intOf]; omega
  ·have hltz : ¬ (kk : Int) < (n : Int) := by omega
   have : kk = n := by omega
   subst this
   go_wp2
   go_ret
   refine ⟨?_, HK.out⟩
   have h9 := Lib.idxBy_miss (fun _ y => p y) l kk default A.out
   rw [← hn, List.take_length] at h9
   exact congrArg (fun z : Int => Ending.returned (Value.int .i64 z)) h9.symm
theorem any_intsL (g : Nat) (lb : Array Value) (p : Int → Bool) (q : IntsM) (w : World) (hq : IntsAt w q) (hp : PredIntL g lb p q.2 w) (eg : ∀ args w, (callFunc g args).run Tryz.prog w = .ok (.enter g args) w) :
  Calls Tryz.prog 93 #[q.1, .func (.func g) #[] lb] w fun e w' => e = .returned (.bool (q.2.any p)) ∧ Keeps w w' [] := by
 have C := kept (index_intsL g lb p q w hq hp eg)
 have hx := Lib.idxBy_nonneg_iff (fun _ y => p y) q.2 default
 rw [← hx]
 generalize Lib.idxBy (fun _ y => p y) q.2 default = z at *
 clear hx hq hp
 obtain ⟨v, l⟩ := q
 simp only at C ⊢
 by_cases h0 : 0 ≤ z
 all_goals
  go_enter Tryz.func93, Tryz.ntmps93
  go_wp2_with (refine (C.out).mono ?_; rintro e w' ⟨rfl, k⟩; have K := kept k; clear k)
  go_ret
  exact ⟨ret_bool (by simp [h0]), K.out⟩
end Go.Proofs.YtjllbchfojonhaaGreatDoor
