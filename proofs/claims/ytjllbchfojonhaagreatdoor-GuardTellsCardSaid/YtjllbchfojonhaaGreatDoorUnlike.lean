/- Package print: unlike; contract. -/
import Derived.Test.YtjllbchfojonhaaGreatDoorShape
import Derived.Test.YtjllbchfojonhaaGreatDoorMapStr
namespace Go.Proofs.YtjllbchfojonhaaGreatDoor
open Go.RowKit
set_option linter.unusedVariables false

def strCells (s : ByteArray) : List Value := [.string s]
def okN (l : List ByteArray) (k : Nat) : Bool := nameB l[k]! && allR k fun j => !decide (l[j]! = l[k]!)
theorem okN_in {l : List ByteArray} {k : Nat} (hk : k ≤ l.length) (h : l[k]! ∈ l.take k) : okN l k = false := by
 obtain ⟨j, hj, e⟩ := (take_mem hk).1 h
 unfold okN
 rw [allR_no hj (by rw [decide_eq_true e]; rfl), Bool.and_false]
theorem okN_out {l : List ByteArray} {k : Nat} (hk : k ≤ l.length) (h0 : nameB l[k]! = true) (h : ¬ l[k]! ∈ l.take k) : okN l k = true := by
 unfold okN
 rw [h0, Bool.true_and]
 exact allR_yes fun j hj => by rw [decide_eq_false (fun e => h ((take_mem hk).2 ⟨j, hj, e⟩))]; rfl
theorem ty107 : Tryz.prog.underlying 199 = some (.map 9 3) := Tryz.underlying199
theorem zero3 (w : World) : (zeroValue 3).run Tryz.prog w = .ok (.int .i64 0) w := by kernel_rfl
set_option maxRecDepth 100000 in
set_option maxHeartbeats 1000000 in
theorem unlike_any (v : Value) (l : List ByteArray) (w : World) (ht : Tabs w) (hv : Row w 1 v (l.map strCells)) (hs : ∀ s ∈ l, s.size ≤ maxLen) : Calls Tryz.prog 115 #[v] w fun e w' => e = .returned (.bool (unlikeB l)) ∧ Keeps w w' [] := by
 obtain ⟨a, cap, rfl, hl, hm, hc⟩ := hv.open_
 obtain ⟨n, hn⟩ : ∃ n, l.length = n := ⟨_, rfl⟩
 have HC := kept hc
 have HT := kept ht
 have HS := kept hs
 rw [hn] at hl ⊢
 have HN := kept hn
 have hnI : (n : Int) ≤ 9223372036854775807 := by unfold maxLen at hm; omega
 have HB := kept (show unlikeB l = allR n (okN l) by unfold unlikeB; rw [hn]; rfl)
 have hmm := @run_makeMap Tryz.prog
 have h0 := kept (MapOf.new w)
 have hk0 := kept ((Keeps.refl w []).alloc (.map #[] 0))
 clear hc hv ht hs hn
 generalize unlikeB l = U at *
 go_enter Tryz.func115, Tryz.ntmps115
 go_wp2
 generalize w.alloc (.map #[] 0) = W0 at *
 obtain ⟨b, hb⟩ : ∃ b, w.heap.size = b := ⟨_, rfl⟩
 have HBb := kept hb
 rw [hb] at h0
 simp only [hb]
 clear hb
 go_loopw [9] (fun i wr => ∃ k : Nat, k ≤ n ∧ i = .int .i64 k ∧ Hid (MapOf wr b (l.take k)) ∧ Keeps w wr [] ∧ Hid (∀ j, j < k → okN l j = true)) (fun i _ => n - (intOf i).toNat)
 case atStart => exact ⟨0, Nat.zero_le _, rfl, (by simpa using h0), hk0.out, fun j hj => absurd hj (Nat.not_lt_zero _)⟩
 case round =>
  obtain ⟨k, hk, rfl, HM, hK, A⟩ := hrel
  have HK := kept hK
  clear hK h0 hk0
  by_cases hlt : k < n
  ·have hltz : (k : Int) < (n : Int) := by omega
   obtain ⟨bb, off, rfl, hbl, hcell⟩ := HC.out k (by rw [HN.out]; exact hlt)
   have l0 := HK.out.cellOf (hcell 0 _ rfl)
   simp only [Nat.add_zero, Nat.mul_one] at l0
   have hsz := HS.out _ (bang_mem (l := l) (k := k) (by rw [HN.out]; exact hlt))
   clear HC hcell
   have hsnoc : l.take (k + 1) = l.take k ++ [l[k]!] := by
    rw [List.take_succ_eq_append_getElem (by rw [HN.out]; exact hlt), getElem!_pos l k (by rw [HN.out]; exact hlt)]
   have HSn := kept hsnoc
   clear hsnoc
   generalize hy : l[k]! = y at *
   have HY := kept hy
   clear hy
   have CN := kept (name_any y wr (HT.out.keep HK.out) (by unfold maxLen at hsz; omega))
   cases hq : nameB y with
   | false =>
    rw [hq] at CN
    have HU := kept (HB.out.trans (allR_no hlt (by unfold okN; rw [HY.out, hq]; rfl)))
    clear hq
    go_wp2_with (refine (CN.out).mono ?_; rintro e w2 ⟨rfl, k2⟩; have K2 := kept k2; clear k2)
    go_ret
    exact ⟨ret_bool (by rw [HU.out]), HK.out.and_then K2.out⟩
   | true =>
    rw [hq] at CN
    by_cases hin : y ∈ l.take k
    ·have HU := kept (HB.out.trans (allR_no hlt (okN_in (by rw [HN.out]; omega) (by rw [HY.out]; exact hin))))
     clear hq
     have HIn := kept hin
     clear hin
     go_wp2_with (refine (CN.out).mono ?_; rintro e w2 ⟨rfl, k2⟩; have hlook := look_yes ty107 Tryz.underlying9 (HM.out.keep k2 (by simp)) HIn.out; have K2 := kept k2; clear k2)
     go_ret
     exact ⟨ret_bool (by rw [HU.out]), HK.out.and_then K2.out⟩
    ·have HIn := kept hin
     have HOk := kept (okN_out (by rw [HN.out]; omega) (by rw [HY.out]; exact hq) (by rw [HY.out]; exact hin))
     clear hq hin
     go_wp2_with (refine (CN.out).mono ?_; rintro e w2 ⟨rfl, k2⟩; have hlook := look_no ty107 Tryz.underlying9 zero3 (HM.out.keep k2 (by simp)) HIn.out; obtain ⟨w3, hput, hm3, k3⟩ := put_any ty107 Tryz.underlying9 y (HM.out.keep k2 (by simp)); have M3 := kept hm3; have K2 := kept (HK.out.and_then k2); have K3 := kept (k3); clear k2 k3 hm3)
     go_roundw
     case rel =>
      refine ⟨k + 1, by omega, by go_num, (show Hid _ by rw [Hid]; rw [HSn.out]; exact M3.out), ?_, (show Hid _ from fun j hj => ?_)⟩
      ·have := K2.out.trans K3.out
       exact this.mono (fun i hi => .inr (by simp at hi; rw [hi, ← HBb.out]; exact Nat.le_refl _))
      ·by_cases e : j = k
       ·subst e; exact HOk.out
       ·exact A.out j (by omega)
     case measure => simp [intOf]; omega
  ·have hltz : ¬ (k : Int) < (n : Int) := by omega
   obtain rfl : k = n := by omega
   have HU := kept (HB.out.trans (allR_yes A.out))
   go_wp2
   go_ret
   exact ⟨ret_bool (by rw [HU.out]), HK.out⟩
end Go.Proofs.YtjllbchfojonhaaGreatDoor
