/- The document's Number: its contract. -/
import Derived.Test.YthcdibpajdnjaaaDoorMem
import Derived.Test.YthcdibpajdnjaaaDoorText
import Derived.Test.YthcdibpajdnjaaaDoorNum
import Derived.Test.YthcdibpajdnjaaaDoorChecked
import Derived.Lib.ValidAsc
namespace Go.Proofs.YthcdibpajdnjaaaDoor
open Go.RowKit
set_option linter.unusedVariables false

theorem take_snoc' (s : ByteArray) (k : Nat) (h : k < s.size) : s.data.toList.take (k + 1) = s.data.toList.take k ++ [s[k]'h] := by
  rw [List.take_succ_eq_append_getElem (by rw [← Lib.size_eq]; exact h)]; rfl
theorem head_of (s : ByteArray) (h : 0 < s.size) : s.data.toList.head? = some (s[0]'h) := by
  have h1 : s.data.toList[0]? = some (s[0]'h) := by
    rw [List.getElem?_eq_getElem (by rw [← Lib.size_eq]; exact h)]
    rfl
  rw [← h1, List.head?_eq_getElem?]
theorem numB_bad {neg : Bool} {d : List UInt8} (h : d = [] ∨ 19 < d.length ∨ (d.head? = some 48 ∧ (1 < d.length ∨ neg = true))) : numB neg d = (0, false) := if_pos h
theorem numB_nodig {neg : Bool} {d : List UInt8} (h : digs d = false) : numB neg d = (0, false) := by
  unfold numB
  split
  · rfl
  · first
      | rw [if_pos h]
      | rfl
theorem numB_neg {d : List UInt8} (h : ¬(d = [] ∨ 19 < d.length ∨ (d.head? = some 48 ∧ (1 < d.length ∨ true = true)))) (hd : digs d = true) : numB true d = if val 0 d ≤ 9223372036854775808 then (-(val 0 d : Int), true) else (0, false) := by
  unfold numB
  rw [if_neg h, if_neg (by rw [hd]; simp), if_pos rfl]
theorem numB_pos {d : List UInt8} (h : ¬(d = [] ∨ 19 < d.length ∨ (d.head? = some 48 ∧ (1 < d.length ∨ false = true)))) (hd : digs d = true) : numB false d = if val 0 d < 9223372036854775808 then ((val 0 d : Int), true) else (0, false) := by
  unfold numB
  rw [if_neg h, if_neg (by rw [hd]; simp), if_neg (by simp)]
theorem digs_at (s : ByteArray) (k : Nat) (h : k < s.size) (hb : ¬(48 ≤ (s[k]'h).toNat ∧ (s[k]'h).toNat ≤ 57)) : digs s.data.toList = false := by
  unfold digs
  rw [List.all_eq_false]
  exact ⟨s[k]'h, Array.getElem_mem_toList (xs := s.data) h, by simpa [isDig] using hb⟩
theorem not_empty {s : ByteArray} (h : s.size ≠ 0) : s.toList.isEmpty = false := by
  rw [ByteArray.toList_eq]
  cases hd : s.data.toList with
  | nil => exact absurd (by rw [← ByteArray.size_data, ← Array.length_toList, hd]; rfl) h
  | cons a l => rfl

set_option maxRecDepth 100000 in
set_option maxHeartbeats 4000000 in
theorem refNumber_tail (s D : ByteArray) (B : Bool) (w : World) (hs : s.size ≤ 60) (hsp : 0 < s.size) (hB : (((s[0]'hsp).toNat : Int) == 45) = B) (hD : (B = true ∧ s.extract 1 s.size = D) ∨ (B = false ∧ s = D)) :
    Calls Tryd.prog 16 #[.string s] w fun e w' => e = .returned (.tuple #[.int .i64 (numB B D.data.toList).1, .bool (numB B D.data.toList).2]) ∧ w = w' := by
  have hem := not_empty (s := s) (by omega)
  have hs1 : (1 : Int) ≤ (s.size : Int) := by omega
  have hDs : D.size ≤ 60 := by
    rcases hD with ⟨_, h⟩ | ⟨_, h⟩
    · rw [← h, Lib.ext_size]; omega
    · rw [← h]; exact hs
  by_cases hz : D.size = 0
  · have hDe : D = ⟨#[]⟩ := ByteArray.ext (Array.eq_empty_of_size_eq_zero hz)
    rcases hD with ⟨rfl, h⟩ | ⟨rfl, h⟩
    · subst hDe
      have H := kept (numB_bad (neg := true) (d := (⟨#[]⟩ : ByteArray).data.toList) (.inl rfl))
      rw [H.out]
      clear hz hDs H
      go_enter Tryd.func16, Tryd.ntmps16
      go_wp2
      go_ret2
      exact ⟨rfl, rfl⟩
    · exact absurd (h ▸ hz) (by omega)
  have hemD := not_empty hz
  have hDp : 0 < D.size := by omega
  have hne : D.data.toList ≠ [] := by rw [← List.length_pos_iff, ← Lib.size_eq]; exact hDp
  by_cases hl : 19 < D.size
  · have hlI : decide ((19 : Int) < (D.size : Int)) = true := by simp; omega
    have H := kept (numB_bad (neg := B) (d := D.data.toList) (.inr (.inl (by rw [← Lib.size_eq]; exact hl))))
    rw [H.out]
    clear H hl hz hne
    rcases hD with ⟨rfl, hD⟩ | ⟨rfl, rfl⟩
    all_goals
      go_enter Tryd.func16, Tryd.ntmps16
      go_wp2
      go_ret2
      exact ⟨rfl, rfl⟩
  have hlI : decide ((19 : Int) < (D.size : Int)) = false := by simp; omega
  obtain ⟨Z, hZ⟩ : ∃ Z, (((D[0]'hDp).toNat : Int) == 48) = Z := ⟨_, rfl⟩
  obtain ⟨O, hO⟩ : ∃ O, decide ((1 : Int) < (D.size : Int)) = O := ⟨_, rfl⟩
  have hhead : D.data.toList.head? = some 48 ↔ Z = true := by
    rw [head_of D hDp, ← hZ]
    simp
    constructor
    · intro h; rw [h]; rfl
    · intro h; exact UInt8.toNat_inj.1 (by simpa using (by omega : (D[0]'hDp).toNat = 48))
  have hone : 1 < D.data.toList.length ↔ O = true := by
    rw [← Lib.size_eq, ← hO]
    simp
    omega
  by_cases hbad : Z = true ∧ (O = true ∨ B = true)
  · have H := kept (numB_bad (neg := B) (d := D.data.toList) (.inr (.inr ⟨hhead.2 hbad.1, hbad.2.imp hone.2 id⟩)))
    rw [H.out]
    obtain ⟨rfl, hOB⟩ := hbad
    clear H hl hz hne hhead hone
    rcases hD with ⟨rfl, hD⟩ | ⟨rfl, rfl⟩ <;> cases O
    all_goals first
      | (exfalso; simp at hOB; done)
      | (clear hOB
         go_enter Tryd.func16, Tryd.ntmps16
         go_wp2
         go_ret2
         exact ⟨rfl, rfl⟩)
  have hok : ¬(D.data.toList = [] ∨ 19 < D.data.toList.length ∨ (D.data.toList.head? = some 48 ∧ (1 < D.data.toList.length ∨ B = true))) := by
    rintro (h | h | ⟨h1, h2⟩)
    · exact hne h
    · rw [← Lib.size_eq] at h; omega
    · exact hbad ⟨hhead.1 h1, h2.imp hone.1 id⟩
  have HOK := kept hok
  have HBAD := kept hbad
  clear hok hbad hhead hone hne hz
  have hD2 : D = s ∧ B = false ∨ B = true ∧ s.extract 1 s.size = D := by
    rcases hD with h | ⟨h1, h2⟩
    · exact .inr h
    · exact .inl ⟨h2.symm, h1⟩
  clear hD
  have hd19 : D.size ≤ 19 := by omega
  clear hl
  obtain ⟨R, hR⟩ : ∃ R, numB B D.data.toList = R := ⟨_, rfl⟩
  have HR := kept hR
  rw [hR]
  clear hR
  rcases hD2 with ⟨hDs2, rfl⟩ | ⟨rfl, hD⟩
  · subst hDs2
    cases Z <;> cases O
    all_goals try (exfalso; exact HBAD.out ⟨rfl, .inl rfl⟩)
    all_goals
      go_enter Tryd.func16, Tryd.ntmps16
      go_wp2
      go_loop [6, 41] (fun x i => ∃ k : Nat, k ≤ D.size ∧ i = .int .i64 k ∧ x = .int .u64 (val 0 (D.data.toList.take k)) ∧ Hid (digs (D.data.toList.take k) = true)) (fun _ i => D.size - (intOf i).toNat)
      case atStart => exact ⟨0, by omega, rfl, by simp [val_nil], rfl⟩
      case round =>
        obtain ⟨k, hk, rfl, rfl, HG⟩ := hrel
        have hlk : (D.data.toList.take k).length = k := by rw [List.length_take, ← Lib.size_eq]; omega
        by_cases hlt : k < D.size
        · have hv18 := val_18 HG.out (by omega)
          have hvs := val_snoc (D.data.toList.take k) (D[k]'hlt) 0
          rw [← take_snoc' D k hlt] at hvs
          have HS := kept hvs
          have HDs : Hid (∀ h : 48 ≤ (D[k]'hlt).toNat ∧ (D[k]'hlt).toNat ≤ 57, digs (D.data.toList.take (k + 1)) = true) := fun h => by
            rw [take_snoc' D k hlt]
            exact digs_snoc.2 ⟨HG.out, h⟩
          have HBd : Hid (∀ h : ¬(48 ≤ (D[k]'hlt).toNat ∧ (D[k]'hlt).toNat ≤ 57), R = (0, false)) := fun h => by
            rw [← HR.out]
            exact numB_nodig (digs_at D k hlt h)
          clear hvs hlk
          generalize hx : val 0 (D.data.toList.take k) = x at *
          generalize hc : D[k]'hlt = c at *
          have hcl := c.toNat_lt
          by_cases c1 : (c.toNat : Int) < 48
          · have e := HBd.out (by omega)
            subst e
            go_wp2
            go_ret2
            exact ⟨rfl, rfl⟩
          · by_cases c2 : (57 : Int) < (c.toNat : Int)
            · have e := HBd.out (by omega)
              subst e
              go_wp2
              go_ret2
              exact ⟨rfl, rfl⟩
            · go_wp2
              go_round
              case rel => exact ⟨k + 1, by omega, by go_num, by rw [HS.out]; go_num, HDs.out ⟨by omega, by omega⟩⟩
              case measure => simp [intOf]; omega
        · obtain rfl : k = D.size := by omega
          rw [List.take_of_length_le (by rw [← Lib.size_eq]; omega)] at HG ⊢
          have hv19 := val_19 HG.out (by rw [← Lib.size_eq]; omega)
          have HV := kept (numB_pos (HOK.out) HG.out)
          clear hlk
          generalize hx : val 0 D.data.toList = x at *
          have HX := HR.out
          rw [HV.out] at HX
          by_cases c1 : x < 9223372036854775808
          · rw [if_pos c1] at HX
            subst HX
            have c1I : (x : Int) < 9223372036854775808 := by omega
            go_wp2
            go_ret2
            exact ⟨rfl, rfl⟩
          · rw [if_neg c1] at HX
            subst HX
            have c1I : ¬ (x : Int) < 9223372036854775808 := by omega
            go_wp2
            go_ret2
            exact ⟨rfl, rfl⟩
  · cases Z
    case true => exact absurd ⟨rfl, .inr rfl⟩ HBAD.out
    cases O
    all_goals
      go_enter Tryd.func16, Tryd.ntmps16
      go_wp2
      go_loop [6, 41] (fun x i => ∃ k : Nat, k ≤ D.size ∧ i = .int .i64 k ∧ x = .int .u64 (val 0 (D.data.toList.take k)) ∧ Hid (digs (D.data.toList.take k) = true)) (fun _ i => D.size - (intOf i).toNat)
      case atStart => exact ⟨0, by omega, rfl, by simp [val_nil], rfl⟩
      case round =>
        obtain ⟨k, hk, rfl, rfl, HG⟩ := hrel
        have hlk : (D.data.toList.take k).length = k := by rw [List.length_take, ← Lib.size_eq]; omega
        by_cases hlt : k < D.size
        · have hv18 := val_18 HG.out (by omega)
          have hvs := val_snoc (D.data.toList.take k) (D[k]'hlt) 0
          rw [← take_snoc' D k hlt] at hvs
          have HS := kept hvs
          have HDs : Hid (∀ h : 48 ≤ (D[k]'hlt).toNat ∧ (D[k]'hlt).toNat ≤ 57, digs (D.data.toList.take (k + 1)) = true) := fun h => by
            rw [take_snoc' D k hlt]
            exact digs_snoc.2 ⟨HG.out, h⟩
          have HBd : Hid (∀ h : ¬(48 ≤ (D[k]'hlt).toNat ∧ (D[k]'hlt).toNat ≤ 57), R = (0, false)) := fun h => by
            rw [← HR.out]
            exact numB_nodig (digs_at D k hlt h)
          clear hvs hlk
          generalize hx : val 0 (D.data.toList.take k) = x at *
          generalize hc : D[k]'hlt = c at *
          have hcl := c.toNat_lt
          by_cases c1 : (c.toNat : Int) < 48
          · have e := HBd.out (by omega)
            subst e
            go_wp2
            go_ret2
            exact ⟨rfl, rfl⟩
          · by_cases c2 : (57 : Int) < (c.toNat : Int)
            · have e := HBd.out (by omega)
              subst e
              go_wp2
              go_ret2
              exact ⟨rfl, rfl⟩
            · go_wp2
              go_round
              case rel => exact ⟨k + 1, by omega, by go_num, by rw [HS.out]; go_num, HDs.out ⟨by omega, by omega⟩⟩
              case measure => simp [intOf]; omega
        · obtain rfl : k = D.size := by omega
          rw [List.take_of_length_le (by rw [← Lib.size_eq]; omega)] at HG ⊢
          have hv19 := val_19 HG.out (by rw [← Lib.size_eq]; omega)
          have HV := kept (numB_neg (by simpa using HOK.out) HG.out)
          clear hlk
          generalize hx : val 0 D.data.toList = x at *
          have HX := HR.out
          rw [HV.out] at HX
          rcases Nat.lt_trichotomy x 9223372036854775808 with c1 | c1 | c1
          · rw [if_pos (by omega)] at HX
            subst HX
            have hd : decide ((x : Int) ≤ 9223372036854775808) = true := decide_eq_true (by omega)
            have hxI : (x : Int) ≤ 9223372036854775807 := by omega
            clear c1 hv19 HV
            go_wp2
            go_ret2
            exact ⟨rfl, rfl⟩
          · subst c1
            rw [if_pos (by omega)] at HX
            subst HX
            go_wp2
            go_ret2
            refine ⟨?_, rfl⟩
            show Ending.returned (.tuple #[.int .i64 (wrap64 (-wrap64 9223372036854775808)), .bool true]) = _
            exact ret_two (by unfold wrap64; omega) rfl
          · rw [if_neg (by omega)] at HX
            subst HX
            have c1I : ¬ (x : Int) ≤ 9223372036854775808 := by omega
            go_wp2
            go_ret2
            exact ⟨rfl, rfl⟩

theorem refNumber_any (s : ByteArray) (w : World) (hs : s.size ≤ 60) :
    Calls Tryd.prog 16 #[.string s] w fun e w' => e = .returned (.tuple #[.int .i64 (numOf s.data.toList).1, .bool (numOf s.data.toList).2]) ∧ w = w' := by
  cases hl : s.data.toList with
  | nil =>
    have hse : s = ⟨#[]⟩ := ByteArray.ext (Array.toList_inj.1 hl)
    subst hse
    show Calls Tryd.prog 16 #[.string ⟨#[]⟩] w fun e w' => e = .returned (.tuple #[.int .i64 0, .bool false]) ∧ w = w'
    go_enter Tryd.func16, Tryd.ntmps16
    go_wp2
    go_ret2
    exact ⟨rfl, rfl⟩
  | cons c r =>
    have hsp : 0 < s.size := by rw [Lib.size_eq, hl]; simp
    have h0 : s[0]'hsp = c := by
      have := head_of s hsp
      rw [hl] at this
      exact (Option.some.inj this).symm
    by_cases hc : c = 45
    · have e : numOf (c :: r) = numB true r := if_pos hc
      have hD : (s.extract 1 s.size).data.toList = r := by rw [Lib.ext_list, hl]; rfl
      rw [e, ← hD]
      exact refNumber_tail s _ true w hs hsp (by rw [h0, hc]; rfl) (.inl ⟨rfl, rfl⟩)
    · have e : numOf (c :: r) = numB false (c :: r) := if_neg hc
      rw [e, ← hl]
      refine refNumber_tail s s false w hs hsp ?_ (.inr ⟨rfl, rfl⟩)
      rw [h0]
      simp only [beq_eq_false_iff_ne, ne_eq]
      intro h
      exact hc (UInt8.toNat_inj.1 (by simpa using (by omega : c.toNat = 45)))
end Go.Proofs.YthcdibpajdnjaaaDoor
