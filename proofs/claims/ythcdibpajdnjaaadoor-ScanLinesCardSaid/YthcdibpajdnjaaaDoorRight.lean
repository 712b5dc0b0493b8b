/- Package scan: right, Pair; contracts. -/
import Derived.Test.YthcdibpajdnjaaaDoorRef
import Derived.Test.YthcdibpajdnjaaaDoorText
namespace Go.Proofs.YthcdibpajdnjaaaDoor
open Go.RowKit
set_option linter.unusedVariables false

theorem utf_step {s : ByteArray} {pos : Nat} (h : Utf (s.data.toList.drop pos)) (hp : pos < s.size) :
    (∃ b t, s.data.toList.drop pos = b :: t ∧ b.toNat < 128 ∧ Utf8.decode s pos = (b.toNat, 1) ∧ s.data.toList.drop (pos + 1) = t ∧ Utf t) ∨
    (∃ e r t, s.data.toList.drop pos = e ++ t ∧ Wide e r ∧ Utf8.decode s pos = (r, e.length) ∧ s.data.toList.drop (pos + e.length) = t ∧ Utf t) := by
  have hl : 0 < (s.data.toList.drop pos).length := by rw [List.length_drop, ← Lib.size_eq]; omega
  have hd := Lib.decodeL_drop s pos
  generalize hx : s.data.toList.drop pos = x at h hl hd
  cases h with
  | nil => simp at hl
  | @asc b t h1 h2 =>
    left
    refine ⟨b, t, rfl, h1, by rw [← hd, decodeL_asc b t h1], ?_, h2⟩
    rw [← List.drop_drop, hx]
    rfl
  | @wide e r t h1 h2 =>
    right
    refine ⟨e, r, t, rfl, h1, by rw [← hd, h1.tells t], ?_, h2⟩
    rw [← List.drop_drop, hx]
    simp
theorem drop_end {s : ByteArray} {pos : Nat} (h : ¬ pos < s.size) : s.data.toList.drop pos = [] := by
  apply List.drop_eq_nil_of_le
  rw [← Lib.size_eq]
  omega
theorem ctl_wide {e : List UInt8} (hh : ∀ b ∈ e, 128 ≤ b.toNat) (l : List UInt8) : ctl (e ++ l) = ctl l := by
  unfold ctl
  rw [List.any_append]
  have : (e.any fun b => decide (b.toNat < 32) && !(b == 10)) = false := by
    rw [List.any_eq_false]
    intro b hb
    have := hh b hb
    simp
    omega
  rw [this, Bool.false_or]
theorem ctl_cons (b : UInt8) (l : List UInt8) : ctl (b :: l) = ((decide ((b.toNat : Int) < 32) && !(decide ((b.toNat : Int) = 10))) || ctl l) := by
  unfold ctl
  rw [List.any_cons]
  congr 1
  have e1 : decide (b.toNat < 32) = decide ((b.toNat : Int) < 32) := by rw [decide_eq_decide]; omega
  have e2 : (b == 10) = decide ((b.toNat : Int) = 10) := by
    rw [Bool.eq_iff_iff]
    simp
    constructor
    · rintro rfl; rfl
    · intro h
      exact UInt8.toNat_inj.1 (by simpa using (by omega : b.toNat = 10))
  rw [e1, e2]
def rightE (s : ByteArray) : Int := if 16384 < s.size then 4 else if wrong s.data.toList then 2 else 0

set_option maxHeartbeats 1000000 in
theorem right_any (s : ByteArray) (w : World) (ht : Tabs w) (hs : s.size ≤ 9223372036854775807) :
    Calls Tryd.prog 17 #[.string s] w fun e w' => e = .returned (.int .i64 (rightE s)) ∧ Keeps w w' [] := by
  by_cases h1 : 16384 < (s.size : Int)
  · have hE : rightE s = 4 := if_pos (by omega)
    go_enter Tryd.func17, Tryd.ntmps17
    go_wp2
    go_ret
    exact ⟨ret_int hE.symm, Keeps.refl _ _⟩
  have hn : ¬ 16384 < s.size := by omega
  have HE : Hid (rightE s = if wrong s.data.toList then 2 else 0) := if_neg hn
  have CV := kept (valid_any s w ht hs)
  obtain ⟨V, hV⟩ : ∃ V, Lib.validD s.data.toList = V := ⟨_, rfl⟩
  rw [hV] at CV
  have HV := kept hV
  clear hV ht
  cases V
  · go_enter Tryd.func17, Tryd.ntmps17
    go_wp2_with (refine (CV.out).mono ?_; rintro e w1 ⟨rfl, k1⟩; have K1 := kept k1; clear k1)
    go_ret
    exact ⟨ret_int (by rw [HE.out]; simp [wrong, HV.out]), K1.out⟩
  have hu := utf_of_valid _ _ (Nat.le_refl _) HV.out
  have HU := kept hu
  obtain ⟨C, hC⟩ : ∃ V, ctl s.data.toList = V := ⟨_, rfl⟩
  have HC := kept hC
  clear hu hC
  go_enter Tryd.func17, Tryd.ntmps17
  go_wp2_with fail
  refine (CV.out).mono ?_
  rintro e w1 ⟨rfl, k1⟩
  have K1 := kept k1
  clear k1 CV
  go_wp2
  go_loopw [4] (fun v wr => ∃ (pos : Nat), wr.heap[w1.heap.size]? = some (.stringIter s pos) ∧ Keeps w wr [] ∧ Hid (Utf (s.data.toList.drop pos)) ∧ Hid (ctl (s.data.toList.drop pos) = C)) (fun _ wr => s.size - wr.iterPos w1.heap.size)
  case atStart => exact ⟨0, World.iter_heap w1 s 0, K1.out.alloc _, HU, HC⟩
  case round =>
    obtain ⟨pos, hit, hk, HUp, HCp⟩ := hrel
    have hpos0 := iterPos_of hit
    have hks := K1.out.size
    by_cases hp : pos < s.size
    · have hnx : ∀ ty, (Instr.next (.pointer (some ⟨w1.heap.size, 0, none⟩)) true ty).run Tryd.prog wr = _ := fun ty => Lib.run_next_any_at wr w1.heap.size s pos ty hit hp
      have hit2 := Lib.iterAt_heap wr w1.heap.size s pos (pos + (Utf8.decode s pos).2) hit
      have hk2 := hk.iterAt (k := w1.heap.size) (.inr hks) s (pos + (Utf8.decode s pos).2)
      rcases utf_step HUp.out hp with ⟨b, t, e1, e2, e3, e4, e5⟩ | ⟨x, r, t, e1, e2, e3, e4, e5⟩
      · rw [e3] at hnx hit2 hk2
        have HH := kept hit2
        have HK := kept hk2
        have HP := kept hpos0
        have h5 := HCp.out
        rw [e1, ctl_cons] at h5
        have HT : Hid (s.data.toList.drop (pos + 1) = t) := e4
        have H5 := kept e5
        clear hit hk hit2 hk2 hpos0 e1 e3 e4 e5 hks HUp HCp
        by_cases c1 : (b.toNat : Int) < 32 <;> by_cases c2 : (b.toNat : Int) = 10
        all_goals
          simp only [c1, c2, decide_true, decide_false, Bool.not_true, Bool.not_false, Bool.and_true, Bool.and_false, Bool.true_or, Bool.false_or] at h5
          have HX := kept h5
          clear h5
        · have hd : ((b.toNat : Int) != 10) = false := by simp [c2]
          clear c2
          go_wp2
          go_roundw
          case rel => exact ⟨_, HH.out, HK.out, (by show Utf _; rw [HT.out]; exact H5.out), (by show _ = _; rw [HT.out]; exact HX.out)⟩
          case measure => rw [iterPos_of HH.out, HP.out]; omega
        · have hd : ((b.toNat : Int) != 10) = true := by simp [c2]
          go_wp2
          go_ret
          exact ⟨ret_int (by rw [HE.out]; simp [wrong, HC.out, HX.out.symm]), HK.out⟩
        · exfalso; omega
        · go_wp2
          go_roundw
          case rel => exact ⟨_, HH.out, HK.out, (by show Utf _; rw [HT.out]; exact H5.out), (by show _ = _; rw [HT.out]; exact HX.out)⟩
          case measure => rw [iterPos_of HH.out, HP.out]; omega
      · rw [e3] at hnx hit2 hk2
        have HH := kept hit2
        have HK := kept hk2
        have HP := kept hpos0
        have h5 := HCp.out
        rw [e1, ctl_wide e2.high] at h5
        have HX := kept h5
        have HT : Hid (s.data.toList.drop (pos + x.length) = t) := e4
        have H5 := kept e5
        have h6 := e2.rune
        have h7 := e2.two
        have c1 : ¬ ((r : Int) < 32) := by omega
        clear hit hk hit2 hk2 hpos0 e1 e3 e4 e5 hks HUp HCp e2 h5
        go_wp2
        go_roundw
        case rel => exact ⟨_, HH.out, HK.out, (by show Utf _; rw [HT.out]; exact H5.out), (by show _ = _; rw [HT.out]; exact HX.out)⟩
        case measure => rw [iterPos_of HH.out, HP.out]; omega
    · have hnx : ∀ ty, (Instr.next (.pointer (some ⟨w1.heap.size, 0, none⟩)) true ty).run Tryd.prog wr = _ := fun ty => Lib.run_next_end_at wr w1.heap.size s pos ty hit hp
      have HK := kept hk
      have h5 := HCp.out
      rw [drop_end hp] at h5
      have HX := kept h5
      clear hit hk hpos0 h5
      go_wp2
      go_ret
      exact ⟨ret_int (by rw [HE.out]; unfold wrong; rw [HV.out, HC.out, ← HX.out]; rfl), HK.out⟩

theorem bytes_of (s : ByteArray) : (⟨s.data.toList.toArray⟩ : ByteArray) = s := by cases s; simp
def str (l : List UInt8) : ByteArray := ⟨l.toArray⟩
theorem str_size (l : List UInt8) : (str l).size = l.length := by simp [str, ByteArray.size]
theorem str_list (l : List UInt8) : (str l).data.toList = l := by simp [str]

theorem pair_any (s : ByteArray) (w : World) (ht : Tabs w) (hs : s.size < 4294967281) :
    Calls Tryd.prog 11 #[.string s] w fun e w' => Keeps w w' [] ∧
      ((∃ r, s.data.toList = before 58 s.data.toList ++ 58 :: r ∧ (∀ b ∈ before 58 s.data.toList, b ≠ 58) ∧ ((nameB (str (before 58 s.data.toList)) = true ∧ e = .returned (.tuple #[.string (str (before 58 s.data.toList)), .string (str r), .bool true])) ∨
          (nameB (str (before 58 s.data.toList)) = false ∧ e = .returned (.tuple #[.string ⟨#[]⟩, .string ⟨#[]⟩, .bool false])))) ∨
        ((∀ b ∈ s.data.toList, b ≠ 58) ∧ e = .returned (.tuple #[.string ⟨#[]⟩, .string ⟨#[]⟩, .bool false]))) := by
  have C := cut_any s ⟨#[58]⟩ w ht hs
  have CE := cut_eq 58 s.data.toList
  have hbl := before_len 58 s.data.toList
  rcases CE with ⟨r, h1, h2, h3⟩ | ⟨h1, h2, h3⟩
  · rw [show (⟨#[58]⟩ : ByteArray).data.toList = [58] from rfl, h2] at C
    change Calls Tryd.prog 20 #[.string s, .string ⟨#[58]⟩] w fun e w' => e = .returned (.tuple #[.string (str (before 58 s.data.toList)), .string (str r), .bool true]) ∧ Keeps w w' [] at C
    have hl : (str (before 58 s.data.toList)).size ≤ 9223372036854775807 := by rw [str_size, ← Lib.size_eq] at *; omega
    have CN := kept (fun w h => name_any (str (before 58 s.data.toList)) w h hl)
    generalize hx : str (before 58 s.data.toList) = x at *
    obtain ⟨NB, hNB⟩ : ∃ N, nameB x = N := ⟨_, rfl⟩
    rw [hNB] at CN
    have H1 := kept h1
    have H3 := kept h3
    have HN := kept hNB
    have CC := kept C
    have HT := kept ht
    clear h1 h2 h3 hNB C ht hbl hl hx
    cases NB
    all_goals
      go_enter Tryd.func11, Tryd.ntmps11
      go_wp2_with fail
      refine (CC.out).mono ?_
      rintro e w1 ⟨rfl, k1⟩
      have K1 := kept k1
      clear k1 CC
      go_wp2_with (refine (CN.out _ (HT.out.keep K1.out)).mono ?_; rintro e w2 ⟨rfl, k2⟩; have K2 := kept (K1.out.and_then k2); clear k2)
    · refine bodyPost_ret (v := .tuple #[.string ⟨#[]⟩, .string ⟨#[]⟩, .bool false]) (by simp [results, Tryd.results11, go_sem]) rfl ⟨K2.out, .inl ⟨r, H1.out, H3.out, .inr ⟨HN.out, rfl⟩⟩⟩
    · refine bodyPost_ret (v := .tuple #[.string x, .string (str r), .bool true]) (by simp [results, Tryd.results11, go_sem]) rfl ⟨K2.out, .inl ⟨r, H1.out, H3.out, .inl ⟨HN.out, rfl⟩⟩⟩
  · rw [show (⟨#[58]⟩ : ByteArray).data.toList = [58] from rfl, h3] at C
    change Calls Tryd.prog 20 #[.string s, .string ⟨#[58]⟩] w fun e w' => e = .returned (.tuple #[.string (str s.data.toList), .string (str []), .bool false]) ∧ Keeps w w' [] at C
    have CC := kept C
    have H1 := kept h1
    clear C h1 h2 h3 ht hbl
    go_enter Tryd.func11, Tryd.ntmps11
    go_wp2_with fail
    refine (CC.out).mono ?_
    rintro e w1 ⟨rfl, k1⟩
    have K1 := kept k1
    clear k1 CC
    go_wp2
    refine bodyPost_ret (v := .tuple #[.string ⟨#[]⟩, .string ⟨#[]⟩, .bool false]) (by simp [results, Tryd.results11, go_sem]) rfl ⟨K1.out, .inr ⟨H1.out, rfl⟩⟩
end Go.Proofs.YthcdibpajdnjaaaDoor
