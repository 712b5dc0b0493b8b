/- Package scan: Number; the document's Number; the walk of the law ScanNumbers. -/
import Derived.Test.YthcdibpajdnjaaaDoorLives
import Derived.Test.YthcdibpajdnjaaaDoorNum
import Derived.Test.YthcdibpajdnjaaaDoorShelfNum
import Derived.Lib.AtoiErrMem
import Derived.Lib.AppendIntMem
import Derived.Lib.ParseIntBTie
namespace Go.Proofs.YthcdibpajdnjaaaDoor
open Go.RowKit Go.Shelf Go.Lib
set_option linter.unusedVariables false

/-- what start-up code has laid for numbers -/
structure TabsNum (w : World) : Prop where
  tabs : Tabs w
  pow : Lib.TabIs Tryd.prog w "internal/strconv.uint64pow10" .u64 Lib.pow10Tab
  syn : ∃ ev, w.cell? ⟨5, 0, none⟩ = some ev ∧ (ev = .nilIface ∨ ∃ te pe, ev = .iface te pe)
  rng : ∃ ev, w.cell? ⟨6, 0, none⟩ = some ev ∧ (ev = .nilIface ∨ ∃ te pe, ev = .iface te pe)
theorem TabsNum.keep {w w' : World} (h : TabsNum w) (k : Keeps w w' []) : TabsNum w' :=
  ⟨h.tabs.keep k, TabIs_below (show Tryd.prog.globalNamed "internal/strconv.uint64pow10" = some 7 by kernel_rfl) h.pow k.below_,
   by obtain ⟨ev, h1, h2⟩ := h.syn; exact ⟨ev, (k.below_.cell (p := ⟨5, 0, none⟩) (World.block_lt_of_cell? w _ h1)).trans h1, h2⟩,
   by obtain ⟨ev, h1, h2⟩ := h.rng; exact ⟨ev, (k.below_.cell (p := ⟨6, 0, none⟩) (World.block_lt_of_cell? w _ h1)).trans h1, h2⟩⟩

theorem parse_ok (s : ByteArray) (w : World) (hs : s.size ≤ 60) (v : Int) (h : Lib.parseIntB 64 s.data.toList = .ok v) :
    Calls Tryd.prog 24 #[.string s, .int .i64 10, .int .i64 64] w fun e w' => e = .returned (.tuple #[.int .i64 v, .nilIface]) ∧ Keeps w w' [] := by
  refine (show Calls Tryd.prog 24 #[.string s, .int .i64 10, .int .i64 64] w fun e w' => e = .returned (.tuple #[.int .i64 v, .nilIface]) ∧ (w' = w ∨ ∃ t, w' = Lib.bytesWorld w 5 t) from Any.strconv_ParseInt_10_at64_ok Tryd.laysC174 s (by omega) v h w).mono ?_
  rintro e w' ⟨rfl, rfl | ⟨t, rfl⟩⟩
  · exact ⟨rfl, Keeps.refl _ _⟩
  · exact ⟨rfl, Keeps.of_below (Lib.bytesWorld_below w 5 t)⟩
theorem parse_bad (s : ByteArray) (w : World) (ht : TabsNum w) (hs : s.size ≤ 60) (h : ∀ v, Lib.parseIntB 64 s.data.toList ≠ .ok v) :
    Calls Tryd.prog 24 #[.string s, .int .i64 10, .int .i64 64] w fun e w' => ∃ n N, e = .returned (.tuple #[.int .i64 n, .iface 77 (.pointer (some ⟨N, 0, none⟩))]) ∧ Keeps w w' [] := by
  cases hp : Lib.parseIntB 64 s.data.toList with
  | ok v => exact absurd hp (h v)
  | «syntax» =>
    obtain ⟨ev, h1, h2⟩ := ht.syn
    refine (show Calls Tryd.prog 24 #[.string s, .int .i64 10, .int .i64 64] w fun e w' => ∃ N, e = .returned (.tuple #[.int .i64 (0), .iface 77 (.pointer (some ⟨N, 0, none⟩))]) ∧ w.heap.size ≤ N ∧ w'.heap[N]? = some (.cells #[.string ⟨#[80, 97, 114, 115, 101, 73, 110, 116]⟩, .string s, ev] 95 (0, 0)) ∧ Below w.heap.size w w' from Any.strconv_ParseInt_10_at64_syntax Tryd.laysC174 s (by omega) hp ev w h1 h2).mono ?_
    rintro e w' ⟨M, rfl, _, _, hb⟩
    exact ⟨_, _, rfl, Keeps.of_below hb⟩
  | range =>
    obtain ⟨ev, h1, h2⟩ := ht.rng
    refine (show Calls Tryd.prog 24 #[.string s, .int .i64 10, .int .i64 64] w fun e w' => ∃ N, e = .returned (.tuple #[.int .i64 (Lib.intSat 64 s.data.toList), .iface 77 (.pointer (some ⟨N, 0, none⟩))]) ∧ w.heap.size ≤ N ∧ w'.heap[N]? = some (.cells #[.string ⟨#[80, 97, 114, 115, 101, 73, 110, 116]⟩, .string s, ev] 95 (0, 0)) ∧ Below w.heap.size w w' from Any.strconv_ParseInt_10_at64_range Tryd.laysC174 s (by omega) hp ev w h1 h2).mono ?_
    rintro e w' ⟨M, rfl, _, _, hb⟩
    exact ⟨_, _, rfl, Keeps.of_below hb⟩
theorem format_any (n : Int) (h0 : -9223372036854775808 ≤ n) (h1 : n ≤ 9223372036854775807) (w : World) (ht : TabsNum w) :
    Calls Tryd.prog 25 #[.int .i64 n, .int .i64 10] w fun e w' => e = .returned (.string (str (Lib.itoa n))) ∧ Keeps w w' [] := by
  refine (show Calls Tryd.prog 25 #[.int .i64 n, .int .i64 10] w fun e w' => e = .returned (.string ⟨(Lib.itoa n).toArray⟩) ∧ ∃ k os, w' = Sort.grow (w.drewN k) os from Any.strconv_FormatInt_10 Tryd.laysM173 n h0 h1 w ht.pow).mono ?_
  rintro e w' ⟨rfl, k, os, rfl⟩
  exact ⟨rfl, Keeps.of_below (below_grow _ w (Nat.le_refl _) k os)⟩

theorem number_any (s : ByteArray) (w : World) (ht : TabsNum w) (hs : s.size ≤ 60) :
    Calls Tryd.prog 15 #[.string s] w fun e w' => e = .returned (.tuple #[.int .i64 (numOf s.data.toList).1, .bool (numOf s.data.toList).2]) ∧ Keeps w w' [] := by
  by_cases hp : ∃ v, Lib.parseIntB 64 s.data.toList = .ok v
  · obtain ⟨v, hv⟩ := hp
    have hb := Lib.parseIntB_bounds hv
    have hb0 : -9223372036854775808 ≤ v := by have := hb.1; simpa using this
    have hb1 : v ≤ 9223372036854775807 := by have := hb.2; simp at this; omega
    have hn := num_of_parse hv hb0 hb1
    have CP := kept (parse_ok s w hs v hv)
    have CF := kept (fun w h => format_any v hb0 hb1 w h)
    have HT := kept ht
    by_cases e : Lib.itoa v = s.data.toList
    · rw [if_pos e] at hn
      rw [hn]
      have e2 : str (Lib.itoa v) = s := by rw [e]; exact bytes_of s
      rw [e2] at CF
      have hss : (s.toList == s.toList) = true := beq_self_eq_true _
      clear hn hv hb hb0 hb1 e e2 ht
      go_enter Tryd.func15, Tryd.ntmps15
      go_wp2_with fail
      refine (CP.out).mono ?_
      rintro e w1 ⟨rfl, k1⟩
      have K1 := kept k1
      clear k1 CP
      go_wp2_with (refine (CF.out _ (HT.out.keep K1.out)).mono ?_; rintro e w2 ⟨rfl, k2⟩; have K2 := kept (K1.out.and_then k2); clear k2)
      go_ret2
      exact ⟨rfl, K2.out⟩
    · rw [if_neg e] at hn
      rw [hn]
      have e2 : ¬ str (Lib.itoa v) = s := fun h => e (by rw [← h, str_list])
      generalize str (Lib.itoa v) = x at *
      have hss := str_ne e2
      clear hn hv hb hb0 hb1 e ht
      go_enter Tryd.func15, Tryd.ntmps15
      go_wp2_with fail
      refine (CP.out).mono ?_
      rintro e w1 ⟨rfl, k1⟩
      have K1 := kept k1
      clear k1 CP
      go_wp2_with (refine (CF.out _ (HT.out.keep K1.out)).mono ?_; rintro e w2 ⟨rfl, k2⟩; have K2 := kept (K1.out.and_then k2); clear k2)
      go_ret2
      exact ⟨rfl, K2.out⟩
  · have hp' : ∀ v, Lib.parseIntB 64 s.data.toList ≠ .ok v := fun v h => hp ⟨v, h⟩
    rw [num_of_fail hp']
    have CP := kept (parse_bad s w ht hs hp')
    clear hp hp' ht
    go_enter Tryd.func15, Tryd.ntmps15
    go_wp2_with fail
    refine (CP.out).mono ?_
    rintro e w1 ⟨n, M, rfl, k1⟩
    have K1 := kept k1
    clear k1 CP
    go_wp2
    go_ret2
    exact ⟨rfl, K1.out⟩

/-- digits behind a sign or none: the walk of the document's answer from there on -/
theorem size_list (s : ByteArray) : s.size = s.data.toList.length := Lib.size_eq s
theorem take_snoc' (s : ByteArray) (k : Nat) (h : k < s.size) : s.data.toList.take (k + 1) = s.data.toList.take k ++ [s[k]'h] := by
  rw [List.take_succ_eq_append_getElem (by rw [← Lib.size_eq]; exact h)]; rfl
theorem head_of (s : ByteArray) (h : 0 < s.size) : s.data.toList.head? = some (s[0]'h) := by
  have : s.data.toList[0]? = some (s[0]'h) := by
    rw [List.getElem?_eq_getElem (by rw [← Lib.size_eq]; exact h)]
    rfl
  rw [← this, List.head?_eq_getElem?]
end Go.Proofs.YthcdibpajdnjaaaDoor
