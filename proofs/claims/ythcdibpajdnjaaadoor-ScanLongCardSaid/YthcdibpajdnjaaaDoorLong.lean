/- The walk of the law ScanLong. -/
import Derived.Test.YthcdibpajdnjaaaDoorLives
import Derived.Laws.MakeOwn
import Derived.Laws.BytesString
namespace Go.Proofs.YthcdibpajdnjaaaDoor
open Go.RowKit
set_option linter.unusedVariables false

/-- k bytes c, then noughts, n in all -/
def fillC (c : Int) (k n : Nat) : Array Value := (List.replicate k (Value.int .u8 c) ++ List.replicate (n - k) (Value.int .u8 0)).toArray
theorem fillC_set (c : Int) {k n : Nat} (h : k < n) : (fillC c k n).setIfInBounds k (.int .u8 c) = fillC c (k + 1) n := by
  apply Array.ext_getElem?
  intro j
  unfold fillC
  simp only [List.setIfInBounds_toArray, List.getElem?_toArray]
  rw [List.getElem?_set]
  by_cases hj : k = j
  · subst hj
    rw [if_pos rfl, if_pos (by simp; omega), List.getElem?_append_left (by simp), List.getElem?_replicate, if_pos (by omega)]
  · rw [if_neg hj]
    by_cases h1 : j < k
    · rw [List.getElem?_append_left (by simpa using h1), List.getElem?_append_left (by simp; omega), List.getElem?_replicate, List.getElem?_replicate, if_pos h1, if_pos (by omega)]
    · rw [List.getElem?_append_right (by simp; omega), List.getElem?_append_right (by simp; omega), List.getElem?_replicate, List.getElem?_replicate]
      simp only [List.length_replicate]
      by_cases h2 : j < n
      · rw [if_pos (by omega), if_pos (by omega)]
      · rw [if_neg (by omega), if_neg (by omega)]
theorem fillC_full (c : Int) (n : Nat) : fillC c n n = (List.replicate n (Value.int .u8 c)).toArray := by simp [fillC]
theorem fillC_zero (c : Int) (n : Nat) : madeCells #[.int .u8 0] n = fillC c 0 n := by
  apply Array.ext
  · simp [fillC, size_madeCells]
  · intro i h1 h2
    simp [fillC, madeCells, Nat.mod_one]
theorem fillC_at (c : Int) {k n j : Nat} (h : j < n) : ∃ v, (fillC c k n)[j]? = some v := by
  have : j < (fillC c k n).size := by simp [fillC]; omega
  exact ⟨_, Array.getElem?_eq_getElem this⟩
theorem info5 : (Tryd.prog.info? 5).map (fun i => (i.zero, i.size, i.bytes)) = some (some (.int .u8 0), 1, 1) := by kernel_rfl

/-- n times a byte -/
def rep (c : UInt8) (n : Nat) : ByteArray := str (List.replicate n c)
theorem rep_utf {c : UInt8} (h : c.toNat < 128) (n : Nat) : Utf (List.replicate n c) := by
  induction n with
  | zero => exact .nil
  | succ n ih => exact .asc h ih
theorem rep_right {c : UInt8} (h1 : 97 ≤ c.toNat) (h2 : c.toNat ≤ 122) {n : Nat} (hn : n ≤ 16384) : rightE (rep c n) = 0 := by
  unfold rightE
  rw [if_neg (by unfold rep; rw [str_size]; simp; omega)]
  have : wrong (rep c n).data.toList = false := by
    unfold rep
    rw [str_list]
    unfold wrong
    rw [utf_valid (rep_utf (by omega) n)]
    simp only [Bool.not_true, Bool.false_or]
    unfold ctl
    rw [List.any_eq_false]
    intro b hb
    rw [(List.mem_replicate.1 hb).2]
    simp
    omega
  rw [this]
  rfl
theorem rep_long (c : UInt8) : rightE (rep c 16385) = 4 := by
  unfold rightE
  rw [if_pos (by unfold rep; rw [str_size, List.length_replicate]; omega)]
theorem wl_plain (l : List UInt8) (h : ∀ b ∈ l, b ≠ 32) : ∀ word, wl word l = if word ++ l = [] then [] else [word ++ l] := by
  induction l with
  | nil => intro word; simp [wl]
  | cons b l ih =>
    intro word
    have h1 := h b (by simp)
    unfold wl
    rw [if_neg h1, ih (fun x hx => h x (by simp [hx]))]
    simp
theorem rep_lines {c : UInt8} (h1 : 97 ≤ c.toNat) (h2 : c.toNat ≤ 122) {n : Nat} (hn : 0 < n) : linesOf (rep c n).data.toList = [(1, [List.replicate n c])] := by
  unfold rep
  rw [str_list]
  have hne : ∀ x : UInt8, x.toNat < 97 → ∀ b ∈ List.replicate n c, b ≠ x := fun x hx b hb e => by
    rw [(List.mem_replicate.1 hb).2] at e
    subst e
    omega
  have hr : List.replicate n c ≠ [] := by
    intro e
    have := congrArg List.length e
    simp at this
    omega
  have hw : wordsOf (List.replicate n c) = [List.replicate n c] := by
    unfold wordsOf
    rw [before_none 35 _ (hne 35 (by decide)), wl_plain _ (hne 32 (by decide)), if_neg (by simpa using hr)]
    rfl
  unfold linesOf
  rw [splitOn_none 10 _ (hne 10 (by decide))]
  unfold numbered
  rw [hw, if_neg (by simp)]
  rfl

theorem push_rep (c : UInt8) (n : Nat) : ∀ s : ByteArray, ((List.replicate n ((c.toNat : Nat) : Int)).foldl (fun r n => r.push (UInt8.ofNat n.toNat)) s).data.toList = s.data.toList ++ List.replicate n c := by
  induction n with
  | zero => intro s; simp
  | succ n ih =>
    intro s
    rw [List.replicate_succ, List.foldl_cons, ih, List.replicate_succ]
    simp [ByteArray.push]
theorem conv_rep (W : World) (g off n cap : Nat) (c : UInt8) (h : ∀ j, j < n → W.cell? ⟨g, off + j, none⟩ = some (.int .u8 c.toNat)) :
    (convert 32 9 (.slice (some ⟨g, off, none⟩) n cap)).run Tryd.prog W = .ok (.string (rep c n)) W := by
  rw [run_convert_bytes_string W 32 9 5 _ _ _ Tryd.underlying32 Tryd.underlying5 Tryd.underlying9]
  have hl := run_loadCells (P := Tryd.prog) W ⟨g, off, none⟩ n (fun _ => .int .u8 c.toNat) (fun j hj => by rw [add_plain]; exact h j hj)
  have e : ((List.replicate n ((c.toNat : Nat) : Int)).map (Value.int .u8)).toArray = ((List.range n).map (fun _ => Value.int .u8 c.toNat)).toArray := by
    congr 1
    apply List.ext_getElem
    · simp
    · intro i h1 h2; simp
  rw [run_bytesToString W ⟨g, off, none⟩ n cap (List.replicate n ((c.toNat : Nat) : Int)) (by rw [hl, e])]
  congr 2
  apply ByteArray.ext
  apply Array.toList_inj.1
  rw [push_rep]
  simp [rep, str]

theorem lines_rep {c : UInt8} (h1 : 97 ≤ c.toNat) (h2 : c.toNat ≤ 122) (w : World) (ht : Tabs w) :
    Calls Tryd.prog 8 #[.string (rep c 16384)] w fun e w' => ∃ g d h d', e = .returned (.tuple #[.slice (some ⟨g, 0, none⟩) 1 d, .int .i64 0]) ∧ w'.cell? ⟨g, 1, none⟩ = some (.slice (some ⟨h, 0, none⟩) 1 d') ∧ w'.cell? ⟨h, 0, none⟩ = some (.string (rep c 16384)) ∧ 1 ≤ d ∧ 1 ≤ d' ∧ Keeps w w' [] := by
  refine (lines_ok (rep c 16384) w ht (rep_right h1 h2 (Nat.le_refl _))).mono ?_
  rintro e w' ⟨v, Rs, rfl, hL, hm, hk⟩
  rw [rep_lines h1 h2 (by omega)] at hm
  match Rs, hm with
  | [((n, ws), u)], hm =>
    simp only [List.map_cons, List.map_nil, List.cons.injEq, and_true, Prod.mk.injEq] at hm
    obtain ⟨rfl, rfl⟩ := hm
    obtain ⟨g, d, rfl, hd, _, e1⟩ := own_row1 hL.row (Nat.succ_pos _)
    have hw : w'.ownsRow w.heap.size 9 1 u 1 (wordVals [List.replicate 16384 c]) := hL.words ((1, [List.replicate 16384 c]), u) List.mem_cons_self
    obtain ⟨h, d', rfl, hd', _, e2⟩ := own_row1 hw Nat.zero_lt_one
    exact ⟨g, d, h, d', rfl, e1 1 _ rfl, e2 0 _ rfl, hd, hd', hk⟩

set_option maxRecDepth 100000 in
set_option maxHeartbeats 4000000 in
theorem walkScanLong (n : Int) (w : World) (ht : Tabs w) (h0 : 0 ≤ n) (h1 : n ≤ 255) :
    Calls Tryd.prog 4 #[.int .u8 n] w fun e w' => e = .returned (.bool true) ∧ Keeps w w' [] := by
  obtain ⟨c, hc, hc1, hc2⟩ : ∃ c : UInt8, (c.toNat : Int) = 97 + n % 26 ∧ 97 ≤ c.toNat ∧ c.toNat ≤ 122 := by
    refine ⟨UInt8.ofNat (97 + n.toNat % 26), ?_, ?_, ?_⟩
    all_goals (rw [UInt8.toNat_ofNat']; omega)
  have CL := kept (lives_any w ht)
  have HT := kept ht
  obtain ⟨i5, hi5, hz5, hs5, hb5⟩ := info_parts info5
  have hmk : ∀ W : World, (Instr.makeSlice 32 (.int .i64 16385) (.int .i64 16385)).run Tryd.prog W = .ok (.slice (some ⟨W.heap.size, 0, none⟩) 16385 16385) (W.alloc (.cells (fillC (97 + n % 26) 0 16385) 5)) := fun W => by
    have h := run_make (P := Tryd.prog) W 32 5 i5 (.int .u8 0) Tryd.underlying32 hi5 hz5 .i64 .i64 16385 16385 (by omega) (by omega) (by rw [hb5]; omega) (by omega)
    rw [h, hs5, Nat.mul_one]
    show Result.ok _ (W.alloc (.cells (madeCells #[.int .u8 0] 16385) 5)) = _
    rw [fillC_zero]
    rfl
  generalize hC : 97 + n % 26 = C at *
  have HC := kept hc
  clear ht
  go_enter Tryd.func4, Tryd.ntmps4
  go_wp2_with fail
  refine (CL.out).mono ?_
  rintro e w1 ⟨rfl, k1⟩
  have K1 := kept k1
  clear k1 CL
  have hb1 : Hid (Blk (w1.alloc (.cells (fillC C 0 16385) 5)) w1.heap.size 5 (fillC C 0 16385)) := Blk.new _ _ _
  have hw1 := K1.out.size
  have h26 : IntKind.u8.wrap (n % 26) = n % 26 := by unfold IntKind.wrap; simp [IntKind.bits, IntKind.signed]; omega
  have hCC : Hid (97 + n % 26 = C) := hC
  have hr0 : 0 ≤ n % 26 := by omega
  have hr1 : n % 26 ≤ 25 := by omega
  clear h26
  go_wp2
  generalize hg : w1.heap.size = g at *
  go_loopw [14] (fun i wr => ∃ k : Nat, k ≤ 16385 ∧ i = .int .i64 k ∧ Blk wr g 5 (fillC C k 16385) ∧ Keeps w wr []) (fun i _ => 16385 - (intOf i).toNat)
  case atStart => exact ⟨0, by omega, rfl, hb1.out, K1.out.alloc _⟩
  case round =>
    obtain ⟨k, hk, rfl, hb, hkr⟩ := hrel
    by_cases hlt : k < 16385
    · obtain ⟨v, hv⟩ := fillC_at C (k := k) hlt
      have c0 := hb.cell k
      rw [hv] at c0
      have f0 := hb.frozen k
      have hs := hb.set_ k (.int .u8 C)
      rw [fillC_set C hlt] at hs
      have HS := kept hs
      have HK := kept (hkr.setCell (p := ⟨g, k, none⟩) (.inr hw1) (.int .u8 C))
      clear hb hkr hs hv
      go_wp2
      go_roundw
      case rel => exact ⟨k + 1, by omega, by go_num, HS.out, HK.out⟩
      case measure => simp [intOf]; omega
    · obtain rfl : k = 16385 := by omega
      have hcell : ∀ j, j < 16385 → wr.cell? ⟨g, j, none⟩ = some (.int .u8 c.toNat) := fun j hj => by
        have := hb.cell j
        rw [fillC_full] at this
        rw [this, ← HC.out, List.getElem?_toArray, List.getElem?_replicate, if_pos hj]
      have hcv1 := conv_rep wr g 1 16384 16384 c (fun j hj => hcell _ (by omega))
      have HC0 := kept (fun (W : World) (k : Keeps wr W []) => conv_rep W g 0 16385 16385 c (fun j hj => by rw [Nat.zero_add]; exact k.cellOf (hcell j hj)))
      have hK := kept hkr
      have hTr := kept (HT.out.keep hkr)
      have C1 := kept (lines_rep (c := c) hc1 hc2 wr hTr.out)
      have C0 := kept (fun w h => lines_bad (rep c 16385) w h (by unfold rep; rw [str_size, List.length_replicate]; omega) (by rw [rep_long]; omega))
      rw [rep_long] at C0
      have hsz : (((rep c 16384).size : Int) == 16384) = true := by unfold rep; rw [str_size, List.length_replicate]; rfl
      generalize rep c 16384 = X1 at *
      generalize rep c 16385 = X0 at *
      clear hcell hb hkr hc HC hc1 hc2 hC hr0 hr1 hmk
      go_wp2_with fail
      refine (C1.out).mono ?_
      rintro e w2 ⟨g1, d1, h, d2, rfl, e1, e2, e3, e4, k2⟩
      have K2 := kept k2
      have hcv0 := HC0.out w2 k2
      clear k2 C1 HC0
      go_wp2_with fail
      refine (C0.out _ (hTr.out.keep K2.out)).mono ?_
      rintro e w3 ⟨rfl, k3⟩
      have f1 := k3.cellOf e1
      have f2 := k3.cellOf e2
      have K3 := kept (K2.out.and_then k3)
      clear k3 C0 e1 e2 hcv0 hcv1
      have e3I : (1 : Int) ≤ (d1 : Int) := by omega
      have e4I : (1 : Int) ≤ (d2 : Int) := by omega
      go_wp2
      go_ret
      exact ⟨rfl, hK.out.and_then K3.out⟩
end Go.Proofs.YthcdibpajdnjaaaDoor
