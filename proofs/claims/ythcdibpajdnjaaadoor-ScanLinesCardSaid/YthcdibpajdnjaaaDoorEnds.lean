/- The law ScanLines: its two closures' contracts. -/
import Derived.Test.YthcdibpajdnjaaaDoorClose
namespace Go.Proofs.YthcdibpajdnjaaaDoor
open Go.RowKit
set_option linter.unusedVariables false

theorem end_empty {w : World} {B b n : Nat} {Rs : List LineV} {ws : List (List UInt8)} {out : Bool} {vw lv : Value} (h : St w B b Rs n ws [] out vw lv) :
    Calls Tryd.prog 9 #[.pointer (some ⟨b + 2, 0, none⟩), .pointer (some ⟨b + 1, 0, none⟩)] w fun e w' => e = .returned (.tuple #[]) ∧ St w' B b Rs n ws [] out vw lv ∧ Turned w w' (vars4 b) B := by
  have c7 := h.word.cell 0
  have f7 := h.word.frozen 0
  change w.cell? ⟨b + 2, 0, none⟩ = some (.string ⟨#[]⟩) at c7
  have hS := kept (h.set_word [])
  have hT : Hid (Turned w (w.setCell ⟨b + 2, 0, none⟩ (.string ⟨#[]⟩)) (vars4 b) B) := Turned.of_keeps ((Keeps.refl w [b + 2]).setCell (p := ⟨b + 2, 0, none⟩) (.inl (by simp)) _) h.size (fun x hx => .inl (by simp at hx; simp [hx]))
  clear h
  go_enter Tryd.func9, Tryd.ntmps9
  go_wp2
  go_end0
  exact ⟨rfl, hS.out, hT.out⟩

set_option maxRecDepth 100000 in
set_option maxHeartbeats 1000000 in
theorem end_some {w : World} {B b n : Nat} {Rs : List LineV} {ws : List (List UInt8)} {word : List UInt8} {out : Bool} {vw lv : Value} (h : St w B b Rs n ws word out vw lv) (hne : word ≠ []) (hl : ws.length ≤ 100000) :
    Calls Tryd.prog 9 #[.pointer (some ⟨b + 2, 0, none⟩), .pointer (some ⟨b + 1, 0, none⟩)] w fun e w' => e = .returned (.tuple #[]) ∧ (∃ lv', St w' B b Rs n (ws ++ [word]) [] out vw lv') ∧ Turned w w' (vars4 b) B := by
  have c7 := h.word.cell 0
  have f7 := h.word.frozen 0
  change w.cell? ⟨b + 2, 0, none⟩ = some (.string (str word)) at c7
  have c6 := h.lineB.cell 1
  have f6 := h.lineB.frozen 1
  change w.cell? ⟨b + 1, 1, none⟩ = some lv at c6
  have hem : (str word).toList.isEmpty = false := by
    rw [ByteArray.toList_eq, str_list]
    cases word with
    | nil => exact absurd rfl hne
    | cons a l => rfl
  have H := kept h
  have hown := h.line
  have hlow := h.low
  have hBw := h.size
  obtain ⟨i9, hi9, hz9, hs9, hb9⟩ := info_parts info9
  clear h hne
  go_enter Tryd.func9, Tryd.ntmps9
  go_wp2_with (at_builtin; refine wpList_append_own_at _ rfl (.tmp 5) (.tmp 7) 27 rfl B 9 i9 (.string ⟨#[]⟩) 1 16 Tryd.underlying27 hi9 hz9 hs9 hb9 rfl (by decide) _ _ _ rfl (hown.alloc _) ⟨w.heap.size, 0, none⟩ 1 1 [.string (str word)] rfl rfl (news_one _ _ _) (ones_one rfl) (by unfold maxLen; omega) (by omega) (by simp; omega) ?_)
  intro v' w3 hown' hgrow3 _ hat
  obtain ⟨g1, g2, g3, g4⟩ := H.out.grown_line hgrow3 hown' hat
  obtain ⟨av, cv, rfl, _, _⟩ := own_form hown'
  have c63 := g3.cell 1
  have f63 := g3.frozen 1
  change w3.cell? ⟨b + 1, 1, none⟩ = some lv at c63
  have c73 := g4.cell 0
  have f73 := g4.frozen 0
  change w3.cell? ⟨b + 2, 0, none⟩ = some (.string (str word)) at c73
  have G1 := kept (g1.set_word [])
  have G2 : Hid (Turned w ((w3.setCell ⟨b + 1, 1, none⟩ (.slice av (ws.length + 1) cv)).setCell ⟨b + 2, 0, none⟩ (.string ⟨#[]⟩)) (vars4 b) B) := g2.trans (Turned.of_keeps ((Keeps.refl _ [b + 2]).setCell (p := ⟨b + 2, 0, none⟩) (.inl (by simp)) (.string ⟨#[]⟩)) (by have := g2.size; omega) (fun x hx => .inl (by simp at hx; simp [hx])))
  clear g1 g2 g3 g4 hown' hgrow3 hat hown c7 f7 c6 f6
  go_wp2
  go_end0
  exact ⟨rfl, ⟨_, G1.out⟩, G2.out⟩

/-- what a call of 'end' comes to -/
theorem end_any {w : World} {B b n : Nat} {Rs : List LineV} {ws : List (List UInt8)} {word : List UInt8} {out : Bool} {vw lv : Value} (h : St w B b Rs n ws word out vw lv) (hl : ws.length ≤ 100000) :
    Calls Tryd.prog 9 #[.pointer (some ⟨b + 2, 0, none⟩), .pointer (some ⟨b + 1, 0, none⟩)] w fun e w' => e = .returned (.tuple #[]) ∧ (∃ lv', St w' B b Rs n (endw ws word) [] out vw lv') ∧ Turned w w' (vars4 b) B := by
  by_cases hw : word = []
  · subst hw
    have e : endw ws [] = ws := if_pos rfl
    rw [e]
    exact (end_empty h).mono fun _ _ ⟨h1, h2, h3⟩ => ⟨h1, ⟨_, h2⟩, h3⟩
  · have e : endw ws word = ws ++ [word] := if_neg hw
    rw [e]
    exact end_some h hw hl
theorem endw_len (ws : List (List UInt8)) (word : List UInt8) : (endw ws word).length ≤ ws.length + 1 := by
  unfold endw
  split <;> simp

set_option maxRecDepth 100000 in
set_option maxHeartbeats 1000000 in
theorem next_any {w : World} {B b n : Nat} {Rs : List LineV} {ws : List (List UInt8)} {word : List UInt8} {out : Bool} {vw lv : Value} (h : St w B b Rs n ws word out vw lv) (hl : ws.length ≤ 10000) (hR : Rs.length ≤ 10000) (hn : n ≤ 10000) :
    Calls Tryd.prog 10 #[.pointer (some ⟨b + 4, 0, none⟩), .pointer (some ⟨b + 1, 0, none⟩), .pointer (some ⟨b, 0, none⟩), .pointer (some ⟨b + 3, 0, none⟩)] w fun e w' => e = .returned (.tuple #[]) ∧
      (∃ vw' lv' Rs', St w' B b Rs' (n + 1) [] [] false vw' lv' ∧ Rs'.map (·.1) = Rs.map (·.1) ++ emit n (endw ws word)) ∧ Turned w w' (vars4 b) B := by
  have c9 := h.fn.cell 0
  change w.cell? ⟨b + 4, 0, none⟩ = some (.func (.func 9) #[] #[.pointer (some ⟨b + 2, 0, none⟩), .pointer (some ⟨b + 1, 0, none⟩)]) at c9
  have CE := kept (end_any h (by omega))
  have hel := endw_len ws word
  obtain ⟨Ws, hWs⟩ : ∃ Ws, endw ws word = Ws := ⟨_, rfl⟩
  rw [hWs] at CE hel ⊢
  obtain ⟨i29, hi29, hz29, hs29, hb29⟩ := info_parts info29
  have hlow := h.low
  have hBw := h.size
  clear h hWs
  go_enter Tryd.func10, Tryd.ntmps10
  go_wp2_with fail
  refine (CE.out).mono ?_
  rintro e w1 ⟨rfl, ⟨lv1, h1⟩, t1⟩
  have T1 := kept t1
  have hBw1 := h1.size
  have c61 := h1.lineB.cell 1
  have c60 := h1.lineB.cell 0
  have f61 := h1.lineB.frozen 1
  have f60 := h1.lineB.frozen 0
  change w1.cell? ⟨b + 1, 1, none⟩ = some lv1 at c61
  change w1.cell? ⟨b + 1, 0, none⟩ = some (.int .i64 n) at c60
  have c8 := h1.out.cell 0
  have f8 := h1.out.frozen 0
  change w1.cell? ⟨b + 3, 0, none⟩ = some (.bool out) at c8
  have c5 := h1.wantB.cell 0
  have f5 := h1.wantB.frozen 0
  change w1.cell? ⟨b, 0, none⟩ = some vw at c5
  obtain ⟨al, cl, rfl, _, _⟩ := own_form h1.line
  have H1 := kept h1
  have hrow := h1.want.row
  clear t1 h1 c9 CE
  by_cases hwe : Ws = []
  · have E := kept hwe
    subst hwe
    simp only [List.length_nil] at c61 ⊢
    have g1 := (H1.out.set_line (n + 1)).set_out false
    have g2 : Turned w1 (((w1.setCell ⟨b + 1, 0, none⟩ (.int .i64 ((n + 1 : Nat) : Int))).setCell ⟨b + 1, 1, none⟩ (.slice none 0 0)).setCell ⟨b + 3, 0, none⟩ (.bool false)) (vars4 b) B :=
      Turned.of_keeps ((((Keeps.refl w1 [b + 1, b + 3]).setCell (p := ⟨b + 1, 0, none⟩) (.inl (by simp)) _).setCell (p := ⟨b + 1, 1, none⟩) (.inl (by simp)) _).setCell (p := ⟨b + 3, 0, none⟩) (.inl (by simp)) _) hBw1 (fun x hx => .inl (by simp at hx; rcases hx with rfl | rfl <;> simp))
    rw [Int.natCast_succ] at g1 g2
    have G1 := kept g1
    have G2 := kept (T1.out.trans g2)
    clear g1 g2
    go_wp2
    go_end0
    exact ⟨rfl, ⟨_, _, Rs, G1.out, by simp [emit]⟩, G2.out⟩
  · have hpos : 0 < Ws.length := List.length_pos_iff.2 hwe
    have hlI : decide ((0 : Int) < (Ws.length : Int)) = true := by simp; omega
    have hlen2 : Ws.length ≤ 10001 := by omega
    go_wp2_with (at_builtin; refine wpList_append_own_at _ rfl (.tmp 10) (.tmp 12) 23 rfl (b - 1) 29 i29 (.agg #[.int .i64 0, .slice none 0 0]) 2 32 Tryd.underlying23 hi29 hz29 hs29 hb29 rfl (by decide) _ _ _ rfl (hrow.alloc _) ⟨w1.heap.size, 0, none⟩ 1 1 [.int .i64 (n : Int), .slice al Ws.length cl] rfl rfl (news_two _ _ _ _) (ones_two rfl rfl) (by unfold maxLen; omega) (by omega) (by simp; omega) ?_)
    intro v' w3 hown' hgrow3 _ hat
    obtain ⟨g1, g2, g3, g4, g5⟩ := H1.out.grown_want hwe hgrow3 hown' hat (n + 1)
    obtain ⟨av, cv, rfl, _, _⟩ := own_form hown'
    have d5 := g3.cell 0
    have e5 := g3.frozen 0
    change w3.cell? ⟨b, 0, none⟩ = some vw at d5
    have d60 := g4.cell 0
    have e60 := g4.frozen 0
    have d61 := g4.cell 1
    have e61 := g4.frozen 1
    change w3.cell? ⟨b + 1, 0, none⟩ = some (.int .i64 n) at d60
    change w3.cell? ⟨b + 1, 1, none⟩ = some (.slice al Ws.length cl) at d61
    have d8 := g5.cell 0
    have e8 := g5.frozen 0
    change w3.cell? ⟨b + 3, 0, none⟩ = some (.bool out) at d8
    have g6 := g1.set_out false
    have g7 : Turned (w3.setCell ⟨b, 0, none⟩ (.slice av (Rs.length + 1) cv)) ((((w3.setCell ⟨b, 0, none⟩ (.slice av (Rs.length + 1) cv)).setCell ⟨b + 1, 0, none⟩ (.int .i64 ((n + 1 : Nat) : Int))).setCell ⟨b + 1, 1, none⟩ (.slice none 0 0)).setCell ⟨b + 3, 0, none⟩ (.bool false)) (vars4 b) B :=
      Turned.of_keeps ((((Keeps.refl _ [b + 1, b + 3]).setCell (p := ⟨b + 1, 0, none⟩) (.inl (by simp)) _).setCell (p := ⟨b + 1, 1, none⟩) (.inl (by simp)) _).setCell (p := ⟨b + 3, 0, none⟩) (.inl (by simp)) _) (by have := g2.size; omega) (fun x hx => .inl (by simp at hx; rcases hx with rfl | rfl <;> simp))
    rw [Int.natCast_succ] at g6 g7
    have G1 := kept g6
    have G2 := kept ((T1.out.trans g2).trans g7)
    have hne2 := kept hwe
    clear g1 g2 g3 g4 g5 g6 g7 hown' hgrow3 hat hrow c61 c60 f61 f60 c8 f8 c5 f5 hwe
    go_wp2
    go_end0
    exact ⟨rfl, ⟨_, _, _, G1.out, by simp [emit, hne2.out]⟩, G2.out⟩
end Go.Proofs.YthcdibpajdnjaaaDoor
