/- The law ScanLines: what its variables hold; its two closures' contracts. -/
import Derived.Test.YthcdibpajdnjaaaDoorLives
import Derived.Test.YthcdibpajdnjaaaDoorMach
namespace Go.Proofs.YthcdibpajdnjaaaDoor
open Go.RowKit
set_option linter.unusedVariables false

/-- below block B nothing has turned but for the blocks E -/
structure Turned (w w' : World) (E : List Nat) (B : Nat) : Prop where
  os : w'.os = w.os
  tape : w'.tape = w.tape
  output : w'.output = w.output
  size : w.heap.size ≤ w'.heap.size
  block : ∀ k, k < B → k ∉ E → w'.heap[k]? = w.heap[k]?
theorem Turned.refl (w : World) (E : List Nat) (B : Nat) : Turned w w E B := ⟨rfl, rfl, rfl, Nat.le_refl _, fun _ _ _ => rfl⟩
theorem Turned.trans {a b c : World} {E : List Nat} {B : Nat} (h : Turned a b E B) (k : Turned b c E B) : Turned a c E B :=
  ⟨k.os.trans h.os, k.tape.trans h.tape, k.output.trans h.output, Nat.le_trans h.size k.size, fun i hi hn => (k.block i hi hn).trans (h.block i hi hn)⟩
theorem Turned.of_keeps {w w' : World} {S E : List Nat} {B : Nat} (h : Keeps w w' S) (hB : B ≤ w.heap.size) (hS : ∀ x ∈ S, x ∈ E ∨ B ≤ x) : Turned w w' E B :=
  ⟨h.os, h.tape, h.output, h.size, fun k hk hn => h.block k (by omega) (fun hm => by
    rcases hS k hm with h1 | h1
    · exact hn h1
    · omega)⟩
theorem Turned.more {w w' : World} {E E' : List Nat} {B : Nat} (h : Turned w w' E B) (hE : ∀ x ∈ E, x ∈ E') : Turned w w' E' B :=
  ⟨h.os, h.tape, h.output, h.size, fun k hk hn => h.block k hk (fun hm => hn (hE k hm))⟩
theorem Turned.keeps {a b c : World} {E : List Nat} {B : Nat} (h : Keeps a b []) (k : Turned b c E B) (hB : a.heap.size ≤ B) (hE : ∀ x ∈ E, a.heap.size ≤ x) : Keeps a c [] :=
  ⟨k.os.trans h.os, k.tape.trans h.tape, k.output.trans h.output, Nat.le_trans h.size k.size, fun i hi _ => (k.block i (by omega) (fun hm => by have := hE i hm; omega)).trans (h.block i hi (by simp))⟩
theorem own_turned {w w' : World} {base B n size : Nat} {e : TypeId} {v : Value} {xs : List Value} {E : List Nat} (h : w.ownsRow base e size v n xs) (k : Turned w w' E B) (hv : ∀ x, v.ownBlock = some x → x < B ∧ x ∉ E) : w'.ownsRow base e size v n xs := by
  obtain ⟨h1, h2⟩ := h
  refine ⟨h1, ?_⟩
  rcases h2 with h2 | ⟨g, cap, cur, rfl, hg, hh, r⟩
  · exact .inl h2
  · obtain ⟨h3, h4⟩ := hv g rfl
    exact .inr ⟨g, cap, cur, rfl, hg, (k.block g h3 h4).trans hh, r⟩

/-- lines in memory, their words anywhere -/
structure WantAt (w : World) (B b : Nat) (v : Value) (Rs : List LineV) : Prop where
  row : w.ownsRow (b - 1) 29 2 v Rs.length (Rs.flatMap lineCells)
  high : ∀ k, v.ownBlock = some k → k = b - 1 ∨ B ≤ k
  words : ∀ p ∈ Rs, w.ownsRow B 9 1 p.2 p.1.2.length (wordVals p.1.2)
/-- what the law's variables hold: b .. b + 4 are want, line, word, out, end -/
structure St (w : World) (B b : Nat) (Rs : List LineV) (n : Nat) (ws : List (List UInt8)) (word : List UInt8) (out : Bool) (vw lv : Value) : Prop where
  wantB : Blk w b 23 #[vw]
  want : WantAt w B b vw Rs
  lineB : Blk w (b + 1) 29 #[.int .i64 n, lv]
  line : w.ownsRow B 9 1 lv ws.length (wordVals ws)
  apart : ∀ p ∈ Rs, ∀ k, p.2.ownBlock = some k → lv.ownBlock ≠ some k
  word : Blk w (b + 2) 9 #[.string (str word)]
  out : Blk w (b + 3) 4 #[.bool out]
  fn : Blk w (b + 4) 1 #[.func (.func 9) #[] #[.pointer (some ⟨b + 2, 0, none⟩), .pointer (some ⟨b + 1, 0, none⟩)]]
  low : b + 5 ≤ B ∧ 1 ≤ b
  size : B ≤ w.heap.size
/-- the variables' blocks but for the closure's -/
abbrev vars4 (b : Nat) : List Nat := [b - 1, b, b + 1, b + 2, b + 3]

theorem own_low {w w' : World} {B n size : Nat} {e : TypeId} {v : Value} {xs : List Value} {S : List Nat} (h : w.ownsRow B e size v n xs) (k : Keeps w w' S) (hS : ∀ x ∈ S, x < B) : w'.ownsRow B e size v n xs :=
  own_keep h k (fun x hx hm => by have := (own_lt h hx).2; have := hS x hm; omega)
theorem WantAt.keep {w w' : World} {B b : Nat} {v : Value} {Rs : List LineV} {S : List Nat} (h : WantAt w B b v Rs) (k : Keeps w w' S) (hb : 1 ≤ b) (hS : ∀ x ∈ S, b ≤ x ∧ x < B) : WantAt w' B b v Rs :=
  ⟨own_keep h.row k (fun x hx hm => by have := h.high x hx; have := hS x hm; omega), h.high, fun p hp => own_low (h.words p hp) k (fun x hx => (hS x hx).2)⟩
section
variable {w W3 : World} {B b n : Nat} {Rs : List LineV} {ws : List (List UInt8)} {word : List UInt8} {out : Bool} {vw lv v' : Value}
/-- a low block is stored into: all else stands -/
theorem St.set_word (h : St w B b Rs n ws word out vw lv) (word' : List UInt8) : St (w.setCell ⟨b + 2, 0, none⟩ (.string (str word'))) B b Rs n ws word' out vw lv := by
  have hk : Keeps w (w.setCell ⟨b + 2, 0, none⟩ (.string (str word'))) [b + 2] := (Keeps.refl w _).setCell (p := ⟨b + 2, 0, none⟩) (.inl (by simp)) _
  have hS : ∀ x ∈ [b + 2], x < B := fun x hx => by have := h.low; simp at hx; omega
  have hS2 : ∀ x ∈ [b + 2], b ≤ x ∧ x < B := fun x hx => by have := h.low; simp at hx; omega
  exact ⟨h.wantB.keep hk (by simp), h.want.keep hk h.low.2 hS2, h.lineB.keep hk (by simp), own_low h.line hk hS, h.apart, h.word.set_ 0 _, h.out.keep hk (by simp), h.fn.keep hk (by simp), h.low, by have := h.size; have := hk.size; omega⟩
theorem St.set_out (h : St w B b Rs n ws word out vw lv) (out' : Bool) : St (w.setCell ⟨b + 3, 0, none⟩ (.bool out')) B b Rs n ws word out' vw lv := by
  have hk : Keeps w (w.setCell ⟨b + 3, 0, none⟩ (.bool out')) [b + 3] := (Keeps.refl w _).setCell (p := ⟨b + 3, 0, none⟩) (.inl (by simp)) _
  have hS : ∀ x ∈ [b + 3], x < B := fun x hx => by have := h.low; simp at hx; omega
  have hS2 : ∀ x ∈ [b + 3], b ≤ x ∧ x < B := fun x hx => by have := h.low; simp at hx; omega
  exact ⟨h.wantB.keep hk (by simp), h.want.keep hk h.low.2 hS2, h.lineB.keep hk (by simp), own_low h.line hk hS, h.apart, h.word.keep hk (by simp), h.out.set_ 0 _, h.fn.keep hk (by simp), h.low, by have := h.size; have := hk.size; omega⟩
/-- the line is begun anew -/
theorem St.set_line (h : St w B b Rs n ws word out vw lv) (m : Nat) : St ((w.setCell ⟨b + 1, 0, none⟩ (.int .i64 m)).setCell ⟨b + 1, 1, none⟩ (.slice none 0 0)) B b Rs m [] word out vw (.slice none 0 0) := by
  have hk : Keeps w ((w.setCell ⟨b + 1, 0, none⟩ (.int .i64 m)).setCell ⟨b + 1, 1, none⟩ (.slice none 0 0)) [b + 1] := ((Keeps.refl w _).setCell (p := ⟨b + 1, 0, none⟩) (.inl (by simp)) _).setCell (p := ⟨b + 1, 1, none⟩) (.inl (by simp)) _
  have hS : ∀ x ∈ [b + 1], x < B := fun x hx => by have := h.low; simp at hx; omega
  have hS2 : ∀ x ∈ [b + 1], b ≤ x ∧ x < B := fun x hx => by have := h.low; simp at hx; omega
  exact ⟨h.wantB.keep hk (by simp), h.want.keep hk h.low.2 hS2, (h.lineB.set_ 0 _).set_ 1 _, World.ownsRow_nil _ _ _ _, (fun _ _ _ _ e => by cases e), h.word.keep hk (by simp), h.out.keep hk (by simp), h.fn.keep hk (by simp), h.low, by have := h.size; have := hk.size; omega⟩
/-- behind 'append(line.Words, word)', the value not yet stored -/
theorem St.grown_line (h : St w B b Rs n ws word out vw lv)
    (hg : (w.alloc (.cells #[.string (str word)] 9)).grownBy W3 lv.ownBlock) (hown : W3.ownsRow B 9 1 v' (ws.length + 1) (wordVals ws ++ [.string (str word)])) (hat : v'.ownBlock = lv.ownBlock ∨ v'.ownBlock = some (w.heap.size + 1)) :
    St (W3.setCell ⟨b + 1, 1, none⟩ v') B b Rs n (ws ++ [word]) word out vw v' ∧ Turned w (W3.setCell ⟨b + 1, 1, none⟩ v') (vars4 b) B ∧ Blk W3 (b + 1) 29 #[.int .i64 n, lv] ∧ Blk W3 (b + 2) 9 #[.string (str word)] := by
  have hK : Keeps w W3 lv.ownBlock.toList := ((Keeps.refl w _).alloc _).grown hg (fun k hk => .inl (by simp [hk]))
  have hlow := h.low
  have hsize := h.size
  have hlv : ∀ k, lv.ownBlock = some k → B ≤ k := fun k hk => (own_lt h.line hk).2
  have hlt : ∀ {x : Nat}, x < B → x ∉ lv.ownBlock.toList := fun hx hm => by
    have := hlv _ (by simpa using hm)
    omega
  have hK2 : Keeps W3 (W3.setCell ⟨b + 1, 1, none⟩ v') [b + 1] := (Keeps.refl W3 _).setCell (p := ⟨b + 1, 1, none⟩) (.inl (by simp)) _
  have hS : ∀ x ∈ [b + 1], x < B := fun x hx => by simp at hx; omega
  have hS2 : ∀ x ∈ [b + 1], b ≤ x ∧ x < B := fun x hx => by simp at hx; omega
  have hl3 := h.lineB.keep hK (hlt (by omega))
  have hw3 := h.word.keep hK (hlt (by omega))
  refine ⟨⟨(h.wantB.keep hK (hlt (by omega))).keep hK2 (by simp), ?_, hl3.set_ 1 v', own_low (by simpa [wordVals] using hown) hK2 hS, ?_, hw3.keep hK2 (by simp), (h.out.keep hK (hlt (by omega))).keep hK2 (by simp), (h.fn.keep hK (hlt (by omega))).keep hK2 (by simp), h.low, by have := hK.size; have := hK2.size; omega⟩, ?_, hl3, hw3⟩
  · have h1 : WantAt W3 B b vw Rs := ⟨own_keep h.want.row hK (fun k hk hm => own_apart h.want.row h.line (by decide) hk (by simpa using hm)), h.want.high, fun p hp => own_keep (h.want.words p hp) hK (fun k hk hm => h.apart p hp k hk (by simpa using hm))⟩
    exact h1.keep hK2 h.low.2 hS2
  · intro p hp k hk e
    rcases hat with h1 | h1
    · exact h.apart p hp k hk (by rw [← h1]; exact e)
    · rw [h1] at e
      have := (own_lt (h.want.words p hp) hk).1
      cases e
      omega
  · exact (Turned.of_keeps hK hsize (fun x hx => .inr (hlv x (by simpa using hx)))).trans (Turned.of_keeps hK2 (by have := hK.size; omega) (fun x hx => .inl (by simp at hx; simp [hx])))
/-- behind 'append(want, line)', the value not yet stored -/
theorem St.grown_want (h : St w B b Rs n ws word out vw lv) (hne : ws ≠ [])
    (hg : (w.alloc (.cells #[.int .i64 n, lv] 29)).grownBy W3 vw.ownBlock) (hown : W3.ownsRow (b - 1) 29 2 v' (Rs.length + 1) (Rs.flatMap lineCells ++ [.int .i64 n, lv])) (hat : v'.ownBlock = vw.ownBlock ∨ v'.ownBlock = some (w.heap.size + 1)) (m : Nat) :
    St (((W3.setCell ⟨b, 0, none⟩ v').setCell ⟨b + 1, 0, none⟩ (.int .i64 m)).setCell ⟨b + 1, 1, none⟩ (.slice none 0 0)) B b (Rs ++ [((n, ws), lv)]) m [] word out v' (.slice none 0 0) ∧
      Turned w (W3.setCell ⟨b, 0, none⟩ v') (vars4 b) B ∧ Blk W3 b 23 #[vw] ∧ Blk W3 (b + 1) 29 #[.int .i64 n, lv] ∧ Blk W3 (b + 3) 4 #[.bool out] := by
  have hK : Keeps w W3 vw.ownBlock.toList := ((Keeps.refl w _).alloc _).grown hg (fun k hk => .inl (by simp [hk]))
  have hlow := h.low
  have hsize := h.size
  have hvw := h.want.high
  have hlt : ∀ {x : Nat}, b ≤ x ∧ x < B → x ∉ vw.ownBlock.toList := fun hx hm => by
    have := hvw _ (by simpa using hm)
    omega
  have hK2 : Keeps W3 (W3.setCell ⟨b, 0, none⟩ v') [b] := (Keeps.refl W3 _).setCell (p := ⟨b, 0, none⟩) (.inl (by simp)) _
  have hS : ∀ x ∈ [b], x < B := fun x hx => by simp at hx; omega
  have hS2 : ∀ x ∈ [b], b ≤ x ∧ x < B := fun x hx => by simp at hx; omega
  have hw3 := h.wantB.keep hK (hlt (by omega))
  have hl3 := h.lineB.keep hK (hlt (by omega))
  have ho3 := h.out.keep hK (hlt (by omega))
  have hx : ∀ {q : Value} {k : Nat} {xs : List Value}, w.ownsRow B 9 1 q k xs → W3.ownsRow B 9 1 q k xs := fun h1 => own_keep h1 hK (fun k hk hm => own_apart h1 h.want.row (by decide) hk (by simpa using hm))
  have hwant : WantAt W3 B b v' (Rs ++ [((n, ws), lv)]) := by
    refine ⟨by simpa [lineCells] using hown, fun k hk => ?_, fun p hp => ?_⟩
    · rcases hat with h1 | h1
      · exact hvw k (by rw [← h1]; exact hk)
      · rw [h1] at hk
        cases hk
        omega
    rcases List.mem_append.1 hp with h1 | h1
    · exact hx (h.want.words p h1)
    · rw [List.mem_singleton.1 h1]; exact hx h.line
  refine ⟨?_, (Turned.of_keeps hK hsize (fun x hx => (hvw x (by simpa using hx)).imp (fun e => by simp [e]) id)).trans (Turned.of_keeps hK2 (by have := hK.size; omega) (fun x hx => .inl (by simp at hx; simp [hx]))), hw3, hl3, ho3⟩
  have hK3 : Keeps (W3.setCell ⟨b, 0, none⟩ v') (((W3.setCell ⟨b, 0, none⟩ v').setCell ⟨b + 1, 0, none⟩ (.int .i64 m)).setCell ⟨b + 1, 1, none⟩ (.slice none 0 0)) [b + 1] := ((Keeps.refl _ _).setCell (p := ⟨b + 1, 0, none⟩) (.inl (by simp)) _).setCell (p := ⟨b + 1, 1, none⟩) (.inl (by simp)) _
  have hS3 : ∀ x ∈ [b + 1], b ≤ x ∧ x < B := fun x hx => by simp at hx; omega
  exact ⟨(hw3.set_ 0 v').keep hK3 (by simp), (hwant.keep hK2 h.low.2 hS2).keep hK3 h.low.2 hS3, ((hl3.keep hK2 (by simp)).set_ 0 _).set_ 1 _, World.ownsRow_nil _ _ _ _, (fun _ _ _ _ e => by cases e),
    ((h.word.keep hK (hlt (by omega))).keep hK2 (by simp)).keep hK3 (by simp), (ho3.keep hK2 (by simp)).keep hK3 (by simp), ((h.fn.keep hK (hlt (by omega))).keep hK2 (by simp)).keep hK3 (by simp), h.low, by have := hK.size; have := hK2.size; have := hK3.size; omega⟩
end
end Go.Proofs.YthcdibpajdnjaaaDoor
