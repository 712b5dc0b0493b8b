/- The law ScanLines: where it begins; what stands at a place of a text. -/
import Derived.Test.YthcdibpajdnjaaaDoorEnds
namespace Go.Proofs.YthcdibpajdnjaaaDoor
open Go.RowKit
set_option linter.unusedVariables false

theorem St.keep {w w' : World} {B b n : Nat} {Rs : List LineV} {ws : List (List UInt8)} {word : List UInt8} {out : Bool} {vw lv : Value} {S : List Nat} (h : St w B b Rs n ws word out vw lv) (k : Keeps w w' S) (hS : ∀ x ∈ S, b + 5 ≤ x ∧ x < B) :
    St w' B b Rs n ws word out vw lv := by
  have hn : ∀ {x : Nat}, x < b + 5 → x ∉ S := fun hx hm => by have := hS _ hm; omega
  exact ⟨h.wantB.keep k (hn (by omega)), h.want.keep k h.low.2 (fun x hx => by have := hS x hx; omega), h.lineB.keep k (hn (by omega)), own_low h.line k (fun x hx => (hS x hx).2), h.apart, h.word.keep k (hn (by omega)), h.out.keep k (hn (by omega)), h.fn.keep k (hn (by omega)), h.low, by have := h.size; have := k.size; omega⟩

/-- the world in which the loop begins -/
def startW (w : World) (s : ByteArray) : World :=
  ((((((w.alloc (.cells #[] 29)).alloc (.cells #[.slice (some ⟨w.heap.size, 0, none⟩) 0 0] 23)).alloc (.cells #[.int .i64 1, .slice none 0 0] 29)).alloc (.cells #[.string ⟨#[]⟩] 9)).alloc (.cells #[.bool false] 4)).alloc
    (.cells #[.func (.func 9) #[] #[.pointer (some ⟨w.heap.size + 1 + 1 + 1, 0, none⟩), .pointer (some ⟨w.heap.size + 1 + 1, 0, none⟩)]] 1)).iter s 0
theorem start_ok (w : World) (s : ByteArray) : St (startW w s) (w.heap.size + 7) (w.heap.size + 1) [] 1 [] [] false (.slice (some ⟨w.heap.size, 0, none⟩) 0 0) (.slice none 0 0) ∧ (startW w s).heap[w.heap.size + 6]? = some (.stringIter s 0) ∧
    Keeps w (startW w s) [] ∧ w.heap.size + 7 ≤ (startW w s).heap.size := by
  have k0 := Keeps.refl w []
  have b0 : Blk (w.alloc (.cells #[] 29)) w.heap.size 29 #[] := Blk.new w 29 #[]
  generalize hw1 : w.alloc (.cells #[] 29) = w1 at *
  have z1 : w1.heap.size = w.heap.size + 1 := by rw [← hw1]; simp
  have b1 := Blk.new w1 23 #[.slice (some ⟨w.heap.size, 0, none⟩) 0 0]
  generalize hw2 : w1.alloc (.cells #[.slice (some ⟨w.heap.size, 0, none⟩) 0 0] 23) = w2 at *
  have z2 : w2.heap.size = w.heap.size + 2 := by rw [← hw2]; simp; omega
  have b2 := Blk.new w2 29 #[.int .i64 1, .slice none 0 0]
  generalize hw3 : w2.alloc (.cells #[.int .i64 1, .slice none 0 0] 29) = w3 at *
  have z3 : w3.heap.size = w.heap.size + 3 := by rw [← hw3]; simp; omega
  have b3 := Blk.new w3 9 #[.string ⟨#[]⟩]
  generalize hw4 : w3.alloc (.cells #[.string ⟨#[]⟩] 9) = w4 at *
  have z4 : w4.heap.size = w.heap.size + 4 := by rw [← hw4]; simp; omega
  have b4 := Blk.new w4 4 #[.bool false]
  generalize hw5 : w4.alloc (.cells #[.bool false] 4) = w5 at *
  have z5 : w5.heap.size = w.heap.size + 5 := by rw [← hw5]; simp; omega
  have b5 := Blk.new w5 1 #[.func (.func 9) #[] #[.pointer (some ⟨w.heap.size + 1 + 1 + 1, 0, none⟩), .pointer (some ⟨w.heap.size + 1 + 1, 0, none⟩)]]
  generalize hw6 : w5.alloc (.cells #[.func (.func 9) #[] #[.pointer (some ⟨w.heap.size + 1 + 1 + 1, 0, none⟩), .pointer (some ⟨w.heap.size + 1 + 1, 0, none⟩)]] 1) = w6 at *
  have z6 : w6.heap.size = w.heap.size + 6 := by rw [← hw6]; simp; omega
  have e : startW w s = w6.iter s 0 := by unfold startW; rw [hw1, hw2, hw3, hw4, hw5, hw6]
  rw [e]
  have it := World.iter_heap w6 s 0
  have k1 : Keeps w w1 [] := by rw [← hw1]; exact (Keeps.refl _ _).alloc _
  have k2 : Keeps w1 w2 [] := by rw [← hw2]; exact (Keeps.refl _ _).alloc _
  have k3 : Keeps w2 w3 [] := by rw [← hw3]; exact (Keeps.refl _ _).alloc _
  have k4 : Keeps w3 w4 [] := by rw [← hw4]; exact (Keeps.refl _ _).alloc _
  have k5 : Keeps w4 w5 [] := by rw [← hw5]; exact (Keeps.refl _ _).alloc _
  have k6 : Keeps w5 w6 [] := by rw [← hw6]; exact (Keeps.refl _ _).alloc _
  have k7 : Keeps w6 (w6.iter s 0) [] := (Keeps.refl _ _).alloc _
  have z7 : (w6.iter s 0).heap.size = w.heap.size + 7 := by simp [World.iter]; omega
  have q6 := k6.and_then k7
  have q5 := k5.and_then q6
  have q4 := k4.and_then q5
  have q3 := k3.and_then q4
  have q2 := k2.and_then q3
  have q1 := k1.and_then q2
  rw [z1] at b1
  rw [z2] at b2
  rw [z3] at b3
  rw [z4] at b4
  rw [z5] at b5
  rw [z6] at it
  refine ⟨⟨b1.keep q3 (by simp), ⟨⟨by simp, .inr ⟨w.heap.size, 0, #[], rfl, by omega, b0.keep q2 (by simp), Nat.le_refl _, by simp, rfl, rfl⟩⟩, fun k hk => by cases hk; left; simp, by simp⟩, b2.keep q4 (by simp), World.ownsRow_nil _ _ _ _, by simp, b3.keep q5 (by simp), b4.keep q6 (by simp), b5.keep k7 (by simp), by omega, by omega⟩, it, q1, by omega⟩

theorem wrong_cons (b : UInt8) (t : List UInt8) (h : b.toNat < 128) : wrong (b :: t) = ((decide ((b.toNat : Int) < 32) && !(decide ((b.toNat : Int) = 10))) || wrong t) := by
  unfold wrong
  rw [Lib.validD_cons _ _ h, ctl_cons]
  cases Lib.validD t <;> cases (decide ((b.toNat : Int) < 32) && !decide ((b.toNat : Int) = 10)) <;> rfl
theorem wrong_wide {e : List UInt8} {r : Nat} (h : Wide e r) (t : List UInt8) : wrong (e ++ t) = wrong t := by
  unfold wrong
  have h2 := h.two
  have hne : e ++ t ≠ [] := fun h0 => by
    have h3 := congrArg List.length h0
    rw [List.length_append, List.length_nil] at h3
    omega
  rw [Lib.validD_step _ hne, h.tells t, if_neg (fun h0 => absurd h0.2 (by show ¬ e.length = 1; omega)), ctl_wide h.high]
  simp
def fffd : ByteArray := ⟨#[239, 191, 189]⟩
theorem fffd_tells (l : List UInt8) : Lib.decodeL (239 :: 191 :: 189 :: l) = (65533, 3) := by
  rw [Lib.decodeL_N]
  show Lib.decodeN (l.length + 3) 239 191 189 _ = (65533, 3)
  exact decodeN_three _ 239 191 189 _ (by decide) (by omega) (by decide) (by decide) (by decide) (by decide)
/-- what stands at a place -/
theorem head_step {s : ByteArray} {pos : Nat} (hp : pos < s.size) :
    (Utf8.decode s pos = (65533, 1) ∧ wrong (s.data.toList.drop pos) = true ∧ (pos + 3 ≤ s.size → s.extract pos (pos + 3) ≠ fffd)) ∨
    (∃ b t, s.data.toList.drop pos = b :: t ∧ b.toNat < 128 ∧ Utf8.decode s pos = (b.toNat, 1) ∧ s.data.toList.drop (pos + 1) = t) ∨
    (∃ e r t, s.data.toList.drop pos = e ++ t ∧ Wide e r ∧ Utf8.decode s pos = (r, e.length) ∧ s.data.toList.drop (pos + e.length) = t ∧ (r = 65533 → pos + 3 ≤ s.size ∧ s.extract pos (pos + 3) = fffd)) := by
  have hl : 0 < (s.data.toList.drop pos).length := by rw [List.length_drop, ← Lib.size_eq]; omega
  have hne : s.data.toList.drop pos ≠ [] := List.length_pos_iff.1 hl
  have hd := Lib.decodeL_drop s pos
  have hlen : (s.data.toList.drop pos).length = s.size - pos := by rw [List.length_drop, ← Lib.size_eq]
  have hext : (s.extract pos (pos + 3)).data.toList = (s.data.toList.drop pos).take 3 := by rw [Lib.extract_data]; simp
  by_cases hb : (Lib.decodeL (s.data.toList.drop pos)).1 = 65533 ∧ (Lib.decodeL (s.data.toList.drop pos)).2 = 1
  · left
    refine ⟨by rw [← hd]; exact Prod.ext hb.1 hb.2, ?_, fun h3 he => ?_⟩
    · unfold wrong
      rw [Lib.validD_step _ hne, if_pos hb]
      rfl
    · rw [he] at hext
      generalize hx : s.data.toList.drop pos = x at *
      have h4 : x = 239 :: 191 :: 189 :: x.drop 3 := by
        have := List.take_append_drop 3 x
        rw [← hext] at this
        exact this.symm
      rw [h4, fffd_tells] at hb
      exact absurd hb.2 (by decide)
  · right
    rcases head_cases _ hne hb with ⟨b, t, h1, h2⟩ | ⟨e, r, t, h1, h2, h3⟩
    · left
      refine ⟨b, t, h1, h2, by rw [← hd, h1, decodeL_asc b t h2], ?_⟩
      rw [← List.drop_drop, h1]
      rfl
    · right
      refine ⟨e, r, t, h1, h2, by rw [← hd, h3], ?_, fun hr => ?_⟩
      · rw [← List.drop_drop, h1]
        simp
      · subst hr
        have he : e = [239, 191, 189] := by rw [← h2.code]; decide
        subst he
        rw [h1] at hlen hext
        simp only [List.length_append, List.length_cons, List.length_nil] at hlen
        refine ⟨by omega, ?_⟩
        apply ByteArray.ext
        apply Array.toList_inj.1
        rw [hext]
        rfl
end Go.Proofs.YthcdibpajdnjaaaDoor
