/- Package ops: the contract of Takes. -/
import Derived.Test.YtjllbchfojonhaaDoorOpMakes
import Derived.Lib.OthersKept
namespace Go.Proofs.YtjllbchfojonhaaDoor
open Go.RowKit Go.Lib
set_option linter.unusedVariables false

/-- the types of a string's first signs -/
def tcells (s : ByteArray) (k : Nat) : List Value := (s.data.toList.take k).map fun (c : UInt8) => .int .i64 (tsign c.toNat)
theorem tcells_len (s : ByteArray) (k : Nat) (h : k ≤ s.size) : (tcells s k).length = k := by
  simp [tcells]; omega
theorem tcells_snoc (s : ByteArray) (k : Nat) (h : k < s.size) : tcells s (k + 1) = tcells s k ++ [.int .i64 (tsign (s[k]'h).toNat)] := by
  unfold tcells
  rw [List.take_succ_eq_append_getElem (by simpa using h), List.map_append]
  rfl
theorem keeps_iter (w : World) (k : Nat) (s : ByteArray) (pos : Nat) : Keeps w (w.iterAt k s pos) [k] :=
  ⟨rfl, rfl, rfl, by simp [World.iterAt], fun i hi hn => by
    simp at hn
    simp [World.iterAt, Ne.symm hn]⟩
theorem info67 : (Tryd.prog.info? 67).map (fun i => (i.zero, i.size, i.bytes)) = some (some (.int .i64 0), 1, 8) := by kernel_rfl

/-- a round of Takes -/
structure TK (w wr : World) (it : Nat) (s : ByteArray) (k : Nat) (v : Value) : Prop where
  keeps : Keeps w wr []
  iter : wr.heap[it]? = some (.stringIter s k)
  own : wr.ownsRow (it + 1) 67 1 v k (tcells s k)
  lo : w.heap.size ≤ it
theorem own_out {w : World} {B : Nat} {v : Value} {n : Nat} {xs : List Value} {e : TypeId} (h : w.ownsRow (B + 1) e 1 v n xs) : ∀ k, v.ownBlock = some k → k ∉ [B] := fun k hk hm => by
  have := (own_lt h hk).2
  simp at hm
  omega

theorem own_low {w : World} {base b : Nat} {e : TypeId} {size n : Nat} {v : Value} {xs : List Value} (h : w.ownsRow base e size v n xs) (hb : b ≤ base) : w.ownsRow b e size v n xs := by
  obtain ⟨h0, h1 | ⟨g, cap, cs, h2, h3, h4⟩⟩ := h
  · exact ⟨h0, .inl h1⟩
  · exact ⟨h0, .inr ⟨g, cap, cs, h2, by omega, h4⟩⟩
theorem TK.step {w wr w' : World} {it k : Nat} {s : ByteArray} {v v' : Value} (h : TK w wr it s k v) (hlt : k < s.size) (o : Obj)
    (hown : w'.ownsRow (it + 1) 67 1 v' (k + 1) (tcells s k ++ [.int .i64 (tsign (s[k]'hlt).toNat)])) (hg : ((wr.iterAt it s (k + 1)).alloc o).grownBy w' v.ownBlock) : TK w w' it s (k + 1) v' := by
  have k1 : Keeps w w' [it] := (((h.keeps.trans (keeps_iter wr it s (k + 1))).mono (T := [it]) (fun i hi => .inl (by simpa using hi))).alloc o).grown hg (fun i hi => .inr (by
    have := (own_lt h.own hi).2
    have := h.lo
    omega))
  have hne : v.ownBlock ≠ some it := fun hv => by
    have := (own_lt h.own hv).2
    omega
  refine ⟨k1.mono (fun i hi => .inr (by simp at hi; rw [hi]; exact h.lo)), ?_, by rw [tcells_snoc s k hlt]; exact hown, h.lo⟩
  have hsz : it < wr.heap.size := by
    rcases Nat.lt_or_ge it wr.heap.size with h1 | h1
    · exact h1
    · have := h.iter
      rw [Array.getElem?_eq_none h1] at this
      cases this
  have hA := iterAt_heap wr it s k (k + 1) h.iter
  rw [hg.block it (by simp [World.iterAt]; omega) (fun h1 => hne h1.symm)]
  rw [← hA]
  simp [World.alloc, Array.getElem?_push, World.iterAt]
  omega

set_option maxRecDepth 100000 in
set_option maxHeartbeats 8000000 in
theorem takes_any (op : Int) (x y s : ByteArray) (hs : s.size ≤ 100) (ha : ∀ j (hj : j < s.size), (s[j]'hj).toNat < 128) (C : ∀ w, Calls Tryd.prog 98 #[.int .i64 op] w fun e w' => e = .returned (.agg #[.string x, .string s, .string y]) ∧ Keeps w w' []) (w : World) :
    Calls Tryd.prog 70 #[.int .i64 op] w fun e w' => ∃ v, e = .returned v ∧ w'.ownsRow w.heap.size 67 1 v s.size (tcells s s.size) ∧ Keeps w w' [] := by
  have C' := kept C
  have HA := kept ha
  clear C ha
  have hf := kfield1 x s y
  obtain ⟨i0, hi, hz0, hz1, hz2⟩ := info_parts info67
  go_enter Tryd.func70, Tryd.ntmps70
  go_wp2_with fail
  refine (C'.out _).mono ?_
  rintro e w1 ⟨rfl, k1⟩
  have K1 := kept k1
  clear k1
  have T0 := kept (TK.mk (w := w1) (wr := w1.iter s 0) (it := w1.heap.size) (s := s) (k := 0) (v := .slice none 0 0) ((Keeps.refl w1 []).alloc _) (World.iter_heap w1 s 0) ⟨rfl, .inl ⟨rfl, rfl⟩⟩ (Nat.le_refl _))
  go_wp2
  generalize hit : w1.heap.size = it at *
  generalize w1.iter s 0 = W0 at *
  go_loopw [3] (fun v wr => ∃ k : Nat, k ≤ s.size ∧ TK w1 wr it s k v) (fun _ wr => s.size - wr.iterPos it)
  case atStart => exact ⟨0, by omega, T0.out⟩
  case round =>
    obtain ⟨k, hk, hT⟩ := hrel
    have HT := kept hT
    clear hT
    by_cases hlt : k < s.size
    · have hnx := fun ty => run_next_ascii_at (P := Tryd.prog) wr it s k ty HT.out.iter hlt (HA.out k hlt)
      have D := kept (fun w => typed_any ((s[k]'hlt).toNat : Int) w)
      have HB := kept (own_keep HT.out.own (keeps_iter wr it s (k + 1)) (own_out HT.out.own))
      have hsz := HT.out.lo
      go_wp2_with fail
      refine (D.out _).mono ?_
      rintro e w2 ⟨rfl, rfl⟩
      go_wp2_with (at_builtin; refine wpList_append_own_at _ rfl (.tmp 13) (.tmp 16) 116 rfl (it + 1) 67 i0 _ 1 8 Tryd.underlying116 hi hz0 hz1 hz2 rfl (by decide) _ _ _ rfl (HB.out.alloc _) ⟨(wr.iterAt it s (k + 1)).heap.size, 0, none⟩ 1 1 [.int .i64 (tsign (s[k]'hlt).toNat)] rfl rfl ?c1 ?c2 ?c3 ?c4 ?c5 ?_)
      case c1 => exact cell_one_new _ _ _
      case c2 => intro u hu; simp at hu; subst hu; rfl
      case c3 => unfold maxLen; omega
      case c4 => omega
      case c5 =>
        have : it < wr.heap.size := by
          rcases Nat.lt_or_ge it wr.heap.size with h1 | h1
          · exact h1
          · have h2 := HT.out.iter
            rw [Array.getElem?_eq_none h1] at h2
            cases h2
        simp [World.iterAt]
        omega
      intro v' w3 hown hg hnz hat
      have T3 := kept (HT.out.step hlt _ hown hg)
      clear hnz hat hown hg
      go_wp2
      go_roundw
      case rel => exact ⟨k + 1, by omega, T3.out⟩
      case measure =>
        have h1 := HT.out.iter
        have h2 := T3.out.iter
        simp only [World.iterPos, h1, h2]
        omega
    · have hnx := fun ty => run_next_end_at (P := Tryd.prog) wr it s k ty HT.out.iter hlt
      go_wp2
      go_ret
      have hks : k = s.size := by omega
      have h1 := HT.out.own
      have h2 := HT.out.lo
      have h3 := K1.out.size
      refine ⟨_, rfl, ?_, ?_⟩
      · rw [hks] at h1
        exact own_low h1 (by omega)
      · exact K1.out.trans HT.out.keeps
end Go.Proofs.YtjllbchfojonhaaDoor
