/- slices.Reverse of an own row of ints; own rows beside others; words. -/
import Derived.Test.YtjllbchfojonhaaGreatDoorFlat
import Derived.Test.YtjllbchfojonhaaGreatDoorShelfG
namespace Go.Proofs.YtjllbchfojonhaaGreatDoor
open Go.RowKit Go.Shelf Go.Lib
set_option linter.unusedVariables false
set_option linter.unusedSimpArgs false

def setsL : List Value → Nat → List Value → List Value
  | xs, _, [] => xs
  | xs, o, v :: r => setsL (xs.set o v) (o + 1) r
theorem setsL_eq : ∀ (vs xs : List Value) (o : Nat), o + vs.length ≤ xs.length → setsL xs o vs = xs.take o ++ vs ++ xs.drop (o + vs.length)
  | [], xs, o, _ => by simp [setsL]
  | v :: r, xs, o, h => by
    have hl : o + (r.length + 1) ≤ xs.length := by simpa using h
    unfold setsL
    rw [setsL_eq r (xs.set o v) (o + 1) (by rw [List.length_set]; omega)]
    have e1 : (xs.set o v).take (o + 1) = xs.take o ++ [v] := by
      rw [List.take_succ_eq_append_getElem (by rw [List.length_set]; omega), List.take_set_of_le (Nat.le_refl _)]
      simp
    have e2 : (xs.set o v).drop (o + 1 + r.length) = xs.drop (o + (r.length + 1)) := by
      rw [List.drop_set_of_lt (by omega)]; congr 1; omega
    rw [e1, e2, List.length_cons]; simp
theorem own_setCells {base size n b : Nat} {e : TypeId} {v : Value} : ∀ (vs xs : List Value) (o : Nat) (w : World), w.ownsRow base e size v n xs → v.ownBlock = some b → (w.setCells b o vs).ownsRow base e size v n (setsL xs o vs)
  | [], _, _, _, h, _ => h
  | u :: r, xs, o, w, h, hb => own_setCells r (xs.set o u) (o + 1) (w.setCell ⟨b, o, none⟩ u) (own_setC h hb o u) hb
theorem keeps_setCells {a : World} {b : Nat} (hb : a.heap.size ≤ b) : ∀ (vs : List Value) (o : Nat) (w : World), Keeps a w [] → Keeps a (w.setCells b o vs) []
  | [], _, _, h => h
  | u :: r, o, w, h => keeps_setCells hb r (o + 1) (w.setCell ⟨b, o, none⟩ u) (h.setCell (.inr hb) u)
theorem own_drewN {w : World} {base size n : Nat} {e : TypeId} {v : Value} {xs : List Value} (h : w.ownsRow base e size v n xs) (q : Nat) : (w.drewN q).ownsRow base e size v n xs := own_keep h ((Keeps.refl w []).drewN q) (by simp)
theorem reverse_own (a0 : World) (zs : List Int) (v : Value) (w : World) (hk : Keeps a0 w []) (h : w.ownsRow a0.heap.size 3 1 v zs.length (zs.map (Value.int .i64))) (hn : zs.length ≤ 100000) :
    Calls Tryz.prog 127 #[v] w fun e w' => e = .returned (.tuple #[]) ∧ w'.ownsRow a0.heap.size 3 1 v zs.length (zs.reverse.map (Value.int .i64)) ∧ Keeps a0 w' [] := by
  obtain ⟨va, vc, rfl, hvc1, hvc2⟩ := own_form h
  by_cases h0 : zs.length = 0
  · have hz : zs = [] := List.eq_nil_of_length_eq_zero h0
    subst hz
    exact (show Calls Tryz.prog 127 #[.slice va 0 vc] w fun e w' => e = .returned (.tuple #[]) ∧ w' = w from Any.slices_Reverse_int_empty Tryz.laysRev va vc w).mono fun _ _ h9 => ⟨h9.1, by rw [h9.2]; exact h, by rw [h9.2]; exact hk⟩
  · obtain ⟨g, cap, e1, hg, hgo, -, -, -, hc, hf⟩ := own_cellC h (by omega)
    simp only [Value.slice.injEq] at e1
    obtain ⟨rfl, -, rfl⟩ := e1
    refine (show Calls Tryz.prog 127 #[.slice (some ⟨g, 0, none⟩) zs.length vc] w fun e w' => e = .returned (.tuple #[]) ∧ ∃ q, w' = (w.drewN q).setCells g 0 ((zs.take zs.length).reverse.map (Value.int .i64)) from Any.slices_Reverse_int_cells Tryz.laysRev g 0 zs.length vc zs w (Nat.le_refl _) (by omega) (fun j hj => ?_) (fun j hj => by rw [Nat.zero_add]; exact hf j)).mono fun e w' h9 => ?_
    · rw [Nat.zero_add, hc j (by omega), List.getElem?_map, List.getElem?_eq_getElem hj, List.getD, List.getElem?_eq_getElem hj]; rfl
    · obtain ⟨rfl, q, rfl⟩ := h9
      rw [List.take_length]
      refine ⟨rfl, ?_, keeps_setCells hg _ _ _ (hk.drewN q)⟩
      have h8 := own_setCells (zs.reverse.map (Value.int .i64)) _ 0 _ (own_drewN h q) hgo
      rw [setsL_eq _ _ _ (by simp)] at h8
      rw [List.take_zero, List.nil_append, List.drop_eq_nil_of_le (by simp), List.append_nil] at h8
      exact h8
/-- an own row, or a block, beside an append to another own row -/
theorem own_grown {W W3 : World} {b1 b2 s1 s2 n1 n2 : Nat} {e1 e2 : TypeId} {v1 v2 : Value} {x1 x2 : List Value} {o : Obj} (h : W.ownsRow b1 e1 s1 v1 n1 x1) (hr : W.ownsRow b2 e2 s2 v2 n2 x2) (hne : e1 ≠ e2) (hg : (W.alloc o).grownBy W3 v2.ownBlock) : W3.ownsRow b1 e1 s1 v1 n1 x1 := by
  refine World.ownsRow.kept (own_keep h ((Keeps.refl W []).alloc _) (by simp)) hg ?_
  cases e : v1.ownBlock with
  | none => exact .inl rfl
  | some k => exact .inr (fun e2 => own_apart h hr hne e e2.symm)
theorem blk_grown {W W3 : World} {b2 s2 n2 g : Nat} {e2 t : TypeId} {v2 : Value} {x2 : List Value} {cs : Array Value} {o : Obj} (h : Blk W g t cs) (hr : W.ownsRow b2 e2 s2 v2 n2 x2) (hne : e2 ≠ t) (hg : (W.alloc o).grownBy W3 v2.ownBlock) : Blk W3 g t cs := by
  have k : Keeps W W3 v2.ownBlock.toList := ((Keeps.refl W _).alloc o).grown hg (fun k hk => .inl (by rw [hk]; simp))
  exact h.keep k (fun hm => by rw [Option.mem_toList] at hm; exact own_ne hr h hne hm)
theorem keeps_grown {w0 W W3 : World} {base s2 n2 : Nat} {e2 : TypeId} {v2 : Value} {x2 : List Value} {o : Obj} (hk : Keeps w0 W []) (hr : W.ownsRow base e2 s2 v2 n2 x2) (hb : w0.heap.size ≤ base) (hg : (W.alloc o).grownBy W3 v2.ownBlock) : Keeps w0 W3 [] :=
  (hk.alloc o).grown hg (fun k hk2 => .inr (by have := (own_lt hr hk2).2; omega))
end Go.Proofs.YtjllbchfojonhaaGreatDoor
