/- What the call itself made: rows by their types; a copied block; the clone of a row of variables. -/
import Derived.Test.YtjllbchfojonhaaGreatDoorMS
import Derived.Test.YtjllbchfojonhaaGreatDoorGU
namespace Go.Proofs.YtjllbchfojonhaaGreatDoor
open Go.RowKit
set_option linter.unusedVariables false
set_option linter.unusedSimpArgs false

theorem blk_neT {W : World} {g h : Nat} {t u : TypeId} {cs ds : Array Value} (a : Blk W g t cs) (b : Blk W h u ds) (ht : t ≠ u) : g ≠ h := fun e => by
 subst e
 unfold Blk at a b
 rw [a] at b
 simp only [Option.some.injEq, Obj.cells.injEq] at b
 exact ht b.2.1
/-- the blocks of one type stay -/
def TyK (T : TypeId) (W W' : World) : Prop := ∀ b cs, Blk W b T cs → Blk W' b T cs
theorem TyK.refl (T : TypeId) (W : World) : TyK T W W := fun _ _ h => h
theorem TyK.trans {T : TypeId} {A B C : World} (h : TyK T A B) (k : TyK T B C) : TyK T A C := fun b cs hb => k b cs (h b cs hb)
theorem tk_keeps {T : TypeId} {W W' : World} (k : Keeps W W' []) : TyK T W W' := fun b cs h => h.keep k (by simp)
theorem tk_grown {T : TypeId} {W W3 : World} {b2 s2 n2 : Nat} {e2 : TypeId} {v2 : Value} {x2 : List Value} (hr : W.ownsRow b2 e2 s2 v2 n2 x2) (hne : e2 ≠ T) (hg : W.grownBy W3 v2.ownBlock) : TyK T W W3 := fun b cs h => blk_grown0 h hr hne hg
theorem tk_set {T t : TypeId} {W : World} {g i : Nat} {cs : Array Value} {u : Value} (hb : Blk W g t cs) (hne : t ≠ T) : TyK T W (W.setCell ⟨g, i, none⟩ u) := fun b ds h =>
 h.keep ((Keeps.refl W [g]).setCell (.inl (by simp)) u) (by simp; exact fun e => blk_neT h hb (fun q => hne q.symm) e)
theorem own_tk {T : TypeId} {W W' : World} {base size n : Nat} {v : Value} {xs : List Value} (h : W.ownsRow base T size v n xs) (k : TyK T W W') : W'.ownsRow base T size v n xs := by
 obtain ⟨h1, h2 | ⟨g, cap, cur, e, h2, h3, h4⟩⟩ := h
 ·exact ⟨h1, .inl h2⟩
 ·exact ⟨h1, .inr ⟨g, cap, cur, e, h2, k g cur h3, h4⟩⟩
/-- a block of a program that the call made -/
structure OwnZ (base : Nat) (W : World) (z : BlockM) : Prop where
 phis : W.ownsRow base 95 3 z.phis.1 z.phis.2.length (z.phis.2.map PhiM.cells).flatten
 phi : ∀ p ∈ z.phis.2, W.ownsRow base 3 1 p.args.1 p.args.2.length (p.args.2.map (Value.int .i64)) ∧ W.ownsRow base 3 1 p.froms.1 p.froms.2.length (p.froms.2.map (Value.int .i64))
 insts : W.ownsRow base 43 4 z.insts.1 z.insts.2.length (z.insts.2.map InstM.cells).flatten
 inst : ∀ x ∈ z.insts.2, W.ownsRow base 3 1 x.args.1 x.args.2.length (x.args.2.map (Value.int .i64))
theorem OwnZ.tk {base : Nat} {W W' : World} {z : BlockM} (h : OwnZ base W z) (k3 : TyK 3 W W') (k43 : TyK 43 W W') (k95 : TyK 95 W W') : OwnZ base W' z :=
 ⟨own_tk h.phis k95, fun p hp => ⟨own_tk (h.phi p hp).1 k3, own_tk (h.phi p hp).2 k3⟩, own_tk h.insts k43, fun x hx => own_tk (h.inst x hx) k3⟩
theorem OwnZ.keep {base : Nat} {W W' : World} {z : BlockM} (h : OwnZ base W z) (k : Keeps W W' []) : OwnZ base W' z := h.tk (tk_keeps k) (tk_keeps k) (tk_keeps k)
theorem OwnZ.low {base b : Nat} {W : World} {z : BlockM} (h : OwnZ base W z) (hb : b ≤ base) : OwnZ b W z :=
 ⟨own_low h.phis hb, fun p hp => ⟨own_low (h.phi p hp).1 hb, own_low (h.phi p hp).2 hb⟩, own_low h.insts hb, fun x hx => own_low (h.inst x hx) hb⟩
theorem info83 : (Tryz.prog.info? 83).map (fun i => (i.zero, i.size, i.bytes)) = some (some (.agg #[.string ⟨#[]⟩, .int .i64 0]), 2, 24) := by kernel_rfl

set_option maxRecDepth 100000 in
set_option maxHeartbeats 200000000 in
theorem clone_varsR (v : Value) (l : List VarM) (w : World) (hp : Row w 2 v (l.map VarM.cells)) (hm : l.length ≤ 100000) : Calls Tryz.prog 71 #[v] w fun e w' => (∃ v', e = .returned v' ∧ w'.ownsRow w.heap.size 83 2 v' l.length (l.map VarM.cells).flatten) ∧ Keeps w w' [] := by
 obtain ⟨i0, hi, he⟩ := Option.map_eq_some_iff.1 info83
 simp only [Prod.mk.injEq] at he
 obtain ⟨hz0, hz1, hz2⟩ := he
 have HP := kept hp
 obtain ⟨a, ca, rfl, hl1, hm1, hc1⟩ := hp.open_
 clear hp hl1 hm1
 skip
 cases a with
 | none =>
  have hn : l.length = 0 := by rcases Nat.eq_zero_or_pos l.length with h | h; exact h; (obtain ⟨b, off, e, _⟩ := hc1 0 h; cases e)
  obtain rfl : l = [] := List.eq_nil_of_length_eq_zero hn
  clear hc1 hn HP hm
  rw [show ([] : List VarM).length = 0 from rfl]
  have hx : ∀ w, Sem.run Tryz.prog (binOp BinOp.eql 22 (.slice none 0 ca) (.slice none 0 0)) w = .ok (.bool true) w := by intro w; rfl
  go_enter Tryz.func71, Tryz.ntmps71
  go_wp2
  go_ret
  exact ⟨⟨_, rfl, World.ownsRow_nil _ _ _ _⟩, Keeps.refl _ _⟩
 | some ad =>
  have hx : ∀ w, Sem.run Tryz.prog (binOp BinOp.eql 22 (.slice (some ad) l.length ca) (.slice none 0 0)) w = .ok (.bool false) w := by intro w; rfl
  have HLE := kept (show (l.map VarM.cells).length = l.length from List.length_map ..)
  clear hc1
  go_enter Tryz.func71, Tryz.ntmps71
  go_wp2_with (first | (at_builtin; go_must (refine wpList_append_row rfl (.tmp 5) (.tmp 6) 22 rfl w.heap.size 83 i0 (.agg #[.string ⟨#[]⟩, .int .i64 0]) 2 24 Tryz.underlying22 hi hz0 hz1 hz2 rfl (by decide) (.slice (some ⟨w.heap.size, 0, none⟩) 0 0) 0 [] rfl (own_empty (Blk.new w 83 #[])) (.slice (some ad) l.length ca) (l.map VarM.cells) rfl (Row.keep HP.out ((Keeps.refl w []).alloc _)) (fun e he => by obtain ⟨x, _, rfl⟩ := List.mem_map.1 he; rfl) (fun e he u hu => by obtain ⟨x, _, rfl⟩ := List.mem_map.1 he; simp [VarM.cells] at hu; rcases hu with rfl | rfl <;> rfl) (by rw [List.length_map]; unfold maxLen; omega) (by rw [List.length_map]; omega) (by rw [size_alloc1]; omega) ?_); intro v1 w4 hown hgrow; have k3 := kept (((Keeps.refl w []).alloc (.cells #[] 83)).grown hgrow (fun k hk => by simp [Value.ownBlock] at hk; exact .inr (by omega))); have OB := kept hown; clear hown hgrow))
  go_ret
  exact ⟨⟨_, rfl, by have h9 := OB.out; rw [Nat.zero_add, HLE.out, List.nil_append] at h9; exact h9⟩, k3.out⟩
end Go.Proofs.YtjllbchfojonhaaGreatDoor
