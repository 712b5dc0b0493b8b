/- The document's Shaped, plainly: what makes it false. -/
import Derived.Test.YtjllbchfojonhaaGreatDoorTY
namespace Go.Proofs.YtjllbchfojonhaaGreatDoor
open Go.RowKit
set_option linter.unusedVariables false
set_option linter.unusedSimpArgs false
section
variable {f : FuncM}
theorem ref_no0 (h : ¬ (f.nv ≤ 512 ∧ f.np ≤ 8 ∧ f.np ≤ f.nv ∧ 1 ≤ f.nb ∧ f.nb ≤ 64)) : refShapedB f = false := by
 cases e : refShapedB f with
 | false => rfl
 | true =>
  unfold refShapedB at e
  simp only [Bool.and_eq_true, decide_eq_true_eq] at e
  exact absurd ⟨e.1.1.1.1.1.1.1, e.1.1.1.1.1.1.2, e.1.1.1.1.1.2, e.1.1.1.1.2, e.1.1.1.2⟩ h
theorem ref_no1 {k : Nat} (hk : k < f.np) (h : (f.params.2[k]! == (k : Int)) = false) : refShapedB f = false := by
 unfold refShapedB parB
 rw [show allR f.params.2.length (fun k => f.params.2[k]! == (k : Int)) = false from allR_no (show k < f.params.2.length from hk) h]; simp
theorem ref_no2 {k : Nat} (hk : k < f.nv) (h : refVarB f k = false) : refShapedB f = false := by
 unfold refShapedB
 rw [allR_no hk h]; simp
theorem ref_no3 {k : Nat} (hk : k < f.nb) (h : refBlockB f k = false) : refShapedB f = false := by
 unfold refShapedB
 rw [allR_no hk h]; simp
theorem ref_yes (h : f.nv ≤ 512 ∧ f.np ≤ 8 ∧ f.np ≤ f.nv ∧ 1 ≤ f.nb ∧ f.nb ≤ 64) (h1 : ∀ k, k < f.np → (f.params.2[k]! == (k : Int)) = true) (h2 : ∀ k, k < f.nv → refVarB f k = true) (h3 : ∀ k, k < f.nb → refBlockB f k = true) : refShapedB f = true := by
 unfold refShapedB parB
 rw [allR_yes h2, allR_yes h3, decide_eq_true h.1, decide_eq_true h.2.1, decide_eq_true h.2.2.1, decide_eq_true h.2.2.2.1, decide_eq_true h.2.2.2.2, show allR f.params.2.length (fun k => f.params.2[k]! == (k : Int)) = true from allR_yes h1]
 rfl
/-! a variable -/
theorem var_no1 {k : Nat} {y : VarM} (hy : f.vars.2[k]! = y) (h : nameB y.name = false) : refVarB f k = false := by
 unfold refVarB; rw [hy, h]; rfl
theorem var_no2 {k : Nat} {y : VarM} (hy : f.vars.2[k]! = y) (h : typeB y = false) : refVarB f k = false := by
 unfold refVarB; rw [hy, h]; simp
theorem var_no3 {k j : Nat} {y : VarM} (hy : f.vars.2[k]! = y) (hj : j < k) (h : f.vars.2[j]!.name = y.name) : refVarB f k = false := by
 unfold refVarB; rw [hy, allR_no hj (by rw [h]; simp)]; simp
theorem var_yes {k : Nat} {y : VarM} (hy : f.vars.2[k]! = y) (h1 : nameB y.name = true) (h2 : typeB y = true) (h3 : ∀ j, j < k → ¬ f.vars.2[j]!.name = y.name) : refVarB f k = true := by
 unfold refVarB; rw [hy, h1, h2, allR_yes (fun j hj => by rw [decide_eq_false (h3 j hj)]; rfl)]; rfl
/-! a block -/
variable {k j : Nat} {y : BlockM}
theorem blk_no1 (hy : f.blocks.2[k]! = y) (h : nameB y.name = false) : refBlockB f k = false := by unfold refBlockB; rw [hy, h]; rfl
theorem blk_no2 (hy : f.blocks.2[k]! = y) (hj : j < k) (h : f.blocks.2[j]!.name = y.name) : refBlockB f k = false := by
 unfold refBlockB; rw [hy, allR_no hj (by rw [h]; simp)]; simp
theorem blk_no3 (h : ¬ bsum (f.blocks.2.take (k + 1)) ≤ 1024) : refBlockB f k = false := by unfold refBlockB; rw [decide_eq_false h]; simp
theorem blk_no4 (hy : f.blocks.2[k]! = y) (h : blockB f y = false) : refBlockB f k = false := by unfold refBlockB; rw [hy, h]; simp
theorem blk_yes (hy : f.blocks.2[k]! = y) (h1 : nameB y.name = true) (h2 : ∀ j, j < k → ¬ f.blocks.2[j]!.name = y.name) (h3 : bsum (f.blocks.2.take (k + 1)) ≤ 1024) (h4 : blockB f y = true) : refBlockB f k = true := by
 unfold refBlockB; rw [hy, h1, allR_yes (fun j hj => by rw [decide_eq_false (h2 j hj)]; rfl), decide_eq_true h3, h4]; rfl
theorem block_no1 (hj : j < y.phis.2.length) (h : phiB f y.phis.2[j]! = false) : blockB f y = false := by
 unfold blockB; rw [all_no hj h]; rfl
theorem block_no2 (hj : j < y.insts.2.length) (h : instB f y.insts.2[j]! = false) : blockB f y = false := by
 unfold blockB; rw [all_no hj h]; simp
theorem block_no3 (h : termB f y.kind y.var y.to0 y.to1 = false) : blockB f y = false := by
 unfold blockB; rw [h]; simp
theorem block_yes (h1 : ∀ j, j < y.phis.2.length → phiB f y.phis.2[j]! = true) (h2 : ∀ j, j < y.insts.2.length → instB f y.insts.2[j]! = true) (h3 : termB f y.kind y.var y.to0 y.to1 = true) : blockB f y = true := by
 unfold blockB; rw [all_yes h1, all_yes h2, h3]; rfl
/-! a phi -/
variable {p : PhiM}
theorem phi_no1 (h : inB p.dst f.nv = false) : phiB f p = false := by unfold phiB; rw [h]; simp
theorem phi_no2 (h : ¬ p.args.2.length = p.froms.2.length) : phiB f p = false := by unfold phiB; rw [show (p.args.2.length == p.froms.2.length) = false by simpa using h]; simp
theorem phi_no3 (h : p.args.2.length = 0) : phiB f p = false := by unfold phiB; rw [h]; rfl
theorem phi_no4 (hj : j < p.args.2.length) (h : inB p.args.2[j]! f.nv = false) : phiB f p = false := by unfold phiB; rw [all_no (p := (inB · f.nv)) hj h]; simp
theorem phi_no5 (hj : j < p.froms.2.length) (h : inB p.froms.2[j]! f.nb = false) : phiB f p = false := by unfold phiB; rw [all_no (p := (inB · f.nb)) hj h]; simp
theorem phi_yes (h1 : inB p.dst f.nv = true) (h2 : p.args.2.length = p.froms.2.length) (h3 : ¬ p.args.2.length = 0) (h4 : ∀ j, j < p.args.2.length → inB p.args.2[j]! f.nv = true ∧ inB p.froms.2[j]! f.nb = true) : phiB f p = true := by
 unfold phiB
 rw [h1, all_yes (p := (inB · f.nv)) (fun j hj => (h4 j hj).1), all_yes (p := (inB · f.nb)) (fun j hj => (h4 j (by omega)).2), show (p.args.2.length == p.froms.2.length) = true by simpa using h2, show (p.args.2.length == 0) = false by simpa using h3]
 rfl
/-! an instruction -/
variable {x : InstM}
theorem inst_no1 (h : ¬ (0 ≤ x.op ∧ x.op < 27)) : instB f x = false := by
 cases e : instB f x with
 | false => rfl
 | true =>
  unfold instB at e
  simp only [Bool.and_eq_true, decide_eq_true_eq] at e
  exact absurd ⟨e.1.1.1.1.1, e.1.1.1.1.2⟩ h
end
theorem in_any (v : Int) (n : Nat) (w : World) : Calls Tryz.prog 84 #[.int .i64 v, .int .i64 n] w fun e w' => e = .returned (.bool (inB v n)) ∧ w = w' := by
 by_cases h0 : 0 ≤ v <;> by_cases h1 : v < (n : Int)
 all_goals
  go_enter Tryz.func84, Tryz.ntmps84
  go_wp2
  go_ret
  exact ⟨ret_bool (by simp [inB, h0, h1]), rfl⟩
theorem kword0 : ∀ k : Nat, k < 27 → ((kword k).toList == [99, 111, 110, 115, 116]) = decide (k = 0) ∧ ((kword k).toList == [112, 105]) = decide (k = 25) := by
 intro k hk
 rw [ByteArray.toList_eq]
 revert hk k
 decide +kernel
theorem kmakes0 : ∀ k : Nat, k < 27 → (kmakes k).toList.isEmpty = !(mk1 (k : Int)) := by
 intro k hk
 rw [ByteArray.toList_eq]
 revert hk k
 decide +kernel
theorem inst_bd {f : FuncM} {x : InstM} (h : 0 ≤ x.op ∧ x.op < 27) : instB f x = (!(!(x.args.2.length == ntk x.op) || !(if mk1 x.op = true then inB x.dst f.nv else x.dst == -1) || !(x.num == 0 || (x.op == 0 || x.op == 25))) && x.args.2.all (inB · f.nv)) := by
 unfold instB
 rw [decide_eq_true h.1, decide_eq_true h.2]
 generalize (x.args.2.length == ntk x.op) = A
 generalize (if mk1 x.op = true then inB x.dst f.nv else x.dst == -1) = B
 generalize (x.num == 0 || (x.op == 0 || x.op == 25)) = C
 generalize x.args.2.all (inB · f.nv) = D
 cases A <;> cases B <;> cases C <;> cases D <;> rfl
theorem rows_at (k : Nat) (hk : k < 27) (w : World) : Calls Tryz.prog 51 #[] w fun e w' => ∃ g, e = .returned (.slice (some ⟨g, 0, none⟩) 27 27) ∧ Keeps w w' [] ∧ w'.cell? ⟨g, k * 3, none⟩ = some (.string (kword k)) ∧ w'.cell? ⟨g, k * 3 + 1, none⟩ = some (.string (ktakes k)) ∧ w'.cell? ⟨g, k * 3 + 2, none⟩ = some (.string (kmakes k)) := by
 refine (rows_any w).mono ?_
 rintro e w' ⟨rfl, rfl⟩
 have h := Blk.new w 110 kcells
 obtain ⟨h0, h1, h2⟩ := kcell k hk
 exact ⟨_, rfl, (Keeps.refl w []).alloc _, by rw [h.cell, h0], by rw [h.cell, h1], by rw [h.cell, h2]⟩
theorem blk_three {X : World} {g : Nat} {a b c x y z : Value} (h : Blk X g 110 #[x, y, z]) : Blk (((X.setCell ⟨g, 0, none⟩ a).setCell ⟨g, 1, none⟩ b).setCell ⟨g, 2, none⟩ c) g 110 #[a, b, c] := by
 have := ((h.set_ 0 a).set_ 1 b).set_ 2 c
 simpa using this
theorem keeps_three {w X : World} {g : Nat} {a b c : Value} (h : Keeps w X []) (hg : w.heap.size ≤ g) : Keeps w (((X.setCell ⟨g, 0, none⟩ a).setCell ⟨g, 1, none⟩ b).setCell ⟨g, 2, none⟩ c) [] :=
 ((h.setCell (.inr hg) a).setCell (.inr hg) b).setCell (.inr hg) c
end Go.Proofs.YtjllbchfojonhaaGreatDoor
