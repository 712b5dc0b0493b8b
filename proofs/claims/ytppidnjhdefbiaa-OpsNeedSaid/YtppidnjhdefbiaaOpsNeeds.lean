/- Package ops: Needs. -/
import Derived.Test.YtppidnjhdefbiaaOpsClone
import Derived.Test.YtppidnjhdefbiaaOpsTellBase
import Derived.Deep.RegionHeld3
namespace Go.Proofs.Ytppidnjhdefbiaa
open Go.RowKit
set_option linter.unusedVariables false
set_option linter.unusedSimpArgs false

theorem takes_small' : ∀ k : Nat, k < 27 → (ktakes k).size ≤ 100 ∧ (ktakes k).data.toList.all (fun c => decide (c.toNat < 128)) = true := by decide +kernel
theorem takes_ascii' (k : Nat) (hk : k < 27) (j : Nat) (hj : j < (ktakes k).size) : ((ktakes k)[j]'hj).toNat < 128 := by
  have h := (takes_small' k hk).2
  rw [List.all_eq_true] at h
  have h' : j < (ktakes k).data.toList.length := by rw [Array.length_toList]; exact hj
  have := h _ (List.getElem_mem h')
  exact of_decide_eq_true this
theorem takes_k (k : Nat) (hk : k < 27) (m : Nat) (hm : (ktakes k).size = m) (w : World) : Calls Try.prog 45 #[.int .i64 k] w fun e w' => ∃ va vc, e = .returned (.slice va m vc) ∧ Keeps w w' [] := by
  subst hm
  refine (takes_any k (kword k) (kmakes k) (ktakes k) (takes_small' k hk).1 (takes_ascii' k hk) (of_yes k hk) w).mono ?_
  rintro e w' ⟨v, rfl, ho, k1⟩
  obtain ⟨va, vc, rfl, _⟩ := own_form ho
  exact ⟨va, vc, rfl, k1⟩
theorem add_flat (b off k : Nat) : (⟨b, off, none⟩ : Addr).add k = ⟨b, off + k, none⟩ := by
  unfold Addr.add
  split
  · rename_i h; obtain ⟨rfl, _⟩ := h; rfl
  · rfl
theorem cells_from {W : World} {b off len : Nat} {z : Nat → Int} (fr m : Nat) (h : fr + m ≤ len) (hz : ∀ i, i < len → W.cell? ⟨b, off + i, none⟩ = some (.int .i64 (z i))) :
    ∀ j u, ((List.range m).map (fun i => Value.int .i64 (z (fr + i))))[j]? = some u → W.cell? ((⟨b, off + fr, none⟩ : Addr).add j) = some u := by
  intro j u hj
  rw [List.getElem?_map] at hj
  by_cases hjm : j < m
  · rw [List.getElem?_range hjm] at hj
    simp at hj
    subst hj
    rw [add_flat, Nat.add_assoc]
    exact hz (fr + j) (by omega)
  · rw [List.getElem?_eq_none (by simp; omega)] at hj
    simp at hj
/-- the instruction's cells, behind calls -/
structure NB (w W : World) (g : Nat) (op dst num : Int) (s : Value) : Prop where
  keeps : Keeps w W []
  blk : Blk W g 77 #[.int .i64 op, .int .i64 dst, s, .int .i64 num]
section
variable {w W W' W0 : World} {g : Nat} {op dst num : Int} {s : Value}
theorem NB.next (h : NB w W g op dst num s) (k : Keeps W W' []) : NB w W' g op dst num s := ⟨by simpa using h.keeps.trans k, h.blk.keep k (by simp)⟩
theorem NB.later (h : NB w W g op dst num s) (k : Keeps W0 W' []) (e : Keeps W W0 []) : NB w W' g op dst num s := (h.next e).next k
theorem NB.cells (h : NB w W g op dst num s) : W.cell? ⟨g, 0, none⟩ = some (.int .i64 op) ∧ W.cell? ⟨g, 2, none⟩ = some s := ⟨h.blk.cell 0, h.blk.cell 2⟩
end

set_option maxRecDepth 100000 in
set_option maxHeartbeats 8000000 in
theorem needs_no (op dst num : Int) (sa : Option Addr) (len cap : Nat) (h : rawB op = false) (w : World) :
    Calls Try.prog 59 #[.agg #[.int .i64 op, .int .i64 dst, .slice sa len cap, .int .i64 num]] w fun e w' => e = .returned (.tuple #[.int .i64 0, .slice none 0 0, .bool false]) ∧ Keeps w w' [] := by
  have CR := kept (raw_any op)
  rw [h] at CR
  clear h
  go_enter Try.func59, Try.ntmps59
  go_wp2_with fail
  have N1 : Hid (NB w (w.alloc (.cells #[.int .i64 op, .int .i64 dst, .slice sa len cap, .int .i64 num] 77)) w.heap.size op dst num (.slice sa len cap)) := ⟨(Keeps.refl w []).alloc _, Blk.new _ _ _⟩
  generalize w.alloc (.cells #[.int .i64 op, .int .i64 dst, .slice sa len cap, .int .i64 num] 77) = W1 at *
  generalize w.heap.size = g at *
  obtain ⟨c0, c2⟩ := N1.out.cells
  refine wp_region_held_drew (S := (fun w' => w'.cell? ⟨g, 0, none⟩ = some (.int .i64 op) ∧ w'.cell? ⟨g, 2, none⟩ = some (.slice sa len cap))) (by kernel_rfl) ?hSs (fun hHeld => ?_)
  case hSs => exact ⟨c0, c2⟩
  refine wpAnyH_take (i := 0) (oi := { dst := some 7, op := Op.fieldAddr 77 (Operand.tmp 1) 0, type := 0, pos := "ops.go:126", after := #[], guard := none }) (v := ?v0) rfl (by kernel_rfl) (by kernel_rfl) (by kernel_rfl) (fun _ _ _ h => h) (Or.inl ⟨by rfl, ?y0⟩) hHeld ?r0
  case y0 => (intro w hSw; (try dsimp only at hSw); go_simp; (try with_reducible rfl))
  try simp only [Act.put, List.setIfInBounds_toArray, List.set_cons_zero, List.set_cons_succ]
  refine wpAnyH_take (i := 1) (oi := { dst := some 8, op := Op.load 44 (Operand.tmp 7), type := 44, pos := "ops.go:126", after := #[{ on := 0, ground := Ground.data }], guard := none }) (v := ?v1) rfl (by kernel_rfl) (by kernel_rfl) (by kernel_rfl) (fun _ _ _ h => h) (Or.inl ⟨by rfl, ?y1⟩) hHeld ?r1
  case y1 => (intro w hSw; (try dsimp only at hSw); go_simp; (try with_reducible rfl))
  try simp only [Act.put, List.setIfInBounds_toArray, List.set_cons_zero, List.set_cons_succ]
  refine wpAnyH_ready (rs := [2]) (by kernel_rfl) (by simp) ?_
  refine AllReadyH.cons (o := { dst := some 9, op := Op.call { callee := Callee.value (Operand.func 51), args := #[Operand.tmp 8], argTypes := #[44] }, type := 4, pos := "ops.go:126", after := #[{ on := 1, ground := Ground.data }], guard := none }) rfl (fun K hK => ?_) AllReadyH.nil
  go_simp
  (with_reducible refine (CR.out _).mono ?_)
  rintro e wx ⟨rfl, k⟩
  show K _ _
  have nx := N1.out.later k (by first | exact Keeps.refl _ [] | exact (Keeps.refl _ []).drew)
  clear k c0 c2 N1
  obtain ⟨c0, c2⟩ := nx.cells
  have N1 := kept nx
  clear nx
  clear hHeld
  refine hK.out _ _ ?hS2 (fun hHeld => ?_)
  case hS2 => exact ⟨c0, c2⟩
  clear hK K
  try simp only [Act.put, List.setIfInBounds_toArray, List.set_cons_zero, List.set_cons_succ]
  refine wpAnyH_take (i := 3) (oi := { dst := some 10, op := Op.unOp UnOp.not 4 (Operand.tmp 9), type := 4, pos := "ops.go:126", after := #[{ on := 2, ground := Ground.data }], guard := none }) (v := ?v3) rfl (by kernel_rfl) (by kernel_rfl) (by kernel_rfl) (fun _ _ _ h => h) (Or.inl ⟨by rfl, ?y3⟩) hHeld ?r3
  case y3 => (intro w hSw; (try dsimp only at hSw); go_simp; (try with_reducible rfl))
  try simp only [Act.put, List.setIfInBounds_toArray, List.set_cons_zero, List.set_cons_succ]
  refine wpAnyH_take (i := 4) (oi := { dst := some 11, op := Op.move (Operand.tmp 10), type := 4, pos := "ops.go:126", after := #[{ on := 3, ground := Ground.data }, { on := 2, ground := Ground.chain }], guard := none }) (v := ?v4) rfl (by kernel_rfl) (by kernel_rfl) (by kernel_rfl) (fun _ _ _ h => h) (Or.inl ⟨by rfl, ?y4⟩) hHeld ?r4
  case y4 => (intro w hSw; (try dsimp only at hSw); go_simp; (try with_reducible rfl))
  try simp only [Act.put, List.setIfInBounds_toArray, List.set_cons_zero, List.set_cons_succ]
  refine wpAnyH_take (i := 5) (oi := { dst := some 12, op := Op.fieldAddr 77 (Operand.tmp 1) 2, type := 0, pos := "ops.go:126", after := #[{ on := 4, ground := Ground.guard }], guard := some (4, false) }) (v := undef) rfl (by kernel_rfl) (by kernel_rfl) (by kernel_rfl) (fun _ _ _ h => h) (Or.inr ⟨by rfl, rfl⟩) hHeld ?_
  try simp only [Act.put, List.setIfInBounds_toArray, List.set_cons_zero, List.set_cons_succ]
  refine wpAnyH_take (i := 6) (oi := { dst := some 13, op := Op.load 58 (Operand.tmp 12), type := 58, pos := "ops.go:126", after := #[{ on := 5, ground := Ground.data }, { on := 4, ground := Ground.guard }], guard := some (4, false) }) (v := undef) rfl (by kernel_rfl) (by kernel_rfl) (by kernel_rfl) (fun _ _ _ h => h) (Or.inr ⟨by rfl, rfl⟩) hHeld ?_
  try simp only [Act.put, List.setIfInBounds_toArray, List.set_cons_zero, List.set_cons_succ]
  refine wpAnyH_take (i := 7) (oi := { dst := some 14, op := Op.call { callee := Callee.builtin Builtin.len, args := #[Operand.tmp 13], argTypes := #[58] }, type := 3, pos := "ops.go:126", after := #[{ on := 6, ground := Ground.data }, { on := 4, ground := Ground.guard }], guard := some (4, false) }) (v := undef) rfl (by kernel_rfl) (by kernel_rfl) (by kernel_rfl) (fun _ _ _ h => h) (Or.inr ⟨by rfl, rfl⟩) hHeld ?_
  try simp only [Act.put, List.setIfInBounds_toArray, List.set_cons_zero, List.set_cons_succ]
  refine wpAnyH_take (i := 8) (oi := { dst := some 15, op := Op.fieldAddr 77 (Operand.tmp 1) 0, type := 0, pos := "ops.go:126", after := #[{ on := 4, ground := Ground.guard }], guard := some (4, false) }) (v := undef) rfl (by kernel_rfl) (by kernel_rfl) (by kernel_rfl) (fun _ _ _ h => h) (Or.inr ⟨by rfl, rfl⟩) hHeld ?_
  try simp only [Act.put, List.setIfInBounds_toArray, List.set_cons_zero, List.set_cons_succ]
  refine wpAnyH_take (i := 9) (oi := { dst := some 16, op := Op.load 44 (Operand.tmp 15), type := 44, pos := "ops.go:126", after := #[{ on := 8, ground := Ground.data }, { on := 4, ground := Ground.guard }], guard := some (4, false) }) (v := undef) rfl (by kernel_rfl) (by kernel_rfl) (by kernel_rfl) (fun _ _ _ h => h) (Or.inr ⟨by rfl, rfl⟩) hHeld ?_
  try simp only [Act.put, List.setIfInBounds_toArray, List.set_cons_zero, List.set_cons_succ]
  refine wpAnyH_take (i := 10) (oi := { dst := some 17, op := Op.call { callee := Callee.value (Operand.func 45), args := #[Operand.tmp 16], argTypes := #[44] }, type := 63, pos := "ops.go:126", after := #[{ on := 9, ground := Ground.data }, { on := 4, ground := Ground.chain }, { on := 4, ground := Ground.guard }], guard := some (4, false) }) (v := undef) rfl (by kernel_rfl) (by kernel_rfl) (by kernel_rfl) (fun _ _ _ h => h) (Or.inr ⟨by rfl, rfl⟩) hHeld ?_
  try simp only [Act.put, List.setIfInBounds_toArray, List.set_cons_zero, List.set_cons_succ]
  refine wpAnyH_take (i := 11) (oi := { dst := some 18, op := Op.call { callee := Callee.builtin Builtin.len, args := #[Operand.tmp 17], argTypes := #[63] }, type := 3, pos := "ops.go:126", after := #[{ on := 10, ground := Ground.data }, { on := 4, ground := Ground.guard }], guard := some (4, false) }) (v := undef) rfl (by kernel_rfl) (by kernel_rfl) (by kernel_rfl) (fun _ _ _ h => h) (Or.inr ⟨by rfl, rfl⟩) hHeld ?_
  try simp only [Act.put, List.setIfInBounds_toArray, List.set_cons_zero, List.set_cons_succ]
  refine wpAnyH_take (i := 12) (oi := { dst := some 19, op := Op.binOp BinOp.lss 3 (Operand.tmp 14) (Operand.tmp 18) 3, type := 4, pos := "ops.go:126", after := #[{ on := 7, ground := Ground.data }, { on := 11, ground := Ground.data }, { on := 4, ground := Ground.guard }], guard := some (4, false) }) (v := undef) rfl (by kernel_rfl) (by kernel_rfl) (by kernel_rfl) (fun _ _ _ h => h) (Or.inr ⟨by rfl, rfl⟩) hHeld ?_
  try simp only [Act.put, List.setIfInBounds_toArray, List.set_cons_zero, List.set_cons_succ]
  refine wpAnyH_take (i := 13) (oi := { dst := some 20, op := Op.pick (Operand.tmp 11) (Operand.const (Value.bool true)) (Operand.tmp 19), type := 4, pos := "ops.go:126", after := #[{ on := 4, ground := Ground.data }, { on := 12, ground := Ground.data }], guard := none }) (v := ?v13) rfl (by kernel_rfl) (by kernel_rfl) (by kernel_rfl) (fun _ _ _ h => h) (Or.inl ⟨by rfl, ?y13⟩) hHeld ?r13
  case y13 => (intro w hSw; (try dsimp only at hSw); go_simp; (try with_reducible rfl))
  try simp only [Act.put, List.setIfInBounds_toArray, List.set_cons_zero, List.set_cons_succ]
  refine wpAnyH_done (by kernel_rfl) ?_ _
  go_wp2
  refine bodyPost_ret (v := .tuple #[.int .i64 0, .slice none 0 0, .bool false]) (by simp [results, Try.results59, go_sem]) rfl ⟨rfl, N1.out.keeps⟩

set_option maxRecDepth 100000 in
set_option maxHeartbeats 8000000 in
theorem needs_short5 (dst num : Int) (sa : Option Addr) (len cap : Nat) (h : len < 2) (w : World) :
    Calls Try.prog 59 #[.agg #[.int .i64 5, .int .i64 dst, .slice sa len cap, .int .i64 num]] w fun e w' => e = .returned (.tuple #[.int .i64 0, .slice none 0 0, .bool false]) ∧ Keeps w w' [] := by
  have CR := kept (show ∀ w, Calls Try.prog 51 #[.int .i64 5] w fun e w' => e = .returned (.bool true) ∧ Keeps w w' [] from raw_any 5)
  have CT := kept (show ∀ w, Calls Try.prog 45 #[.int .i64 5] w fun e w' => ∃ va vc, e = .returned (.slice va 2 vc) ∧ Keeps w w' [] from fun w => takes_k 5 (by decide) 2 rfl w)
  have hd : decide ((len : Int) < 2) = true := by simp; omega
  go_enter Try.func59, Try.ntmps59
  go_wp2_with fail
  have N1 : Hid (NB w (w.alloc (.cells #[.int .i64 5, .int .i64 dst, .slice sa len cap, .int .i64 num] 77)) w.heap.size 5 dst num (.slice sa len cap)) := ⟨(Keeps.refl w []).alloc _, Blk.new _ _ _⟩
  generalize w.alloc (.cells #[.int .i64 5, .int .i64 dst, .slice sa len cap, .int .i64 num] 77) = W1 at *
  generalize w.heap.size = g at *
  obtain ⟨c0, c2⟩ := N1.out.cells
  go_region_held3 (fun w' => w'.cell? ⟨g, 0, none⟩ = some (.int .i64 5) ∧ w'.cell? ⟨g, 2, none⟩ = some (.slice sa len cap)) (first | exact ⟨c0, c2⟩ | go_keep) (first | (go_at_call 51; (with_reducible refine (CR.out _).mono ?_); rintro e wx ⟨rfl, k⟩; have nx := N1.out.later k (by first | exact Keeps.refl _ [] | exact (Keeps.refl _ []).drew); clear k c0 c2 N1; obtain ⟨c0, c2⟩ := nx.cells; have N1 := kept nx; clear nx) | (go_at_call 45; (with_reducible refine (CT.out _).mono ?_); rintro e wx ⟨va, vc, rfl, k⟩; have nx := N1.out.later k (by first | exact Keeps.refl _ [] | exact (Keeps.refl _ []).drew); clear k c0 c2 N1; obtain ⟨c0, c2⟩ := nx.cells; have N1 := kept nx; clear nx))
  go_wp2
  refine bodyPost_ret (v := .tuple #[.int .i64 0, .slice none 0 0, .bool false]) (by simp [results, Try.results59, go_sem]) rfl ⟨rfl, N1.out.keeps⟩

set_option maxRecDepth 100000 in
set_option maxHeartbeats 8000000 in
theorem needs_yes5 (dst num : Int) (b off : Nat) (len cap : Nat) (h : 2 ≤ len) (hc : len ≤ cap) (hm : cap ≤ maxLen) (z : Nat → Int) (w : World) (hz : ∀ i, i < len → w.cell? ⟨b, off + i, none⟩ = some (.int .i64 (z i))) :
    Calls Try.prog 59 #[.agg #[.int .i64 5, .int .i64 dst, .slice (some ⟨b, off, none⟩) len cap, .int .i64 num]] w fun e w' => ∃ v, e = .returned (.tuple #[.int .i64 20, v, .bool true]) ∧ w'.ownsRow w.heap.size 3 1 v 1 [.int .i64 (z 1)] ∧ Keeps w w' [] := by
  have CR := kept (show ∀ w, Calls Try.prog 51 #[.int .i64 5] w fun e w' => e = .returned (.bool true) ∧ Keeps w w' [] from raw_any 5)
  have CT := kept (show ∀ w, Calls Try.prog 45 #[.int .i64 5] w fun e w' => ∃ va vc, e = .returned (.slice va 2 vc) ∧ Keeps w w' [] from fun w => takes_k 5 (by decide) 2 rfl w)
  have hd : decide ((len : Int) < 2) = false := by simp; omega
  have HZ := kept hz
  clear hz
  go_enter Try.func59, Try.ntmps59
  go_wp2_with fail
  have N1 : Hid (NB w (w.alloc (.cells #[.int .i64 5, .int .i64 dst, .slice (some ⟨b, off, none⟩) len cap, .int .i64 num] 77)) w.heap.size 5 dst num (.slice (some ⟨b, off, none⟩) len cap)) := ⟨(Keeps.refl w []).alloc _, Blk.new _ _ _⟩
  generalize w.alloc (.cells #[.int .i64 5, .int .i64 dst, .slice (some ⟨b, off, none⟩) len cap, .int .i64 num] 77) = W1 at *
  generalize w.heap.size = g at *
  obtain ⟨c0, c2⟩ := N1.out.cells
  go_region_held3 (fun w' => w'.cell? ⟨g, 0, none⟩ = some (.int .i64 5) ∧ w'.cell? ⟨g, 2, none⟩ = some (.slice (some ⟨b, off, none⟩) len cap)) (first | exact ⟨c0, c2⟩ | go_keep) (first | (go_at_call 51; (with_reducible refine (CR.out _).mono ?_); rintro e wx ⟨rfl, k⟩; have nx := N1.out.later k (by first | exact Keeps.refl _ [] | exact (Keeps.refl _ []).drew); clear k c0 c2 N1; obtain ⟨c0, c2⟩ := nx.cells; have N1 := kept nx; clear nx) | (go_at_call 45; (with_reducible refine (CT.out _).mono ?_); rintro e wx ⟨va, vc, rfl, k⟩; have nx := N1.out.later k (by first | exact Keeps.refl _ [] | exact (Keeps.refl _ []).drew); clear k c0 c2 N1; obtain ⟨c0, c2⟩ := nx.cells; have N1 := kept nx; clear nx))
  go_wp2_with fail
  refine (clone_any _ ⟨b, _, none⟩ 1 _ [.int .i64 (z 1)] rfl (cells_from 1 1 (by omega) (fun i hi => N1.out.keeps.cellOf (HZ.out i hi))) (by simp [Value.oneCell']) (by decide)).mono ?_
  rintro e wx ⟨v, rfl, ho, k⟩
  have hlow := own_low ho N1.out.keeps.size
  have hkp : Keeps w wx [] := by simpa using N1.out.keeps.trans k
  clear ho k
  go_wp2
  exact bodyPost_ret (v := .tuple #[.int .i64 20, v, .bool true]) (by simp [results, Try.results59, go_sem]) rfl ⟨v, rfl, hlow, hkp⟩

set_option maxRecDepth 100000 in
set_option maxHeartbeats 8000000 in
theorem needs_short6 (dst num : Int) (sa : Option Addr) (len cap : Nat) (h : len < 2) (w : World) :
    Calls Try.prog 59 #[.agg #[.int .i64 6, .int .i64 dst, .slice sa len cap, .int .i64 num]] w fun e w' => e = .returned (.tuple #[.int .i64 0, .slice none 0 0, .bool false]) ∧ Keeps w w' [] := by
  have CR := kept (show ∀ w, Calls Try.prog 51 #[.int .i64 6] w fun e w' => e = .returned (.bool true) ∧ Keeps w w' [] from raw_any 6)
  have CT := kept (show ∀ w, Calls Try.prog 45 #[.int .i64 6] w fun e w' => ∃ va vc, e = .returned (.slice va 2 vc) ∧ Keeps w w' [] from fun w => takes_k 6 (by decide) 2 rfl w)
  have hd : decide ((len : Int) < 2) = true := by simp; omega
  go_enter Try.func59, Try.ntmps59
  go_wp2_with fail
  have N1 : Hid (NB w (w.alloc (.cells #[.int .i64 6, .int .i64 dst, .slice sa len cap, .int .i64 num] 77)) w.heap.size 6 dst num (.slice sa len cap)) := ⟨(Keeps.refl w []).alloc _, Blk.new _ _ _⟩
  generalize w.alloc (.cells #[.int .i64 6, .int .i64 dst, .slice sa len cap, .int .i64 num] 77) = W1 at *
  generalize w.heap.size = g at *
  obtain ⟨c0, c2⟩ := N1.out.cells
  go_region_held3 (fun w' => w'.cell? ⟨g, 0, none⟩ = some (.int .i64 6) ∧ w'.cell? ⟨g, 2, none⟩ = some (.slice sa len cap)) (first | exact ⟨c0, c2⟩ | go_keep) (first | (go_at_call 51; (with_reducible refine (CR.out _).mono ?_); rintro e wx ⟨rfl, k⟩; have nx := N1.out.later k (by first | exact Keeps.refl _ [] | exact (Keeps.refl _ []).drew); clear k c0 c2 N1; obtain ⟨c0, c2⟩ := nx.cells; have N1 := kept nx; clear nx) | (go_at_call 45; (with_reducible refine (CT.out _).mono ?_); rintro e wx ⟨va, vc, rfl, k⟩; have nx := N1.out.later k (by first | exact Keeps.refl _ [] | exact (Keeps.refl _ []).drew); clear k c0 c2 N1; obtain ⟨c0, c2⟩ := nx.cells; have N1 := kept nx; clear nx))
  go_wp2
  refine bodyPost_ret (v := .tuple #[.int .i64 0, .slice none 0 0, .bool false]) (by simp [results, Try.results59, go_sem]) rfl ⟨rfl, N1.out.keeps⟩

set_option maxRecDepth 100000 in
set_option maxHeartbeats 8000000 in
theorem needs_yes6 (dst num : Int) (b off : Nat) (len cap : Nat) (h : 2 ≤ len) (hc : len ≤ cap) (hm : cap ≤ maxLen) (z : Nat → Int) (w : World) (hz : ∀ i, i < len → w.cell? ⟨b, off + i, none⟩ = some (.int .i64 (z i))) :
    Calls Try.prog 59 #[.agg #[.int .i64 6, .int .i64 dst, .slice (some ⟨b, off, none⟩) len cap, .int .i64 num]] w fun e w' => ∃ v, e = .returned (.tuple #[.int .i64 20, v, .bool true]) ∧ w'.ownsRow w.heap.size 3 1 v 1 [.int .i64 (z 1)] ∧ Keeps w w' [] := by
  have CR := kept (show ∀ w, Calls Try.prog 51 #[.int .i64 6] w fun e w' => e = .returned (.bool true) ∧ Keeps w w' [] from raw_any 6)
  have CT := kept (show ∀ w, Calls Try.prog 45 #[.int .i64 6] w fun e w' => ∃ va vc, e = .returned (.slice va 2 vc) ∧ Keeps w w' [] from fun w => takes_k 6 (by decide) 2 rfl w)
  have hd : decide ((len : Int) < 2) = false := by simp; omega
  have HZ := kept hz
  clear hz
  go_enter Try.func59, Try.ntmps59
  go_wp2_with fail
  have N1 : Hid (NB w (w.alloc (.cells #[.int .i64 6, .int .i64 dst, .slice (some ⟨b, off, none⟩) len cap, .int .i64 num] 77)) w.heap.size 6 dst num (.slice (some ⟨b, off, none⟩) len cap)) := ⟨(Keeps.refl w []).alloc _, Blk.new _ _ _⟩
  generalize w.alloc (.cells #[.int .i64 6, .int .i64 dst, .slice (some ⟨b, off, none⟩) len cap, .int .i64 num] 77) = W1 at *
  generalize w.heap.size = g at *
  obtain ⟨c0, c2⟩ := N1.out.cells
  go_region_held3 (fun w' => w'.cell? ⟨g, 0, none⟩ = some (.int .i64 6) ∧ w'.cell? ⟨g, 2, none⟩ = some (.slice (some ⟨b, off, none⟩) len cap)) (first | exact ⟨c0, c2⟩ | go_keep) (first | (go_at_call 51; (with_reducible refine (CR.out _).mono ?_); rintro e wx ⟨rfl, k⟩; have nx := N1.out.later k (by first | exact Keeps.refl _ [] | exact (Keeps.refl _ []).drew); clear k c0 c2 N1; obtain ⟨c0, c2⟩ := nx.cells; have N1 := kept nx; clear nx) | (go_at_call 45; (with_reducible refine (CT.out _).mono ?_); rintro e wx ⟨va, vc, rfl, k⟩; have nx := N1.out.later k (by first | exact Keeps.refl _ [] | exact (Keeps.refl _ []).drew); clear k c0 c2 N1; obtain ⟨c0, c2⟩ := nx.cells; have N1 := kept nx; clear nx))
  go_wp2_with fail
  refine (clone_any _ ⟨b, _, none⟩ 1 _ [.int .i64 (z 1)] rfl (cells_from 1 1 (by omega) (fun i hi => N1.out.keeps.cellOf (HZ.out i hi))) (by simp [Value.oneCell']) (by decide)).mono ?_
  rintro e wx ⟨v, rfl, ho, k⟩
  have hlow := own_low ho N1.out.keeps.size
  have hkp : Keeps w wx [] := by simpa using N1.out.keeps.trans k
  clear ho k
  go_wp2
  exact bodyPost_ret (v := .tuple #[.int .i64 20, v, .bool true]) (by simp [results, Try.results59, go_sem]) rfl ⟨v, rfl, hlow, hkp⟩

set_option maxRecDepth 100000 in
set_option maxHeartbeats 8000000 in
theorem needs_short12 (dst num : Int) (sa : Option Addr) (len cap : Nat) (h : len < 1) (w : World) :
    Calls Try.prog 59 #[.agg #[.int .i64 12, .int .i64 dst, .slice sa len cap, .int .i64 num]] w fun e w' => e = .returned (.tuple #[.int .i64 0, .slice none 0 0, .bool false]) ∧ Keeps w w' [] := by
  have CR := kept (show ∀ w, Calls Try.prog 51 #[.int .i64 12] w fun e w' => e = .returned (.bool true) ∧ Keeps w w' [] from raw_any 12)
  have CT := kept (show ∀ w, Calls Try.prog 45 #[.int .i64 12] w fun e w' => ∃ va vc, e = .returned (.slice va 1 vc) ∧ Keeps w w' [] from fun w => takes_k 12 (by decide) 1 rfl w)
  have hd : decide ((len : Int) < 1) = true := by simp; omega
  go_enter Try.func59, Try.ntmps59
  go_wp2_with fail
  have N1 : Hid (NB w (w.alloc (.cells #[.int .i64 12, .int .i64 dst, .slice sa len cap, .int .i64 num] 77)) w.heap.size 12 dst num (.slice sa len cap)) := ⟨(Keeps.refl w []).alloc _, Blk.new _ _ _⟩
  generalize w.alloc (.cells #[.int .i64 12, .int .i64 dst, .slice sa len cap, .int .i64 num] 77) = W1 at *
  generalize w.heap.size = g at *
  obtain ⟨c0, c2⟩ := N1.out.cells
  go_region_held3 (fun w' => w'.cell? ⟨g, 0, none⟩ = some (.int .i64 12) ∧ w'.cell? ⟨g, 2, none⟩ = some (.slice sa len cap)) (first | exact ⟨c0, c2⟩ | go_keep) (first | (go_at_call 51; (with_reducible refine (CR.out _).mono ?_); rintro e wx ⟨rfl, k⟩; have nx := N1.out.later k (by first | exact Keeps.refl _ [] | exact (Keeps.refl _ []).drew); clear k c0 c2 N1; obtain ⟨c0, c2⟩ := nx.cells; have N1 := kept nx; clear nx) | (go_at_call 45; (with_reducible refine (CT.out _).mono ?_); rintro e wx ⟨va, vc, rfl, k⟩; have nx := N1.out.later k (by first | exact Keeps.refl _ [] | exact (Keeps.refl _ []).drew); clear k c0 c2 N1; obtain ⟨c0, c2⟩ := nx.cells; have N1 := kept nx; clear nx))
  go_wp2
  refine bodyPost_ret (v := .tuple #[.int .i64 0, .slice none 0 0, .bool false]) (by simp [results, Try.results59, go_sem]) rfl ⟨rfl, N1.out.keeps⟩

set_option maxRecDepth 100000 in
set_option maxHeartbeats 8000000 in
theorem needs_yes12 (dst num : Int) (b off : Nat) (len cap : Nat) (h : 1 ≤ len) (hc : len ≤ cap) (hm : cap ≤ maxLen) (z : Nat → Int) (w : World) (hz : ∀ i, i < len → w.cell? ⟨b, off + i, none⟩ = some (.int .i64 (z i))) :
    Calls Try.prog 59 #[.agg #[.int .i64 12, .int .i64 dst, .slice (some ⟨b, off, none⟩) len cap, .int .i64 num]] w fun e w' => ∃ v, e = .returned (.tuple #[.int .i64 19, v, .bool true]) ∧ w'.ownsRow w.heap.size 3 1 v 1 [.int .i64 (z 0)] ∧ Keeps w w' [] := by
  have CR := kept (show ∀ w, Calls Try.prog 51 #[.int .i64 12] w fun e w' => e = .returned (.bool true) ∧ Keeps w w' [] from raw_any 12)
  have CT := kept (show ∀ w, Calls Try.prog 45 #[.int .i64 12] w fun e w' => ∃ va vc, e = .returned (.slice va 1 vc) ∧ Keeps w w' [] from fun w => takes_k 12 (by decide) 1 rfl w)
  have hd : decide ((len : Int) < 1) = false := by simp; omega
  have HZ := kept hz
  clear hz
  go_enter Try.func59, Try.ntmps59
  go_wp2_with fail
  have N1 : Hid (NB w (w.alloc (.cells #[.int .i64 12, .int .i64 dst, .slice (some ⟨b, off, none⟩) len cap, .int .i64 num] 77)) w.heap.size 12 dst num (.slice (some ⟨b, off, none⟩) len cap)) := ⟨(Keeps.refl w []).alloc _, Blk.new _ _ _⟩
  generalize w.alloc (.cells #[.int .i64 12, .int .i64 dst, .slice (some ⟨b, off, none⟩) len cap, .int .i64 num] 77) = W1 at *
  generalize w.heap.size = g at *
  obtain ⟨c0, c2⟩ := N1.out.cells
  go_region_held3 (fun w' => w'.cell? ⟨g, 0, none⟩ = some (.int .i64 12) ∧ w'.cell? ⟨g, 2, none⟩ = some (.slice (some ⟨b, off, none⟩) len cap)) (first | exact ⟨c0, c2⟩ | go_keep) (first | (go_at_call 51; (with_reducible refine (CR.out _).mono ?_); rintro e wx ⟨rfl, k⟩; have nx := N1.out.later k (by first | exact Keeps.refl _ [] | exact (Keeps.refl _ []).drew); clear k c0 c2 N1; obtain ⟨c0, c2⟩ := nx.cells; have N1 := kept nx; clear nx) | (go_at_call 45; (with_reducible refine (CT.out _).mono ?_); rintro e wx ⟨va, vc, rfl, k⟩; have nx := N1.out.later k (by first | exact Keeps.refl _ [] | exact (Keeps.refl _ []).drew); clear k c0 c2 N1; obtain ⟨c0, c2⟩ := nx.cells; have N1 := kept nx; clear nx))
  go_wp2_with fail
  refine (clone_any _ ⟨b, _, none⟩ 1 _ [.int .i64 (z 0)] rfl (cells_from 0 1 (by omega) (fun i hi => N1.out.keeps.cellOf (HZ.out i hi))) (by simp [Value.oneCell']) (by decide)).mono ?_
  rintro e wx ⟨v, rfl, ho, k⟩
  have hlow := own_low ho N1.out.keeps.size
  have hkp : Keeps w wx [] := by simpa using N1.out.keeps.trans k
  clear ho k
  go_wp2
  exact bodyPost_ret (v := .tuple #[.int .i64 19, v, .bool true]) (by simp [results, Try.results59, go_sem]) rfl ⟨v, rfl, hlow, hkp⟩

set_option maxRecDepth 100000 in
set_option maxHeartbeats 8000000 in
theorem needs_short13 (dst num : Int) (sa : Option Addr) (len cap : Nat) (h : len < 2) (w : World) :
    Calls Try.prog 59 #[.agg #[.int .i64 13, .int .i64 dst, .slice sa len cap, .int .i64 num]] w fun e w' => e = .returned (.tuple #[.int .i64 0, .slice none 0 0, .bool false]) ∧ Keeps w w' [] := by
  have CR := kept (show ∀ w, Calls Try.prog 51 #[.int .i64 13] w fun e w' => e = .returned (.bool true) ∧ Keeps w w' [] from raw_any 13)
  have CT := kept (show ∀ w, Calls Try.prog 45 #[.int .i64 13] w fun e w' => ∃ va vc, e = .returned (.slice va 2 vc) ∧ Keeps w w' [] from fun w => takes_k 13 (by decide) 2 rfl w)
  have hd : decide ((len : Int) < 2) = true := by simp; omega
  go_enter Try.func59, Try.ntmps59
  go_wp2_with fail
  have N1 : Hid (NB w (w.alloc (.cells #[.int .i64 13, .int .i64 dst, .slice sa len cap, .int .i64 num] 77)) w.heap.size 13 dst num (.slice sa len cap)) := ⟨(Keeps.refl w []).alloc _, Blk.new _ _ _⟩
  generalize w.alloc (.cells #[.int .i64 13, .int .i64 dst, .slice sa len cap, .int .i64 num] 77) = W1 at *
  generalize w.heap.size = g at *
  obtain ⟨c0, c2⟩ := N1.out.cells
  go_region_held3 (fun w' => w'.cell? ⟨g, 0, none⟩ = some (.int .i64 13) ∧ w'.cell? ⟨g, 2, none⟩ = some (.slice sa len cap)) (first | exact ⟨c0, c2⟩ | go_keep) (first | (go_at_call 51; (with_reducible refine (CR.out _).mono ?_); rintro e wx ⟨rfl, k⟩; have nx := N1.out.later k (by first | exact Keeps.refl _ [] | exact (Keeps.refl _ []).drew); clear k c0 c2 N1; obtain ⟨c0, c2⟩ := nx.cells; have N1 := kept nx; clear nx) | (go_at_call 45; (with_reducible refine (CT.out _).mono ?_); rintro e wx ⟨va, vc, rfl, k⟩; have nx := N1.out.later k (by first | exact Keeps.refl _ [] | exact (Keeps.refl _ []).drew); clear k c0 c2 N1; obtain ⟨c0, c2⟩ := nx.cells; have N1 := kept nx; clear nx))
  go_wp2
  refine bodyPost_ret (v := .tuple #[.int .i64 0, .slice none 0 0, .bool false]) (by simp [results, Try.results59, go_sem]) rfl ⟨rfl, N1.out.keeps⟩

set_option maxRecDepth 100000 in
set_option maxHeartbeats 8000000 in
theorem needs_yes13 (dst num : Int) (b off : Nat) (len cap : Nat) (h : 2 ≤ len) (hc : len ≤ cap) (hm : cap ≤ maxLen) (z : Nat → Int) (w : World) (hz : ∀ i, i < len → w.cell? ⟨b, off + i, none⟩ = some (.int .i64 (z i))) :
    Calls Try.prog 59 #[.agg #[.int .i64 13, .int .i64 dst, .slice (some ⟨b, off, none⟩) len cap, .int .i64 num]] w fun e w' => ∃ v, e = .returned (.tuple #[.int .i64 18, v, .bool true]) ∧ w'.ownsRow w.heap.size 3 1 v 2 [.int .i64 (z 0), .int .i64 (z 1)] ∧ Keeps w w' [] := by
  have CR := kept (show ∀ w, Calls Try.prog 51 #[.int .i64 13] w fun e w' => e = .returned (.bool true) ∧ Keeps w w' [] from raw_any 13)
  have CT := kept (show ∀ w, Calls Try.prog 45 #[.int .i64 13] w fun e w' => ∃ va vc, e = .returned (.slice va 2 vc) ∧ Keeps w w' [] from fun w => takes_k 13 (by decide) 2 rfl w)
  have hd : decide ((len : Int) < 2) = false := by simp; omega
  have HZ := kept hz
  clear hz
  go_enter Try.func59, Try.ntmps59
  go_wp2_with fail
  have N1 : Hid (NB w (w.alloc (.cells #[.int .i64 13, .int .i64 dst, .slice (some ⟨b, off, none⟩) len cap, .int .i64 num] 77)) w.heap.size 13 dst num (.slice (some ⟨b, off, none⟩) len cap)) := ⟨(Keeps.refl w []).alloc _, Blk.new _ _ _⟩
  generalize w.alloc (.cells #[.int .i64 13, .int .i64 dst, .slice (some ⟨b, off, none⟩) len cap, .int .i64 num] 77) = W1 at *
  generalize w.heap.size = g at *
  obtain ⟨c0, c2⟩ := N1.out.cells
  go_region_held3 (fun w' => w'.cell? ⟨g, 0, none⟩ = some (.int .i64 13) ∧ w'.cell? ⟨g, 2, none⟩ = some (.slice (some ⟨b, off, none⟩) len cap)) (first | exact ⟨c0, c2⟩ | go_keep) (first | (go_at_call 51; (with_reducible refine (CR.out _).mono ?_); rintro e wx ⟨rfl, k⟩; have nx := N1.out.later k (by first | exact Keeps.refl _ [] | exact (Keeps.refl _ []).drew); clear k c0 c2 N1; obtain ⟨c0, c2⟩ := nx.cells; have N1 := kept nx; clear nx) | (go_at_call 45; (with_reducible refine (CT.out _).mono ?_); rintro e wx ⟨va, vc, rfl, k⟩; have nx := N1.out.later k (by first | exact Keeps.refl _ [] | exact (Keeps.refl _ []).drew); clear k c0 c2 N1; obtain ⟨c0, c2⟩ := nx.cells; have N1 := kept nx; clear nx))
  go_wp2_with fail
  refine (clone_any _ ⟨b, _, none⟩ 2 _ [.int .i64 (z 0), .int .i64 (z 1)] rfl (cells_from 0 2 (by omega) (fun i hi => N1.out.keeps.cellOf (HZ.out i hi))) (by simp [Value.oneCell']) (by decide)).mono ?_
  rintro e wx ⟨v, rfl, ho, k⟩
  have hlow := own_low ho N1.out.keeps.size
  have hkp : Keeps w wx [] := by simpa using N1.out.keeps.trans k
  clear ho k
  go_wp2
  exact bodyPost_ret (v := .tuple #[.int .i64 18, v, .bool true]) (by simp [results, Try.results59, go_sem]) rfl ⟨v, rfl, hlow, hkp⟩

set_option maxRecDepth 100000 in
set_option maxHeartbeats 8000000 in
theorem needs_short14 (dst num : Int) (sa : Option Addr) (len cap : Nat) (h : len < 3) (w : World) :
    Calls Try.prog 59 #[.agg #[.int .i64 14, .int .i64 dst, .slice sa len cap, .int .i64 num]] w fun e w' => e = .returned (.tuple #[.int .i64 0, .slice none 0 0, .bool false]) ∧ Keeps w w' [] := by
  have CR := kept (show ∀ w, Calls Try.prog 51 #[.int .i64 14] w fun e w' => e = .returned (.bool true) ∧ Keeps w w' [] from raw_any 14)
  have CT := kept (show ∀ w, Calls Try.prog 45 #[.int .i64 14] w fun e w' => ∃ va vc, e = .returned (.slice va 3 vc) ∧ Keeps w w' [] from fun w => takes_k 14 (by decide) 3 rfl w)
  have hd : decide ((len : Int) < 3) = true := by simp; omega
  go_enter Try.func59, Try.ntmps59
  go_wp2_with fail
  have N1 : Hid (NB w (w.alloc (.cells #[.int .i64 14, .int .i64 dst, .slice sa len cap, .int .i64 num] 77)) w.heap.size 14 dst num (.slice sa len cap)) := ⟨(Keeps.refl w []).alloc _, Blk.new _ _ _⟩
  generalize w.alloc (.cells #[.int .i64 14, .int .i64 dst, .slice sa len cap, .int .i64 num] 77) = W1 at *
  generalize w.heap.size = g at *
  obtain ⟨c0, c2⟩ := N1.out.cells
  go_region_held3 (fun w' => w'.cell? ⟨g, 0, none⟩ = some (.int .i64 14) ∧ w'.cell? ⟨g, 2, none⟩ = some (.slice sa len cap)) (first | exact ⟨c0, c2⟩ | go_keep) (first | (go_at_call 51; (with_reducible refine (CR.out _).mono ?_); rintro e wx ⟨rfl, k⟩; have nx := N1.out.later k (by first | exact Keeps.refl _ [] | exact (Keeps.refl _ []).drew); clear k c0 c2 N1; obtain ⟨c0, c2⟩ := nx.cells; have N1 := kept nx; clear nx) | (go_at_call 45; (with_reducible refine (CT.out _).mono ?_); rintro e wx ⟨va, vc, rfl, k⟩; have nx := N1.out.later k (by first | exact Keeps.refl _ [] | exact (Keeps.refl _ []).drew); clear k c0 c2 N1; obtain ⟨c0, c2⟩ := nx.cells; have N1 := kept nx; clear nx))
  go_wp2
  refine bodyPost_ret (v := .tuple #[.int .i64 0, .slice none 0 0, .bool false]) (by simp [results, Try.results59, go_sem]) rfl ⟨rfl, N1.out.keeps⟩

set_option maxRecDepth 100000 in
set_option maxHeartbeats 8000000 in
theorem needs_yes14 (dst num : Int) (b off : Nat) (len cap : Nat) (h : 3 ≤ len) (hc : len ≤ cap) (hm : cap ≤ maxLen) (z : Nat → Int) (w : World) (hz : ∀ i, i < len → w.cell? ⟨b, off + i, none⟩ = some (.int .i64 (z i))) :
    Calls Try.prog 59 #[.agg #[.int .i64 14, .int .i64 dst, .slice (some ⟨b, off, none⟩) len cap, .int .i64 num]] w fun e w' => ∃ v, e = .returned (.tuple #[.int .i64 18, v, .bool true]) ∧ w'.ownsRow w.heap.size 3 1 v 2 [.int .i64 (z 0), .int .i64 (z 1)] ∧ Keeps w w' [] := by
  have CR := kept (show ∀ w, Calls Try.prog 51 #[.int .i64 14] w fun e w' => e = .returned (.bool true) ∧ Keeps w w' [] from raw_any 14)
  have CT := kept (show ∀ w, Calls Try.prog 45 #[.int .i64 14] w fun e w' => ∃ va vc, e = .returned (.slice va 3 vc) ∧ Keeps w w' [] from fun w => takes_k 14 (by decide) 3 rfl w)
  have hd : decide ((len : Int) < 3) = false := by simp; omega
  have HZ := kept hz
  clear hz
  go_enter Try.func59, Try.ntmps59
  go_wp2_with fail
  have N1 : Hid (NB w (w.alloc (.cells #[.int .i64 14, .int .i64 dst, .slice (some ⟨b, off, none⟩) len cap, .int .i64 num] 77)) w.heap.size 14 dst num (.slice (some ⟨b, off, none⟩) len cap)) := ⟨(Keeps.refl w []).alloc _, Blk.new _ _ _⟩
  generalize w.alloc (.cells #[.int .i64 14, .int .i64 dst, .slice (some ⟨b, off, none⟩) len cap, .int .i64 num] 77) = W1 at *
  generalize w.heap.size = g at *
  obtain ⟨c0, c2⟩ := N1.out.cells
  go_region_held3 (fun w' => w'.cell? ⟨g, 0, none⟩ = some (.int .i64 14) ∧ w'.cell? ⟨g, 2, none⟩ = some (.slice (some ⟨b, off, none⟩) len cap)) (first | exact ⟨c0, c2⟩ | go_keep) (first | (go_at_call 51; (with_reducible refine (CR.out _).mono ?_); rintro e wx ⟨rfl, k⟩; have nx := N1.out.later k (by first | exact Keeps.refl _ [] | exact (Keeps.refl _ []).drew); clear k c0 c2 N1; obtain ⟨c0, c2⟩ := nx.cells; have N1 := kept nx; clear nx) | (go_at_call 45; (with_reducible refine (CT.out _).mono ?_); rintro e wx ⟨va, vc, rfl, k⟩; have nx := N1.out.later k (by first | exact Keeps.refl _ [] | exact (Keeps.refl _ []).drew); clear k c0 c2 N1; obtain ⟨c0, c2⟩ := nx.cells; have N1 := kept nx; clear nx))
  go_wp2_with fail
  refine (clone_any _ ⟨b, _, none⟩ 2 _ [.int .i64 (z 0), .int .i64 (z 1)] rfl (cells_from 0 2 (by omega) (fun i hi => N1.out.keeps.cellOf (HZ.out i hi))) (by simp [Value.oneCell']) (by decide)).mono ?_
  rintro e wx ⟨v, rfl, ho, k⟩
  have hlow := own_low ho N1.out.keeps.size
  have hkp : Keeps w wx [] := by simpa using N1.out.keeps.trans k
  clear ho k
  go_wp2
  exact bodyPost_ret (v := .tuple #[.int .i64 18, v, .bool true]) (by simp [results, Try.results59, go_sem]) rfl ⟨v, rfl, hlow, hkp⟩

set_option maxRecDepth 100000 in
set_option maxHeartbeats 8000000 in
theorem needs_short15 (dst num : Int) (sa : Option Addr) (len cap : Nat) (h : len < 1) (w : World) :
    Calls Try.prog 59 #[.agg #[.int .i64 15, .int .i64 dst, .slice sa len cap, .int .i64 num]] w fun e w' => e = .returned (.tuple #[.int .i64 0, .slice none 0 0, .bool false]) ∧ Keeps w w' [] := by
  have CR := kept (show ∀ w, Calls Try.prog 51 #[.int .i64 15] w fun e w' => e = .returned (.bool true) ∧ Keeps w w' [] from raw_any 15)
  have CT := kept (show ∀ w, Calls Try.prog 45 #[.int .i64 15] w fun e w' => ∃ va vc, e = .returned (.slice va 1 vc) ∧ Keeps w w' [] from fun w => takes_k 15 (by decide) 1 rfl w)
  have hd : decide ((len : Int) < 1) = true := by simp; omega
  go_enter Try.func59, Try.ntmps59
  go_wp2_with fail
  have N1 : Hid (NB w (w.alloc (.cells #[.int .i64 15, .int .i64 dst, .slice sa len cap, .int .i64 num] 77)) w.heap.size 15 dst num (.slice sa len cap)) := ⟨(Keeps.refl w []).alloc _, Blk.new _ _ _⟩
  generalize w.alloc (.cells #[.int .i64 15, .int .i64 dst, .slice sa len cap, .int .i64 num] 77) = W1 at *
  generalize w.heap.size = g at *
  obtain ⟨c0, c2⟩ := N1.out.cells
  go_region_held3 (fun w' => w'.cell? ⟨g, 0, none⟩ = some (.int .i64 15) ∧ w'.cell? ⟨g, 2, none⟩ = some (.slice sa len cap)) (first | exact ⟨c0, c2⟩ | go_keep) (first | (go_at_call 51; (with_reducible refine (CR.out _).mono ?_); rintro e wx ⟨rfl, k⟩; have nx := N1.out.later k (by first | exact Keeps.refl _ [] | exact (Keeps.refl _ []).drew); clear k c0 c2 N1; obtain ⟨c0, c2⟩ := nx.cells; have N1 := kept nx; clear nx) | (go_at_call 45; (with_reducible refine (CT.out _).mono ?_); rintro e wx ⟨va, vc, rfl, k⟩; have nx := N1.out.later k (by first | exact Keeps.refl _ [] | exact (Keeps.refl _ []).drew); clear k c0 c2 N1; obtain ⟨c0, c2⟩ := nx.cells; have N1 := kept nx; clear nx))
  go_wp2
  refine bodyPost_ret (v := .tuple #[.int .i64 0, .slice none 0 0, .bool false]) (by simp [results, Try.results59, go_sem]) rfl ⟨rfl, N1.out.keeps⟩

set_option maxRecDepth 100000 in
set_option maxHeartbeats 8000000 in
theorem needs_yes15 (dst num : Int) (b off : Nat) (len cap : Nat) (h : 1 ≤ len) (hc : len ≤ cap) (hm : cap ≤ maxLen) (z : Nat → Int) (w : World) (hz : ∀ i, i < len → w.cell? ⟨b, off + i, none⟩ = some (.int .i64 (z i))) :
    Calls Try.prog 59 #[.agg #[.int .i64 15, .int .i64 dst, .slice (some ⟨b, off, none⟩) len cap, .int .i64 num]] w fun e w' => ∃ v, e = .returned (.tuple #[.int .i64 24, v, .bool true]) ∧ w'.ownsRow w.heap.size 3 1 v 1 [.int .i64 (z 0)] ∧ Keeps w w' [] := by
  have CR := kept (show ∀ w, Calls Try.prog 51 #[.int .i64 15] w fun e w' => e = .returned (.bool true) ∧ Keeps w w' [] from raw_any 15)
  have CT := kept (show ∀ w, Calls Try.prog 45 #[.int .i64 15] w fun e w' => ∃ va vc, e = .returned (.slice va 1 vc) ∧ Keeps w w' [] from fun w => takes_k 15 (by decide) 1 rfl w)
  have hd : decide ((len : Int) < 1) = false := by simp; omega
  have HZ := kept hz
  clear hz
  go_enter Try.func59, Try.ntmps59
  go_wp2_with fail
  have N1 : Hid (NB w (w.alloc (.cells #[.int .i64 15, .int .i64 dst, .slice (some ⟨b, off, none⟩) len cap, .int .i64 num] 77)) w.heap.size 15 dst num (.slice (some ⟨b, off, none⟩) len cap)) := ⟨(Keeps.refl w []).alloc _, Blk.new _ _ _⟩
  generalize w.alloc (.cells #[.int .i64 15, .int .i64 dst, .slice (some ⟨b, off, none⟩) len cap, .int .i64 num] 77) = W1 at *
  generalize w.heap.size = g at *
  obtain ⟨c0, c2⟩ := N1.out.cells
  go_region_held3 (fun w' => w'.cell? ⟨g, 0, none⟩ = some (.int .i64 15) ∧ w'.cell? ⟨g, 2, none⟩ = some (.slice (some ⟨b, off, none⟩) len cap)) (first | exact ⟨c0, c2⟩ | go_keep) (first | (go_at_call 51; (with_reducible refine (CR.out _).mono ?_); rintro e wx ⟨rfl, k⟩; have nx := N1.out.later k (by first | exact Keeps.refl _ [] | exact (Keeps.refl _ []).drew); clear k c0 c2 N1; obtain ⟨c0, c2⟩ := nx.cells; have N1 := kept nx; clear nx) | (go_at_call 45; (with_reducible refine (CT.out _).mono ?_); rintro e wx ⟨va, vc, rfl, k⟩; have nx := N1.out.later k (by first | exact Keeps.refl _ [] | exact (Keeps.refl _ []).drew); clear k c0 c2 N1; obtain ⟨c0, c2⟩ := nx.cells; have N1 := kept nx; clear nx))
  go_wp2_with fail
  refine (clone_any _ ⟨b, _, none⟩ 1 _ [.int .i64 (z 0)] rfl (cells_from 0 1 (by omega) (fun i hi => N1.out.keeps.cellOf (HZ.out i hi))) (by simp [Value.oneCell']) (by decide)).mono ?_
  rintro e wx ⟨v, rfl, ho, k⟩
  have hlow := own_low ho N1.out.keeps.size
  have hkp : Keeps w wx [] := by simpa using N1.out.keeps.trans k
  clear ho k
  go_wp2
  exact bodyPost_ret (v := .tuple #[.int .i64 24, v, .bool true]) (by simp [results, Try.results59, go_sem]) rfl ⟨v, rfl, hlow, hkp⟩
end Go.Proofs.Ytppidnjhdefbiaa
