/- Package print: inst; contract; the contracts of ops.Makes, Takes, Word at any operation. -/
import Derived.Test.YtjllbchfojonhaaDoorShape
import Derived.Test.YtjllbchfojonhaaDoorOpTakes
import Derived.Deep.RegionHeld3
namespace Go.Proofs.YtjllbchfojonhaaDoor
open Go.RowKit
set_option linter.unusedVariables false
set_option linter.unusedSimpArgs false

theorem takes_small : ∀ k : Nat, k < 27 → (ktakes k).size ≤ 100 ∧ (ktakes k).data.toList.all (fun c => decide (c.toNat < 128)) = true := by decide +kernel
theorem takes_ascii (k : Nat) (hk : k < 27) (j : Nat) (hj : j < (ktakes k).size) : ((ktakes k)[j]'hj).toNat < 128 := by
  have h := (takes_small k hk).2
  rw [List.all_eq_true] at h
  have h' : j < (ktakes k).data.toList.length := by rw [Array.length_toList]; exact hj
  have := h _ (List.getElem_mem h')
  exact of_decide_eq_true this
theorem takes_in (k : Nat) (hk : k < 27) (w : World) : Calls Tryd.prog 70 #[.int .i64 k] w fun e w' => ∃ v, e = .returned v ∧ w'.ownsRow w.heap.size 67 1 v (ktakes k).size (tcells (ktakes k) (ktakes k).size) ∧ Keeps w w' [] :=
  takes_any k (kword k) (kmakes k) (ktakes k) (takes_small k hk).1 (takes_ascii k hk) (of_yes k hk) w
theorem takes_len (k : Nat) (hk : k < 27) (w : World) : Calls Tryd.prog 70 #[.int .i64 k] w fun e w' => ∃ va vc, e = .returned (.slice va (ktakes k).size vc) ∧ Keeps w w' [] := by
  refine (takes_in k hk w).mono ?_
  rintro e w' ⟨v, rfl, ho, k1⟩
  obtain ⟨va, vc, rfl, _⟩ := own_form ho
  exact ⟨va, vc, rfl, k1⟩
theorem kmakes_form : ∀ k : Nat, k < 27 → kmakes k = ⟨#[]⟩ ∨ ∃ c : UInt8, kmakes k = ⟨#[c]⟩ ∧ c.toNat < 128 := by
  intro k hk
  match k, hk with
  | 0, _ => exact .inr ⟨_, rfl, by decide⟩
  | 1, _ => exact .inr ⟨_, rfl, by decide⟩
  | 2, _ => exact .inr ⟨_, rfl, by decide⟩
  | 3, _ => exact .inr ⟨_, rfl, by decide⟩
  | 4, _ => exact .inr ⟨_, rfl, by decide⟩
  | 5, _ => exact .inr ⟨_, rfl, by decide⟩
  | 6, _ => exact .inr ⟨_, rfl, by decide⟩
  | 7, _ => exact .inr ⟨_, rfl, by decide⟩
  | 8, _ => exact .inr ⟨_, rfl, by decide⟩
  | 9, _ => exact .inr ⟨_, rfl, by decide⟩
  | 10, _ => exact .inr ⟨_, rfl, by decide⟩
  | 11, _ => exact .inr ⟨_, rfl, by decide⟩
  | 12, _ => exact .inr ⟨_, rfl, by decide⟩
  | 13, _ => exact .inr ⟨_, rfl, by decide⟩
  | 14, _ => exact .inl rfl
  | 15, _ => exact .inr ⟨_, rfl, by decide⟩
  | 16, _ => exact .inr ⟨_, rfl, by decide⟩
  | 17, _ => exact .inl rfl
  | 18, _ => exact .inl rfl
  | 19, _ => exact .inl rfl
  | 20, _ => exact .inl rfl
  | 21, _ => exact .inl rfl
  | 22, _ => exact .inl rfl
  | 23, _ => exact .inl rfl
  | 24, _ => exact .inl rfl
  | 25, _ => exact .inr ⟨_, rfl, by decide⟩
  | 26, _ => exact .inr ⟨_, rfl, by decide⟩
  | n + 27, h => exact absurd h (by omega)
theorem makes_in (k : Nat) (hk : k < 27) (w : World) : Calls Tryd.prog 71 #[.int .i64 k] w fun e w' => e = .returned (.tuple #[.int .i64 (if mk1 k = true then mkT k else 0), .bool (mk1 k)]) ∧ Keeps w w' [] := by
  rcases kmakes_form k hk with h | ⟨c, h, hc⟩
  · have C := makes_none k (kword k) (ktakes k) (by rw [← h]; exact of_yes k hk) w
    have e1 : mk1 (k : Int) = false := by show (!((kmakes ((k : Int).toNat)).size == 0)) = false; rw [show (k : Int).toNat = k from rfl, h]; rfl
    rw [e1]
    exact C
  · have C := makes_some k (kword k) (ktakes k) c hc (by rw [← h]; exact of_yes k hk) w
    have e1 : mk1 (k : Int) = true := by show (!((kmakes ((k : Int).toNat)).size == 0)) = true; rw [show (k : Int).toNat = k from rfl, h]; rfl
    have e2 : mkT (k : Int) = tsign c.toNat := by show tsign ((kmakes ((k : Int).toNat)).data.toList[0]!).toNat = _; rw [show (k : Int).toNat = k from rfl, h]; rfl
    rw [e1, if_pos rfl, e2]
    exact C
theorem makes_out (op : Int) (h : op < 0 ∨ 27 ≤ op) (w : World) : Calls Tryd.prog 71 #[.int .i64 op] w fun e w' => e = .returned (.tuple #[.int .i64 0, .bool false]) ∧ Keeps w w' [] :=
  makes_none op ⟨#[]⟩ ⟨#[]⟩ (of_no op h) w
theorem kword_ne (k : Nat) (hk : k < 27) : (kword k).toList.isEmpty = false := by
  match k, hk with
  | 0, _ => exact by rw [ByteArray.toList_eq]; rfl
  | 1, _ => exact by rw [ByteArray.toList_eq]; rfl
  | 2, _ => exact by rw [ByteArray.toList_eq]; rfl
  | 3, _ => exact by rw [ByteArray.toList_eq]; rfl
  | 4, _ => exact by rw [ByteArray.toList_eq]; rfl
  | 5, _ => exact by rw [ByteArray.toList_eq]; rfl
  | 6, _ => exact by rw [ByteArray.toList_eq]; rfl
  | 7, _ => exact by rw [ByteArray.toList_eq]; rfl
  | 8, _ => exact by rw [ByteArray.toList_eq]; rfl
  | 9, _ => exact by rw [ByteArray.toList_eq]; rfl
  | 10, _ => exact by rw [ByteArray.toList_eq]; rfl
  | 11, _ => exact by rw [ByteArray.toList_eq]; rfl
  | 12, _ => exact by rw [ByteArray.toList_eq]; rfl
  | 13, _ => exact by rw [ByteArray.toList_eq]; rfl
  | 14, _ => exact by rw [ByteArray.toList_eq]; rfl
  | 15, _ => exact by rw [ByteArray.toList_eq]; rfl
  | 16, _ => exact by rw [ByteArray.toList_eq]; rfl
  | 17, _ => exact by rw [ByteArray.toList_eq]; rfl
  | 18, _ => exact by rw [ByteArray.toList_eq]; rfl
  | 19, _ => exact by rw [ByteArray.toList_eq]; rfl
  | 20, _ => exact by rw [ByteArray.toList_eq]; rfl
  | 21, _ => exact by rw [ByteArray.toList_eq]; rfl
  | 22, _ => exact by rw [ByteArray.toList_eq]; rfl
  | 23, _ => exact by rw [ByteArray.toList_eq]; rfl
  | 24, _ => exact by rw [ByteArray.toList_eq]; rfl
  | 25, _ => exact by rw [ByteArray.toList_eq]; rfl
  | 26, _ => exact by rw [ByteArray.toList_eq]; rfl
  | n + 27, h => exact absurd h (by omega)

set_option maxRecDepth 100000 in
set_option maxHeartbeats 4000000 in
theorem inst_out (f : FuncM) (x : InstM) (w : World) (hf : FuncAt w f) (hp : InstAt w x) (h : x.op < 0 ∨ 27 ≤ x.op) : Calls Tryd.prog 64 #[f.val, .agg #[.int .i64 x.op, .int .i64 x.dst, x.args.1, .int .i64 x.num]] w fun e w' => e = .returned (.bool (instB f x)) ∧ Keeps w w' [] := by
  have CW := kept (fun w => word_no x.op h w)
  have CM := kept (fun w => makes_out x.op h w)
  have HX : Hid (instB f x = false) := by
    show _ = _
    unfold instB
    rcases h with h | h
    · rw [decide_eq_false (by omega)]; simp
    · rw [decide_eq_false (show ¬ x.op < 27 by omega)]; simp
  obtain ⟨a0, c0, a1, c1, a2, c2, e0, e1, e2⟩ := hf.shape2
  obtain ⟨s1, d1, e3, _⟩ := IntsAt.open_ hp
  have hval : f.val = .agg #[.slice a0 f.nv c0, .slice a1 f.np c1, .slice a2 f.nb c2] := by unfold FuncM.val; rw [e0, e1, e2]
  rw [hval, e3]
  clear hf hp e0 e1 e2 e3 hval h
  generalize instB f x = IB at *
  generalize f.nv = nv at *
  generalize f.np = np at *
  generalize f.nb = nb at *
  generalize x.args.2.length = na at *
  generalize x.op = op at *
  generalize x.dst = dst at *
  generalize x.num = num at *
  have hk0 : Keeps w (w.alloc (.cells #[.slice a0 nv c0, .slice a1 np c1, .slice a2 nb c2] 26)) [] := (Keeps.refl _ []).alloc _
  have bb0 := Blk.new w 26 #[.slice a0 nv c0, .slice a1 np c1, .slice a2 nb c2]
  have hk1 : Keeps (w.alloc (.cells #[.slice a0 nv c0, .slice a1 np c1, .slice a2 nb c2] 26)) ((w.alloc (.cells #[.slice a0 nv c0, .slice a1 np c1, .slice a2 nb c2] 26)).alloc (.cells #[.int .i64 op, .int .i64 dst, .slice s1 na d1, .int .i64 num] 42)) [] := (Keeps.refl _ []).alloc _
  have bb1 := Blk.new (w.alloc (.cells #[.slice a0 nv c0, .slice a1 np c1, .slice a2 nb c2] 26)) 42 #[.int .i64 op, .int .i64 dst, .slice s1 na d1, .int .i64 num]
  rw [show (w.alloc (.cells #[.slice a0 nv c0, .slice a1 np c1, .slice a2 nb c2] 26)).heap.size = w.heap.size + 1 by show (Array.push _ _).size = _; simp [Array.size_push]] at bb1
  have Bl := kept (bb0.keep hk1 (by simp))
  have Bm := kept bb1
  have HK := kept (hk0.and_then hk1)
  have l0 := Bl.out.cell 0
  have l1 := Bl.out.cell 1
  have l2 := Bl.out.cell 2
  have m0 := Bm.out.cell 0
  have m1 := Bm.out.cell 1
  have m2 := Bm.out.cell 2
  have m3 := Bm.out.cell 3
  simp at l0 l1 l2 m0 m1 m2 m3
  clear hk0 hk1 bb0 bb1
  go_enter Tryd.func64, Tryd.ntmps64
  go_wp2_with (go_at_call 71; refine (CM.out _).mono ?_; rintro e w3 ⟨rfl, k3⟩; clear l0 l1 l2 m0 m1 m2 m3; have Blx := kept (Bl.out.keep k3 (by simp)); have Bmx := kept (Bm.out.keep k3 (by simp)); have HKx := kept (HK.out.and_then k3); clear Bl Bm HK; have Bl := Blx; have Bm := Bmx; have HK := HKx; clear Blx Bmx HKx; have l0 := Bl.out.cell 0; have l1 := Bl.out.cell 1; have l2 := Bl.out.cell 2; have m0 := Bm.out.cell 0; have m1 := Bm.out.cell 1; have m2 := Bm.out.cell 2; have m3 := Bm.out.cell 3; simp at l0 l1 l2 m0 m1 m2 m3; clear k3)
  refine wp_region_held_drew (S := (fun w' => w'.cell? ⟨w.heap.size, 0, none⟩ = some (.slice a0 nv c0) ∧ w'.cell? ⟨w.heap.size, 1, none⟩ = some (.slice a1 np c1) ∧ w'.cell? ⟨w.heap.size, 2, none⟩ = some (.slice a2 nb c2) ∧ w'.cell? ⟨w.heap.size + 1, 0, none⟩ = some (.int .i64 op) ∧ w'.cell? ⟨w.heap.size + 1, 1, none⟩ = some (.int .i64 dst) ∧ w'.cell? ⟨w.heap.size + 1, 2, none⟩ = some (.slice s1 na d1) ∧ w'.cell? ⟨w.heap.size + 1, 3, none⟩ = some (.int .i64 num))) (by kernel_rfl) ?ahSs (fun hHeld => ?_)
  case ahSs => exact ⟨l0, l1, l2, m0, m1, m2, m3⟩
  clear l0 l1 l2 m0 m1 m2 m3
  have Blx := kept (Bl.out.keep ((Keeps.refl _ []).drew) (by simp))
  have Bmx := kept (Bm.out.keep ((Keeps.refl _ []).drew) (by simp))
  have HKx := kept (HK.out.drew)
  clear Bl Bm HK
  have Bl := Blx
  have Bm := Bmx
  have HK := HKx
  clear Blx Bmx HKx
  generalize World.drew _ = X0 at *
  have l0 := Bl.out.cell 0
  have l1 := Bl.out.cell 1
  have l2 := Bl.out.cell 2
  have m0 := Bm.out.cell 0
  have m1 := Bm.out.cell 1
  have m2 := Bm.out.cell 2
  have m3 := Bm.out.cell 3
  simp at l0 l1 l2 m0 m1 m2 m3
  refine wpAnyH_take (i := 0) (oi := { dst := some 14, op := Op.fieldAddr 42 (Operand.tmp 3) 0, type := 0, pos := "print.go:29", after := #[], guard := none }) (v := ?av0) rfl (by kernel_rfl) (by kernel_rfl) (by kernel_rfl) (fun _ _ _ h => h) (Or.inl ⟨by rfl, ?ay0⟩) hHeld ?ar0
  case ay0 => (intro w hSw; (try dsimp only at hSw); go_simp; (try with_reducible rfl))
  try simp only [Act.put, List.setIfInBounds_toArray, List.set_cons_zero, List.set_cons_succ]
  refine wpAnyH_take (i := 1) (oi := { dst := some 15, op := Op.load 40 (Operand.tmp 14), type := 40, pos := "print.go:29", after := #[{ on := 0, ground := Ground.data }], guard := none }) (v := ?av1) rfl (by kernel_rfl) (by kernel_rfl) (by kernel_rfl) (fun _ _ _ h => h) (Or.inl ⟨by rfl, ?ay1⟩) hHeld ?ar1
  case ay1 => (intro w hSw; (try dsimp only at hSw); go_simp; (try with_reducible rfl))
  try simp only [Act.put, List.setIfInBounds_toArray, List.set_cons_zero, List.set_cons_succ]
  refine wpAnyH_ready (rs := [2]) (by kernel_rfl) (by simp) ?_
  refine AllReadyH.cons (o := { dst := some 16, op := Op.call { callee := Callee.value (Operand.func 95), args := #[Operand.tmp 15], argTypes := #[40] }, type := 9, pos := "print.go:29", after := #[{ on := 1, ground := Ground.data }], guard := none }) rfl (fun K hK => ?_) AllReadyH.nil
  go_simp
  (with_reducible refine (CW.out _).mono ?_)
  rintro e wx ⟨rfl, k3⟩
  show K _ _
  clear hHeld
  clear l0 l1 l2 m0 m1 m2 m3
  have Blx := kept (Bl.out.keep k3 (by simp))
  have Bmx := kept (Bm.out.keep k3 (by simp))
  have HKx := kept (HK.out.and_then k3)
  clear Bl Bm HK
  have Bl := Blx
  have Bm := Bmx
  have HK := HKx
  clear Blx Bmx HKx
  have l0 := Bl.out.cell 0
  have l1 := Bl.out.cell 1
  have l2 := Bl.out.cell 2
  have m0 := Bm.out.cell 0
  have m1 := Bm.out.cell 1
  have m2 := Bm.out.cell 2
  have m3 := Bm.out.cell 3
  simp at l0 l1 l2 m0 m1 m2 m3
  clear k3
  refine hK.out _ _ ?ahS2 (fun hHeld => ?_)
  case ahS2 => exact ⟨l0, l1, l2, m0, m1, m2, m3⟩
  clear hK K
  try simp only [Act.put, List.setIfInBounds_toArray, List.set_cons_zero, List.set_cons_succ]
  refine wpAnyH_take (i := 3) (oi := { dst := some 17, op := Op.binOp BinOp.eql 9 (Operand.tmp 16) (Operand.const (Value.string { data := #[] })) 9, type := 4, pos := "print.go:29", after := #[{ on := 2, ground := Ground.data }], guard := none }) (v := ?av3) rfl (by kernel_rfl) (by kernel_rfl) (by kernel_rfl) (fun _ _ _ h => h) (Or.inl ⟨by rfl, ?ay3⟩) hHeld ?ar3
  case ay3 => (intro w hSw; (try dsimp only at hSw); go_simp; (try with_reducible rfl))
  try simp only [Act.put, List.setIfInBounds_toArray, List.set_cons_zero, List.set_cons_succ]
  refine wpAnyH_take (i := 4) (oi := { dst := some 18, op := Op.move (Operand.tmp 17), type := 4, pos := "print.go:29", after := #[{ on := 3, ground := Ground.data }, { on := 2, ground := Ground.chain }], guard := none }) (v := ?av4) rfl (by kernel_rfl) (by kernel_rfl) (by kernel_rfl) (fun _ _ _ h => h) (Or.inl ⟨by rfl, ?ay4⟩) hHeld ?ar4
  case ay4 => (intro w hSw; (try dsimp only at hSw); go_simp; (try with_reducible rfl))
  try simp only [Act.put, List.setIfInBounds_toArray, List.set_cons_zero, List.set_cons_succ]
  refine wpAnyH_take (i := 5) (oi := { dst := some 19, op := Op.fieldAddr 42 (Operand.tmp 3) 2, type := 0, pos := "print.go:29", after := #[{ on := 4, ground := Ground.guard }], guard := some (4, false) }) (v := undef) rfl (by kernel_rfl) (by kernel_rfl) (by kernel_rfl) (fun _ _ _ h => h) (Or.inr ⟨by rfl, rfl⟩) hHeld ?_
  try simp only [Act.put, List.setIfInBounds_toArray, List.set_cons_zero, List.set_cons_succ]
  refine wpAnyH_take (i := 6) (oi := { dst := some 20, op := Op.load 23 (Operand.tmp 19), type := 23, pos := "print.go:29", after := #[{ on := 5, ground := Ground.data }, { on := 4, ground := Ground.guard }], guard := some (4, false) }) (v := undef) rfl (by kernel_rfl) (by kernel_rfl) (by kernel_rfl) (fun _ _ _ h => h) (Or.inr ⟨by rfl, rfl⟩) hHeld ?_
  try simp only [Act.put, List.setIfInBounds_toArray, List.set_cons_zero, List.set_cons_succ]
  refine wpAnyH_take (i := 7) (oi := { dst := some 21, op := Op.call { callee := Callee.builtin Builtin.len, args := #[Operand.tmp 20], argTypes := #[23] }, type := 3, pos := "print.go:29", after := #[{ on := 6, ground := Ground.data }, { on := 4, ground := Ground.guard }], guard := some (4, false) }) (v := undef) rfl (by kernel_rfl) (by kernel_rfl) (by kernel_rfl) (fun _ _ _ h => h) (Or.inr ⟨by rfl, rfl⟩) hHeld ?_
  try simp only [Act.put, List.setIfInBounds_toArray, List.set_cons_zero, List.set_cons_succ]
  refine wpAnyH_take (i := 8) (oi := { dst := some 22, op := Op.fieldAddr 42 (Operand.tmp 3) 0, type := 0, pos := "print.go:29", after := #[{ on := 4, ground := Ground.guard }], guard := some (4, false) }) (v := undef) rfl (by kernel_rfl) (by kernel_rfl) (by kernel_rfl) (fun _ _ _ h => h) (Or.inr ⟨by rfl, rfl⟩) hHeld ?_
  try simp only [Act.put, List.setIfInBounds_toArray, List.set_cons_zero, List.set_cons_succ]
  refine wpAnyH_take (i := 9) (oi := { dst := some 23, op := Op.load 40 (Operand.tmp 22), type := 40, pos := "print.go:29", after := #[{ on := 8, ground := Ground.data }, { on := 4, ground := Ground.guard }], guard := some (4, false) }) (v := undef) rfl (by kernel_rfl) (by kernel_rfl) (by kernel_rfl) (fun _ _ _ h => h) (Or.inr ⟨by rfl, rfl⟩) hHeld ?_
  try simp only [Act.put, List.setIfInBounds_toArray, List.set_cons_zero, List.set_cons_succ]
  refine wpAnyH_take (i := 10) (oi := { dst := some 24, op := Op.call { callee := Callee.value (Operand.func 70), args := #[Operand.tmp 23], argTypes := #[40] }, type := 116, pos := "print.go:29", after := #[{ on := 9, ground := Ground.data }, { on := 4, ground := Ground.chain }, { on := 4, ground := Ground.guard }], guard := some (4, false) }) (v := undef) rfl (by kernel_rfl) (by kernel_rfl) (by kernel_rfl) (fun _ _ _ h => h) (Or.inr ⟨by rfl, rfl⟩) hHeld ?_
  try simp only [Act.put, List.setIfInBounds_toArray, List.set_cons_zero, List.set_cons_succ]
  refine wpAnyH_take (i := 11) (oi := { dst := some 25, op := Op.call { callee := Callee.builtin Builtin.len, args := #[Operand.tmp 24], argTypes := #[116] }, type := 3, pos := "print.go:29", after := #[{ on := 10, ground := Ground.data }, { on := 4, ground := Ground.guard }], guard := some (4, false) }) (v := undef) rfl (by kernel_rfl) (by kernel_rfl) (by kernel_rfl) (fun _ _ _ h => h) (Or.inr ⟨by rfl, rfl⟩) hHeld ?_
  try simp only [Act.put, List.setIfInBounds_toArray, List.set_cons_zero, List.set_cons_succ]
  refine wpAnyH_take (i := 12) (oi := { dst := some 26, op := Op.binOp BinOp.neq 3 (Operand.tmp 21) (Operand.tmp 25) 3, type := 4, pos := "print.go:29", after := #[{ on := 7, ground := Ground.data }, { on := 11, ground := Ground.data }, { on := 4, ground := Ground.guard }], guard := some (4, false) }) (v := undef) rfl (by kernel_rfl) (by kernel_rfl) (by kernel_rfl) (fun _ _ _ h => h) (Or.inr ⟨by rfl, rfl⟩) hHeld ?_
  try simp only [Act.put, List.setIfInBounds_toArray, List.set_cons_zero, List.set_cons_succ]
  refine wpAnyH_take (i := 13) (oi := { dst := some 27, op := Op.pick (Operand.tmp 18) (Operand.const (Value.bool true)) (Operand.tmp 26), type := 4, pos := "print.go:29", after := #[{ on := 4, ground := Ground.data }, { on := 12, ground := Ground.data }], guard := none }) (v := ?av13) rfl (by kernel_rfl) (by kernel_rfl) (by kernel_rfl) (fun _ _ _ h => h) (Or.inl ⟨by rfl, ?ay13⟩) hHeld ?ar13
  case ay13 => (intro w hSw; (try dsimp only at hSw); go_simp; (try with_reducible rfl))
  try simp only [Act.put, List.setIfInBounds_toArray, List.set_cons_zero, List.set_cons_succ]
  refine wpAnyH_take (i := 14) (oi := { dst := some 28, op := Op.move (Operand.tmp 27), type := 4, pos := "print.go:29", after := #[{ on := 13, ground := Ground.data }, { on := 10, ground := Ground.chain }], guard := none }) (v := ?av14) rfl (by kernel_rfl) (by kernel_rfl) (by kernel_rfl) (fun _ _ _ h => h) (Or.inl ⟨by rfl, ?ay14⟩) hHeld ?ar14
  case ay14 => (intro w hSw; (try dsimp only at hSw); go_simp; (try with_reducible rfl))
  try simp only [Act.put, List.setIfInBounds_toArray, List.set_cons_zero, List.set_cons_succ]
  refine wpAnyH_take (i := 15) (oi := { dst := some 29, op := Op.load 26 (Operand.tmp 2), type := 26, pos := "print.go:29", after := #[{ on := 14, ground := Ground.guard }], guard := some (14, false) }) (v := undef) rfl (by kernel_rfl) (by kernel_rfl) (by kernel_rfl) (fun _ _ _ h => h) (Or.inr ⟨by rfl, rfl⟩) hHeld ?_
  try simp only [Act.put, List.setIfInBounds_toArray, List.set_cons_zero, List.set_cons_succ]
  refine wpAnyH_take (i := 16) (oi := { dst := some 30, op := Op.fieldAddr 42 (Operand.tmp 3) 2, type := 0, pos := "print.go:29", after := #[{ on := 14, ground := Ground.guard }], guard := some (14, false) }) (v := undef) rfl (by kernel_rfl) (by kernel_rfl) (by kernel_rfl) (fun _ _ _ h => h) (Or.inr ⟨by rfl, rfl⟩) hHeld ?_
  try simp only [Act.put, List.setIfInBounds_toArray, List.set_cons_zero, List.set_cons_succ]
  refine wpAnyH_take (i := 17) (oi := { dst := some 31, op := Op.load 23 (Operand.tmp 30), type := 23, pos := "print.go:29", after := #[{ on := 16, ground := Ground.data }, { on := 14, ground := Ground.guard }], guard := some (14, false) }) (v := undef) rfl (by kernel_rfl) (by kernel_rfl) (by kernel_rfl) (fun _ _ _ h => h) (Or.inr ⟨by rfl, rfl⟩) hHeld ?_
  try simp only [Act.put, List.setIfInBounds_toArray, List.set_cons_zero, List.set_cons_succ]
  refine wpAnyH_take (i := 18) (oi := { dst := some 32, op := Op.call { callee := Callee.value (Operand.func 92), args := #[Operand.tmp 29, Operand.tmp 31], argTypes := #[26, 23] }, type := 4, pos := "print.go:29", after := #[{ on := 15, ground := Ground.data }, { on := 17, ground := Ground.data }, { on := 14, ground := Ground.chain }, { on := 14, ground := Ground.guard }], guard := some (14, false) }) (v := undef) rfl (by kernel_rfl) (by kernel_rfl) (by kernel_rfl) (fun _ _ _ h => h) (Or.inr ⟨by rfl, rfl⟩) hHeld ?_
  try simp only [Act.put, List.setIfInBounds_toArray, List.set_cons_zero, List.set_cons_succ]
  refine wpAnyH_take (i := 19) (oi := { dst := some 33, op := Op.unOp UnOp.not 4 (Operand.tmp 32), type := 4, pos := "print.go:29", after := #[{ on := 18, ground := Ground.data }, { on := 14, ground := Ground.guard }], guard := some (14, false) }) (v := undef) rfl (by kernel_rfl) (by kernel_rfl) (by kernel_rfl) (fun _ _ _ h => h) (Or.inr ⟨by rfl, rfl⟩) hHeld ?_
  try simp only [Act.put, List.setIfInBounds_toArray, List.set_cons_zero, List.set_cons_succ]
  refine wpAnyH_take (i := 20) (oi := { dst := some 34, op := Op.pick (Operand.tmp 28) (Operand.const (Value.bool true)) (Operand.tmp 33), type := 4, pos := "print.go:29", after := #[{ on := 14, ground := Ground.data }, { on := 19, ground := Ground.data }], guard := none }) (v := ?av20) rfl (by kernel_rfl) (by kernel_rfl) (by kernel_rfl) (fun _ _ _ h => h) (Or.inl ⟨by rfl, ?ay20⟩) hHeld ?ar20
  case ay20 => (intro w hSw; (try dsimp only at hSw); go_simp; (try with_reducible rfl))
  try simp only [Act.put, List.setIfInBounds_toArray, List.set_cons_zero, List.set_cons_succ]
  refine wpAnyH_take (i := 21) (oi := { dst := some 13, op := Op.assign (Operand.tmp 34), type := 4, pos := "print.go:29", after := #[{ on := 20, ground := Ground.data }, { on := 18, ground := Ground.chain }], guard := none }) (v := ?av21) rfl (by kernel_rfl) (by kernel_rfl) (by kernel_rfl) (fun _ _ _ h => h) (Or.inl ⟨by rfl, ?ay21⟩) hHeld ?ar21
  case ay21 => (intro w hSw; (try dsimp only at hSw); go_simp; (try with_reducible rfl))
  try simp only [Act.put, List.setIfInBounds_toArray, List.set_cons_zero, List.set_cons_succ]
  refine wpAnyH_done (by kernel_rfl) ?_ _
  clear hHeld
  go_wp2
  go_ret
  exact ⟨ret_bool (by rw [HX.out]), HK.out⟩

set_option maxRecDepth 100000 in
set_option maxHeartbeats 8000000 in
theorem inst_in (f : FuncM) (x : InstM) (k : Nat) (hk : k < 27) (ho : x.op = k) (w : World) (hf : FuncAt w f) (hp : InstAt w x) : Calls Tryd.prog 64 #[f.val, .agg #[.int .i64 x.op, .int .i64 x.dst, x.args.1, .int .i64 x.num]] w fun e w' => e = .returned (.bool (instB f x)) ∧ Keeps w w' [] := by
  have CW := kept (fun w => word_yes k hk w)
  have CM := kept (fun w => makes_in k hk w)
  have CT := kept (fun w => takes_len k hk w)
  have CN := kept (fun w => numbered_any (k : Int) w)
  have CH := kept (fun w h => has_any f x.dst w h)
  have CV := kept (fun w h1 (h2 : Row w 1 x.args.1 (x.args.2.map intCells)) => vars_any f x.args w h1 h2)
  have hwn := kword_ne k hk
  have HX : Hid (instB f x = ((x.args.2.length == (ktakes k).size) && x.args.2.all (inB · f.nv) && (if mk1 k = true then inB x.dst f.nv else x.dst == -1) && (x.num == 0 || ((k : Int) == 0 || (k : Int) == 25)))) := by
    show _ = _
    unfold instB ntk
    rw [ho, decide_eq_true (show (0 : Int) ≤ k by omega), decide_eq_true (show (k : Int) < 27 by omega)]
    simp only [Bool.true_and]
    rfl
  obtain ⟨a0, c0, a1, c1, a2, c2, e0, e1, e2⟩ := hf.shape2
  obtain ⟨s1, d1, e3, _⟩ := IntsAt.open_ hp
  have HF := kept hf
  have HP := kept (show Row w 1 x.args.1 (x.args.2.map intCells) from hp)
  have hval : f.val = .agg #[.slice a0 f.nv c0, .slice a1 f.np c1, .slice a2 f.nb c2] := by unfold FuncM.val; rw [e0, e1, e2]
  rw [hval] at CH CV ⊢
  rw [e3] at CV HP ⊢
  rw [ho]
  clear hf hp e0 e1 e2 e3 hval ho
  generalize instB f x = IB at *
  generalize kword k = sw at *
  generalize (if mk1 k = true then mkT k else 0) = mt at *
  generalize mk1 k = mb at *
  generalize ((k : Int) == 0 || (k : Int) == 25) = NU at *
  generalize hop : (k : Int) = op at *
  generalize (ktakes k).size = nt at *
  clear hop hk
  generalize x.args.2.all (inB · f.nv) = V at *
  generalize inB x.dst f.nv = D at *
  generalize f.nv = nv at *
  generalize f.np = np at *
  generalize f.nb = nb at *
  generalize hna : x.args.2.length = na at *
  clear hna
  generalize x.dst = dst at *
  generalize x.num = num at *
  have hk0 : Keeps w (w.alloc (.cells #[.slice a0 nv c0, .slice a1 np c1, .slice a2 nb c2] 26)) [] := (Keeps.refl _ []).alloc _
  have bb0 := Blk.new w 26 #[.slice a0 nv c0, .slice a1 np c1, .slice a2 nb c2]
  have hk1 : Keeps (w.alloc (.cells #[.slice a0 nv c0, .slice a1 np c1, .slice a2 nb c2] 26)) ((w.alloc (.cells #[.slice a0 nv c0, .slice a1 np c1, .slice a2 nb c2] 26)).alloc (.cells #[.int .i64 op, .int .i64 dst, .slice s1 na d1, .int .i64 num] 42)) [] := (Keeps.refl _ []).alloc _
  have bb1 := Blk.new (w.alloc (.cells #[.slice a0 nv c0, .slice a1 np c1, .slice a2 nb c2] 26)) 42 #[.int .i64 op, .int .i64 dst, .slice s1 na d1, .int .i64 num]
  rw [show (w.alloc (.cells #[.slice a0 nv c0, .slice a1 np c1, .slice a2 nb c2] 26)).heap.size = w.heap.size + 1 by show (Array.push _ _).size = _; simp [Array.size_push]] at bb1
  have Bl := kept (bb0.keep hk1 (by simp))
  have Bm := kept bb1
  have HK := kept (hk0.and_then hk1)
  have l0 := Bl.out.cell 0
  have l1 := Bl.out.cell 1
  have l2 := Bl.out.cell 2
  have m0 := Bm.out.cell 0
  have m1 := Bm.out.cell 1
  have m2 := Bm.out.cell 2
  have m3 := Bm.out.cell 3
  simp at l0 l1 l2 m0 m1 m2 m3
  clear hk0 hk1 bb0 bb1
  by_cases hl : na = nt
  · subst hl
    have n1 : ((na : Int) != (na : Int)) = false := by simp
    cases V with
    | false =>
      go_enter Tryd.func64, Tryd.ntmps64
      go_wp2_with (go_at_call 71; refine (CM.out _).mono ?_; rintro e w3 ⟨rfl, k3⟩; clear l0 l1 l2 m0 m1 m2 m3; have Blx := kept (Bl.out.keep k3 (by simp)); have Bmx := kept (Bm.out.keep k3 (by simp)); have HKx := kept (HK.out.and_then k3); clear Bl Bm HK; have Bl := Blx; have Bm := Bmx; have HK := HKx; clear Blx Bmx HKx; have l0 := Bl.out.cell 0; have l1 := Bl.out.cell 1; have l2 := Bl.out.cell 2; have m0 := Bm.out.cell 0; have m1 := Bm.out.cell 1; have m2 := Bm.out.cell 2; have m3 := Bm.out.cell 3; simp at l0 l1 l2 m0 m1 m2 m3; clear k3)
      refine wp_region_held_drew (S := (fun w' => w'.cell? ⟨w.heap.size, 0, none⟩ = some (.slice a0 nv c0) ∧ w'.cell? ⟨w.heap.size, 1, none⟩ = some (.slice a1 np c1) ∧ w'.cell? ⟨w.heap.size, 2, none⟩ = some (.slice a2 nb c2) ∧ w'.cell? ⟨w.heap.size + 1, 0, none⟩ = some (.int .i64 op) ∧ w'.cell? ⟨w.heap.size + 1, 1, none⟩ = some (.int .i64 dst) ∧ w'.cell? ⟨w.heap.size + 1, 2, none⟩ = some (.slice s1 na d1) ∧ w'.cell? ⟨w.heap.size + 1, 3, none⟩ = some (.int .i64 num))) (by kernel_rfl) ?bhSs (fun hHeld => ?_)
      case bhSs => exact ⟨l0, l1, l2, m0, m1, m2, m3⟩
      clear l0 l1 l2 m0 m1 m2 m3
      have Blx := kept (Bl.out.keep ((Keeps.refl _ []).drew) (by simp))
      have Bmx := kept (Bm.out.keep ((Keeps.refl _ []).drew) (by simp))
      have HKx := kept (HK.out.drew)
      clear Bl Bm HK
      have Bl := Blx
      have Bm := Bmx
      have HK := HKx
      clear Blx Bmx HKx
      generalize World.drew _ = X0 at *
      have l0 := Bl.out.cell 0
      have l1 := Bl.out.cell 1
      have l2 := Bl.out.cell 2
      have m0 := Bm.out.cell 0
      have m1 := Bm.out.cell 1
      have m2 := Bm.out.cell 2
      have m3 := Bm.out.cell 3
      simp at l0 l1 l2 m0 m1 m2 m3
      refine wpAnyH_take (i := 0) (oi := { dst := some 14, op := Op.fieldAddr 42 (Operand.tmp 3) 0, type := 0, pos := "print.go:29", after := #[], guard := none }) (v := ?bv0) rfl (by kernel_rfl) (by kernel_rfl) (by kernel_rfl) (fun _ _ _ h => h) (Or.inl ⟨by rfl, ?by0⟩) hHeld ?br0
      case by0 => (intro w hSw; (try dsimp only at hSw); go_simp; (try with_reducible rfl))
      try simp only [Act.put, List.setIfInBounds_toArray, List.set_cons_zero, List.set_cons_succ]
      refine wpAnyH_take (i := 1) (oi := { dst := some 15, op := Op.load 40 (Operand.tmp 14), type := 40, pos := "print.go:29", after := #[{ on := 0, ground := Ground.data }], guard := none }) (v := ?bv1) rfl (by kernel_rfl) (by kernel_rfl) (by kernel_rfl) (fun _ _ _ h => h) (Or.inl ⟨by rfl, ?by1⟩) hHeld ?br1
      case by1 => (intro w hSw; (try dsimp only at hSw); go_simp; (try with_reducible rfl))
      try simp only [Act.put, List.setIfInBounds_toArray, List.set_cons_zero, List.set_cons_succ]
      refine wpAnyH_ready (rs := [2]) (by kernel_rfl) (by simp) ?_
      refine AllReadyH.cons (o := { dst := some 16, op := Op.call { callee := Callee.value (Operand.func 95), args := #[Operand.tmp 15], argTypes := #[40] }, type := 9, pos := "print.go:29", after := #[{ on := 1, ground := Ground.data }], guard := none }) rfl (fun K hK => ?_) AllReadyH.nil
      go_simp
      (with_reducible refine (CW.out _).mono ?_)
      rintro e wx ⟨rfl, k3⟩
      show K _ _
      clear hHeld
      clear l0 l1 l2 m0 m1 m2 m3
      have Blx := kept (Bl.out.keep k3 (by simp))
      have Bmx := kept (Bm.out.keep k3 (by simp))
      have HKx := kept (HK.out.and_then k3)
      clear Bl Bm HK
      have Bl := Blx
      have Bm := Bmx
      have HK := HKx
      clear Blx Bmx HKx
      have l0 := Bl.out.cell 0
      have l1 := Bl.out.cell 1
      have l2 := Bl.out.cell 2
      have m0 := Bm.out.cell 0
      have m1 := Bm.out.cell 1
      have m2 := Bm.out.cell 2
      have m3 := Bm.out.cell 3
      simp at l0 l1 l2 m0 m1 m2 m3
      clear k3
      refine hK.out _ _ ?bhS2 (fun hHeld => ?_)
      case bhS2 => exact ⟨l0, l1, l2, m0, m1, m2, m3⟩
      clear hK K
      try simp only [Act.put, List.setIfInBounds_toArray, List.set_cons_zero, List.set_cons_succ]
      refine wpAnyH_take (i := 3) (oi := { dst := some 17, op := Op.binOp BinOp.eql 9 (Operand.tmp 16) (Operand.const (Value.string { data := #[] })) 9, type := 4, pos := "print.go:29", after := #[{ on := 2, ground := Ground.data }], guard := none }) (v := ?bv3) rfl (by kernel_rfl) (by kernel_rfl) (by kernel_rfl) (fun _ _ _ h => h) (Or.inl ⟨by rfl, ?by3⟩) hHeld ?br3
      case by3 => (intro w hSw; (try dsimp only at hSw); go_simp; (try with_reducible rfl))
      try simp only [Act.put, List.setIfInBounds_toArray, List.set_cons_zero, List.set_cons_succ]
      refine wpAnyH_take (i := 4) (oi := { dst := some 18, op := Op.move (Operand.tmp 17), type := 4, pos := "print.go:29", after := #[{ on := 3, ground := Ground.data }, { on := 2, ground := Ground.chain }], guard := none }) (v := ?bv4) rfl (by kernel_rfl) (by kernel_rfl) (by kernel_rfl) (fun _ _ _ h => h) (Or.inl ⟨by rfl, ?by4⟩) hHeld ?br4
      case by4 => (intro w hSw; (try dsimp only at hSw); go_simp; (try with_reducible rfl))
      try simp only [Act.put, List.setIfInBounds_toArray, List.set_cons_zero, List.set_cons_succ]
      refine wpAnyH_take (i := 5) (oi := { dst := some 19, op := Op.fieldAddr 42 (Operand.tmp 3) 2, type := 0, pos := "print.go:29", after := #[{ on := 4, ground := Ground.guard }], guard := some (4, false) }) (v := ?bv5) rfl (by kernel_rfl) (by kernel_rfl) (by kernel_rfl) (fun _ _ _ h => h) (Or.inl ⟨by rfl, ?by5⟩) hHeld ?br5
      case by5 => (intro w hSw; (try dsimp only at hSw); go_simp; (try with_reducible rfl))
      try simp only [Act.put, List.setIfInBounds_toArray, List.set_cons_zero, List.set_cons_succ]
      refine wpAnyH_take (i := 6) (oi := { dst := some 20, op := Op.load 23 (Operand.tmp 19), type := 23, pos := "print.go:29", after := #[{ on := 5, ground := Ground.data }, { on := 4, ground := Ground.guard }], guard := some (4, false) }) (v := ?bv6) rfl (by kernel_rfl) (by kernel_rfl) (by kernel_rfl) (fun _ _ _ h => h) (Or.inl ⟨by rfl, ?by6⟩) hHeld ?br6
      case by6 => (intro w hSw; (try dsimp only at hSw); go_simp; (try with_reducible rfl))
      try simp only [Act.put, List.setIfInBounds_toArray, List.set_cons_zero, List.set_cons_succ]
      refine wpAnyH_take (i := 7) (oi := { dst := some 21, op := Op.call { callee := Callee.builtin Builtin.len, args := #[Operand.tmp 20], argTypes := #[23] }, type := 3, pos := "print.go:29", after := #[{ on := 6, ground := Ground.data }, { on := 4, ground := Ground.guard }], guard := some (4, false) }) (v := ?bv7) rfl (by kernel_rfl) (by kernel_rfl) (by kernel_rfl) (fun _ _ _ h => h) (Or.inl ⟨by rfl, ?by7⟩) hHeld ?br7
      case by7 => (intro w hSw; (try dsimp only at hSw); go_simp; (try with_reducible rfl))
      try simp only [Act.put, List.setIfInBounds_toArray, List.set_cons_zero, List.set_cons_succ]
      refine wpAnyH_take (i := 8) (oi := { dst := some 22, op := Op.fieldAddr 42 (Operand.tmp 3) 0, type := 0, pos := "print.go:29", after := #[{ on := 4, ground := Ground.guard }], guard := some (4, false) }) (v := ?bv8) rfl (by kernel_rfl) (by kernel_rfl) (by kernel_rfl) (fun _ _ _ h => h) (Or.inl ⟨by rfl, ?by8⟩) hHeld ?br8
      case by8 => (intro w hSw; (try dsimp only at hSw); go_simp; (try with_reducible rfl))
      try simp only [Act.put, List.setIfInBounds_toArray, List.set_cons_zero, List.set_cons_succ]
      refine wpAnyH_take (i := 9) (oi := { dst := some 23, op := Op.load 40 (Operand.tmp 22), type := 40, pos := "print.go:29", after := #[{ on := 8, ground := Ground.data }, { on := 4, ground := Ground.guard }], guard := some (4, false) }) (v := ?bv9) rfl (by kernel_rfl) (by kernel_rfl) (by kernel_rfl) (fun _ _ _ h => h) (Or.inl ⟨by rfl, ?by9⟩) hHeld ?br9
      case by9 => (intro w hSw; (try dsimp only at hSw); go_simp; (try with_reducible rfl))
      try simp only [Act.put, List.setIfInBounds_toArray, List.set_cons_zero, List.set_cons_succ]
      refine wpAnyH_ready (rs := [10]) (by kernel_rfl) (by simp) ?_
      refine AllReadyH.cons (o := { dst := some 24, op := Op.call { callee := Callee.value (Operand.func 70), args := #[Operand.tmp 23], argTypes := #[40] }, type := 116, pos := "print.go:29", after := #[{ on := 9, ground := Ground.data }, { on := 4, ground := Ground.chain }, { on := 4, ground := Ground.guard }], guard := some (4, false) }) rfl (fun K hK => ?_) AllReadyH.nil
      go_simp
      (with_reducible refine (CT.out _).mono ?_)
      rintro e wx ⟨va5, vc5, rfl, k3⟩
      show K _ _
      clear hHeld
      clear l0 l1 l2 m0 m1 m2 m3
      have Blx := kept (Bl.out.keep k3 (by simp))
      have Bmx := kept (Bm.out.keep k3 (by simp))
      have HKx := kept (HK.out.and_then k3)
      clear Bl Bm HK
      have Bl := Blx
      have Bm := Bmx
      have HK := HKx
      clear Blx Bmx HKx
      have l0 := Bl.out.cell 0
      have l1 := Bl.out.cell 1
      have l2 := Bl.out.cell 2
      have m0 := Bm.out.cell 0
      have m1 := Bm.out.cell 1
      have m2 := Bm.out.cell 2
      have m3 := Bm.out.cell 3
      simp at l0 l1 l2 m0 m1 m2 m3
      clear k3
      refine hK.out _ _ ?bhS10 (fun hHeld => ?_)
      case bhS10 => exact ⟨l0, l1, l2, m0, m1, m2, m3⟩
      clear hK K
      try simp only [Act.put, List.setIfInBounds_toArray, List.set_cons_zero, List.set_cons_succ]
      refine wpAnyH_take (i := 11) (oi := { dst := some 25, op := Op.call { callee := Callee.builtin Builtin.len, args := #[Operand.tmp 24], argTypes := #[116] }, type := 3, pos := "print.go:29", after := #[{ on := 10, ground := Ground.data }, { on := 4, ground := Ground.guard }], guard := some (4, false) }) (v := ?bv11) rfl (by kernel_rfl) (by kernel_rfl) (by kernel_rfl) (fun _ _ _ h => h) (Or.inl ⟨by rfl, ?by11⟩) hHeld ?br11
      case by11 => (intro w hSw; (try dsimp only at hSw); go_simp; (try with_reducible rfl))
      try simp only [Act.put, List.setIfInBounds_toArray, List.set_cons_zero, List.set_cons_succ]
      refine wpAnyH_take (i := 12) (oi := { dst := some 26, op := Op.binOp BinOp.neq 3 (Operand.tmp 21) (Operand.tmp 25) 3, type := 4, pos := "print.go:29", after := #[{ on := 7, ground := Ground.data }, { on := 11, ground := Ground.data }, { on := 4, ground := Ground.guard }], guard := some (4, false) }) (v := ?bv12) rfl (by kernel_rfl) (by kernel_rfl) (by kernel_rfl) (fun _ _ _ h => h) (Or.inl ⟨by rfl, ?by12⟩) hHeld ?br12
      case by12 => (intro w hSw; (try dsimp only at hSw); go_simp; (try with_reducible rfl))
      try simp only [Act.put, List.setIfInBounds_toArray, List.set_cons_zero, List.set_cons_succ]
      refine wpAnyH_take (i := 13) (oi := { dst := some 27, op := Op.pick (Operand.tmp 18) (Operand.const (Value.bool true)) (Operand.tmp 26), type := 4, pos := "print.go:29", after := #[{ on := 4, ground := Ground.data }, { on := 12, ground := Ground.data }], guard := none }) (v := ?bv13) rfl (by kernel_rfl) (by kernel_rfl) (by kernel_rfl) (fun _ _ _ h => h) (Or.inl ⟨by rfl, ?by13⟩) hHeld ?br13
      case by13 => (intro w hSw; (try dsimp only at hSw); go_simp; (try with_reducible rfl))
      try simp only [Act.put, List.setIfInBounds_toArray, List.set_cons_zero, List.set_cons_succ]
      refine wpAnyH_take (i := 14) (oi := { dst := some 28, op := Op.move (Operand.tmp 27), type := 4, pos := "print.go:29", after := #[{ on := 13, ground := Ground.data }, { on := 10, ground := Ground.chain }], guard := none }) (v := ?bv14) rfl (by kernel_rfl) (by kernel_rfl) (by kernel_rfl) (fun _ _ _ h => h) (Or.inl ⟨by rfl, ?by14⟩) hHeld ?br14
      case by14 => (intro w hSw; (try dsimp only at hSw); go_simp; (try with_reducible rfl))
      try simp only [Act.put, List.setIfInBounds_toArray, List.set_cons_zero, List.set_cons_succ]
      refine wpAnyH_take (i := 15) (oi := { dst := some 29, op := Op.load 26 (Operand.tmp 2), type := 26, pos := "print.go:29", after := #[{ on := 14, ground := Ground.guard }], guard := some (14, false) }) (v := ?bv15) rfl (by kernel_rfl) (by kernel_rfl) (by kernel_rfl) (fun _ _ _ h => h) (Or.inl ⟨by rfl, ?by15⟩) hHeld ?br15
      case by15 => (intro w hSw; (try dsimp only at hSw); go_simp; (try with_reducible rfl))
      try simp only [Act.put, List.setIfInBounds_toArray, List.set_cons_zero, List.set_cons_succ]
      refine wpAnyH_take (i := 16) (oi := { dst := some 30, op := Op.fieldAddr 42 (Operand.tmp 3) 2, type := 0, pos := "print.go:29", after := #[{ on := 14, ground := Ground.guard }], guard := some (14, false) }) (v := ?bv16) rfl (by kernel_rfl) (by kernel_rfl) (by kernel_rfl) (fun _ _ _ h => h) (Or.inl ⟨by rfl, ?by16⟩) hHeld ?br16
      case by16 => (intro w hSw; (try dsimp only at hSw); go_simp; (try with_reducible rfl))
      try simp only [Act.put, List.setIfInBounds_toArray, List.set_cons_zero, List.set_cons_succ]
      refine wpAnyH_take (i := 17) (oi := { dst := some 31, op := Op.load 23 (Operand.tmp 30), type := 23, pos := "print.go:29", after := #[{ on := 16, ground := Ground.data }, { on := 14, ground := Ground.guard }], guard := some (14, false) }) (v := ?bv17) rfl (by kernel_rfl) (by kernel_rfl) (by kernel_rfl) (fun _ _ _ h => h) (Or.inl ⟨by rfl, ?by17⟩) hHeld ?br17
      case by17 => (intro w hSw; (try dsimp only at hSw); go_simp; (try with_reducible rfl))
      try simp only [Act.put, List.setIfInBounds_toArray, List.set_cons_zero, List.set_cons_succ]
      refine wpAnyH_ready (rs := [18]) (by kernel_rfl) (by simp) ?_
      refine AllReadyH.cons (o := { dst := some 32, op := Op.call { callee := Callee.value (Operand.func 92), args := #[Operand.tmp 29, Operand.tmp 31], argTypes := #[26, 23] }, type := 4, pos := "print.go:29", after := #[{ on := 15, ground := Ground.data }, { on := 17, ground := Ground.data }, { on := 14, ground := Ground.chain }, { on := 14, ground := Ground.guard }], guard := some (14, false) }) rfl (fun K hK => ?_) AllReadyH.nil
      go_simp
      (with_reducible refine (CV.out _ (HF.out.keep HK.out) (Row.keep HP.out HK.out)).mono ?_)
      rintro e wx ⟨rfl, k3⟩
      show K _ _
      clear hHeld
      clear l0 l1 l2 m0 m1 m2 m3
      have Blx := kept (Bl.out.keep k3 (by simp))
      have Bmx := kept (Bm.out.keep k3 (by simp))
      have HKx := kept (HK.out.and_then k3)
      clear Bl Bm HK
      have Bl := Blx
      have Bm := Bmx
      have HK := HKx
      clear Blx Bmx HKx
      have l0 := Bl.out.cell 0
      have l1 := Bl.out.cell 1
      have l2 := Bl.out.cell 2
      have m0 := Bm.out.cell 0
      have m1 := Bm.out.cell 1
      have m2 := Bm.out.cell 2
      have m3 := Bm.out.cell 3
      simp at l0 l1 l2 m0 m1 m2 m3
      clear k3
      refine hK.out _ _ ?bhS18 (fun hHeld => ?_)
      case bhS18 => exact ⟨l0, l1, l2, m0, m1, m2, m3⟩
      clear hK K
      try simp only [Act.put, List.setIfInBounds_toArray, List.set_cons_zero, List.set_cons_succ]
      refine wpAnyH_take (i := 19) (oi := { dst := some 33, op := Op.unOp UnOp.not 4 (Operand.tmp 32), type := 4, pos := "print.go:29", after := #[{ on := 18, ground := Ground.data }, { on := 14, ground := Ground.guard }], guard := some (14, false) }) (v := ?bv19) rfl (by kernel_rfl) (by kernel_rfl) (by kernel_rfl) (fun _ _ _ h => h) (Or.inl ⟨by rfl, ?by19⟩) hHeld ?br19
      case by19 => (intro w hSw; (try dsimp only at hSw); go_simp; (try with_reducible rfl))
      try simp only [Act.put, List.setIfInBounds_toArray, List.set_cons_zero, List.set_cons_succ]
      refine wpAnyH_take (i := 20) (oi := { dst := some 34, op := Op.pick (Operand.tmp 28) (Operand.const (Value.bool true)) (Operand.tmp 33), type := 4, pos := "print.go:29", after := #[{ on := 14, ground := Ground.data }, { on := 19, ground := Ground.data }], guard := none }) (v := ?bv20) rfl (by kernel_rfl) (by kernel_rfl) (by kernel_rfl) (fun _ _ _ h => h) (Or.inl ⟨by rfl, ?by20⟩) hHeld ?br20
      case by20 => (intro w hSw; (try dsimp only at hSw); go_simp; (try with_reducible rfl))
      try simp only [Act.put, List.setIfInBounds_toArray, List.set_cons_zero, List.set_cons_succ]
      refine wpAnyH_take (i := 21) (oi := { dst := some 13, op := Op.assign (Operand.tmp 34), type := 4, pos := "print.go:29", after := #[{ on := 20, ground := Ground.data }, { on := 18, ground := Ground.chain }], guard := none }) (v := ?bv21) rfl (by kernel_rfl) (by kernel_rfl) (by kernel_rfl) (fun _ _ _ h => h) (Or.inl ⟨by rfl, ?by21⟩) hHeld ?br21
      case by21 => (intro w hSw; (try dsimp only at hSw); go_simp; (try with_reducible rfl))
      try simp only [Act.put, List.setIfInBounds_toArray, List.set_cons_zero, List.set_cons_succ]
      refine wpAnyH_done (by kernel_rfl) ?_ _
      clear hHeld
      go_wp2
      go_ret
      exact ⟨ret_bool (by rw [HX.out]; simp), HK.out⟩
    | true =>
      go_enter Tryd.func64, Tryd.ntmps64
      go_wp2_with (go_at_call 71; refine (CM.out _).mono ?_; rintro e w3 ⟨rfl, k3⟩; clear l0 l1 l2 m0 m1 m2 m3; have Blx := kept (Bl.out.keep k3 (by simp)); have Bmx := kept (Bm.out.keep k3 (by simp)); have HKx := kept (HK.out.and_then k3); clear Bl Bm HK; have Bl := Blx; have Bm := Bmx; have HK := HKx; clear Blx Bmx HKx; have l0 := Bl.out.cell 0; have l1 := Bl.out.cell 1; have l2 := Bl.out.cell 2; have m0 := Bm.out.cell 0; have m1 := Bm.out.cell 1; have m2 := Bm.out.cell 2; have m3 := Bm.out.cell 3; simp at l0 l1 l2 m0 m1 m2 m3; clear k3)
      refine wp_region_held_drew (S := (fun w' => w'.cell? ⟨w.heap.size, 0, none⟩ = some (.slice a0 nv c0) ∧ w'.cell? ⟨w.heap.size, 1, none⟩ = some (.slice a1 np c1) ∧ w'.cell? ⟨w.heap.size, 2, none⟩ = some (.slice a2 nb c2) ∧ w'.cell? ⟨w.heap.size + 1, 0, none⟩ = some (.int .i64 op) ∧ w'.cell? ⟨w.heap.size + 1, 1, none⟩ = some (.int .i64 dst) ∧ w'.cell? ⟨w.heap.size + 1, 2, none⟩ = some (.slice s1 na d1) ∧ w'.cell? ⟨w.heap.size + 1, 3, none⟩ = some (.int .i64 num))) (by kernel_rfl) ?chSs (fun hHeld => ?_)
      case chSs => exact ⟨l0, l1, l2, m0, m1, m2, m3⟩
      clear l0 l1 l2 m0 m1 m2 m3
      have Blx := kept (Bl.out.keep ((Keeps.refl _ []).drew) (by simp))
      have Bmx := kept (Bm.out.keep ((Keeps.refl _ []).drew) (by simp))
      have HKx := kept (HK.out.drew)
      clear Bl Bm HK
      have Bl := Blx
      have Bm := Bmx
      have HK := HKx
      clear Blx Bmx HKx
      generalize World.drew _ = X0 at *
      have l0 := Bl.out.cell 0
      have l1 := Bl.out.cell 1
      have l2 := Bl.out.cell 2
      have m0 := Bm.out.cell 0
      have m1 := Bm.out.cell 1
      have m2 := Bm.out.cell 2
      have m3 := Bm.out.cell 3
      simp at l0 l1 l2 m0 m1 m2 m3
      refine wpAnyH_take (i := 0) (oi := { dst := some 14, op := Op.fieldAddr 42 (Operand.tmp 3) 0, type := 0, pos := "print.go:29", after := #[], guard := none }) (v := ?cv0) rfl (by kernel_rfl) (by kernel_rfl) (by kernel_rfl) (fun _ _ _ h => h) (Or.inl ⟨by rfl, ?cy0⟩) hHeld ?cr0
      case cy0 => (intro w hSw; (try dsimp only at hSw); go_simp; (try with_reducible rfl))
      try simp only [Act.put, List.setIfInBounds_toArray, List.set_cons_zero, List.set_cons_succ]
      refine wpAnyH_take (i := 1) (oi := { dst := some 15, op := Op.load 40 (Operand.tmp 14), type := 40, pos := "print.go:29", after := #[{ on := 0, ground := Ground.data }], guard := none }) (v := ?cv1) rfl (by kernel_rfl) (by kernel_rfl) (by kernel_rfl) (fun _ _ _ h => h) (Or.inl ⟨by rfl, ?cy1⟩) hHeld ?cr1
      case cy1 => (intro w hSw; (try dsimp only at hSw); go_simp; (try with_reducible rfl))
      try simp only [Act.put, List.setIfInBounds_toArray, List.set_cons_zero, List.set_cons_succ]
      refine wpAnyH_ready (rs := [2]) (by kernel_rfl) (by simp) ?_
      refine AllReadyH.cons (o := { dst := some 16, op := Op.call { callee := Callee.value (Operand.func 95), args := #[Operand.tmp 15], argTypes := #[40] }, type := 9, pos := "print.go:29", after := #[{ on := 1, ground := Ground.data }], guard := none }) rfl (fun K hK => ?_) AllReadyH.nil
      go_simp
      (with_reducible refine (CW.out _).mono ?_)
      rintro e wx ⟨rfl, k3⟩
      show K _ _
      clear hHeld
      clear l0 l1 l2 m0 m1 m2 m3
      have Blx := kept (Bl.out.keep k3 (by simp))
      have Bmx := kept (Bm.out.keep k3 (by simp))
      have HKx := kept (HK.out.and_then k3)
      clear Bl Bm HK
      have Bl := Blx
      have Bm := Bmx
      have HK := HKx
      clear Blx Bmx HKx
      have l0 := Bl.out.cell 0
      have l1 := Bl.out.cell 1
      have l2 := Bl.out.cell 2
      have m0 := Bm.out.cell 0
      have m1 := Bm.out.cell 1
      have m2 := Bm.out.cell 2
      have m3 := Bm.out.cell 3
      simp at l0 l1 l2 m0 m1 m2 m3
      clear k3
      refine hK.out _ _ ?chS2 (fun hHeld => ?_)
      case chS2 => exact ⟨l0, l1, l2, m0, m1, m2, m3⟩
      clear hK K
      try simp only [Act.put, List.setIfInBounds_toArray, List.set_cons_zero, List.set_cons_succ]
      refine wpAnyH_take (i := 3) (oi := { dst := some 17, op := Op.binOp BinOp.eql 9 (Operand.tmp 16) (Operand.const (Value.string { data := #[] })) 9, type := 4, pos := "print.go:29", after := #[{ on := 2, ground := Ground.data }], guard := none }) (v := ?cv3) rfl (by kernel_rfl) (by kernel_rfl) (by kernel_rfl) (fun _ _ _ h => h) (Or.inl ⟨by rfl, ?cy3⟩) hHeld ?cr3
      case cy3 => (intro w hSw; (try dsimp only at hSw); go_simp; (try with_reducible rfl))
      try simp only [Act.put, List.setIfInBounds_toArray, List.set_cons_zero, List.set_cons_succ]
      refine wpAnyH_take (i := 4) (oi := { dst := some 18, op := Op.move (Operand.tmp 17), type := 4, pos := "print.go:29", after := #[{ on := 3, ground := Ground.data }, { on := 2, ground := Ground.chain }], guard := none }) (v := ?cv4) rfl (by kernel_rfl) (by kernel_rfl) (by kernel_rfl) (fun _ _ _ h => h) (Or.inl ⟨by rfl, ?cy4⟩) hHeld ?cr4
      case cy4 => (intro w hSw; (try dsimp only at hSw); go_simp; (try with_reducible rfl))
      try simp only [Act.put, List.setIfInBounds_toArray, List.set_cons_zero, List.set_cons_succ]
      refine wpAnyH_take (i := 5) (oi := { dst := some 19, op := Op.fieldAddr 42 (Operand.tmp 3) 2, type := 0, pos := "print.go:29", after := #[{ on := 4, ground := Ground.guard }], guard := some (4, false) }) (v := ?cv5) rfl (by kernel_rfl) (by kernel_rfl) (by kernel_rfl) (fun _ _ _ h => h) (Or.inl ⟨by rfl, ?cy5⟩) hHeld ?cr5
      case cy5 => (intro w hSw; (try dsimp only at hSw); go_simp; (try with_reducible rfl))
      try simp only [Act.put, List.setIfInBounds_toArray, List.set_cons_zero, List.set_cons_succ]
      refine wpAnyH_take (i := 6) (oi := { dst := some 20, op := Op.load 23 (Operand.tmp 19), type := 23, pos := "print.go:29", after := #[{ on := 5, ground := Ground.data }, { on := 4, ground := Ground.guard }], guard := some (4, false) }) (v := ?cv6) rfl (by kernel_rfl) (by kernel_rfl) (by kernel_rfl) (fun _ _ _ h => h) (Or.inl ⟨by rfl, ?cy6⟩) hHeld ?cr6
      case cy6 => (intro w hSw; (try dsimp only at hSw); go_simp; (try with_reducible rfl))
      try simp only [Act.put, List.setIfInBounds_toArray, List.set_cons_zero, List.set_cons_succ]
      refine wpAnyH_take (i := 7) (oi := { dst := some 21, op := Op.call { callee := Callee.builtin Builtin.len, args := #[Operand.tmp 20], argTypes := #[23] }, type := 3, pos := "print.go:29", after := #[{ on := 6, ground := Ground.data }, { on := 4, ground := Ground.guard }], guard := some (4, false) }) (v := ?cv7) rfl (by kernel_rfl) (by kernel_rfl) (by kernel_rfl) (fun _ _ _ h => h) (Or.inl ⟨by rfl, ?cy7⟩) hHeld ?cr7
      case cy7 => (intro w hSw; (try dsimp only at hSw); go_simp; (try with_reducible rfl))
      try simp only [Act.put, List.setIfInBounds_toArray, List.set_cons_zero, List.set_cons_succ]
      refine wpAnyH_take (i := 8) (oi := { dst := some 22, op := Op.fieldAddr 42 (Operand.tmp 3) 0, type := 0, pos := "print.go:29", after := #[{ on := 4, ground := Ground.guard }], guard := some (4, false) }) (v := ?cv8) rfl (by kernel_rfl) (by kernel_rfl) (by kernel_rfl) (fun _ _ _ h => h) (Or.inl ⟨by rfl, ?cy8⟩) hHeld ?cr8
      case cy8 => (intro w hSw; (try dsimp only at hSw); go_simp; (try with_reducible rfl))
      try simp only [Act.put, List.setIfInBounds_toArray, List.set_cons_zero, List.set_cons_succ]
      refine wpAnyH_take (i := 9) (oi := { dst := some 23, op := Op.load 40 (Operand.tmp 22), type := 40, pos := "print.go:29", after := #[{ on := 8, ground := Ground.data }, { on := 4, ground := Ground.guard }], guard := some (4, false) }) (v := ?cv9) rfl (by kernel_rfl) (by kernel_rfl) (by kernel_rfl) (fun _ _ _ h => h) (Or.inl ⟨by rfl, ?cy9⟩) hHeld ?cr9
      case cy9 => (intro w hSw; (try dsimp only at hSw); go_simp; (try with_reducible rfl))
      try simp only [Act.put, List.setIfInBounds_toArray, List.set_cons_zero, List.set_cons_succ]
      refine wpAnyH_ready (rs := [10]) (by kernel_rfl) (by simp) ?_
      refine AllReadyH.cons (o := { dst := some 24, op := Op.call { callee := Callee.value (Operand.func 70), args := #[Operand.tmp 23], argTypes := #[40] }, type := 116, pos := "print.go:29", after := #[{ on := 9, ground := Ground.data }, { on := 4, ground := Ground.chain }, { on := 4, ground := Ground.guard }], guard := some (4, false) }) rfl (fun K hK => ?_) AllReadyH.nil
      go_simp
      (with_reducible refine (CT.out _).mono ?_)
      rintro e wx ⟨va5, vc5, rfl, k3⟩
      show K _ _
      clear hHeld
      clear l0 l1 l2 m0 m1 m2 m3
      have Blx := kept (Bl.out.keep k3 (by simp))
      have Bmx := kept (Bm.out.keep k3 (by simp))
      have HKx := kept (HK.out.and_then k3)
      clear Bl Bm HK
      have Bl := Blx
      have Bm := Bmx
      have HK := HKx
      clear Blx Bmx HKx
      have l0 := Bl.out.cell 0
      have l1 := Bl.out.cell 1
      have l2 := Bl.out.cell 2
      have m0 := Bm.out.cell 0
      have m1 := Bm.out.cell 1
      have m2 := Bm.out.cell 2
      have m3 := Bm.out.cell 3
      simp at l0 l1 l2 m0 m1 m2 m3
      clear k3
      refine hK.out _ _ ?chS10 (fun hHeld => ?_)
      case chS10 => exact ⟨l0, l1, l2, m0, m1, m2, m3⟩
      clear hK K
      try simp only [Act.put, List.setIfInBounds_toArray, List.set_cons_zero, List.set_cons_succ]
      refine wpAnyH_take (i := 11) (oi := { dst := some 25, op := Op.call { callee := Callee.builtin Builtin.len, args := #[Operand.tmp 24], argTypes := #[116] }, type := 3, pos := "print.go:29", after := #[{ on := 10, ground := Ground.data }, { on := 4, ground := Ground.guard }], guard := some (4, false) }) (v := ?cv11) rfl (by kernel_rfl) (by kernel_rfl) (by kernel_rfl) (fun _ _ _ h => h) (Or.inl ⟨by rfl, ?cy11⟩) hHeld ?cr11
      case cy11 => (intro w hSw; (try dsimp only at hSw); go_simp; (try with_reducible rfl))
      try simp only [Act.put, List.setIfInBounds_toArray, List.set_cons_zero, List.set_cons_succ]
      refine wpAnyH_take (i := 12) (oi := { dst := some 26, op := Op.binOp BinOp.neq 3 (Operand.tmp 21) (Operand.tmp 25) 3, type := 4, pos := "print.go:29", after := #[{ on := 7, ground := Ground.data }, { on := 11, ground := Ground.data }, { on := 4, ground := Ground.guard }], guard := some (4, false) }) (v := ?cv12) rfl (by kernel_rfl) (by kernel_rfl) (by kernel_rfl) (fun _ _ _ h => h) (Or.inl ⟨by rfl, ?cy12⟩) hHeld ?cr12
      case cy12 => (intro w hSw; (try dsimp only at hSw); go_simp; (try with_reducible rfl))
      try simp only [Act.put, List.setIfInBounds_toArray, List.set_cons_zero, List.set_cons_succ]
      refine wpAnyH_take (i := 13) (oi := { dst := some 27, op := Op.pick (Operand.tmp 18) (Operand.const (Value.bool true)) (Operand.tmp 26), type := 4, pos := "print.go:29", after := #[{ on := 4, ground := Ground.data }, { on := 12, ground := Ground.data }], guard := none }) (v := ?cv13) rfl (by kernel_rfl) (by kernel_rfl) (by kernel_rfl) (fun _ _ _ h => h) (Or.inl ⟨by rfl, ?cy13⟩) hHeld ?cr13
      case cy13 => (intro w hSw; (try dsimp only at hSw); go_simp; (try with_reducible rfl))
      try simp only [Act.put, List.setIfInBounds_toArray, List.set_cons_zero, List.set_cons_succ]
      refine wpAnyH_take (i := 14) (oi := { dst := some 28, op := Op.move (Operand.tmp 27), type := 4, pos := "print.go:29", after := #[{ on := 13, ground := Ground.data }, { on := 10, ground := Ground.chain }], guard := none }) (v := ?cv14) rfl (by kernel_rfl) (by kernel_rfl) (by kernel_rfl) (fun _ _ _ h => h) (Or.inl ⟨by rfl, ?cy14⟩) hHeld ?cr14
      case cy14 => (intro w hSw; (try dsimp only at hSw); go_simp; (try with_reducible rfl))
      try simp only [Act.put, List.setIfInBounds_toArray, List.set_cons_zero, List.set_cons_succ]
      refine wpAnyH_take (i := 15) (oi := { dst := some 29, op := Op.load 26 (Operand.tmp 2), type := 26, pos := "print.go:29", after := #[{ on := 14, ground := Ground.guard }], guard := some (14, false) }) (v := ?cv15) rfl (by kernel_rfl) (by kernel_rfl) (by kernel_rfl) (fun _ _ _ h => h) (Or.inl ⟨by rfl, ?cy15⟩) hHeld ?cr15
      case cy15 => (intro w hSw; (try dsimp only at hSw); go_simp; (try with_reducible rfl))
      try simp only [Act.put, List.setIfInBounds_toArray, List.set_cons_zero, List.set_cons_succ]
      refine wpAnyH_take (i := 16) (oi := { dst := some 30, op := Op.fieldAddr 42 (Operand.tmp 3) 2, type := 0, pos := "print.go:29", after := #[{ on := 14, ground := Ground.guard }], guard := some (14, false) }) (v := ?cv16) rfl (by kernel_rfl) (by kernel_rfl) (by kernel_rfl) (fun _ _ _ h => h) (Or.inl ⟨by rfl, ?cy16⟩) hHeld ?cr16
      case cy16 => (intro w hSw; (try dsimp only at hSw); go_simp; (try with_reducible rfl))
      try simp only [Act.put, List.setIfInBounds_toArray, List.set_cons_zero, List.set_cons_succ]
      refine wpAnyH_take (i := 17) (oi := { dst := some 31, op := Op.load 23 (Operand.tmp 30), type := 23, pos := "print.go:29", after := #[{ on := 16, ground := Ground.data }, { on := 14, ground := Ground.guard }], guard := some (14, false) }) (v := ?cv17) rfl (by kernel_rfl) (by kernel_rfl) (by kernel_rfl) (fun _ _ _ h => h) (Or.inl ⟨by rfl, ?cy17⟩) hHeld ?cr17
      case cy17 => (intro w hSw; (try dsimp only at hSw); go_simp; (try with_reducible rfl))
      try simp only [Act.put, List.setIfInBounds_toArray, List.set_cons_zero, List.set_cons_succ]
      refine wpAnyH_ready (rs := [18]) (by kernel_rfl) (by simp) ?_
      refine AllReadyH.cons (o := { dst := some 32, op := Op.call { callee := Callee.value (Operand.func 92), args := #[Operand.tmp 29, Operand.tmp 31], argTypes := #[26, 23] }, type := 4, pos := "print.go:29", after := #[{ on := 15, ground := Ground.data }, { on := 17, ground := Ground.data }, { on := 14, ground := Ground.chain }, { on := 14, ground := Ground.guard }], guard := some (14, false) }) rfl (fun K hK => ?_) AllReadyH.nil
      go_simp
      (with_reducible refine (CV.out _ (HF.out.keep HK.out) (Row.keep HP.out HK.out)).mono ?_)
      rintro e wx ⟨rfl, k3⟩
      show K _ _
      clear hHeld
      clear l0 l1 l2 m0 m1 m2 m3
      have Blx := kept (Bl.out.keep k3 (by simp))
      have Bmx := kept (Bm.out.keep k3 (by simp))
      have HKx := kept (HK.out.and_then k3)
      clear Bl Bm HK
      have Bl := Blx
      have Bm := Bmx
      have HK := HKx
      clear Blx Bmx HKx
      have l0 := Bl.out.cell 0
      have l1 := Bl.out.cell 1
      have l2 := Bl.out.cell 2
      have m0 := Bm.out.cell 0
      have m1 := Bm.out.cell 1
      have m2 := Bm.out.cell 2
      have m3 := Bm.out.cell 3
      simp at l0 l1 l2 m0 m1 m2 m3
      clear k3
      refine hK.out _ _ ?chS18 (fun hHeld => ?_)
      case chS18 => exact ⟨l0, l1, l2, m0, m1, m2, m3⟩
      clear hK K
      try simp only [Act.put, List.setIfInBounds_toArray, List.set_cons_zero, List.set_cons_succ]
      refine wpAnyH_take (i := 19) (oi := { dst := some 33, op := Op.unOp UnOp.not 4 (Operand.tmp 32), type := 4, pos := "print.go:29", after := #[{ on := 18, ground := Ground.data }, { on := 14, ground := Ground.guard }], guard := some (14, false) }) (v := ?cv19) rfl (by kernel_rfl) (by kernel_rfl) (by kernel_rfl) (fun _ _ _ h => h) (Or.inl ⟨by rfl, ?cy19⟩) hHeld ?cr19
      case cy19 => (intro w hSw; (try dsimp only at hSw); go_simp; (try with_reducible rfl))
      try simp only [Act.put, List.setIfInBounds_toArray, List.set_cons_zero, List.set_cons_succ]
      refine wpAnyH_take (i := 20) (oi := { dst := some 34, op := Op.pick (Operand.tmp 28) (Operand.const (Value.bool true)) (Operand.tmp 33), type := 4, pos := "print.go:29", after := #[{ on := 14, ground := Ground.data }, { on := 19, ground := Ground.data }], guard := none }) (v := ?cv20) rfl (by kernel_rfl) (by kernel_rfl) (by kernel_rfl) (fun _ _ _ h => h) (Or.inl ⟨by rfl, ?cy20⟩) hHeld ?cr20
      case cy20 => (intro w hSw; (try dsimp only at hSw); go_simp; (try with_reducible rfl))
      try simp only [Act.put, List.setIfInBounds_toArray, List.set_cons_zero, List.set_cons_succ]
      refine wpAnyH_take (i := 21) (oi := { dst := some 13, op := Op.assign (Operand.tmp 34), type := 4, pos := "print.go:29", after := #[{ on := 20, ground := Ground.data }, { on := 18, ground := Ground.chain }], guard := none }) (v := ?cv21) rfl (by kernel_rfl) (by kernel_rfl) (by kernel_rfl) (fun _ _ _ h => h) (Or.inl ⟨by rfl, ?cy21⟩) hHeld ?cr21
      case cy21 => (intro w hSw; (try dsimp only at hSw); go_simp; (try with_reducible rfl))
      try simp only [Act.put, List.setIfInBounds_toArray, List.set_cons_zero, List.set_cons_succ]
      refine wpAnyH_done (by kernel_rfl) ?_ _
      clear hHeld
      cases mb with
      | true =>
        cases D with
        | false =>
          go_wp2_with (first | (go_at_call 91; refine (CH.out _ (HF.out.keep HK.out)).mono ?_; rintro e w3 ⟨rfl, k3⟩; clear l0 l1 l2 m0 m1 m2 m3; have Blx := kept (Bl.out.keep k3 (by simp)); have Bmx := kept (Bm.out.keep k3 (by simp)); have HKx := kept (HK.out.and_then k3); clear Bl Bm HK; have Bl := Blx; have Bm := Bmx; have HK := HKx; clear Blx Bmx HKx; have l0 := Bl.out.cell 0; have l1 := Bl.out.cell 1; have l2 := Bl.out.cell 2; have m0 := Bm.out.cell 0; have m1 := Bm.out.cell 1; have m2 := Bm.out.cell 2; have m3 := Bm.out.cell 3; simp at l0 l1 l2 m0 m1 m2 m3; clear k3) | (go_at_call 96; refine (CN.out _).mono ?_; rintro e w7 ⟨rfl, rfl⟩))
          go_ret
          exact ⟨ret_bool (by rw [HX.out]; simp), HK.out⟩
        | true =>
          rcases zero_or num with rfl | hz
          · go_wp2_with (first | (go_at_call 91; refine (CH.out _ (HF.out.keep HK.out)).mono ?_; rintro e w3 ⟨rfl, k3⟩; clear l0 l1 l2 m0 m1 m2 m3; have Blx := kept (Bl.out.keep k3 (by simp)); have Bmx := kept (Bm.out.keep k3 (by simp)); have HKx := kept (HK.out.and_then k3); clear Bl Bm HK; have Bl := Blx; have Bm := Bmx; have HK := HKx; clear Blx Bmx HKx; have l0 := Bl.out.cell 0; have l1 := Bl.out.cell 1; have l2 := Bl.out.cell 2; have m0 := Bm.out.cell 0; have m1 := Bm.out.cell 1; have m2 := Bm.out.cell 2; have m3 := Bm.out.cell 3; simp at l0 l1 l2 m0 m1 m2 m3; clear k3) | (go_at_call 96; refine (CN.out _).mono ?_; rintro e w7 ⟨rfl, rfl⟩))
            go_ret
            exact ⟨ret_bool (by rw [HX.out]; simp), HK.out⟩
          · cases NU
            all_goals
              go_wp2_with (first | (go_at_call 91; refine (CH.out _ (HF.out.keep HK.out)).mono ?_; rintro e w3 ⟨rfl, k3⟩; clear l0 l1 l2 m0 m1 m2 m3; have Blx := kept (Bl.out.keep k3 (by simp)); have Bmx := kept (Bm.out.keep k3 (by simp)); have HKx := kept (HK.out.and_then k3); clear Bl Bm HK; have Bl := Blx; have Bm := Bmx; have HK := HKx; clear Blx Bmx HKx; have l0 := Bl.out.cell 0; have l1 := Bl.out.cell 1; have l2 := Bl.out.cell 2; have m0 := Bm.out.cell 0; have m1 := Bm.out.cell 1; have m2 := Bm.out.cell 2; have m3 := Bm.out.cell 3; simp at l0 l1 l2 m0 m1 m2 m3; clear k3) | (go_at_call 96; refine (CN.out _).mono ?_; rintro e w7 ⟨rfl, rfl⟩))
              go_ret
              exact ⟨ret_bool (by rw [HX.out]; simp [hz]), HK.out⟩
      | false =>
        by_cases hd : dst = -1
        · subst hd
          rcases zero_or num with rfl | hz
          · go_wp2_with (first | (go_at_call 91; refine (CH.out _ (HF.out.keep HK.out)).mono ?_; rintro e w3 ⟨rfl, k3⟩; clear l0 l1 l2 m0 m1 m2 m3; have Blx := kept (Bl.out.keep k3 (by simp)); have Bmx := kept (Bm.out.keep k3 (by simp)); have HKx := kept (HK.out.and_then k3); clear Bl Bm HK; have Bl := Blx; have Bm := Bmx; have HK := HKx; clear Blx Bmx HKx; have l0 := Bl.out.cell 0; have l1 := Bl.out.cell 1; have l2 := Bl.out.cell 2; have m0 := Bm.out.cell 0; have m1 := Bm.out.cell 1; have m2 := Bm.out.cell 2; have m3 := Bm.out.cell 3; simp at l0 l1 l2 m0 m1 m2 m3; clear k3) | (go_at_call 96; refine (CN.out _).mono ?_; rintro e w7 ⟨rfl, rfl⟩))
            go_ret
            exact ⟨ret_bool (by rw [HX.out]; simp), HK.out⟩
          · cases NU
            all_goals
              go_wp2_with (first | (go_at_call 91; refine (CH.out _ (HF.out.keep HK.out)).mono ?_; rintro e w3 ⟨rfl, k3⟩; clear l0 l1 l2 m0 m1 m2 m3; have Blx := kept (Bl.out.keep k3 (by simp)); have Bmx := kept (Bm.out.keep k3 (by simp)); have HKx := kept (HK.out.and_then k3); clear Bl Bm HK; have Bl := Blx; have Bm := Bmx; have HK := HKx; clear Blx Bmx HKx; have l0 := Bl.out.cell 0; have l1 := Bl.out.cell 1; have l2 := Bl.out.cell 2; have m0 := Bm.out.cell 0; have m1 := Bm.out.cell 1; have m2 := Bm.out.cell 2; have m3 := Bm.out.cell 3; simp at l0 l1 l2 m0 m1 m2 m3; clear k3) | (go_at_call 96; refine (CN.out _).mono ?_; rintro e w7 ⟨rfl, rfl⟩))
              go_ret
              exact ⟨ret_bool (by rw [HX.out]; simp [hz]), HK.out⟩
        · have hd1 : (dst == -1) = false := by simpa using hd
          have hd2 : (dst != -1) = true := by simpa using hd
          clear hd
          go_wp2_with (first | (go_at_call 91; refine (CH.out _ (HF.out.keep HK.out)).mono ?_; rintro e w3 ⟨rfl, k3⟩; clear l0 l1 l2 m0 m1 m2 m3; have Blx := kept (Bl.out.keep k3 (by simp)); have Bmx := kept (Bm.out.keep k3 (by simp)); have HKx := kept (HK.out.and_then k3); clear Bl Bm HK; have Bl := Blx; have Bm := Bmx; have HK := HKx; clear Blx Bmx HKx; have l0 := Bl.out.cell 0; have l1 := Bl.out.cell 1; have l2 := Bl.out.cell 2; have m0 := Bm.out.cell 0; have m1 := Bm.out.cell 1; have m2 := Bm.out.cell 2; have m3 := Bm.out.cell 3; simp at l0 l1 l2 m0 m1 m2 m3; clear k3) | (go_at_call 96; refine (CN.out _).mono ?_; rintro e w7 ⟨rfl, rfl⟩))
          go_ret
          exact ⟨ret_bool (by rw [HX.out]; simp [hd1]), HK.out⟩
  · have n1 : ((na : Int) != (nt : Int)) = true := by simp; omega
    have n2 : (na == nt) = false := by simpa using hl
    clear hl
    go_enter Tryd.func64, Tryd.ntmps64
    go_wp2_with (go_at_call 71; refine (CM.out _).mono ?_; rintro e w3 ⟨rfl, k3⟩; clear l0 l1 l2 m0 m1 m2 m3; have Blx := kept (Bl.out.keep k3 (by simp)); have Bmx := kept (Bm.out.keep k3 (by simp)); have HKx := kept (HK.out.and_then k3); clear Bl Bm HK; have Bl := Blx; have Bm := Bmx; have HK := HKx; clear Blx Bmx HKx; have l0 := Bl.out.cell 0; have l1 := Bl.out.cell 1; have l2 := Bl.out.cell 2; have m0 := Bm.out.cell 0; have m1 := Bm.out.cell 1; have m2 := Bm.out.cell 2; have m3 := Bm.out.cell 3; simp at l0 l1 l2 m0 m1 m2 m3; clear k3)
    refine wp_region_held_drew (S := (fun w' => w'.cell? ⟨w.heap.size, 0, none⟩ = some (.slice a0 nv c0) ∧ w'.cell? ⟨w.heap.size, 1, none⟩ = some (.slice a1 np c1) ∧ w'.cell? ⟨w.heap.size, 2, none⟩ = some (.slice a2 nb c2) ∧ w'.cell? ⟨w.heap.size + 1, 0, none⟩ = some (.int .i64 op) ∧ w'.cell? ⟨w.heap.size + 1, 1, none⟩ = some (.int .i64 dst) ∧ w'.cell? ⟨w.heap.size + 1, 2, none⟩ = some (.slice s1 na d1) ∧ w'.cell? ⟨w.heap.size + 1, 3, none⟩ = some (.int .i64 num))) (by kernel_rfl) ?dhSs (fun hHeld => ?_)
    case dhSs => exact ⟨l0, l1, l2, m0, m1, m2, m3⟩
    clear l0 l1 l2 m0 m1 m2 m3
    have Blx := kept (Bl.out.keep ((Keeps.refl _ []).drew) (by simp))
    have Bmx := kept (Bm.out.keep ((Keeps.refl _ []).drew) (by simp))
    have HKx := kept (HK.out.drew)
    clear Bl Bm HK
    have Bl := Blx
    have Bm := Bmx
    have HK := HKx
    clear Blx Bmx HKx
    generalize World.drew _ = X0 at *
    have l0 := Bl.out.cell 0
    have l1 := Bl.out.cell 1
    have l2 := Bl.out.cell 2
    have m0 := Bm.out.cell 0
    have m1 := Bm.out.cell 1
    have m2 := Bm.out.cell 2
    have m3 := Bm.out.cell 3
    simp at l0 l1 l2 m0 m1 m2 m3
    refine wpAnyH_take (i := 0) (oi := { dst := some 14, op := Op.fieldAddr 42 (Operand.tmp 3) 0, type := 0, pos := "print.go:29", after := #[], guard := none }) (v := ?dv0) rfl (by kernel_rfl) (by kernel_rfl) (by kernel_rfl) (fun _ _ _ h => h) (Or.inl ⟨by rfl, ?dy0⟩) hHeld ?dr0
    case dy0 => (intro w hSw; (try dsimp only at hSw); go_simp; (try with_reducible rfl))
    try simp only [Act.put, List.setIfInBounds_toArray, List.set_cons_zero, List.set_cons_succ]
    refine wpAnyH_take (i := 1) (oi := { dst := some 15, op := Op.load 40 (Operand.tmp 14), type := 40, pos := "print.go:29", after := #[{ on := 0, ground := Ground.data }], guard := none }) (v := ?dv1) rfl (by kernel_rfl) (by kernel_rfl) (by kernel_rfl) (fun _ _ _ h => h) (Or.inl ⟨by rfl, ?dy1⟩) hHeld ?dr1
    case dy1 => (intro w hSw; (try dsimp only at hSw); go_simp; (try with_reducible rfl))
    try simp only [Act.put, List.setIfInBounds_toArray, List.set_cons_zero, List.set_cons_succ]
    refine wpAnyH_ready (rs := [2]) (by kernel_rfl) (by simp) ?_
    refine AllReadyH.cons (o := { dst := some 16, op := Op.call { callee := Callee.value (Operand.func 95), args := #[Operand.tmp 15], argTypes := #[40] }, type := 9, pos := "print.go:29", after := #[{ on := 1, ground := Ground.data }], guard := none }) rfl (fun K hK => ?_) AllReadyH.nil
    go_simp
    (with_reducible refine (CW.out _).mono ?_)
    rintro e wx ⟨rfl, k3⟩
    show K _ _
    clear hHeld
    clear l0 l1 l2 m0 m1 m2 m3
    have Blx := kept (Bl.out.keep k3 (by simp))
    have Bmx := kept (Bm.out.keep k3 (by simp))
    have HKx := kept (HK.out.and_then k3)
    clear Bl Bm HK
    have Bl := Blx
    have Bm := Bmx
    have HK := HKx
    clear Blx Bmx HKx
    have l0 := Bl.out.cell 0
    have l1 := Bl.out.cell 1
    have l2 := Bl.out.cell 2
    have m0 := Bm.out.cell 0
    have m1 := Bm.out.cell 1
    have m2 := Bm.out.cell 2
    have m3 := Bm.out.cell 3
    simp at l0 l1 l2 m0 m1 m2 m3
    clear k3
    refine hK.out _ _ ?dhS2 (fun hHeld => ?_)
    case dhS2 => exact ⟨l0, l1, l2, m0, m1, m2, m3⟩
    clear hK K
    try simp only [Act.put, List.setIfInBounds_toArray, List.set_cons_zero, List.set_cons_succ]
    refine wpAnyH_take (i := 3) (oi := { dst := some 17, op := Op.binOp BinOp.eql 9 (Operand.tmp 16) (Operand.const (Value.string { data := #[] })) 9, type := 4, pos := "print.go:29", after := #[{ on := 2, ground := Ground.data }], guard := none }) (v := ?dv3) rfl (by kernel_rfl) (by kernel_rfl) (by kernel_rfl) (fun _ _ _ h => h) (Or.inl ⟨by rfl, ?dy3⟩) hHeld ?dr3
    case dy3 => (intro w hSw; (try dsimp only at hSw); go_simp; (try with_reducible rfl))
    try simp only [Act.put, List.setIfInBounds_toArray, List.set_cons_zero, List.set_cons_succ]
    refine wpAnyH_take (i := 4) (oi := { dst := some 18, op := Op.move (Operand.tmp 17), type := 4, pos := "print.go:29", after := #[{ on := 3, ground := Ground.data }, { on := 2, ground := Ground.chain }], guard := none }) (v := ?dv4) rfl (by kernel_rfl) (by kernel_rfl) (by kernel_rfl) (fun _ _ _ h => h) (Or.inl ⟨by rfl, ?dy4⟩) hHeld ?dr4
    case dy4 => (intro w hSw; (try dsimp only at hSw); go_simp; (try with_reducible rfl))
    try simp only [Act.put, List.setIfInBounds_toArray, List.set_cons_zero, List.set_cons_succ]
    refine wpAnyH_take (i := 5) (oi := { dst := some 19, op := Op.fieldAddr 42 (Operand.tmp 3) 2, type := 0, pos := "print.go:29", after := #[{ on := 4, ground := Ground.guard }], guard := some (4, false) }) (v := ?dv5) rfl (by kernel_rfl) (by kernel_rfl) (by kernel_rfl) (fun _ _ _ h => h) (Or.inl ⟨by rfl, ?dy5⟩) hHeld ?dr5
    case dy5 => (intro w hSw; (try dsimp only at hSw); go_simp; (try with_reducible rfl))
    try simp only [Act.put, List.setIfInBounds_toArray, List.set_cons_zero, List.set_cons_succ]
    refine wpAnyH_take (i := 6) (oi := { dst := some 20, op := Op.load 23 (Operand.tmp 19), type := 23, pos := "print.go:29", after := #[{ on := 5, ground := Ground.data }, { on := 4, ground := Ground.guard }], guard := some (4, false) }) (v := ?dv6) rfl (by kernel_rfl) (by kernel_rfl) (by kernel_rfl) (fun _ _ _ h => h) (Or.inl ⟨by rfl, ?dy6⟩) hHeld ?dr6
    case dy6 => (intro w hSw; (try dsimp only at hSw); go_simp; (try with_reducible rfl))
    try simp only [Act.put, List.setIfInBounds_toArray, List.set_cons_zero, List.set_cons_succ]
    refine wpAnyH_take (i := 7) (oi := { dst := some 21, op := Op.call { callee := Callee.builtin Builtin.len, args := #[Operand.tmp 20], argTypes := #[23] }, type := 3, pos := "print.go:29", after := #[{ on := 6, ground := Ground.data }, { on := 4, ground := Ground.guard }], guard := some (4, false) }) (v := ?dv7) rfl (by kernel_rfl) (by kernel_rfl) (by kernel_rfl) (fun _ _ _ h => h) (Or.inl ⟨by rfl, ?dy7⟩) hHeld ?dr7
    case dy7 => (intro w hSw; (try dsimp only at hSw); go_simp; (try with_reducible rfl))
    try simp only [Act.put, List.setIfInBounds_toArray, List.set_cons_zero, List.set_cons_succ]
    refine wpAnyH_take (i := 8) (oi := { dst := some 22, op := Op.fieldAddr 42 (Operand.tmp 3) 0, type := 0, pos := "print.go:29", after := #[{ on := 4, ground := Ground.guard }], guard := some (4, false) }) (v := ?dv8) rfl (by kernel_rfl) (by kernel_rfl) (by kernel_rfl) (fun _ _ _ h => h) (Or.inl ⟨by rfl, ?dy8⟩) hHeld ?dr8
    case dy8 => (intro w hSw; (try dsimp only at hSw); go_simp; (try with_reducible rfl))
    try simp only [Act.put, List.setIfInBounds_toArray, List.set_cons_zero, List.set_cons_succ]
    refine wpAnyH_take (i := 9) (oi := { dst := some 23, op := Op.load 40 (Operand.tmp 22), type := 40, pos := "print.go:29", after := #[{ on := 8, ground := Ground.data }, { on := 4, ground := Ground.guard }], guard := some (4, false) }) (v := ?dv9) rfl (by kernel_rfl) (by kernel_rfl) (by kernel_rfl) (fun _ _ _ h => h) (Or.inl ⟨by rfl, ?dy9⟩) hHeld ?dr9
    case dy9 => (intro w hSw; (try dsimp only at hSw); go_simp; (try with_reducible rfl))
    try simp only [Act.put, List.setIfInBounds_toArray, List.set_cons_zero, List.set_cons_succ]
    refine wpAnyH_ready (rs := [10]) (by kernel_rfl) (by simp) ?_
    refine AllReadyH.cons (o := { dst := some 24, op := Op.call { callee := Callee.value (Operand.func 70), args := #[Operand.tmp 23], argTypes := #[40] }, type := 116, pos := "print.go:29", after := #[{ on := 9, ground := Ground.data }, { on := 4, ground := Ground.chain }, { on := 4, ground := Ground.guard }], guard := some (4, false) }) rfl (fun K hK => ?_) AllReadyH.nil
    go_simp
    (with_reducible refine (CT.out _).mono ?_)
    rintro e wx ⟨va5, vc5, rfl, k3⟩
    show K _ _
    clear hHeld
    clear l0 l1 l2 m0 m1 m2 m3
    have Blx := kept (Bl.out.keep k3 (by simp))
    have Bmx := kept (Bm.out.keep k3 (by simp))
    have HKx := kept (HK.out.and_then k3)
    clear Bl Bm HK
    have Bl := Blx
    have Bm := Bmx
    have HK := HKx
    clear Blx Bmx HKx
    have l0 := Bl.out.cell 0
    have l1 := Bl.out.cell 1
    have l2 := Bl.out.cell 2
    have m0 := Bm.out.cell 0
    have m1 := Bm.out.cell 1
    have m2 := Bm.out.cell 2
    have m3 := Bm.out.cell 3
    simp at l0 l1 l2 m0 m1 m2 m3
    clear k3
    refine hK.out _ _ ?dhS10 (fun hHeld => ?_)
    case dhS10 => exact ⟨l0, l1, l2, m0, m1, m2, m3⟩
    clear hK K
    try simp only [Act.put, List.setIfInBounds_toArray, List.set_cons_zero, List.set_cons_succ]
    refine wpAnyH_take (i := 11) (oi := { dst := some 25, op := Op.call { callee := Callee.builtin Builtin.len, args := #[Operand.tmp 24], argTypes := #[116] }, type := 3, pos := "print.go:29", after := #[{ on := 10, ground := Ground.data }, { on := 4, ground := Ground.guard }], guard := some (4, false) }) (v := ?dv11) rfl (by kernel_rfl) (by kernel_rfl) (by kernel_rfl) (fun _ _ _ h => h) (Or.inl ⟨by rfl, ?dy11⟩) hHeld ?dr11
    case dy11 => (intro w hSw; (try dsimp only at hSw); go_simp; (try with_reducible rfl))
    try simp only [Act.put, List.setIfInBounds_toArray, List.set_cons_zero, List.set_cons_succ]
    refine wpAnyH_take (i := 12) (oi := { dst := some 26, op := Op.binOp BinOp.neq 3 (Operand.tmp 21) (Operand.tmp 25) 3, type := 4, pos := "print.go:29", after := #[{ on := 7, ground := Ground.data }, { on := 11, ground := Ground.data }, { on := 4, ground := Ground.guard }], guard := some (4, false) }) (v := ?dv12) rfl (by kernel_rfl) (by kernel_rfl) (by kernel_rfl) (fun _ _ _ h => h) (Or.inl ⟨by rfl, ?dy12⟩) hHeld ?dr12
    case dy12 => (intro w hSw; (try dsimp only at hSw); go_simp; (try with_reducible rfl))
    try simp only [Act.put, List.setIfInBounds_toArray, List.set_cons_zero, List.set_cons_succ]
    refine wpAnyH_take (i := 13) (oi := { dst := some 27, op := Op.pick (Operand.tmp 18) (Operand.const (Value.bool true)) (Operand.tmp 26), type := 4, pos := "print.go:29", after := #[{ on := 4, ground := Ground.data }, { on := 12, ground := Ground.data }], guard := none }) (v := ?dv13) rfl (by kernel_rfl) (by kernel_rfl) (by kernel_rfl) (fun _ _ _ h => h) (Or.inl ⟨by rfl, ?dy13⟩) hHeld ?dr13
    case dy13 => (intro w hSw; (try dsimp only at hSw); go_simp; (try with_reducible rfl))
    try simp only [Act.put, List.setIfInBounds_toArray, List.set_cons_zero, List.set_cons_succ]
    refine wpAnyH_take (i := 14) (oi := { dst := some 28, op := Op.move (Operand.tmp 27), type := 4, pos := "print.go:29", after := #[{ on := 13, ground := Ground.data }, { on := 10, ground := Ground.chain }], guard := none }) (v := ?dv14) rfl (by kernel_rfl) (by kernel_rfl) (by kernel_rfl) (fun _ _ _ h => h) (Or.inl ⟨by rfl, ?dy14⟩) hHeld ?dr14
    case dy14 => (intro w hSw; (try dsimp only at hSw); go_simp; (try with_reducible rfl))
    try simp only [Act.put, List.setIfInBounds_toArray, List.set_cons_zero, List.set_cons_succ]
    refine wpAnyH_take (i := 15) (oi := { dst := some 29, op := Op.load 26 (Operand.tmp 2), type := 26, pos := "print.go:29", after := #[{ on := 14, ground := Ground.guard }], guard := some (14, false) }) (v := undef) rfl (by kernel_rfl) (by kernel_rfl) (by kernel_rfl) (fun _ _ _ h => h) (Or.inr ⟨by rfl, rfl⟩) hHeld ?_
    try simp only [Act.put, List.setIfInBounds_toArray, List.set_cons_zero, List.set_cons_succ]
    refine wpAnyH_take (i := 16) (oi := { dst := some 30, op := Op.fieldAddr 42 (Operand.tmp 3) 2, type := 0, pos := "print.go:29", after := #[{ on := 14, ground := Ground.guard }], guard := some (14, false) }) (v := undef) rfl (by kernel_rfl) (by kernel_rfl) (by kernel_rfl) (fun _ _ _ h => h) (Or.inr ⟨by rfl, rfl⟩) hHeld ?_
    try simp only [Act.put, List.setIfInBounds_toArray, List.set_cons_zero, List.set_cons_succ]
    refine wpAnyH_take (i := 17) (oi := { dst := some 31, op := Op.load 23 (Operand.tmp 30), type := 23, pos := "print.go:29", after := #[{ on := 16, ground := Ground.data }, { on := 14, ground := Ground.guard }], guard := some (14, false) }) (v := undef) rfl (by kernel_rfl) (by kernel_rfl) (by kernel_rfl) (fun _ _ _ h => h) (Or.inr ⟨by rfl, rfl⟩) hHeld ?_
    try simp only [Act.put, List.setIfInBounds_toArray, List.set_cons_zero, List.set_cons_succ]
    refine wpAnyH_take (i := 18) (oi := { dst := some 32, op := Op.call { callee := Callee.value (Operand.func 92), args := #[Operand.tmp 29, Operand.tmp 31], argTypes := #[26, 23] }, type := 4, pos := "print.go:29", after := #[{ on := 15, ground := Ground.data }, { on := 17, ground := Ground.data }, { on := 14, ground := Ground.chain }, { on := 14, ground := Ground.guard }], guard := some (14, false) }) (v := undef) rfl (by kernel_rfl) (by kernel_rfl) (by kernel_rfl) (fun _ _ _ h => h) (Or.inr ⟨by rfl, rfl⟩) hHeld ?_
    try simp only [Act.put, List.setIfInBounds_toArray, List.set_cons_zero, List.set_cons_succ]
    refine wpAnyH_take (i := 19) (oi := { dst := some 33, op := Op.unOp UnOp.not 4 (Operand.tmp 32), type := 4, pos := "print.go:29", after := #[{ on := 18, ground := Ground.data }, { on := 14, ground := Ground.guard }], guard := some (14, false) }) (v := undef) rfl (by kernel_rfl) (by kernel_rfl) (by kernel_rfl) (fun _ _ _ h => h) (Or.inr ⟨by rfl, rfl⟩) hHeld ?_
    try simp only [Act.put, List.setIfInBounds_toArray, List.set_cons_zero, List.set_cons_succ]
    refine wpAnyH_take (i := 20) (oi := { dst := some 34, op := Op.pick (Operand.tmp 28) (Operand.const (Value.bool true)) (Operand.tmp 33), type := 4, pos := "print.go:29", after := #[{ on := 14, ground := Ground.data }, { on := 19, ground := Ground.data }], guard := none }) (v := ?dv20) rfl (by kernel_rfl) (by kernel_rfl) (by kernel_rfl) (fun _ _ _ h => h) (Or.inl ⟨by rfl, ?dy20⟩) hHeld ?dr20
    case dy20 => (intro w hSw; (try dsimp only at hSw); go_simp; (try with_reducible rfl))
    try simp only [Act.put, List.setIfInBounds_toArray, List.set_cons_zero, List.set_cons_succ]
    refine wpAnyH_take (i := 21) (oi := { dst := some 13, op := Op.assign (Operand.tmp 34), type := 4, pos := "print.go:29", after := #[{ on := 20, ground := Ground.data }, { on := 18, ground := Ground.chain }], guard := none }) (v := ?dv21) rfl (by kernel_rfl) (by kernel_rfl) (by kernel_rfl) (fun _ _ _ h => h) (Or.inl ⟨by rfl, ?dy21⟩) hHeld ?dr21
    case dy21 => (intro w hSw; (try dsimp only at hSw); go_simp; (try with_reducible rfl))
    try simp only [Act.put, List.setIfInBounds_toArray, List.set_cons_zero, List.set_cons_succ]
    refine wpAnyH_done (by kernel_rfl) ?_ _
    clear hHeld
    go_wp2
    go_ret
    exact ⟨ret_bool (by rw [HX.out, n2]; simp), HK.out⟩
theorem inst_any (f : FuncM) (x : InstM) (w : World) (hf : FuncAt w f) (hp : InstAt w x) : Calls Tryd.prog 64 #[f.val, .agg #[.int .i64 x.op, .int .i64 x.dst, x.args.1, .int .i64 x.num]] w fun e w' => e = .returned (.bool (instB f x)) ∧ Keeps w w' [] := by
  by_cases h : x.op < 0 ∨ 27 ≤ x.op
  · exact inst_out f x w hf hp h
  · exact inst_in f x x.op.toNat (by omega) (by omega) w hf hp
end Go.Proofs.YtjllbchfojonhaaDoor
