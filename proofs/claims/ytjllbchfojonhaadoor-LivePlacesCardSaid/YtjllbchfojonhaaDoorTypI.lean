/- Package typing: inst; contract. -/
import Derived.Test.YtjllbchfojonhaaDoorTypA
namespace Go.Proofs.YtjllbchfojonhaaDoor
open Go.RowKit
set_option linter.unusedVariables false
set_option linter.unusedSimpArgs false

theorem tcells_bang (s : ByteArray) (j : Nat) (hj : j < s.size) : (tcells s s.size)[j]? = some (.int .i64 (tsign (s.data.toList[j]!).toNat)) := by
  have h' : j < s.data.toList.length := by rw [Array.length_toList]; exact hj
  unfold tcells
  rw [List.getElem?_map, List.getElem?_take, if_pos hj, List.getElem?_eq_getElem h', getElem!_pos s.data.toList j h']
  rfl
theorem takes_open (k : Nat) (hk : k < 27) (w : World) : Calls Tryd.prog 70 #[.int .i64 k] w fun e w' => ∃ va vc, e = .returned (.slice va (ktakes k).size vc) ∧ Keeps w w' [] ∧ ∀ j, j < (ktakes k).size → ∃ g, va = some ⟨g, 0, none⟩ ∧ w'.cell? ⟨g, j, none⟩ = some (.int .i64 (tkT k j)) := by
  refine (takes_in k hk w).mono ?_
  rintro e w' ⟨v, rfl, ho, k1⟩
  rcases ho.2 with ⟨rfl, h0⟩ | ⟨g, cap, cur, rfl, h1, h2, h3, h4, h5, h6⟩
  · exact ⟨none, 0, by rw [h0], k1, fun j hj => absurd hj (by omega)⟩
  · refine ⟨_, _, rfl, k1, fun j hj => ⟨g, rfl, ?_⟩⟩
    rw [Blk.cell h2 j, ← Array.getElem?_toList]
    have := tcells_bang (ktakes k) j hj
    rw [← h6, List.getElem?_take] at this
    split at this
    · exact this
    · cases this

set_option maxRecDepth 100000 in
set_option maxHeartbeats 4000000 in
theorem tinst_copy (f : FuncM) (x : InstM) (w : World) (hf : FuncAt w f) (hp : InstAt w x) (ho : x.op = 1) (hl : x.args.2.length = 1) (ha : inB x.args.2[0]! f.nv = true) (hd : inB x.dst f.nv = true) :
    Calls Tryd.prog 40 #[f.val, .agg #[.int .i64 x.op, .int .i64 x.dst, x.args.1, .int .i64 x.num]] w fun e w' => e = .returned (.bool (tinstB f x)) ∧ Keeps w w' [] := by
  have CA := kept (fun w => any_any 1 w)
  have CD := kept (fun w h => kindI f x.dst w h hd)
  have C0 := kept (fun w h => kindI f x.args.2[0]! w h ha)
  have HX := kept (show tinstB f x = (f.tyI x.dst == f.tyI x.args.2[0]!) by unfold tinstB; rw [if_pos ho])
  obtain ⟨a0, c0, a1, c1, a2, c2, hval, h1⟩ := hf.opened
  obtain ⟨s1, d1, e3, hl1, hl2, hc⟩ := IntsAt.open_ hp
  have HF := kept hf
  rcases hc with hc | ⟨rb, ro, rfl, hrb, hc⟩
  · omega
  have N0 := kept (hc 0 (by omega))
  rw [Nat.add_zero] at N0
  rw [hval] at CD C0 ⊢
  rw [e3, hl, ho, HX.out]
  clear hf hp ho hl ha hd HX hval h1 e3 hl1 hl2 hc
  generalize f.tyI x.dst = zd at *
  generalize f.tyI x.args.2[0]! = za at *
  generalize x.args.2[0]! = z0 at *
  generalize f.nv = nv at *
  generalize f.np = np at *
  generalize f.nb = nb at *
  generalize x.dst = dst at *
  generalize x.num = num at *
  have hk0 : Keeps w (w.alloc (.cells #[.slice a0 nv c0, .slice a1 np c1, .slice a2 nb c2] 26)) [] := (Keeps.refl _ []).alloc _
  have bb0 := Blk.new w 26 #[.slice a0 nv c0, .slice a1 np c1, .slice a2 nb c2]
  have hk1 : Keeps (w.alloc (.cells #[.slice a0 nv c0, .slice a1 np c1, .slice a2 nb c2] 26)) ((w.alloc (.cells #[.slice a0 nv c0, .slice a1 np c1, .slice a2 nb c2] 26)).alloc (.cells #[.int .i64 1, .int .i64 dst, .slice (some ⟨rb, ro, none⟩) 1 d1, .int .i64 num] 42)) [] := (Keeps.refl _ []).alloc _
  have bb1 := Blk.new (w.alloc (.cells #[.slice a0 nv c0, .slice a1 np c1, .slice a2 nb c2] 26)) 42 #[.int .i64 1, .int .i64 dst, .slice (some ⟨rb, ro, none⟩) 1 d1, .int .i64 num]
  rw [show (w.alloc (.cells #[.slice a0 nv c0, .slice a1 np c1, .slice a2 nb c2] 26)).heap.size = w.heap.size + 1 by show (Array.push _ _).size = _; simp [Array.size_push]] at bb1
  have Bl := kept (bb0.keep hk1 (by simp))
  have Bm := kept bb1
  have HK := kept (hk0.and_then hk1)
  have l0 := Bl.out.cell 0
  have l1 := Bl.out.cell 1
  have l2 := Bl.out.cell 2
  have m0 := Bm.out.cell 0
  have m1 := Bm.out.cell 1
  have m2 := Bm.out.cell 2
  have m3 := Bm.out.cell 3
  simp at l0 l1 l2 m0 m1 m2 m3
  have n0 := HK.out.cellOf N0.out
  clear hk0 hk1 bb0 bb1
  go_enter Tryd.func40, Tryd.ntmps40
  go_wp2_with (go_at_call 69; refine (CA.out _).mono ?_; rintro e w3 ⟨rfl, rfl⟩)
  clear l0 l1 l2 m0 m1 m2 m3 n0
  generalize ((w.alloc (.cells #[.slice a0 nv c0, .slice a1 np c1, .slice a2 nb c2] 26)).alloc (.cells #[.int .i64 1, .int .i64 dst, .slice (some ⟨rb, ro, none⟩) 1 d1, .int .i64 num] 42)) = W0 at *
  have l0 := Bl.out.cell 0
  have l1 := Bl.out.cell 1
  have l2 := Bl.out.cell 2
  have m0 := Bm.out.cell 0
  have m1 := Bm.out.cell 1
  have m2 := Bm.out.cell 2
  have m3 := Bm.out.cell 3
  simp at l0 l1 l2 m0 m1 m2 m3
  have n0 := HK.out.cellOf N0.out
  refine wp_region_held_drew (S := (fun w' => w'.cell? ⟨w.heap.size, 0, none⟩ = some (.slice a0 nv c0) ∧ w'.cell? ⟨w.heap.size, 1, none⟩ = some (.slice a1 np c1) ∧ w'.cell? ⟨w.heap.size, 2, none⟩ = some (.slice a2 nb c2) ∧ w'.cell? ⟨w.heap.size + 1, 0, none⟩ = some (.int .i64 1) ∧ w'.cell? ⟨w.heap.size + 1, 1, none⟩ = some (.int .i64 dst) ∧ w'.cell? ⟨w.heap.size + 1, 2, none⟩ = some (.slice (some ⟨rb, ro, none⟩) 1 d1) ∧ w'.cell? ⟨w.heap.size + 1, 3, none⟩ = some (.int .i64 num) ∧ w'.cell? ⟨rb, ro, none⟩ = some (.int .i64 z0))) (by kernel_rfl) ?ahSs (fun hHeld => ?_)
  case ahSs => exact ⟨l0, l1, l2, m0, m1, m2, m3, n0⟩
  clear l0 l1 l2 m0 m1 m2 m3 n0
  have Blx := kept (Bl.out.keep ((Keeps.refl _ []).drew) (by simp))
  have Bmx := kept (Bm.out.keep ((Keeps.refl _ []).drew) (by simp))
  have HKx := kept (HK.out.drew)
  clear Bl Bm HK
  have Bl := Blx
  have Bm := Bmx
  have HK := HKx
  clear Blx Bmx HKx
  generalize World.drew _ = X0 at *
  have l0 := Bl.out.cell 0
  have l1 := Bl.out.cell 1
  have l2 := Bl.out.cell 2
  have m0 := Bm.out.cell 0
  have m1 := Bm.out.cell 1
  have m2 := Bm.out.cell 2
  have m3 := Bm.out.cell 3
  simp at l0 l1 l2 m0 m1 m2 m3
  have n0 := HK.out.cellOf N0.out
  refine wpAnyH_take (i := 0) (oi := { dst := some 12, op := Op.load 26 (Operand.tmp 2), type := 26, pos := "typing.go:19", after := #[], guard := none }) (v := ?av0) rfl (by kernel_rfl) (by kernel_rfl) (by kernel_rfl) (fun _ _ _ h => h) (Or.inl ⟨by rfl, ?ay0⟩) hHeld ?ar0
  case ay0 => (intro w hSw; (try dsimp only at hSw); go_simp; (try with_reducible rfl))
  try simp only [Act.put, List.setIfInBounds_toArray, List.set_cons_zero, List.set_cons_succ]
  refine wpAnyH_take (i := 1) (oi := { dst := some 13, op := Op.fieldAddr 42 (Operand.tmp 3) 1, type := 0, pos := "typing.go:19", after := #[], guard := none }) (v := ?av1) rfl (by kernel_rfl) (by kernel_rfl) (by kernel_rfl) (fun _ _ _ h => h) (Or.inl ⟨by rfl, ?ay1⟩) hHeld ?ar1
  case ay1 => (intro w hSw; (try dsimp only at hSw); go_simp; (try with_reducible rfl))
  try simp only [Act.put, List.setIfInBounds_toArray, List.set_cons_zero, List.set_cons_succ]
  refine wpAnyH_take (i := 2) (oi := { dst := some 14, op := Op.load 3 (Operand.tmp 13), type := 3, pos := "typing.go:19", after := #[{ on := 1, ground := Ground.data }], guard := none }) (v := ?av2) rfl (by kernel_rfl) (by kernel_rfl) (by kernel_rfl) (fun _ _ _ h => h) (Or.inl ⟨by rfl, ?ay2⟩) hHeld ?ar2
  case ay2 => (intro w hSw; (try dsimp only at hSw); go_simp; (try with_reducible rfl))
  try simp only [Act.put, List.setIfInBounds_toArray, List.set_cons_zero, List.set_cons_succ]
  refine wpAnyH_take (i := 4) (oi := { dst := some 16, op := Op.load 26 (Operand.tmp 2), type := 26, pos := "typing.go:19", after := #[], guard := none }) (v := ?av4) rfl (by kernel_rfl) (by kernel_rfl) (by kernel_rfl) (fun _ _ _ h => h) (Or.inl ⟨by rfl, ?ay4⟩) hHeld ?ar4
  case ay4 => (intro w hSw; (try dsimp only at hSw); go_simp; (try with_reducible rfl))
  try simp only [Act.put, List.setIfInBounds_toArray, List.set_cons_zero, List.set_cons_succ]
  refine wpAnyH_take (i := 5) (oi := { dst := some 17, op := Op.fieldAddr 42 (Operand.tmp 3) 2, type := 0, pos := "typing.go:19", after := #[], guard := none }) (v := ?av5) rfl (by kernel_rfl) (by kernel_rfl) (by kernel_rfl) (fun _ _ _ h => h) (Or.inl ⟨by rfl, ?ay5⟩) hHeld ?ar5
  case ay5 => (intro w hSw; (try dsimp only at hSw); go_simp; (try with_reducible rfl))
  try simp only [Act.put, List.setIfInBounds_toArray, List.set_cons_zero, List.set_cons_succ]
  refine wpAnyH_take (i := 6) (oi := { dst := some 18, op := Op.load 23 (Operand.tmp 17), type := 23, pos := "typing.go:19", after := #[{ on := 5, ground := Ground.data }], guard := none }) (v := ?av6) rfl (by kernel_rfl) (by kernel_rfl) (by kernel_rfl) (fun _ _ _ h => h) (Or.inl ⟨by rfl, ?ay6⟩) hHeld ?ar6
  case ay6 => (intro w hSw; (try dsimp only at hSw); go_simp; (try with_reducible rfl))
  try simp only [Act.put, List.setIfInBounds_toArray, List.set_cons_zero, List.set_cons_succ]
  refine wpAnyH_take (i := 7) (oi := { dst := some 19, op := Op.indexAddr 23 (Operand.tmp 18) (Operand.const (Value.int IntKind.i64 0)), type := 0, pos := "typing.go:19", after := #[{ on := 6, ground := Ground.data }], guard := none }) (v := ?av7) rfl (by kernel_rfl) (by kernel_rfl) (by kernel_rfl) (fun _ _ _ h => h) (Or.inl ⟨by rfl, ?ay7⟩) hHeld ?ar7
  case ay7 => (intro w hSw; (try dsimp only at hSw); go_simp; (try with_reducible rfl))
  try simp only [Act.put, List.setIfInBounds_toArray, List.set_cons_zero, List.set_cons_succ]
  refine wpAnyH_take (i := 8) (oi := { dst := some 20, op := Op.load 3 (Operand.tmp 19), type := 3, pos := "typing.go:19", after := #[{ on := 7, ground := Ground.data }], guard := none }) (v := ?av8) rfl (by kernel_rfl) (by kernel_rfl) (by kernel_rfl) (fun _ _ _ h => h) (Or.inl ⟨by rfl, ?ay8⟩) hHeld ?ar8
  case ay8 => (intro w hSw; (try dsimp only at hSw); go_simp; (try with_reducible rfl))
  try simp only [Act.put, List.setIfInBounds_toArray, List.set_cons_zero, List.set_cons_succ]
  refine wpAnyH_ready (rs := [3]) (by kernel_rfl) (by simp) ?_
  refine AllReadyH.cons (o := { dst := some 15, op := Op.call { callee := Callee.value (Operand.func 68), args := #[Operand.tmp 12, Operand.tmp 14], argTypes := #[26, 3] }, type := 67, pos := "typing.go:19", after := #[{ on := 0, ground := Ground.data }, { on := 2, ground := Ground.data }], guard := none }) rfl (fun K hK => ?_) AllReadyH.nil
  go_simp
  (with_reducible refine (CD.out _ (HF.out.keep HK.out)).mono ?_)
  rintro e wx ⟨rfl, k3⟩
  show K _ _
  clear hHeld
  clear l0 l1 l2 m0 m1 m2 m3 n0
  have Blx := kept (Bl.out.keep k3 (by simp))
  have Bmx := kept (Bm.out.keep k3 (by simp))
  have HKx := kept (HK.out.and_then k3)
  clear Bl Bm HK
  have Bl := Blx
  have Bm := Bmx
  have HK := HKx
  clear Blx Bmx HKx
  have l0 := Bl.out.cell 0
  have l1 := Bl.out.cell 1
  have l2 := Bl.out.cell 2
  have m0 := Bm.out.cell 0
  have m1 := Bm.out.cell 1
  have m2 := Bm.out.cell 2
  have m3 := Bm.out.cell 3
  simp at l0 l1 l2 m0 m1 m2 m3
  have n0 := HK.out.cellOf N0.out
  clear k3
  refine hK.out _ _ ?ahS3 (fun hHeld => ?_)
  case ahS3 => exact ⟨l0, l1, l2, m0, m1, m2, m3, n0⟩
  clear hK K
  try simp only [Act.put, List.setIfInBounds_toArray, List.set_cons_zero, List.set_cons_succ]
  refine wpAnyH_ready (rs := [9]) (by kernel_rfl) (by simp) ?_
  refine AllReadyH.cons (o := { dst := some 21, op := Op.call { callee := Callee.value (Operand.func 68), args := #[Operand.tmp 16, Operand.tmp 20], argTypes := #[26, 3] }, type := 67, pos := "typing.go:19", after := #[{ on := 4, ground := Ground.data }, { on := 8, ground := Ground.data }, { on := 3, ground := Ground.chain }], guard := none }) rfl (fun K hK => ?_) AllReadyH.nil
  go_simp
  (with_reducible refine (C0.out _ (HF.out.keep HK.out)).mono ?_)
  rintro e wx ⟨rfl, k3⟩
  show K _ _
  clear hHeld
  clear l0 l1 l2 m0 m1 m2 m3 n0
  have Blx := kept (Bl.out.keep k3 (by simp))
  have Bmx := kept (Bm.out.keep k3 (by simp))
  have HKx := kept (HK.out.and_then k3)
  clear Bl Bm HK
  have Bl := Blx
  have Bm := Bmx
  have HK := HKx
  clear Blx Bmx HKx
  have l0 := Bl.out.cell 0
  have l1 := Bl.out.cell 1
  have l2 := Bl.out.cell 2
  have m0 := Bm.out.cell 0
  have m1 := Bm.out.cell 1
  have m2 := Bm.out.cell 2
  have m3 := Bm.out.cell 3
  simp at l0 l1 l2 m0 m1 m2 m3
  have n0 := HK.out.cellOf N0.out
  clear k3
  refine hK.out _ _ ?ahS9 (fun hHeld => ?_)
  case ahS9 => exact ⟨l0, l1, l2, m0, m1, m2, m3, n0⟩
  clear hK K
  try simp only [Act.put, List.setIfInBounds_toArray, List.set_cons_zero, List.set_cons_succ]
  refine wpAnyH_take (i := 10) (oi := { dst := some 22, op := Op.binOp BinOp.eql 67 (Operand.tmp 15) (Operand.tmp 21) 67, type := 4, pos := "typing.go:19", after := #[{ on := 3, ground := Ground.data }, { on := 9, ground := Ground.data }], guard := none }) (v := ?av10) rfl (by kernel_rfl) (by kernel_rfl) (by kernel_rfl) (fun _ _ _ h => h) (Or.inl ⟨by rfl, ?ay10⟩) hHeld ?ar10
  case ay10 => (intro w hSw; (try dsimp only at hSw); go_simp; (try with_reducible rfl))
  try simp only [Act.put, List.setIfInBounds_toArray, List.set_cons_zero, List.set_cons_succ]
  refine wpAnyH_take (i := 11) (oi := { dst := some 4, op := Op.assign (Operand.tmp 22), type := 4, pos := "typing.go:19", after := #[{ on := 10, ground := Ground.data }, { on := 9, ground := Ground.chain }, { on := 0, ground := Ground.phase }, { on := 1, ground := Ground.phase }, { on := 2, ground := Ground.phase }, { on := 3, ground := Ground.phase }, { on := 4, ground := Ground.phase }, { on := 5, ground := Ground.phase }, { on := 6, ground := Ground.phase }, { on := 7, ground := Ground.phase }, { on := 8, ground := Ground.phase }, { on := 9, ground := Ground.phase }, { on := 10, ground := Ground.phase }], guard := none }) (v := ?av11) rfl (by kernel_rfl) (by kernel_rfl) (by kernel_rfl) (fun _ _ _ h => h) (Or.inl ⟨by rfl, ?ay11⟩) hHeld ?ar11
  case ay11 => (intro w hSw; (try dsimp only at hSw); go_simp; (try with_reducible rfl))
  try simp only [Act.put, List.setIfInBounds_toArray, List.set_cons_zero, List.set_cons_succ]
  refine wpAnyH_done (by kernel_rfl) ?_ _
  clear hHeld
  go_wp2
  go_ret
  exact ⟨rfl, HK.out⟩

set_option maxRecDepth 100000 in
set_option maxHeartbeats 4000000 in
theorem tinst_more (f : FuncM) (x : InstM) (k : Nat) (hk : k < 27) (ho : x.op = k) (h1n : ((k : Int) == 1) = false) (w : World) (hf : FuncAt w f) (hp : InstAt w x) (hl : x.args.2.length = (ktakes k).size) (ha : ∀ a ∈ x.args.2, inB a f.nv = true) (hd : mk1 k = true → inB x.dst f.nv = true) :
    Calls Tryd.prog 40 #[f.val, .agg #[.int .i64 x.op, .int .i64 x.dst, x.args.1, .int .i64 x.num]] w fun e w' => e = .returned (.bool (tinstB f x)) ∧ Keeps w w' [] := by
  have CA := kept (fun w => any_any (k : Int) w)
  have CT := kept (fun w => takes_open k hk w)
  have CM := kept (fun w => makes_in k hk w)
  have CD := kept (fun w h h2 => kindI f x.dst w h (hd h2))
  have CAr := kept (fun j (hj : j < (ktakes k).size) w h => kindI f x.args.2[j]! w h (ha _ (bang_mem (by rw [hl]; exact hj))))
  have HX := kept (show tinstB f x = ((allR (ktakes k).size fun i => f.tyI x.args.2[i]! == tkT k i) && (!(mk1 k) || f.tyI x.dst == mkT k)) by
    unfold tinstB
    rw [if_neg (by rw [ho]; simpa using h1n), ho]
    rfl)
  obtain ⟨a0, c0, a1, c1, a2, c2, hval, h1⟩ := hf.opened
  obtain ⟨s1, d1, e3, hl1, hl2, hc⟩ := IntsAt.open_ hp
  have HF := kept hf
  rw [hval] at CD CAr ⊢
  have hnaB : (ktakes k).size ≤ 100 := (takes_small k hk).1
  rw [hl] at hc
  have HC := kept hc
  rw [e3, hl, ho]
  clear hf hp ha hd hval h1 e3 hl1 hl2 hc hl ho hk
  generalize tinstB f x = TB at *
  generalize (ktakes k).size = na at *
  generalize mkT (k : Int) = mt at *
  generalize mk1 (k : Int) = mb at *
  generalize htk : tkT (k : Int) = tk at *
  clear htk
  generalize hop : (k : Int) = op at *
  clear hop
  generalize f.nv = nv at *
  generalize f.np = np at *
  generalize f.nb = nb at *
  generalize hzd : f.tyI x.dst = zd at *
  clear hzd
  generalize x.dst = dst at *
  generalize x.num = num at *
  have hk0 : Keeps w (w.alloc (.cells #[.slice a0 nv c0, .slice a1 np c1, .slice a2 nb c2] 26)) [] := (Keeps.refl _ []).alloc _
  have bb0 := Blk.new w 26 #[.slice a0 nv c0, .slice a1 np c1, .slice a2 nb c2]
  have hk1 : Keeps (w.alloc (.cells #[.slice a0 nv c0, .slice a1 np c1, .slice a2 nb c2] 26)) ((w.alloc (.cells #[.slice a0 nv c0, .slice a1 np c1, .slice a2 nb c2] 26)).alloc (.cells #[.int .i64 op, .int .i64 dst, .slice s1 na d1, .int .i64 num] 42)) [] := (Keeps.refl _ []).alloc _
  have bb1 := Blk.new (w.alloc (.cells #[.slice a0 nv c0, .slice a1 np c1, .slice a2 nb c2] 26)) 42 #[.int .i64 op, .int .i64 dst, .slice s1 na d1, .int .i64 num]
  rw [show (w.alloc (.cells #[.slice a0 nv c0, .slice a1 np c1, .slice a2 nb c2] 26)).heap.size = w.heap.size + 1 by show (Array.push _ _).size = _; simp [Array.size_push]] at bb1
  have Bl := kept (bb0.keep hk1 (by simp))
  have Bm := kept bb1
  have HK := kept (hk0.and_then hk1)
  have l0 := Bl.out.cell 0
  have l1 := Bl.out.cell 1
  have l2 := Bl.out.cell 2
  have m0 := Bm.out.cell 0
  have m1 := Bm.out.cell 1
  have m2 := Bm.out.cell 2
  have m3 := Bm.out.cell 3
  simp at l0 l1 l2 m0 m1 m2 m3
  clear hk0 hk1 bb0 bb1
  go_enter Tryd.func40, Tryd.ntmps40
  go_wp2_with (first | (go_at_call 69; refine (CA.out _).mono ?_; rintro e w3 ⟨rfl, rfl⟩) | (go_at_call 70; refine (CT.out _).mono ?_; rintro e w3 ⟨va, vc, rfl, k3, hv3⟩; have HV := kept hv3; clear hv3; clear l0 l1 l2 m0 m1 m2 m3; have Blx := kept (Bl.out.keep k3 (by simp)); have Bmx := kept (Bm.out.keep k3 (by simp)); have HKx := kept (HK.out.and_then k3); clear Bl Bm HK; have Bl := Blx; have Bm := Bmx; have HK := HKx; clear Blx Bmx HKx; have l0 := Bl.out.cell 0; have l1 := Bl.out.cell 1; have l2 := Bl.out.cell 2; have m0 := Bm.out.cell 0; have m1 := Bm.out.cell 1; have m2 := Bm.out.cell 2; have m3 := Bm.out.cell 3; simp at l0 l1 l2 m0 m1 m2 m3; clear k3))
  clear CA CT
  have HKA := HK
  have HF3 := kept (HF.out.keep HK.out)
  clear HK
  have HK := kept (Keeps.refl w3 [])
  go_loopw [27] (fun i wr => ∃ kk : Nat, kk ≤ na ∧ i = .int .i64 kk ∧ Keeps w3 wr [] ∧ Hid (∀ j, j < kk → (f.tyI x.args.2[j]! == tk j) = true)) (fun i _ => na - (intOf i).toNat)
  case atStart => exact ⟨0, Nat.zero_le _, rfl, Keeps.refl _ _, fun j hj => absurd hj (Nat.not_lt_zero _)⟩
  case round =>
    obtain ⟨kk, hkk, rfl, hr, A⟩ := hrel
    have HR := kept hr
    clear hr
    by_cases hlt : kk < na
    · have hltz : (kk : Int) < (na : Int) := by omega
      have k3 := HR.out
      clear l0 l1 l2 m0 m1 m2 m3; have Blx := kept (Bl.out.keep k3 (by simp)); have Bmx := kept (Bm.out.keep k3 (by simp)); have HKx := kept (HK.out.and_then k3); clear Bl Bm HK; have Bl := Blx; have Bm := Bmx; have HK := HKx; clear Blx Bmx HKx; have l0 := Bl.out.cell 0; have l1 := Bl.out.cell 1; have l2 := Bl.out.cell 2; have m0 := Bm.out.cell 0; have m1 := Bm.out.cell 1; have m2 := Bm.out.cell 2; have m3 := Bm.out.cell 3; simp at l0 l1 l2 m0 m1 m2 m3; clear k3
      obtain ⟨g, rfl, hgc⟩ := HV.out kk hlt
      have g0 := HR.out.cellOf hgc
      rcases HC.out with hc | ⟨rb, ro, rfl, hrb, hc⟩
      · omega
      have N0 := kept (HKA.out.cellOf (hc kk hlt))
      have C0 := fun w h => CAr.out kk hlt w h
      clear hc hgc
      have HT := kept (show f.tyI x.args.2[kk]! = f.tyI x.args.2[kk]! from rfl)
      generalize htq : tk kk = tq at *
      have HTQ := kept htq
      clear htq
      generalize hzq : f.tyI x.args.2[kk]! = zq at *
      have HZQ := kept hzq
      clear hzq HT
      generalize hzk : x.args.2[kk]! = zk at *
      have HZK := kept hzk
      clear hzk
      have n0 := HK.out.cellOf N0.out
      have hbq : (zq != tq) = !(zq == tq) := rfl
      cases hq : (zq == tq) with
      | false =>
        rw [hq] at hbq
        go_wp2_with fail
        refine wp_region_held_drew (S := (fun w' => w'.cell? ⟨w.heap.size, 0, none⟩ = some (.slice a0 nv c0) ∧ w'.cell? ⟨w.heap.size, 1, none⟩ = some (.slice a1 np c1) ∧ w'.cell? ⟨w.heap.size, 2, none⟩ = some (.slice a2 nb c2) ∧ w'.cell? ⟨w.heap.size + 1, 0, none⟩ = some (.int .i64 op) ∧ w'.cell? ⟨w.heap.size + 1, 1, none⟩ = some (.int .i64 dst) ∧ w'.cell? ⟨w.heap.size + 1, 2, none⟩ = some (.slice (some ⟨rb, ro, none⟩) na d1) ∧ w'.cell? ⟨w.heap.size + 1, 3, none⟩ = some (.int .i64 num) ∧ w'.cell? ⟨rb, ro + kk, none⟩ = some (.int .i64 zk))) (by kernel_rfl) ?bhSs (fun hHeld => ?_)
        case bhSs => exact ⟨l0, l1, l2, m0, m1, m2, m3, n0⟩
        clear l0 l1 l2 m0 m1 m2 m3 n0
        have Blx := kept (Bl.out.keep ((Keeps.refl _ []).drew) (by simp))
        have Bmx := kept (Bm.out.keep ((Keeps.refl _ []).drew) (by simp))
        have HKx := kept (HK.out.drew)
        clear Bl Bm HK
        have Bl := Blx
        have Bm := Bmx
        have HK := HKx
        clear Blx Bmx HKx
        generalize World.drew _ = X0 at *
        have l0 := Bl.out.cell 0
        have l1 := Bl.out.cell 1
        have l2 := Bl.out.cell 2
        have m0 := Bm.out.cell 0
        have m1 := Bm.out.cell 1
        have m2 := Bm.out.cell 2
        have m3 := Bm.out.cell 3
        simp at l0 l1 l2 m0 m1 m2 m3
        have n0 := HK.out.cellOf N0.out
        refine wpAnyH_take (i := 0) (oi := { dst := some 32, op := Op.load 26 (Operand.tmp 2), type := 26, pos := "typing.go:22", after := #[], guard := none }) (v := ?bv0) rfl (by kernel_rfl) (by kernel_rfl) (by kernel_rfl) (fun _ _ _ h => h) (Or.inl ⟨by rfl, ?by0⟩) hHeld ?br0
        case by0 => (intro w hSw; (try dsimp only at hSw); go_simp; (try with_reducible rfl))
        try simp only [Act.put, List.setIfInBounds_toArray, List.set_cons_zero, List.set_cons_succ]
        refine wpAnyH_take (i := 1) (oi := { dst := some 33, op := Op.fieldAddr 42 (Operand.tmp 3) 2, type := 0, pos := "typing.go:22", after := #[], guard := none }) (v := ?bv1) rfl (by kernel_rfl) (by kernel_rfl) (by kernel_rfl) (fun _ _ _ h => h) (Or.inl ⟨by rfl, ?by1⟩) hHeld ?br1
        case by1 => (intro w hSw; (try dsimp only at hSw); go_simp; (try with_reducible rfl))
        try simp only [Act.put, List.setIfInBounds_toArray, List.set_cons_zero, List.set_cons_succ]
        refine wpAnyH_take (i := 2) (oi := { dst := some 34, op := Op.load 23 (Operand.tmp 33), type := 23, pos := "typing.go:22", after := #[{ on := 1, ground := Ground.data }], guard := none }) (v := ?bv2) rfl (by kernel_rfl) (by kernel_rfl) (by kernel_rfl) (fun _ _ _ h => h) (Or.inl ⟨by rfl, ?by2⟩) hHeld ?br2
        case by2 => (intro w hSw; (try dsimp only at hSw); go_simp; (try with_reducible rfl))
        try simp only [Act.put, List.setIfInBounds_toArray, List.set_cons_zero, List.set_cons_succ]
        refine wpAnyH_take (i := 3) (oi := { dst := some 35, op := Op.move (Operand.tmp 5), type := 3, pos := "typing.go:22", after := #[], guard := none }) (v := ?bv3) rfl (by kernel_rfl) (by kernel_rfl) (by kernel_rfl) (fun _ _ _ h => h) (Or.inl ⟨by rfl, ?by3⟩) hHeld ?br3
        case by3 => (intro w hSw; (try dsimp only at hSw); go_simp; (try with_reducible rfl))
        try simp only [Act.put, List.setIfInBounds_toArray, List.set_cons_zero, List.set_cons_succ]
        refine wpAnyH_take (i := 4) (oi := { dst := some 36, op := Op.indexAddr 23 (Operand.tmp 34) (Operand.tmp 35), type := 0, pos := "typing.go:22", after := #[{ on := 2, ground := Ground.data }, { on := 3, ground := Ground.data }], guard := none }) (v := ?bv4) rfl (by kernel_rfl) (by kernel_rfl) (by kernel_rfl) (fun _ _ _ h => h) (Or.inl ⟨by rfl, ?by4⟩) hHeld ?br4
        case by4 => (intro w hSw; (try dsimp only at hSw); go_simp; (try with_reducible rfl))
        try simp only [Act.put, List.setIfInBounds_toArray, List.set_cons_zero, List.set_cons_succ]
        refine wpAnyH_take (i := 5) (oi := { dst := some 37, op := Op.load 3 (Operand.tmp 36), type := 3, pos := "typing.go:22", after := #[{ on := 4, ground := Ground.data }], guard := none }) (v := ?bv5) rfl (by kernel_rfl) (by kernel_rfl) (by kernel_rfl) (fun _ _ _ h => h) (Or.inl ⟨by rfl, ?by5⟩) hHeld ?br5
        case by5 => (intro w hSw; (try dsimp only at hSw); go_simp; (try with_reducible rfl))
        try simp only [Act.put, List.setIfInBounds_toArray, List.set_cons_zero, List.set_cons_succ]
        refine wpAnyH_take (i := 7) (oi := { dst := some 39, op := Op.move (Operand.tmp 6), type := 67, pos := "typing.go:22", after := #[], guard := none }) (v := ?bv7) rfl (by kernel_rfl) (by kernel_rfl) (by kernel_rfl) (fun _ _ _ h => h) (Or.inl ⟨by rfl, ?by7⟩) hHeld ?br7
        case by7 => (intro w hSw; (try dsimp only at hSw); go_simp; (try with_reducible rfl))
        try simp only [Act.put, List.setIfInBounds_toArray, List.set_cons_zero, List.set_cons_succ]
        refine wpAnyH_ready (rs := [6]) (by kernel_rfl) (by simp) ?_
        refine AllReadyH.cons (o := { dst := some 38, op := Op.call { callee := Callee.value (Operand.func 68), args := #[Operand.tmp 32, Operand.tmp 37], argTypes := #[26, 3] }, type := 67, pos := "typing.go:22", after := #[{ on := 0, ground := Ground.data }, { on := 5, ground := Ground.data }], guard := none }) rfl (fun K hK => ?_) AllReadyH.nil
        go_simp
        (with_reducible refine (C0 _ (HF3.out.keep HK.out)).mono ?_)
        rintro e wx ⟨rfl, k3⟩
        show K _ _
        clear hHeld
        clear l0 l1 l2 m0 m1 m2 m3 n0
        have Blx := kept (Bl.out.keep k3 (by simp))
        have Bmx := kept (Bm.out.keep k3 (by simp))
        have HKx := kept (HK.out.and_then k3)
        clear Bl Bm HK
        have Bl := Blx
        have Bm := Bmx
        have HK := HKx
        clear Blx Bmx HKx
        have l0 := Bl.out.cell 0
        have l1 := Bl.out.cell 1
        have l2 := Bl.out.cell 2
        have m0 := Bm.out.cell 0
        have m1 := Bm.out.cell 1
        have m2 := Bm.out.cell 2
        have m3 := Bm.out.cell 3
        simp at l0 l1 l2 m0 m1 m2 m3
        have n0 := HK.out.cellOf N0.out
        clear k3
        refine hK.out _ _ ?bhS6 (fun hHeld => ?_)
        case bhS6 => exact ⟨l0, l1, l2, m0, m1, m2, m3, n0⟩
        clear hK K
        try simp only [Act.put, List.setIfInBounds_toArray, List.set_cons_zero, List.set_cons_succ]
        refine wpAnyH_take (i := 8) (oi := { dst := some 40, op := Op.binOp BinOp.neq 67 (Operand.tmp 38) (Operand.tmp 39) 67, type := 4, pos := "typing.go:22", after := #[{ on := 6, ground := Ground.data }, { on := 7, ground := Ground.data }], guard := none }) (v := ?bv8) rfl (by kernel_rfl) (by kernel_rfl) (by kernel_rfl) (fun _ _ _ h => h) (Or.inl ⟨by rfl, ?by8⟩) hHeld ?br8
        case by8 => (intro w hSw; (try dsimp only at hSw); go_simp; (try with_reducible rfl))
        try simp only [Act.put, List.setIfInBounds_toArray, List.set_cons_zero, List.set_cons_succ]
        refine wpAnyH_done (by kernel_rfl) ?_ _
        clear hHeld
        go_wp2
        go_ret
        exact ⟨ret_bool (by rw [HX.out, allR_no hlt (by rw [HZK.out, HZQ.out, HTQ.out]; exact hq)]; rfl), HKA.out.and_then HK.out⟩
      | true =>
        rw [hq] at hbq
        go_wp2_with fail
        refine wp_region_held_drew (S := (fun w' => w'.cell? ⟨w.heap.size, 0, none⟩ = some (.slice a0 nv c0) ∧ w'.cell? ⟨w.heap.size, 1, none⟩ = some (.slice a1 np c1) ∧ w'.cell? ⟨w.heap.size, 2, none⟩ = some (.slice a2 nb c2) ∧ w'.cell? ⟨w.heap.size + 1, 0, none⟩ = some (.int .i64 op) ∧ w'.cell? ⟨w.heap.size + 1, 1, none⟩ = some (.int .i64 dst) ∧ w'.cell? ⟨w.heap.size + 1, 2, none⟩ = some (.slice (some ⟨rb, ro, none⟩) na d1) ∧ w'.cell? ⟨w.heap.size + 1, 3, none⟩ = some (.int .i64 num) ∧ w'.cell? ⟨rb, ro + kk, none⟩ = some (.int .i64 zk))) (by kernel_rfl) ?chSs (fun hHeld => ?_)
        case chSs => exact ⟨l0, l1, l2, m0, m1, m2, m3, n0⟩
        clear l0 l1 l2 m0 m1 m2 m3 n0
        have Blx := kept (Bl.out.keep ((Keeps.refl _ []).drew) (by simp))
        have Bmx := kept (Bm.out.keep ((Keeps.refl _ []).drew) (by simp))
        have HKx := kept (HK.out.drew)
        clear Bl Bm HK
        have Bl := Blx
        have Bm := Bmx
        have HK := HKx
        clear Blx Bmx HKx
        generalize World.drew _ = X0 at *
        have l0 := Bl.out.cell 0
        have l1 := Bl.out.cell 1
        have l2 := Bl.out.cell 2
        have m0 := Bm.out.cell 0
        have m1 := Bm.out.cell 1
        have m2 := Bm.out.cell 2
        have m3 := Bm.out.cell 3
        simp at l0 l1 l2 m0 m1 m2 m3
        have n0 := HK.out.cellOf N0.out
        refine wpAnyH_take (i := 0) (oi := { dst := some 32, op := Op.load 26 (Operand.tmp 2), type := 26, pos := "typing.go:22", after := #[], guard := none }) (v := ?cv0) rfl (by kernel_rfl) (by kernel_rfl) (by kernel_rfl) (fun _ _ _ h => h) (Or.inl ⟨by rfl, ?cy0⟩) hHeld ?cr0
        case cy0 => (intro w hSw; (try dsimp only at hSw); go_simp; (try with_reducible rfl))
        try simp only [Act.put, List.setIfInBounds_toArray, List.set_cons_zero, List.set_cons_succ]
        refine wpAnyH_take (i := 1) (oi := { dst := some 33, op := Op.fieldAddr 42 (Operand.tmp 3) 2, type := 0, pos := "typing.go:22", after := #[], guard := none }) (v := ?cv1) rfl (by kernel_rfl) (by kernel_rfl) (by kernel_rfl) (fun _ _ _ h => h) (Or.inl ⟨by rfl, ?cy1⟩) hHeld ?cr1
        case cy1 => (intro w hSw; (try dsimp only at hSw); go_simp; (try with_reducible rfl))
        try simp only [Act.put, List.setIfInBounds_toArray, List.set_cons_zero, List.set_cons_succ]
        refine wpAnyH_take (i := 2) (oi := { dst := some 34, op := Op.load 23 (Operand.tmp 33), type := 23, pos := "typing.go:22", after := #[{ on := 1, ground := Ground.data }], guard := none }) (v := ?cv2) rfl (by kernel_rfl) (by kernel_rfl) (by kernel_rfl) (fun _ _ _ h => h) (Or.inl ⟨by rfl, ?cy2⟩) hHeld ?cr2
        case cy2 => (intro w hSw; (try dsimp only at hSw); go_simp; (try with_reducible rfl))
        try simp only [Act.put, List.setIfInBounds_toArray, List.set_cons_zero, List.set_cons_succ]
        refine wpAnyH_take (i := 3) (oi := { dst := some 35, op := Op.move (Operand.tmp 5), type := 3, pos := "typing.go:22", after := #[], guard := none }) (v := ?cv3) rfl (by kernel_rfl) (by kernel_rfl) (by kernel_rfl) (fun _ _ _ h => h) (Or.inl ⟨by rfl, ?cy3⟩) hHeld ?cr3
        case cy3 => (intro w hSw; (try dsimp only at hSw); go_simp; (try with_reducible rfl))
        try simp only [Act.put, List.setIfInBounds_toArray, List.set_cons_zero, List.set_cons_succ]
        refine wpAnyH_take (i := 4) (oi := { dst := some 36, op := Op.indexAddr 23 (Operand.tmp 34) (Operand.tmp 35), type := 0, pos := "typing.go:22", after := #[{ on := 2, ground := Ground.data }, { on := 3, ground := Ground.data }], guard := none }) (v := ?cv4) rfl (by kernel_rfl) (by kernel_rfl) (by kernel_rfl) (fun _ _ _ h => h) (Or.inl ⟨by rfl, ?cy4⟩) hHeld ?cr4
        case cy4 => (intro w hSw; (try dsimp only at hSw); go_simp; (try with_reducible rfl))
        try simp only [Act.put, List.setIfInBounds_toArray, List.set_cons_zero, List.set_cons_succ]
        refine wpAnyH_take (i := 5) (oi := { dst := some 37, op := Op.load 3 (Operand.tmp 36), type := 3, pos := "typing.go:22", after := #[{ on := 4, ground := Ground.data }], guard := none }) (v := ?cv5) rfl (by kernel_rfl) (by kernel_rfl) (by kernel_rfl) (fun _ _ _ h => h) (Or.inl ⟨by rfl, ?cy5⟩) hHeld ?cr5
        case cy5 => (intro w hSw; (try dsimp only at hSw); go_simp; (try with_reducible rfl))
        try simp only [Act.put, List.setIfInBounds_toArray, List.set_cons_zero, List.set_cons_succ]
        refine wpAnyH_take (i := 7) (oi := { dst := some 39, op := Op.move (Operand.tmp 6), type := 67, pos := "typing.go:22", after := #[], guard := none }) (v := ?cv7) rfl (by kernel_rfl) (by kernel_rfl) (by kernel_rfl) (fun _ _ _ h => h) (Or.inl ⟨by rfl, ?cy7⟩) hHeld ?cr7
        case cy7 => (intro w hSw; (try dsimp only at hSw); go_simp; (try with_reducible rfl))
        try simp only [Act.put, List.setIfInBounds_toArray, List.set_cons_zero, List.set_cons_succ]
        refine wpAnyH_ready (rs := [6]) (by kernel_rfl) (by simp) ?_
        refine AllReadyH.cons (o := { dst := some 38, op := Op.call { callee := Callee.value (Operand.func 68), args := #[Operand.tmp 32, Operand.tmp 37], argTypes := #[26, 3] }, type := 67, pos := "typing.go:22", after := #[{ on := 0, ground := Ground.data }, { on := 5, ground := Ground.data }], guard := none }) rfl (fun K hK => ?_) AllReadyH.nil
        go_simp
        (with_reducible refine (C0 _ (HF3.out.keep HK.out)).mono ?_)
        rintro e wx ⟨rfl, k3⟩
        show K _ _
        clear hHeld
        clear l0 l1 l2 m0 m1 m2 m3 n0
        have Blx := kept (Bl.out.keep k3 (by simp))
        have Bmx := kept (Bm.out.keep k3 (by simp))
        have HKx := kept (HK.out.and_then k3)
        clear Bl Bm HK
        have Bl := Blx
        have Bm := Bmx
        have HK := HKx
        clear Blx Bmx HKx
        have l0 := Bl.out.cell 0
        have l1 := Bl.out.cell 1
        have l2 := Bl.out.cell 2
        have m0 := Bm.out.cell 0
        have m1 := Bm.out.cell 1
        have m2 := Bm.out.cell 2
        have m3 := Bm.out.cell 3
        simp at l0 l1 l2 m0 m1 m2 m3
        have n0 := HK.out.cellOf N0.out
        clear k3
        refine hK.out _ _ ?chS6 (fun hHeld => ?_)
        case chS6 => exact ⟨l0, l1, l2, m0, m1, m2, m3, n0⟩
        clear hK K
        try simp only [Act.put, List.setIfInBounds_toArray, List.set_cons_zero, List.set_cons_succ]
        refine wpAnyH_take (i := 8) (oi := { dst := some 40, op := Op.binOp BinOp.neq 67 (Operand.tmp 38) (Operand.tmp 39) 67, type := 4, pos := "typing.go:22", after := #[{ on := 6, ground := Ground.data }, { on := 7, ground := Ground.data }], guard := none }) (v := ?cv8) rfl (by kernel_rfl) (by kernel_rfl) (by kernel_rfl) (fun _ _ _ h => h) (Or.inl ⟨by rfl, ?cy8⟩) hHeld ?cr8
        case cy8 => (intro w hSw; (try dsimp only at hSw); go_simp; (try with_reducible rfl))
        try simp only [Act.put, List.setIfInBounds_toArray, List.set_cons_zero, List.set_cons_succ]
        refine wpAnyH_done (by kernel_rfl) ?_ _
        clear hHeld
        go_wp2
        go_roundw
        case rel =>
          refine ⟨kk + 1, by omega, by go_num, HK.out, (show Hid _ from fun j hj => ?_)⟩
          by_cases e : j = kk
          · subst e; rw [HZK.out, HZQ.out, HTQ.out]; exact hq
          · exact A.out j (by omega)
        case measure => simp [intOf]; omega
    · have hltz : ¬ (kk : Int) < (na : Int) := by omega
      obtain rfl : na = kk := by omega
      have k3 := HR.out
      clear l0 l1 l2 m0 m1 m2 m3; have Blx := kept (Bl.out.keep k3 (by simp)); have Bmx := kept (Bm.out.keep k3 (by simp)); have HKx := kept (HK.out.and_then k3); clear Bl Bm HK; have Bl := Blx; have Bm := Bmx; have HK := HKx; clear Blx Bmx HKx; have l0 := Bl.out.cell 0; have l1 := Bl.out.cell 1; have l2 := Bl.out.cell 2; have m0 := Bm.out.cell 0; have m1 := Bm.out.cell 1; have m2 := Bm.out.cell 2; have m3 := Bm.out.cell 3; simp at l0 l1 l2 m0 m1 m2 m3; clear k3
      have HXX := kept (show TB = (!mb || zd == mt) by rw [HX.out, allR_yes A.out]; rfl)
      clear HX A HC HV CAr
      cases mb with
      | false =>
        clear CD
        go_wp2_with (go_at_call 71; refine (CM.out _).mono ?_; rintro e w4 ⟨rfl, k3⟩; clear l0 l1 l2 m0 m1 m2 m3; have Blx := kept (Bl.out.keep k3 (by simp)); have Bmx := kept (Bm.out.keep k3 (by simp)); have HKx := kept (HK.out.and_then k3); clear Bl Bm HK; have Bl := Blx; have Bm := Bmx; have HK := HKx; clear Blx Bmx HKx; have l0 := Bl.out.cell 0; have l1 := Bl.out.cell 1; have l2 := Bl.out.cell 2; have m0 := Bm.out.cell 0; have m1 := Bm.out.cell 1; have m2 := Bm.out.cell 2; have m3 := Bm.out.cell 3; simp at l0 l1 l2 m0 m1 m2 m3; clear k3)
        go_ret
        exact ⟨ret_bool (by rw [HXX.out]; rfl), HKA.out.and_then HK.out⟩
      | true =>
        have CD2 := kept (fun w h => CD.out w h rfl)
        clear CD
        go_wp2_with (first | (go_at_call 71; refine (CM.out _).mono ?_; rintro e w4 ⟨rfl, k3⟩; clear l0 l1 l2 m0 m1 m2 m3; have Blx := kept (Bl.out.keep k3 (by simp)); have Bmx := kept (Bm.out.keep k3 (by simp)); have HKx := kept (HK.out.and_then k3); clear Bl Bm HK; have Bl := Blx; have Bm := Bmx; have HK := HKx; clear Blx Bmx HKx; have l0 := Bl.out.cell 0; have l1 := Bl.out.cell 1; have l2 := Bl.out.cell 2; have m0 := Bm.out.cell 0; have m1 := Bm.out.cell 1; have m2 := Bm.out.cell 2; have m3 := Bm.out.cell 3; simp at l0 l1 l2 m0 m1 m2 m3; clear k3) | (go_at_call 68; refine (CD2.out _ (HF3.out.keep HK.out)).mono ?_; rintro e w4 ⟨rfl, k3⟩; clear l0 l1 l2 m0 m1 m2 m3; have Blx := kept (Bl.out.keep k3 (by simp)); have Bmx := kept (Bm.out.keep k3 (by simp)); have HKx := kept (HK.out.and_then k3); clear Bl Bm HK; have Bl := Blx; have Bm := Bmx; have HK := HKx; clear Blx Bmx HKx; have l0 := Bl.out.cell 0; have l1 := Bl.out.cell 1; have l2 := Bl.out.cell 2; have m0 := Bm.out.cell 0; have m1 := Bm.out.cell 1; have m2 := Bm.out.cell 2; have m3 := Bm.out.cell 3; simp at l0 l1 l2 m0 m1 m2 m3; clear k3))
        go_ret
        exact ⟨ret_bool (by rw [HXX.out]; simp), HKA.out.and_then HK.out⟩
theorem tinst_any (f : FuncM) (x : InstM) (w : World) (hf : FuncAt w f) (hp : InstAt w x) (hi : instB f x = true) :
    Calls Tryd.prog 40 #[f.val, .agg #[.int .i64 x.op, .int .i64 x.dst, x.args.1, .int .i64 x.num]] w fun e w' => e = .returned (.bool (tinstB f x)) ∧ Keeps w w' [] := by
  unfold instB at hi
  simp only [Bool.and_eq_true, decide_eq_true_eq, beq_iff_eq, List.all_eq_true] at hi
  obtain ⟨⟨⟨⟨⟨h0, h27⟩, hl⟩, ha⟩, hd⟩, _⟩ := hi
  have ek : x.op = ((x.op.toNat : Nat) : Int) := by omega
  have hl' : x.args.2.length = (ktakes x.op.toNat).size := hl
  by_cases h1 : x.op = 1
  · have hm : mk1 x.op = true := by rw [h1]; decide +kernel
    rw [if_pos hm] at hd
    have hl1 : x.args.2.length = 1 := by rw [hl', h1]; decide +kernel
    exact tinst_copy f x w hf hp h1 hl1 (ha _ (bang_mem (by omega))) hd
  · exact tinst_more f x x.op.toNat (by omega) ek (by rw [← ek]; simpa using h1) w hf hp hl' ha (fun hm => by rw [← ek] at hm; rw [if_pos hm] at hd; exact hd)
end Go.Proofs.YtjllbchfojonhaaDoor
