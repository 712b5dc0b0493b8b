/- Package print: inst; contract; the contracts of ops.Makes, Takes, Word at any operation. -/
import Derived.Test.YtjllbchfojonhaaGreatDoorShape
import Derived.Test.YtjllbchfojonhaaGreatDoorB3
import Derived.Deep.RegionHeld3
namespace Go.Proofs.YtjllbchfojonhaaGreatDoor
open Go.RowKit
set_option linter.unusedVariables false
set_option linter.unusedSimpArgs false
theorem takes_small : ∀ k : Nat, k < 27 → (ktakes k).size ≤ 100 ∧ (ktakes k).data.toList.all (fun c => decide (c.toNat < 128)) = true := by decide +kernel
theorem takes_ascii (k : Nat) (hk : k < 27) (j : Nat) (hj : j < (ktakes k).size) : ((ktakes k)[j]'hj).toNat < 128 := by
 have h := (takes_small k hk).2
 rw [List.all_eq_true] at h
 have h' : j < (ktakes k).data.toList.length := by rw [Array.length_toList]; exact hj
 have := h _ (List.getElem_mem h')
 exact of_decide_eq_true this
theorem takes_in (k : Nat) (hk : k < 27) (w : World) : Calls Tryz.prog 74 #[.int .i64 k] w fun e w' => ∃ v, e = .returned v ∧ w'.ownsRow w.heap.size 81 1 v (ktakes k).size (tcells (ktakes k) (ktakes k).size) ∧ Keeps w w' [] :=
 takes_any k (kword k) (kmakes k) (ktakes k) (takes_small k hk).1 (takes_ascii k hk) (of_yes k hk) w
theorem takes_len (k : Nat) (hk : k < 27) (w : World) : Calls Tryz.prog 74 #[.int .i64 k] w fun e w' => ∃ va vc, e = .returned (.slice va (ktakes k).size vc) ∧ Keeps w w' [] := by
 refine (takes_in k hk w).mono ?_
 rintro e w' ⟨v, rfl, ho, k1⟩
 obtain ⟨va, vc, rfl, _⟩ := own_form ho
 exact ⟨va, vc, rfl, k1⟩
theorem kmakes_form : ∀ k : Nat, k < 27 → kmakes k = ⟨#[]⟩ ∨ ∃ c : UInt8, kmakes k = ⟨#[c]⟩ ∧ c.toNat < 128 := by
 intro k hk
 match k, hk with
 | 0, _ => exact .inr ⟨_, rfl, by decide⟩
 | 1, _ => exact .inr ⟨_, rfl, by decide⟩
 | 2, _ => exact .inr ⟨_, rfl, by decide⟩
 | 3, _ => exact .inr ⟨_, rfl, by decide⟩
 | 4, _ => exact .inr ⟨_, rfl, by decide⟩
 | 5, _ => exact .inr ⟨_, rfl, by decide⟩
 | 6, _ => exact .inr ⟨_, rfl, by decide⟩
 | 7, _ => exact .inr ⟨_, rfl, by decide⟩
 | 8, _ => exact .inr ⟨_, rfl, by decide⟩
 | 9, _ => exact .inr ⟨_, rfl, by decide⟩
 | 10, _ => exact .inr ⟨_, rfl, by decide⟩
 | 11, _ => exact .inr ⟨_, rfl, by decide⟩
 | 12, _ => exact .inr ⟨_, rfl, by decide⟩
 | 13, _ => exact .inr ⟨_, rfl, by decide⟩
 | 14, _ => exact .inl rfl
 | 15, _ => exact .inr ⟨_, rfl, by decide⟩
 | 16, _ => exact .inr ⟨_, rfl, by decide⟩
 | 17, _ => exact .inl rfl
 | 18, _ => exact .inl rfl
 | 19, _ => exact .inl rfl
 | 20, _ => exact .inl rfl
 | 21, _ => exact .inl rfl
 | 22, _ => exact .inl rfl
 | 23, _ => exact .inl rfl
 | 24, _ => exact .inl rfl
 | 25, _ => exact .inr ⟨_, rfl, by decide⟩
 | 26, _ => exact .inr ⟨_, rfl, by decide⟩
 | n + 27, h => exact absurd h (by omega)
theorem makes_in (k : Nat) (hk : k < 27) (w : World) : Calls Tryz.prog 97 #[.int .i64 k] w fun e w' => e = .returned (.tuple #[.int .i64 (if mk1 k = true then mkT k else 0), .bool (mk1 k)]) ∧ Keeps w w' [] := by
 rcases kmakes_form k hk with h | ⟨c, h, hc⟩
 ·have C := makes_none k (kword k) (ktakes k) (by rw [← h]; exact of_yes k hk) w
  have e1 : mk1 (k : Int) = false := by show (!((kmakes ((k : Int).toNat)).size == 0)) = false; rw [show (k : Int).toNat = k from rfl, h]; rfl
  rw [e1]
  exact C
 ·have C := makes_some k (kword k) (ktakes k) c hc (by rw [← h]; exact of_yes k hk) w
  have e1 : mk1 (k : Int) = true := by show (!((kmakes ((k : Int).toNat)).size == 0)) = true; rw [show (k : Int).toNat = k from rfl, h]; rfl
  have e2 : mkT (k : Int) = tsign c.toNat := by show tsign ((kmakes ((k : Int).toNat)).data.toList[0]!).toNat = _; rw [show (k : Int).toNat = k from rfl, h]; rfl
  rw [e1, if_pos rfl, e2]
  exact C
theorem makes_out (op : Int) (h : op < 0 ∨ 27 ≤ op) (w : World) : Calls Tryz.prog 97 #[.int .i64 op] w fun e w' => e = .returned (.tuple #[.int .i64 0, .bool false]) ∧ Keeps w w' [] :=
 makes_none op ⟨#[]⟩ ⟨#[]⟩ (of_no op h) w
theorem kword_ne (k : Nat) (hk : k < 27) : (kword k).toList.isEmpty = false := by
 match k, hk with
 | 0, _ => exact by rw [ByteArray.toList_eq]; rfl
 | 1, _ => exact by rw [ByteArray.toList_eq]; rfl
 | 2, _ => exact by rw [ByteArray.toList_eq]; rfl
 | 3, _ => exact by rw [ByteArray.toList_eq]; rfl
 | 4, _ => exact by rw [ByteArray.toList_eq]; rfl
 | 5, _ => exact by rw [ByteArray.toList_eq]; rfl
 | 6, _ => exact by rw [ByteArray.toList_eq]; rfl
 | 7, _ => exact by rw [ByteArray.toList_eq]; rfl
 | 8, _ => exact by rw [ByteArray.toList_eq]; rfl
 | 9, _ => exact by rw [ByteArray.toList_eq]; rfl
 | 10, _ => exact by rw [ByteArray.toList_eq]; rfl
 | 11, _ => exact by rw [ByteArray.toList_eq]; rfl
 | 12, _ => exact by rw [ByteArray.toList_eq]; rfl
 | 13, _ => exact by rw [ByteArray.toList_eq]; rfl
 | 14, _ => exact by rw [ByteArray.toList_eq]; rfl
 | 15, _ => exact by rw [ByteArray.toList_eq]; rfl
 | 16, _ => exact by rw [ByteArray.toList_eq]; rfl
 | 17, _ => exact by rw [ByteArray.toList_eq]; rfl
 | 18, _ => exact by rw [ByteArray.toList_eq]; rfl
 | 19, _ => exact by rw [ByteArray.toList_eq]; rfl
 | 20, _ => exact by rw [ByteArray.toList_eq]; rfl
 | 21, _ => exact by rw [ByteArray.toList_eq]; rfl
 | 22, _ => exact by rw [ByteArray.toList_eq]; rfl
 | 23, _ => exact by rw [ByteArray.toList_eq]; rfl
 | 24, _ => exact by rw [ByteArray.toList_eq]; rfl
 | 25, _ => exact by rw [ByteArray.toList_eq]; rfl
 | 26, _ => exact by rw [ByteArray.toList_eq]; rfl
 | n + 27, h => exact absurd h (by omega)
set_option maxRecDepth 100000 in
set_option maxHeartbeats 4000000 in
theorem inst_out (f : FuncM) (x : InstM) (w : World) (hf : FuncAt w f) (hp : InstAt w x) (h : x.op < 0 ∨ 27 ≤ x.op) : Calls Tryz.prog 91 #[f.val, .agg #[.int .i64 x.op, .int .i64 x.dst, x.args.1, .int .i64 x.num]] w fun e w' => e = .returned (.bool (instB f x)) ∧ Keeps w w' [] := by
 have CW := kept (fun w => word_no x.op h w)
 have CM := kept (fun w => makes_out x.op h w)
 have HX : Hid (instB f x = false) := by
  show _ = _
  unfold instB
  rcases h with h | h
  ·rw [decide_eq_false (by omega)]; simp
  ·rw [decide_eq_false (show ¬ x.op < 27 by omega)]; simp
 obtain ⟨a0, c0, a1, c1, a2, c2, e0, e1, e2⟩ := hf.shape2
 obtain ⟨s1, d1, e3, _⟩ := IntsAt.open_ hp
 have hval : f.val = .agg #[.slice a0 f.nv c0, .slice a1 f.np c1, .slice a2 f.nb c2] := by unfold FuncM.val; rw [e0, e1, e2]
 rw [hval, e3]
 clear hf hp e0 e1 e2 e3 hval h
 generalize instB f x = IB at *
 generalize f.nv = nv at *
 generalize f.np = np at *
 generalize f.nb = nb at *
 generalize x.args.2.length = na at *
 generalize x.op = op at *
 generalize x.dst = dst at *
 generalize x.num = num at *
 have hk0 : Keeps w (w.alloc (.cells #[.slice a0 nv c0, .slice a1 np c1, .slice a2 nb c2] 26)) [] := (Keeps.refl _ []).alloc _
 have bb0 := Blk.new w 26 #[.slice a0 nv c0, .slice a1 np c1, .slice a2 nb c2]
 have hk1 : Keeps (w.alloc (.cells #[.slice a0 nv c0, .slice a1 np c1, .slice a2 nb c2] 26)) ((w.alloc (.cells #[.slice a0 nv c0, .slice a1 np c1, .slice a2 nb c2] 26)).alloc (.cells #[.int .i64 op, .int .i64 dst, .slice s1 na d1, .int .i64 num] 43)) [] := (Keeps.refl _ []).alloc _
 have bb1 := Blk.new (w.alloc (.cells #[.slice a0 nv c0, .slice a1 np c1, .slice a2 nb c2] 26)) 43 #[.int .i64 op, .int .i64 dst, .slice s1 na d1, .int .i64 num]
 rw [show (w.alloc (.cells #[.slice a0 nv c0, .slice a1 np c1, .slice a2 nb c2] 26)).heap.size = w.heap.size + 1 by show (Array.push _ _).size = _; simp [Array.size_push]] at bb1
 have Bl := kept (bb0.keep hk1 (by simp))
 have Bm := kept bb1
 have HK := kept (hk0.and_then hk1)
 obtain ⟨l0, l1, l2⟩ := Bl.out.c3
 obtain ⟨m0, m1, m2, m3⟩ := Bm.out.c4
 simp at l0 l1 l2 m0 m1 m2 m3
 clear hk0 hk1 bb0 bb1
 go_enter Tryz.func91, Tryz.ntmps91
 go_wp2_with (go_at_call 97; refine (CM.out _).mono ?_; rintro e w3 ⟨rfl, k3⟩; clear l0 l1 l2 m0 m1 m2 m3; replace Bl := kept (Bl.out.keep k3 (by simp)); replace Bm := kept (Bm.out.keep k3 (by simp)); replace HK := kept (HK.out.and_then k3); obtain ⟨l0, l1, l2⟩ := Bl.out.c3; obtain ⟨m0, m1, m2, m3⟩ := Bm.out.c4; simp at l0 l1 l2 m0 m1 m2 m3; clear k3)
 refine wp_region_held_drew (S := (fun w' => w'.cell? ⟨w.heap.size, 0, none⟩ = some (.slice a0 nv c0) ∧ w'.cell? ⟨w.heap.size, 1, none⟩ = some (.slice a1 np c1) ∧ w'.cell? ⟨w.heap.size, 2, none⟩ = some (.slice a2 nb c2) ∧ w'.cell? ⟨w.heap.size + 1, 0, none⟩ = some (.int .i64 op) ∧ w'.cell? ⟨w.heap.size + 1, 1, none⟩ = some (.int .i64 dst) ∧ w'.cell? ⟨w.heap.size + 1, 2, none⟩ = some (.slice s1 na d1) ∧ w'.cell? ⟨w.heap.size + 1, 3, none⟩ = some (.int .i64 num))) (by kernel_rfl) ?ahSs (fun hHeld => ?_)
 case ahSs => exact ⟨l0, l1, l2, m0, m1, m2, m3⟩
 clear l0 l1 l2 m0 m1 m2 m3
 replace Bl := kept (Bl.out.keep ((Keeps.refl _ []).drew) (by simp))
 replace Bm := kept (Bm.out.keep ((Keeps.refl _ []).drew) (by simp))
 replace HK := kept (HK.out.drew)
 generalize World.drew _ = X0 at *
 obtain ⟨l0, l1, l2⟩ := Bl.out.c3
 obtain ⟨m0, m1, m2, m3⟩ := Bm.out.c4
 simp at l0 l1 l2 m0 m1 m2 m3
 refine tp 0 14 rfl hHeld ?_
 refine tp 1 15 rfl hHeld ?_
 refine t1 2 fun K hK => ?_
 go_simp
 (with_reducible refine (CW.out _).mono ?_)
 rintro e wx ⟨rfl, k3⟩
 show K _ _
 clear hHeld
 clear l0 l1 l2 m0 m1 m2 m3
 replace Bl := kept (Bl.out.keep k3 (by simp))
 replace Bm := kept (Bm.out.keep k3 (by simp))
 replace HK := kept (HK.out.and_then k3)
 obtain ⟨l0, l1, l2⟩ := Bl.out.c3
 obtain ⟨m0, m1, m2, m3⟩ := Bm.out.c4
 simp at l0 l1 l2 m0 m1 m2 m3
 clear k3
 refine hK.out _ _ ?ahS2 (fun hHeld => ?_)
 case ahS2 => exact ⟨l0, l1, l2, m0, m1, m2, m3⟩
 clear hK K
 try simp only [Act.put, sA, sB, sC]
 refine tp 3 17 rfl hHeld ?_
 refine tp 4 18 rfl hHeld ?_
 refine tu 5 ⟨some 19, .fieldAddr 43 (.tmp 3) 2, _, _, _, _⟩ rfl hHeld ?_
 refine tu 6 ⟨some 20, .load 23 (.tmp 19), _, _, _, _⟩ rfl hHeld ?_
 refine tu 7 ⟨some 21, .call ⟨.builtin .len, #[.tmp 20], #[23]⟩, _, _, _, _⟩ rfl hHeld ?_
 refine tu 8 ⟨some 22, .fieldAddr 43 (.tmp 3) 0, _, _, _, _⟩ rfl hHeld ?_
 refine tu 9 ⟨some 23, .load 41 (.tmp 22), _, _, _, _⟩ rfl hHeld ?_
 refine tu 10 ⟨some 24, .call ⟨.value (.func 74), #[.tmp 23], #[41]⟩, _, _, _, _⟩ rfl hHeld ?_
 refine tu 11 ⟨some 25, .call ⟨.builtin .len, #[.tmp 24], #[133]⟩, _, _, _, _⟩ rfl hHeld ?_
 refine tu 12 ⟨some 26, .binOp BinOp.neq 3 (.tmp 21) (.tmp 25) 3, _, _, _, _⟩ rfl hHeld ?_
 refine tp 13 27 rfl hHeld ?_
 refine tp 14 28 rfl hHeld ?_
 refine tu 15 ⟨some 29, .load 26 (.tmp 2), _, _, _, _⟩ rfl hHeld ?_
 refine tu 16 ⟨some 30, .fieldAddr 43 (.tmp 3) 2, _, _, _, _⟩ rfl hHeld ?_
 refine tu 17 ⟨some 31, .load 23 (.tmp 30), _, _, _, _⟩ rfl hHeld ?_
 refine tu 18 ⟨some 32, .call ⟨.value (.func 118), #[.tmp 29, .tmp 31], #[26, 23]⟩, _, _, _, _⟩ rfl hHeld ?_
 refine tu 19 ⟨some 33, .unOp UnOp.not 4 (.tmp 32), _, _, _, _⟩ rfl hHeld ?_
 refine tp 20 34 rfl hHeld ?_
 refine tp 21 13 rfl hHeld ?_
 refine wpAnyH_done (by kernel_rfl) ?_ _
 clear hHeld
 go_wp2
 go_ret
 exact ⟨ret_bool (by rw [HX.out]), HK.out⟩
set_option maxRecDepth 100000 in
set_option maxHeartbeats 8000000 in
theorem inst_in (f : FuncM) (x : InstM) (k : Nat) (hk : k < 27) (ho : x.op = k) (w : World) (hf : FuncAt w f) (hp : InstAt w x) : Calls Tryz.prog 91 #[f.val, .agg #[.int .i64 x.op, .int .i64 x.dst, x.args.1, .int .i64 x.num]] w fun e w' => e = .returned (.bool (instB f x)) ∧ Keeps w w' [] := by
 have CW := kept (fun w => word_yes k hk w)
 have CM := kept (fun w => makes_in k hk w)
 have CT := kept (fun w => takes_len k hk w)
 have CN := kept (fun w => numbered_any (k : Int) w)
 have CH := kept (fun w h => has_any f x.dst w h)
 have CV := kept (fun w h1 (h2 : Row w 1 x.args.1 (x.args.2.map intCells)) => vars_any f x.args w h1 h2)
 have hwn := kword_ne k hk
 have HX : Hid (instB f x = ((x.args.2.length == (ktakes k).size) && x.args.2.all (inB · f.nv) && (if mk1 k = true then inB x.dst f.nv else x.dst == -1) && (x.num == 0 || ((k : Int) == 0 || (k : Int) == 25)))) := by
  show _ = _
  unfold instB ntk
  rw [ho, decide_eq_true (show (0 : Int) ≤ k by omega), decide_eq_true (show (k : Int) < 27 by omega)]
  simp only [Bool.true_and]
  rfl
 obtain ⟨a0, c0, a1, c1, a2, c2, e0, e1, e2⟩ := hf.shape2
 obtain ⟨s1, d1, e3, _⟩ := IntsAt.open_ hp
 have HF := kept hf
 have HP := kept (show Row w 1 x.args.1 (x.args.2.map intCells) from hp)
 have hval : f.val = .agg #[.slice a0 f.nv c0, .slice a1 f.np c1, .slice a2 f.nb c2] := by unfold FuncM.val; rw [e0, e1, e2]
 rw [hval] at CH CV ⊢
 rw [e3] at CV HP ⊢
 rw [ho]
 clear hf hp e0 e1 e2 e3 hval ho
 generalize instB f x = IB at *
 generalize kword k = sw at *
 generalize (if mk1 k = true then mkT k else 0) = mt at *
 generalize mk1 k = mb at *
 generalize ((k : Int) == 0 || (k : Int) == 25) = NU at *
 generalize hop : (k : Int) = op at *
 generalize (ktakes k).size = nt at *
 clear hop hk
 generalize x.args.2.all (inB · f.nv) = V at *
 generalize inB x.dst f.nv = D at *
 generalize f.nv = nv at *
 generalize f.np = np at *
 generalize f.nb = nb at *
 generalize hna : x.args.2.length = na at *
 clear hna
 generalize x.dst = dst at *
 generalize x.num = num at *
 have hk0 : Keeps w (w.alloc (.cells #[.slice a0 nv c0, .slice a1 np c1, .slice a2 nb c2] 26)) [] := (Keeps.refl _ []).alloc _
 have bb0 := Blk.new w 26 #[.slice a0 nv c0, .slice a1 np c1, .slice a2 nb c2]
 have hk1 : Keeps (w.alloc (.cells #[.slice a0 nv c0, .slice a1 np c1, .slice a2 nb c2] 26)) ((w.alloc (.cells #[.slice a0 nv c0, .slice a1 np c1, .slice a2 nb c2] 26)).alloc (.cells #[.int .i64 op, .int .i64 dst, .slice s1 na d1, .int .i64 num] 43)) [] := (Keeps.refl _ []).alloc _
 have bb1 := Blk.new (w.alloc (.cells #[.slice a0 nv c0, .slice a1 np c1, .slice a2 nb c2] 26)) 43 #[.int .i64 op, .int .i64 dst, .slice s1 na d1, .int .i64 num]
 rw [show (w.alloc (.cells #[.slice a0 nv c0, .slice a1 np c1, .slice a2 nb c2] 26)).heap.size = w.heap.size + 1 by show (Array.push _ _).size = _; simp [Array.size_push]] at bb1
 have Bl := kept (bb0.keep hk1 (by simp))
 have Bm := kept bb1
 have HK := kept (hk0.and_then hk1)
 obtain ⟨l0, l1, l2⟩ := Bl.out.c3
 obtain ⟨m0, m1, m2, m3⟩ := Bm.out.c4
 simp at l0 l1 l2 m0 m1 m2 m3
 clear hk0 hk1 bb0 bb1
 by_cases hl : na = nt
 ·subst hl
  have n1 : ((na : Int) != (na : Int)) = false := by simp
  cases V with
  | false =>
   go_enter Tryz.func91, Tryz.ntmps91
   go_wp2_with (go_at_call 97; refine (CM.out _).mono ?_; rintro e w3 ⟨rfl, k3⟩; clear l0 l1 l2 m0 m1 m2 m3; replace Bl := kept (Bl.out.keep k3 (by simp)); replace Bm := kept (Bm.out.keep k3 (by simp)); replace HK := kept (HK.out.and_then k3); obtain ⟨l0, l1, l2⟩ := Bl.out.c3; obtain ⟨m0, m1, m2, m3⟩ := Bm.out.c4; simp at l0 l1 l2 m0 m1 m2 m3; clear k3)
   refine wp_region_held_drew (S := (fun w' => w'.cell? ⟨w.heap.size, 0, none⟩ = some (.slice a0 nv c0) ∧ w'.cell? ⟨w.heap.size, 1, none⟩ = some (.slice a1 np c1) ∧ w'.cell? ⟨w.heap.size, 2, none⟩ = some (.slice a2 nb c2) ∧ w'.cell? ⟨w.heap.size + 1, 0, none⟩ = some (.int .i64 op) ∧ w'.cell? ⟨w.heap.size + 1, 1, none⟩ = some (.int .i64 dst) ∧ w'.cell? ⟨w.heap.size + 1, 2, none⟩ = some (.slice s1 na d1) ∧ w'.cell? ⟨w.heap.size + 1, 3, none⟩ = some (.int .i64 num))) (by kernel_rfl) ?bhSs (fun hHeld => ?_)
   case bhSs => exact ⟨l0, l1, l2, m0, m1, m2, m3⟩
   clear l0 l1 l2 m0 m1 m2 m3
   replace Bl := kept (Bl.out.keep ((Keeps.refl _ []).drew) (by simp))
   replace Bm := kept (Bm.out.keep ((Keeps.refl _ []).drew) (by simp))
   replace HK := kept (HK.out.drew)
   generalize World.drew _ = X0 at *
   obtain ⟨l0, l1, l2⟩ := Bl.out.c3
   obtain ⟨m0, m1, m2, m3⟩ := Bm.out.c4
   simp at l0 l1 l2 m0 m1 m2 m3
   refine tp 0 14 rfl hHeld ?_
   refine tp 1 15 rfl hHeld ?_
   refine t1 2 fun K hK => ?_
   go_simp
   (with_reducible refine (CW.out _).mono ?_)
   rintro e wx ⟨rfl, k3⟩
   show K _ _
   clear hHeld
   clear l0 l1 l2 m0 m1 m2 m3
   replace Bl := kept (Bl.out.keep k3 (by simp))
   replace Bm := kept (Bm.out.keep k3 (by simp))
   replace HK := kept (HK.out.and_then k3)
   obtain ⟨l0, l1, l2⟩ := Bl.out.c3
   obtain ⟨m0, m1, m2, m3⟩ := Bm.out.c4
   simp at l0 l1 l2 m0 m1 m2 m3
   clear k3
   refine hK.out _ _ ?bhS2 (fun hHeld => ?_)
   case bhS2 => exact ⟨l0, l1, l2, m0, m1, m2, m3⟩
   clear hK K
   try simp only [Act.put, sA, sB, sC]
   refine tp 3 17 rfl hHeld ?_
   refine tp 4 18 rfl hHeld ?_
   refine tp 5 19 rfl hHeld ?_
   refine tp 6 20 rfl hHeld ?_
   refine tp 7 21 rfl hHeld ?_
   refine tp 8 22 rfl hHeld ?_
   refine tp 9 23 rfl hHeld ?_
   refine t1 10 fun K hK => ?_
   go_simp
   (with_reducible refine (CT.out _).mono ?_)
   rintro e wx ⟨va5, vc5, rfl, k3⟩
   show K _ _
   clear hHeld
   clear l0 l1 l2 m0 m1 m2 m3
   replace Bl := kept (Bl.out.keep k3 (by simp))
   replace Bm := kept (Bm.out.keep k3 (by simp))
   replace HK := kept (HK.out.and_then k3)
   obtain ⟨l0, l1, l2⟩ := Bl.out.c3
   obtain ⟨m0, m1, m2, m3⟩ := Bm.out.c4
   simp at l0 l1 l2 m0 m1 m2 m3
   clear k3
   refine hK.out _ _ ?bhS10 (fun hHeld => ?_)
   case bhS10 => exact ⟨l0, l1, l2, m0, m1, m2, m3⟩
   clear hK K
   try simp only [Act.put, sA, sB, sC]
   refine tp 11 25 rfl hHeld ?_
   refine tp 12 26 rfl hHeld ?_
   refine tp 13 27 rfl hHeld ?_
   refine tp 14 28 rfl hHeld ?_
   refine tp 15 29 rfl hHeld ?_
   refine tp 16 30 rfl hHeld ?_
   refine tp 17 31 rfl hHeld ?_
   refine t1 18 fun K hK => ?_
   go_simp
   (with_reducible refine (CV.out _ (HF.out.keep HK.out) (Row.keep HP.out HK.out)).mono ?_)
   rintro e wx ⟨rfl, k3⟩
   show K _ _
   clear hHeld
   clear l0 l1 l2 m0 m1 m2 m3
   replace Bl := kept (Bl.out.keep k3 (by simp))
   replace Bm := kept (Bm.out.keep k3 (by simp))
   replace HK := kept (HK.out.and_then k3)
   obtain ⟨l0, l1, l2⟩ := Bl.out.c3
   obtain ⟨m0, m1, m2, m3⟩ := Bm.out.c4
   simp at l0 l1 l2 m0 m1 m2 m3
   clear k3
   refine hK.out _ _ ?bhS18 (fun hHeld => ?_)
   case bhS18 => exact ⟨l0, l1, l2, m0, m1, m2, m3⟩
   clear hK K
   try simp only [Act.put, sA, sB, sC]
   refine tp 19 33 rfl hHeld ?_
   refine tp 20 34 rfl hHeld ?_
   refine tp 21 13 rfl hHeld ?_
   refine wpAnyH_done (by kernel_rfl) ?_ _
   clear hHeld
   go_wp2
   go_ret
   exact ⟨ret_bool (by rw [HX.out]; simp), HK.out⟩
  | true =>
   go_enter Tryz.func91, Tryz.ntmps91
   go_wp2_with (go_at_call 97; refine (CM.out _).mono ?_; rintro e w3 ⟨rfl, k3⟩; clear l0 l1 l2 m0 m1 m2 m3; replace Bl := kept (Bl.out.keep k3 (by simp)); replace Bm := kept (Bm.out.keep k3 (by simp)); replace HK := kept (HK.out.and_then k3); obtain ⟨l0, l1, l2⟩ := Bl.out.c3; obtain ⟨m0, m1, m2, m3⟩ := Bm.out.c4; simp at l0 l1 l2 m0 m1 m2 m3; clear k3)
   refine wp_region_held_drew (S := (fun w' => w'.cell? ⟨w.heap.size, 0, none⟩ = some (.slice a0 nv c0) ∧ w'.cell? ⟨w.heap.size, 1, none⟩ = some (.slice a1 np c1) ∧ w'.cell? ⟨w.heap.size, 2, none⟩ = some (.slice a2 nb c2) ∧ w'.cell? ⟨w.heap.size + 1, 0, none⟩ = some (.int .i64 op) ∧ w'.cell? ⟨w.heap.size + 1, 1, none⟩ = some (.int .i64 dst) ∧ w'.cell? ⟨w.heap.size + 1, 2, none⟩ = some (.slice s1 na d1) ∧ w'.cell? ⟨w.heap.size + 1, 3, none⟩ = some (.int .i64 num))) (by kernel_rfl) ?chSs (fun hHeld => ?_)
   case chSs => exact ⟨l0, l1, l2, m0, m1, m2, m3⟩
   clear l0 l1 l2 m0 m1 m2 m3
   replace Bl := kept (Bl.out.keep ((Keeps.refl _ []).drew) (by simp))
   replace Bm := kept (Bm.out.keep ((Keeps.refl _ []).drew) (by simp))
   replace HK := kept (HK.out.drew)
   generalize World.drew _ = X0 at *
   obtain ⟨l0, l1, l2⟩ := Bl.out.c3
   obtain ⟨m0, m1, m2, m3⟩ := Bm.out.c4
   simp at l0 l1 l2 m0 m1 m2 m3
   refine tp 0 14 rfl hHeld ?_
   refine tp 1 15 rfl hHeld ?_
   refine t1 2 fun K hK => ?_
   go_simp
   (with_reducible refine (CW.out _).mono ?_)
   rintro e wx ⟨rfl, k3⟩
   show K _ _
   clear hHeld
   clear l0 l1 l2 m0 m1 m2 m3
   replace Bl := kept (Bl.out.keep k3 (by simp))
   replace Bm := kept (Bm.out.keep k3 (by simp))
   replace HK := kept (HK.out.and_then k3)
   obtain ⟨l0, l1, l2⟩ := Bl.out.c3
   obtain ⟨m0, m1, m2, m3⟩ := Bm.out.c4
   simp at l0 l1 l2 m0 m1 m2 m3
   clear k3
   refine hK.out _ _ ?chS2 (fun hHeld => ?_)
   case chS2 => exact ⟨l0, l1, l2, m0, m1, m2, m3⟩
   clear hK K
   try simp only [Act.put, sA, sB, sC]
   refine tp 3 17 rfl hHeld ?_
   refine tp 4 18 rfl hHeld ?_
   refine tp 5 19 rfl hHeld ?_
   refine tp 6 20 rfl hHeld ?_
   refine tp 7 21 rfl hHeld ?_
   refine tp 8 22 rfl hHeld ?_
   refine tp 9 23 rfl hHeld ?_
   refine t1 10 fun K hK => ?_
   go_simp
   (with_reducible refine (CT.out _).mono ?_)
   rintro e wx ⟨va5, vc5, rfl, k3⟩
   show K _ _
   clear hHeld
   clear l0 l1 l2 m0 m1 m2 m3
   replace Bl := kept (Bl.out.keep k3 (by simp))
   replace Bm := kept (Bm.out.keep k3 (by simp))
   replace HK := kept (HK.out.and_then k3)
   obtain ⟨l0, l1, l2⟩ := Bl.out.c3
   obtain ⟨m0, m1, m2, m3⟩ := Bm.out.c4
   simp at l0 l1 l2 m0 m1 m2 m3
   clear k3
   refine hK.out _ _ ?chS10 (fun hHeld => ?_)
   case chS10 => exact ⟨l0, l1, l2, m0, m1, m2, m3⟩
   clear hK K
   try simp only [Act.put, sA, sB, sC]
   refine tp 11 25 rfl hHeld ?_
   refine tp 12 26 rfl hHeld ?_
   refine tp 13 27 rfl hHeld ?_
   refine tp 14 28 rfl hHeld ?_
   refine tp 15 29 rfl hHeld ?_
   refine tp 16 30 rfl hHeld ?_
   refine tp 17 31 rfl hHeld ?_
   refine t1 18 fun K hK => ?_
   go_simp
   (with_reducible refine (CV.out _ (HF.out.keep HK.out) (Row.keep HP.out HK.out)).mono ?_)
   rintro e wx ⟨rfl, k3⟩
   show K _ _
   clear hHeld
   clear l0 l1 l2 m0 m1 m2 m3
   replace Bl := kept (Bl.out.keep k3 (by simp))
   replace Bm := kept (Bm.out.keep k3 (by simp))
   replace HK := kept (HK.out.and_then k3)
   obtain ⟨l0, l1, l2⟩ := Bl.out.c3
   obtain ⟨m0, m1, m2, m3⟩ := Bm.out.c4
   simp at l0 l1 l2 m0 m1 m2 m3
   clear k3
   refine hK.out _ _ ?chS18 (fun hHeld => ?_)
   case chS18 => exact ⟨l0, l1, l2, m0, m1, m2, m3⟩
   clear hK K
   try simp only [Act.put, sA, sB, sC]
   refine tp 19 33 rfl hHeld ?_
   refine tp 20 34 rfl hHeld ?_
   refine tp 21 13 rfl hHeld ?_
   refine wpAnyH_done (by kernel_rfl) ?_ _
   clear hHeld
   cases mb with
   | true =>
    cases D with
    | false =>
     go_wp2_with (first | (go_at_call 117; refine (CH.out _ (HF.out.keep HK.out)).mono ?_; rintro e w3 ⟨rfl, k3⟩; clear l0 l1 l2 m0 m1 m2 m3; replace Bl := kept (Bl.out.keep k3 (by simp)); replace Bm := kept (Bm.out.keep k3 (by simp)); replace HK := kept (HK.out.and_then k3); obtain ⟨l0, l1, l2⟩ := Bl.out.c3; obtain ⟨m0, m1, m2, m3⟩ := Bm.out.c4; simp at l0 l1 l2 m0 m1 m2 m3; clear k3) | (go_at_call 123; refine (CN.out _).mono ?_; rintro e w7 ⟨rfl, rfl⟩))
     go_ret
     exact ⟨ret_bool (by rw [HX.out]; simp), HK.out⟩
    | true =>
     rcases zero_or num with rfl | hz
     ·go_wp2_with (first | (go_at_call 117; refine (CH.out _ (HF.out.keep HK.out)).mono ?_; rintro e w3 ⟨rfl, k3⟩; clear l0 l1 l2 m0 m1 m2 m3; replace Bl := kept (Bl.out.keep k3 (by simp)); replace Bm := kept (Bm.out.keep k3 (by simp)); replace HK := kept (HK.out.and_then k3); obtain ⟨l0, l1, l2⟩ := Bl.out.c3; obtain ⟨m0, m1, m2, m3⟩ := Bm.out.c4; simp at l0 l1 l2 m0 m1 m2 m3; clear k3) | (go_at_call 123; refine (CN.out _).mono ?_; rintro e w7 ⟨rfl, rfl⟩))
      go_ret
      exact ⟨ret_bool (by rw [HX.out]; simp), HK.out⟩
     ·cases NU
      all_goals
       go_wp2_with (first | (go_at_call 117; refine (CH.out _ (HF.out.keep HK.out)).mono ?_; rintro e w3 ⟨rfl, k3⟩; clear l0 l1 l2 m0 m1 m2 m3; replace Bl := kept (Bl.out.keep k3 (by simp)); replace Bm := kept (Bm.out.keep k3 (by simp)); replace HK := kept (HK.out.and_then k3); obtain ⟨l0, l1, l2⟩ := Bl.out.c3; obtain ⟨m0, m1, m2, m3⟩ := Bm.out.c4; simp at l0 l1 l2 m0 m1 m2 m3; clear k3) | (go_at_call 123; refine (CN.out _).mono ?_; rintro e w7 ⟨rfl, rfl⟩))
       go_ret
       exact ⟨ret_bool (by rw [HX.out]; simp [hz]), HK.out⟩
   | false =>
    by_cases hd : dst = -1
    ·subst hd
     rcases zero_or num with rfl | hz
     ·go_wp2_with (first | (go_at_call 117; refine (CH.out _ (HF.out.keep HK.out)).mono ?_; rintro e w3 ⟨rfl, k3⟩; clear l0 l1 l2 m0 m1 m2 m3; replace Bl := kept (Bl.out.keep k3 (by simp)); replace Bm := kept (Bm.out.keep k3 (by simp)); replace HK := kept (HK.out.and_then k3); obtain ⟨l0, l1, l2⟩ := Bl.out.c3; obtain ⟨m0, m1, m2, m3⟩ := Bm.out.c4; simp at l0 l1 l2 m0 m1 m2 m3; clear k3) | (go_at_call 123; refine (CN.out _).mono ?_; rintro e w7 ⟨rfl, rfl⟩))
      go_ret
      exact ⟨ret_bool (by rw [HX.out]; simp), HK.out⟩
     ·cases NU
      all_goals
       go_wp2_with (first | (go_at_call 117; refine (CH.out _ (HF.out.keep HK.out)).mono ?_; rintro e w3 ⟨rfl, k3⟩; clear l0 l1 l2 m0 m1 m2 m3; replace Bl := kept (Bl.out.keep k3 (by simp)); replace Bm := kept (Bm.out.keep k3 (by simp)); replace HK := kept (HK.out.and_then k3); obtain ⟨l0, l1, l2⟩ := Bl.out.c3; obtain ⟨m0, m1, m2, m3⟩ := Bm.out.c4; simp at l0 l1 l2 m0 m1 m2 m3; clear k3) | (go_at_call 123; refine (CN.out _).mono ?_; rintro e w7 ⟨rfl, rfl⟩))
       go_ret
       exact ⟨ret_bool (by rw [HX.out]; simp [hz]), HK.out⟩
    ·have hd1 : (dst == -1) = false := by simpa using hd
     have hd2 : (dst != -1) = true := by simpa using hd
     clear hd
     go_wp2_with (first | (go_at_call 117; refine (CH.out _ (HF.out.keep HK.out)).mono ?_; rintro e w3 ⟨rfl, k3⟩; clear l0 l1 l2 m0 m1 m2 m3; replace Bl := kept (Bl.out.keep k3 (by simp)); replace Bm := kept (Bm.out.keep k3 (by simp)); replace HK := kept (HK.out.and_then k3); obtain ⟨l0, l1, l2⟩ := Bl.out.c3; obtain ⟨m0, m1, m2, m3⟩ := Bm.out.c4; simp at l0 l1 l2 m0 m1 m2 m3; clear k3) | (go_at_call 123; refine (CN.out _).mono ?_; rintro e w7 ⟨rfl, rfl⟩))
     go_ret
     exact ⟨ret_bool (by rw [HX.out]; simp [hd1]), HK.out⟩
 ·have n1 : ((na : Int) != (nt : Int)) = true := by simp; omega
  have n2 : (na == nt) = false := by simpa using hl
  clear hl
  go_enter Tryz.func91, Tryz.ntmps91
  go_wp2_with (go_at_call 97; refine (CM.out _).mono ?_; rintro e w3 ⟨rfl, k3⟩; clear l0 l1 l2 m0 m1 m2 m3; replace Bl := kept (Bl.out.keep k3 (by simp)); replace Bm := kept (Bm.out.keep k3 (by simp)); replace HK := kept (HK.out.and_then k3); obtain ⟨l0, l1, l2⟩ := Bl.out.c3; obtain ⟨m0, m1, m2, m3⟩ := Bm.out.c4; simp at l0 l1 l2 m0 m1 m2 m3; clear k3)
  refine wp_region_held_drew (S := (fun w' => w'.cell? ⟨w.heap.size, 0, none⟩ = some (.slice a0 nv c0) ∧ w'.cell? ⟨w.heap.size, 1, none⟩ = some (.slice a1 np c1) ∧ w'.cell? ⟨w.heap.size, 2, none⟩ = some (.slice a2 nb c2) ∧ w'.cell? ⟨w.heap.size + 1, 0, none⟩ = some (.int .i64 op) ∧ w'.cell? ⟨w.heap.size + 1, 1, none⟩ = some (.int .i64 dst) ∧ w'.cell? ⟨w.heap.size + 1, 2, none⟩ = some (.slice s1 na d1) ∧ w'.cell? ⟨w.heap.size + 1, 3, none⟩ = some (.int .i64 num))) (by kernel_rfl) ?dhSs (fun hHeld => ?_)
  case dhSs => exact ⟨l0, l1, l2, m0, m1, m2, m3⟩
  clear l0 l1 l2 m0 m1 m2 m3
  replace Bl := kept (Bl.out.keep ((Keeps.refl _ []).drew) (by simp))
  replace Bm := kept (Bm.out.keep ((Keeps.refl _ []).drew) (by simp))
  replace HK := kept (HK.out.drew)
  generalize World.drew _ = X0 at *
  obtain ⟨l0, l1, l2⟩ := Bl.out.c3
  obtain ⟨m0, m1, m2, m3⟩ := Bm.out.c4
  simp at l0 l1 l2 m0 m1 m2 m3
  refine tp 0 14 rfl hHeld ?_
  refine tp 1 15 rfl hHeld ?_
  refine t1 2 fun K hK => ?_
  go_simp
  (with_reducible refine (CW.out _).mono ?_)
  rintro e wx ⟨rfl, k3⟩
  show K _ _
  clear hHeld
  clear l0 l1 l2 m0 m1 m2 m3
  replace Bl := kept (Bl.out.keep k3 (by simp))
  replace Bm := kept (Bm.out.keep k3 (by simp))
  replace HK := kept (HK.out.and_then k3)
  obtain ⟨l0, l1, l2⟩ := Bl.out.c3
  obtain ⟨m0, m1, m2, m3⟩ := Bm.out.c4
  simp at l0 l1 l2 m0 m1 m2 m3
  clear k3
  refine hK.out _ _ ?dhS2 (fun hHeld => ?_)
  case dhS2 => exact ⟨l0, l1, l2, m0, m1, m2, m3⟩
  clear hK K
  try simp only [Act.put, sA, sB, sC]
  refine tp 3 17 rfl hHeld ?_
  refine tp 4 18 rfl hHeld ?_
  refine tp 5 19 rfl hHeld ?_
  refine tp 6 20 rfl hHeld ?_
  refine tp 7 21 rfl hHeld ?_
  refine tp 8 22 rfl hHeld ?_
  refine tp 9 23 rfl hHeld ?_
  refine t1 10 fun K hK => ?_
  go_simp
  (with_reducible refine (CT.out _).mono ?_)
  rintro e wx ⟨va5, vc5, rfl, k3⟩
  show K _ _
  clear hHeld
  clear l0 l1 l2 m0 m1 m2 m3
  replace Bl := kept (Bl.out.keep k3 (by simp))
  replace Bm := kept (Bm.out.keep k3 (by simp))
  replace HK := kept (HK.out.and_then k3)
  obtain ⟨l0, l1, l2⟩ := Bl.out.c3
  obtain ⟨m0, m1, m2, m3⟩ := Bm.out.c4
  simp at l0 l1 l2 m0 m1 m2 m3
  clear k3
  refine hK.out _ _ ?dhS10 (fun hHeld => ?_)
  case dhS10 => exact ⟨l0, l1, l2, m0, m1, m2, m3⟩
  clear hK K
  try simp only [Act.put, sA, sB, sC]
  refine tp 11 25 rfl hHeld ?_
  refine tp 12 26 rfl hHeld ?_
  refine tp 13 27 rfl hHeld ?_
  refine tp 14 28 rfl hHeld ?_
  refine tu 15 ⟨some 29, .load 26 (.tmp 2), _, _, _, _⟩ rfl hHeld ?_
  refine tu 16 ⟨some 30, .fieldAddr 43 (.tmp 3) 2, _, _, _, _⟩ rfl hHeld ?_
  refine tu 17 ⟨some 31, .load 23 (.tmp 30), _, _, _, _⟩ rfl hHeld ?_
  refine tu 18 ⟨some 32, .call ⟨.value (.func 118), #[.tmp 29, .tmp 31], #[26, 23]⟩, _, _, _, _⟩ rfl hHeld ?_
  refine tu 19 ⟨some 33, .unOp UnOp.not 4 (.tmp 32), _, _, _, _⟩ rfl hHeld ?_
  refine tp 20 34 rfl hHeld ?_
  refine tp 21 13 rfl hHeld ?_
  refine wpAnyH_done (by kernel_rfl) ?_ _
  clear hHeld
  go_wp2
  go_ret
  exact ⟨ret_bool (by rw [HX.out, n2]; simp), HK.out⟩
theorem inst_any (f : FuncM) (x : InstM) (w : World) (hf : FuncAt w f) (hp : InstAt w x) : Calls Tryz.prog 91 #[f.val, .agg #[.int .i64 x.op, .int .i64 x.dst, x.args.1, .int .i64 x.num]] w fun e w' => e = .returned (.bool (instB f x)) ∧ Keeps w w' [] := by
 by_cases h : x.op < 0 ∨ 27 ≤ x.op
 ·exact inst_out f x w hf hp h
 ·exact inst_in f x x.op.toNat (by omega) (by omega) w hf hp
end Go.Proofs.YtjllbchfojonhaaGreatDoor
