/- Package typing: inst; contract. ; Package typing: term, Typed, Slot; contracts. ; A little program; contract. -/
import Derived.Test.YtjllbchfojonhaaGreatDoorSH
namespace Go.Proofs.YtjllbchfojonhaaGreatDoor
open Go.RowKit
set_option linter.unusedVariables false
set_option linter.unusedSimpArgs false
theorem tcells_bang (s : ByteArray) (j : Nat) (hj : j < s.size) : (tcells s s.size)[j]? = some (.int .i64 (tsign (s.data.toList[j]!).toNat)) := by
 have h' : j < s.data.toList.length := by rw [Array.length_toList]; exact hj
 unfold tcells
 rw [List.getElem?_map, List.getElem?_take, if_pos hj, List.getElem?_eq_getElem h', getElem!_pos s.data.toList j h']
 rfl
theorem takes_open (k : Nat) (hk : k < 27) (w : World) : Calls Tryz.prog 74 #[.int .i64 k] w fun e w' => ∃ va vc, e = .returned (.slice va (ktakes k).size vc) ∧ Keeps w w' [] ∧ ∀ j, j < (ktakes k).size → ∃ g, va = some ⟨g, 0, none⟩ ∧ w'.cell? ⟨g, j, none⟩ = some (.int .i64 (tkT k j)) := by
 refine (takes_in k hk w).mono ?_
 rintro e w' ⟨v, rfl, ho, k1⟩
 rcases ho.2 with ⟨rfl, h0⟩ | ⟨g, cap, cur, rfl, h1, h2, h3, h4, h5, h6⟩
 ·exact ⟨none, 0, by rw [h0], k1, fun j hj => absurd hj (by omega)⟩
 ·refine ⟨_, _, rfl, k1, fun j hj => ⟨g, rfl, ?_⟩⟩
  rw [Blk.cell h2 j, ← Array.getElem?_toList]
  have := tcells_bang (ktakes k) j hj
  rw [← h6, List.getElem?_take] at this
  split at this
  ·exact this
  ·cases this
set_option maxRecDepth 100000 in
set_option maxHeartbeats 4000000 in
theorem tinst_copy (f : FuncM) (x : InstM) (w : World) (hf : FuncAt w f) (hp : InstAt w x) (ho : x.op = 1) (hl : x.args.2.length = 1) (ha : inB x.args.2[0]! f.nv = true) (hd : inB x.dst f.nv = true) :
  Calls Tryz.prog 56 #[f.val, .agg #[.int .i64 x.op, .int .i64 x.dst, x.args.1, .int .i64 x.num]] w fun e w' => e = .returned (.bool (tinstB f x)) ∧ Keeps w w' [] := by
 have CA := kept (fun w => any_any 1 w)
 have CD := kept (fun w h => kindI f x.dst w h hd)
 have C0 := kept (fun w h => kindI f x.args.2[0]! w h ha)
 have HX := kept (show tinstB f x = (f.tyI x.dst == f.tyI x.args.2[0]!) by unfold tinstB; rw [if_pos ho])
 obtain ⟨a0, c0, a1, c1, a2, c2, hval, h1⟩ := hf.opened
 obtain ⟨s1, d1, e3, hl1, hl2, hc⟩ := IntsAt.open_ hp
 have HF := kept hf
 rcases hc with hc | ⟨rb, ro, rfl, hrb, hc⟩
 ·omega
 have N0 := kept (hc 0 (by omega))
 rw [Nat.add_zero] at N0
 rw [hval] at CD C0 ⊢
 rw [e3, hl, ho, HX.out]
 clear hf hp ho hl ha hd HX hval h1 e3 hl1 hl2 hc
 generalize f.tyI x.dst = zd at *
 generalize f.tyI x.args.2[0]! = za at *
 generalize x.args.2[0]! = z0 at *
 generalize f.nv = nv at *
 generalize f.np = np at *
 generalize f.nb = nb at *
 generalize x.dst = dst at *
 generalize x.num = num at *
 have hk0 : Keeps w (w.alloc (.cells #[.slice a0 nv c0, .slice a1 np c1, .slice a2 nb c2] 26)) [] := (Keeps.refl _ []).alloc _
 have bb0 := Blk.new w 26 #[.slice a0 nv c0, .slice a1 np c1, .slice a2 nb c2]
 have hk1 : Keeps (w.alloc (.cells #[.slice a0 nv c0, .slice a1 np c1, .slice a2 nb c2] 26)) ((w.alloc (.cells #[.slice a0 nv c0, .slice a1 np c1, .slice a2 nb c2] 26)).alloc (.cells #[.int .i64 1, .int .i64 dst, .slice (some ⟨rb, ro, none⟩) 1 d1, .int .i64 num] 43)) [] := (Keeps.refl _ []).alloc _
 have bb1 := Blk.new (w.alloc (.cells #[.slice a0 nv c0, .slice a1 np c1, .slice a2 nb c2] 26)) 43 #[.int .i64 1, .int .i64 dst, .slice (some ⟨rb, ro, none⟩) 1 d1, .int .i64 num]
 rw [show (w.alloc (.cells #[.slice a0 nv c0, .slice a1 np c1, .slice a2 nb c2] 26)).heap.size = w.heap.size + 1 by show (Array.push _ _).size = _; simp [Array.size_push]] at bb1
 have Bl := kept (bb0.keep hk1 (by simp))
 have Bm := kept bb1
 have HK := kept (hk0.and_then hk1)
 obtain ⟨l0, l1, l2⟩ := Bl.out.c3
 obtain ⟨m0, m1, m2, m3⟩ := Bm.out.c4
 simp at l0 l1 l2 m0 m1 m2 m3
 have n0 := HK.out.cellOf N0.out
 clear hk0 hk1 bb0 bb1
 go_enter Tryz.func56, Tryz.ntmps56
 go_wp2_with (go_at_call 96; refine (CA.out _).mono ?_; rintro e w3 ⟨rfl, rfl⟩)
 clear l0 l1 l2 m0 m1 m2 m3 n0
 generalize ((w.alloc (.cells #[.slice a0 nv c0, .slice a1 np c1, .slice a2 nb c2] 26)).alloc (.cells #[.int .i64 1, .int .i64 dst, .slice (some ⟨rb, ro, none⟩) 1 d1, .int .i64 num] 43)) = W0 at *
 obtain ⟨l0, l1, l2⟩ := Bl.out.c3
 obtain ⟨m0, m1, m2, m3⟩ := Bm.out.c4
 simp at l0 l1 l2 m0 m1 m2 m3
 have n0 := HK.out.cellOf N0.out
 refine wp_region_held_drew (S := (fun w' => w'.cell? ⟨w.heap.size, 0, none⟩ = some (.slice a0 nv c0) ∧ w'.cell? ⟨w.heap.size, 1, none⟩ = some (.slice a1 np c1) ∧ w'.cell? ⟨w.heap.size, 2, none⟩ = some (.slice a2 nb c2) ∧ w'.cell? ⟨w.heap.size + 1, 0, none⟩ = some (.int .i64 1) ∧ w'.cell? ⟨w.heap.size + 1, 1, none⟩ = some (.int .i64 dst) ∧ w'.cell? ⟨w.heap.size + 1, 2, none⟩ = some (.slice (some ⟨rb, ro, none⟩) 1 d1) ∧ w'.cell? ⟨w.heap.size + 1, 3, none⟩ = some (.int .i64 num) ∧ w'.cell? ⟨rb, ro, none⟩ = some (.int .i64 z0))) (by kernel_rfl) ?ahSs (fun hHeld => ?_)
 case ahSs => exact ⟨l0, l1, l2, m0, m1, m2, m3, n0⟩
 clear l0 l1 l2 m0 m1 m2 m3 n0
 replace Bl := kept (Bl.out.keep ((Keeps.refl _ []).drew) (by simp))
 replace Bm := kept (Bm.out.keep ((Keeps.refl _ []).drew) (by simp))
 replace HK := kept (HK.out.drew)
 generalize World.drew _ = X0 at *
 obtain ⟨l0, l1, l2⟩ := Bl.out.c3
 obtain ⟨m0, m1, m2, m3⟩ := Bm.out.c4
 simp at l0 l1 l2 m0 m1 m2 m3
 have n0 := HK.out.cellOf N0.out
 refine tp 0 12 rfl hHeld ?_
 refine tp 1 13 rfl hHeld ?_
 refine tp 2 14 rfl hHeld ?_
 refine tp 4 16 rfl hHeld ?_
 refine tp 5 17 rfl hHeld ?_
 refine tp 6 18 rfl hHeld ?_
 refine tp 7 19 rfl hHeld ?_
 refine tp 8 20 rfl hHeld ?_
 refine t1 3 fun K hK => ?_
 go_simp
 (with_reducible refine (CD.out _ (HF.out.keep HK.out)).mono ?_)
 rintro e wx ⟨rfl, k3⟩
 show K _ _
 clear hHeld
 clear l0 l1 l2 m0 m1 m2 m3 n0
 replace Bl := kept (Bl.out.keep k3 (by simp))
 replace Bm := kept (Bm.out.keep k3 (by simp))
 replace HK := kept (HK.out.and_then k3)
 obtain ⟨l0, l1, l2⟩ := Bl.out.c3
 obtain ⟨m0, m1, m2, m3⟩ := Bm.out.c4
 simp at l0 l1 l2 m0 m1 m2 m3
 have n0 := HK.out.cellOf N0.out
 clear k3
 refine hK.out _ _ ?ahS3 (fun hHeld => ?_)
 case ahS3 => exact ⟨l0, l1, l2, m0, m1, m2, m3, n0⟩
 clear hK K
 try simp only [Act.put, sA, sB, sC]
 refine t1 9 fun K hK => ?_
 go_simp
 (with_reducible refine (C0.out _ (HF.out.keep HK.out)).mono ?_)
 rintro e wx ⟨rfl, k3⟩
 show K _ _
 clear hHeld
 clear l0 l1 l2 m0 m1 m2 m3 n0
 replace Bl := kept (Bl.out.keep k3 (by simp))
 replace Bm := kept (Bm.out.keep k3 (by simp))
 replace HK := kept (HK.out.and_then k3)
 obtain ⟨l0, l1, l2⟩ := Bl.out.c3
 obtain ⟨m0, m1, m2, m3⟩ := Bm.out.c4
 simp at l0 l1 l2 m0 m1 m2 m3
 have n0 := HK.out.cellOf N0.out
 clear k3
 refine hK.out _ _ ?ahS9 (fun hHeld => ?_)
 case ahS9 => exact ⟨l0, l1, l2, m0, m1, m2, m3, n0⟩
 clear hK K
 try simp only [Act.put, sA, sB, sC]
 refine tp 10 22 rfl hHeld ?_
 refine tp 11 4 rfl hHeld ?_
 refine wpAnyH_done (by kernel_rfl) ?_ _
 clear hHeld
 go_wp2
 go_ret
 exact ⟨rfl, HK.out⟩
set_option maxRecDepth 100000 in
set_option maxHeartbeats 4000000 in
theorem tinst_more (f : FuncM) (x : InstM) (k : Nat) (hk : k < 27) (ho : x.op = k) (h1n : ((k : Int) == 1) = false) (w : World) (hf : FuncAt w f) (hp : InstAt w x) (hl : x.args.2.length = (ktakes k).size) (ha : ∀ a ∈ x.args.2, inB a f.nv = true) (hd : mk1 k = true → inB x.dst f.nv = true) :
  Calls Tryz.prog 56 #[f.val, .agg #[.int .i64 x.op, .int .i64 x.dst, x.args.1, .int .i64 x.num]] w fun e w' => e = .returned (.bool (tinstB f x)) ∧ Keeps w w' [] := by
 have CA := kept (fun w => any_any (k : Int) w)
 have CT := kept (fun w => takes_open k hk w)
 have CM := kept (fun w => makes_in k hk w)
 have CD := kept (fun w h h2 => kindI f x.dst w h (hd h2))
 have CAr := kept (fun j (hj : j < (ktakes k).size) w h => kindI f x.args.2[j]! w h (ha _ (bang_mem (by rw [hl]; exact hj))))
 have HX := kept (show tinstB f x = ((allR (ktakes k).size fun i => f.tyI x.args.2[i]! == tkT k i) && (!(mk1 k) || f.tyI x.dst == mkT k)) by
  unfold tinstB
  rw [if_neg (by rw [ho]; simpa using h1n), ho]
  rfl)
 obtain ⟨a0, c0, a1, c1, a2, c2, hval, h1⟩ := hf.opened
 obtain ⟨s1, d1, e3, hl1, hl2, hc⟩ := IntsAt.open_ hp
 have HF := kept hf
 rw [hval] at CD CAr ⊢
 have hnaB : (ktakes k).size ≤ 100 := (takes_small k hk).1
 rw [hl] at hc
 have HC := kept hc
 rw [e3, hl, ho]
 clear hf hp ha hd hval h1 e3 hl1 hl2 hc hl ho hk
 generalize tinstB f x = TB at *
 generalize (ktakes k).size = na at *
 generalize mkT (k : Int) = mt at *
 generalize mk1 (k : Int) = mb at *
 generalize htk : tkT (k : Int) = tk at *
 clear htk
 generalize hop : (k : Int) = op at *
 clear hop
 generalize f.nv = nv at *
 generalize f.np = np at *
 generalize f.nb = nb at *
 generalize hzd : f.tyI x.dst = zd at *
 clear hzd
 generalize x.dst = dst at *
 generalize x.num = num at *
 have hk0 : Keeps w (w.alloc (.cells #[.slice a0 nv c0, .slice a1 np c1, .slice a2 nb c2] 26)) [] := (Keeps.refl _ []).alloc _
 have bb0 := Blk.new w 26 #[.slice a0 nv c0, .slice a1 np c1, .slice a2 nb c2]
 have hk1 : Keeps (w.alloc (.cells #[.slice a0 nv c0, .slice a1 np c1, .slice a2 nb c2] 26)) ((w.alloc (.cells #[.slice a0 nv c0, .slice a1 np c1, .slice a2 nb c2] 26)).alloc (.cells #[.int .i64 op, .int .i64 dst, .slice s1 na d1, .int .i64 num] 43)) [] := (Keeps.refl _ []).alloc _
 have bb1 := Blk.new (w.alloc (.cells #[.slice a0 nv c0, .slice a1 np c1, .slice a2 nb c2] 26)) 43 #[.int .i64 op, .int .i64 dst, .slice s1 na d1, .int .i64 num]
 rw [show (w.alloc (.cells #[.slice a0 nv c0, .slice a1 np c1, .slice a2 nb c2] 26)).heap.size = w.heap.size + 1 by show (Array.push _ _).size = _; simp [Array.size_push]] at bb1
 have Bl := kept (bb0.keep hk1 (by simp))
 have Bm := kept bb1
 have HK := kept (hk0.and_then hk1)
 obtain ⟨l0, l1, l2⟩ := Bl.out.c3
 obtain ⟨m0, m1, m2, m3⟩ := Bm.out.c4
 simp at l0 l1 l2 m0 m1 m2 m3
 clear hk0 hk1 bb0 bb1
 go_enter Tryz.func56, Tryz.ntmps56
 go_wp2_with (first | (go_at_call 96; refine (CA.out _).mono ?_; rintro e w3 ⟨rfl, rfl⟩) | (go_at_call 74; refine (CT.out _).mono ?_; rintro e w3 ⟨va, vc, rfl, k3, hv3⟩; have HV := kept hv3; clear hv3; clear l0 l1 l2 m0 m1 m2 m3; replace Bl := kept (Bl.out.keep k3 (by simp)); replace Bm := kept (Bm.out.keep k3 (by simp)); replace HK := kept (HK.out.and_then k3); obtain ⟨l0, l1, l2⟩ := Bl.out.c3; obtain ⟨m0, m1, m2, m3⟩ := Bm.out.c4; simp at l0 l1 l2 m0 m1 m2 m3; clear k3))
 clear CA CT
 have HKA := HK
 have HF3 := kept (HF.out.keep HK.out)
 clear HK
 have HK := kept (Keeps.refl w3 [])
 go_loopw [27] (fun i wr => ∃ kk : Nat, kk ≤ na ∧ i = .int .i64 kk ∧ Keeps w3 wr [] ∧ Hid (∀ j, j < kk → (f.tyI x.args.2[j]! == tk j) = true)) (fun i _ => na - (intOf i).toNat)
 case atStart => exact ⟨0, Nat.zero_le _, rfl, Keeps.refl _ _, fun j hj => absurd hj (Nat.not_lt_zero _)⟩
 case round =>
  obtain ⟨kk, hkk, rfl, hr, A⟩ := hrel
  have HR := kept hr
  clear hr
  by_cases hlt : kk < na
  ·have hltz : (kk : Int) < (na : Int) := by omega
   have k3 := HR.out
   clear l0 l1 l2 m0 m1 m2 m3; replace Bl := kept (Bl.out.keep k3 (by simp)); replace Bm := kept (Bm.out.keep k3 (by simp)); replace HK := kept (HK.out.and_then k3); obtain ⟨l0, l1, l2⟩ := Bl.out.c3; obtain ⟨m0, m1, m2, m3⟩ := Bm.out.c4; simp at l0 l1 l2 m0 m1 m2 m3; clear k3
   obtain ⟨g, rfl, hgc⟩ := HV.out kk hlt
   have g0 := HR.out.cellOf hgc
   rcases HC.out with hc | ⟨rb, ro, rfl, hrb, hc⟩
   ·omega
   have N0 := kept (HKA.out.cellOf (hc kk hlt))
   have C0 := fun w h => CAr.out kk hlt w h
   clear hc hgc
   have HT := kept (show f.tyI x.args.2[kk]! = f.tyI x.args.2[kk]! from rfl)
   generalize htq : tk kk = tq at *
   have HTQ := kept htq
   clear htq
   generalize hzq : f.tyI x.args.2[kk]! = zq at *
   have HZQ := kept hzq
   clear hzq HT
   generalize hzk : x.args.2[kk]! = zk at *
   have HZK := kept hzk
   clear hzk
   have n0 := HK.out.cellOf N0.out
   have hbq : (zq != tq) = !(zq == tq) := rfl
   cases hq : (zq == tq) with
   | false =>
    rw [hq] at hbq
    go_wp2_with fail
    refine wp_region_held_drew (S := (fun w' => w'.cell? ⟨w.heap.size, 0, none⟩ = some (.slice a0 nv c0) ∧ w'.cell? ⟨w.heap.size, 1, none⟩ = some (.slice a1 np c1) ∧ w'.cell? ⟨w.heap.size, 2, none⟩ = some (.slice a2 nb c2) ∧ w'.cell? ⟨w.heap.size + 1, 0, none⟩ = some (.int .i64 op) ∧ w'.cell? ⟨w.heap.size + 1, 1, none⟩ = some (.int .i64 dst) ∧ w'.cell? ⟨w.heap.size + 1, 2, none⟩ = some (.slice (some ⟨rb, ro, none⟩) na d1) ∧ w'.cell? ⟨w.heap.size + 1, 3, none⟩ = some (.int .i64 num) ∧ w'.cell? ⟨rb, ro + kk, none⟩ = some (.int .i64 zk))) (by kernel_rfl) ?bhSs (fun hHeld => ?_)
    case bhSs => exact ⟨l0, l1, l2, m0, m1, m2, m3, n0⟩
    clear l0 l1 l2 m0 m1 m2 m3 n0
    replace Bl := kept (Bl.out.keep ((Keeps.refl _ []).drew) (by simp))
    replace Bm := kept (Bm.out.keep ((Keeps.refl _ []).drew) (by simp))
    replace HK := kept (HK.out.drew)
    generalize World.drew _ = X0 at *
    obtain ⟨l0, l1, l2⟩ := Bl.out.c3
    obtain ⟨m0, m1, m2, m3⟩ := Bm.out.c4
    simp at l0 l1 l2 m0 m1 m2 m3
    have n0 := HK.out.cellOf N0.out
    refine tp 0 32 rfl hHeld ?_
    refine tp 1 33 rfl hHeld ?_
    refine tp 2 34 rfl hHeld ?_
    refine tp 3 35 rfl hHeld ?_
    refine tp 4 36 rfl hHeld ?_
    refine tp 5 37 rfl hHeld ?_
    refine tp 7 39 rfl hHeld ?_
    refine t1 6 fun K hK => ?_
    go_simp
    (with_reducible refine (C0 _ (HF3.out.keep HK.out)).mono ?_)
    rintro e wx ⟨rfl, k3⟩
    show K _ _
    clear hHeld
    clear l0 l1 l2 m0 m1 m2 m3 n0
    replace Bl := kept (Bl.out.keep k3 (by simp))
    replace Bm := kept (Bm.out.keep k3 (by simp))
    replace HK := kept (HK.out.and_then k3)
    obtain ⟨l0, l1, l2⟩ := Bl.out.c3
    obtain ⟨m0, m1, m2, m3⟩ := Bm.out.c4
    simp at l0 l1 l2 m0 m1 m2 m3
    have n0 := HK.out.cellOf N0.out
    clear k3
    refine hK.out _ _ ?bhS6 (fun hHeld => ?_)
    case bhS6 => exact ⟨l0, l1, l2, m0, m1, m2, m3, n0⟩
    clear hK K
    try simp only [Act.put, sA, sB, sC]
    refine tp 8 40 rfl hHeld ?_
    refine wpAnyH_done (by kernel_rfl) ?_ _
    clear hHeld
    go_wp2
    go_ret
    exact ⟨ret_bool (by rw [HX.out, allR_no hlt (by rw [HZK.out, HZQ.out, HTQ.out]; exact hq)]; rfl), HKA.out.and_then HK.out⟩
   | true =>
    rw [hq] at hbq
    go_wp2_with fail
    refine wp_region_held_drew (S := (fun w' => w'.cell? ⟨w.heap.size, 0, none⟩ = some (.slice a0 nv c0) ∧ w'.cell? ⟨w.heap.size, 1, none⟩ = some (.slice a1 np c1) ∧ w'.cell? ⟨w.heap.size, 2, none⟩ = some (.slice a2 nb c2) ∧ w'.cell? ⟨w.heap.size + 1, 0, none⟩ = some (.int .i64 op) ∧ w'.cell? ⟨w.heap.size + 1, 1, none⟩ = some (.int .i64 dst) ∧ w'.cell? ⟨w.heap.size + 1, 2, none⟩ = some (.slice (some ⟨rb, ro, none⟩) na d1) ∧ w'.cell? ⟨w.heap.size + 1, 3, none⟩ = some (.int .i64 num) ∧ w'.cell? ⟨rb, ro + kk, none⟩ = some (.int .i64 zk))) (by kernel_rfl) ?chSs (fun hHeld => ?_)
    case chSs => exact ⟨l0, l1, l2, m0, m1, m2, m3, n0⟩
    clear l0 l1 l2 m0 m1 m2 m3 n0
    replace Bl := kept (Bl.out.keep ((Keeps.refl _ []).drew) (by simp))
    replace Bm := kept (Bm.out.keep ((Keeps.refl _ []).drew) (by simp))
    replace HK := kept (HK.out.drew)
    generalize World.drew _ = X0 at *
    obtain ⟨l0, l1, l2⟩ := Bl.out.c3
    obtain ⟨m0, m1, m2, m3⟩ := Bm.out.c4
    simp at l0 l1 l2 m0 m1 m2 m3
    have n0 := HK.out.cellOf N0.out
    refine tp 0 32 rfl hHeld ?_
    refine tp 1 33 rfl hHeld ?_
    refine tp 2 34 rfl hHeld ?_
    refine tp 3 35 rfl hHeld ?_
    refine tp 4 36 rfl hHeld ?_
    refine tp 5 37 rfl hHeld ?_
    refine tp 7 39 rfl hHeld ?_
    refine t1 6 fun K hK => ?_
    go_simp
    (with_reducible refine (C0 _ (HF3.out.keep HK.out)).mono ?_)
    rintro e wx ⟨rfl, k3⟩
    show K _ _
    clear hHeld
    clear l0 l1 l2 m0 m1 m2 m3 n0
    replace Bl := kept (Bl.out.keep k3 (by simp))
    replace Bm := kept (Bm.out.keep k3 (by simp))
    replace HK := kept (HK.out.and_then k3)
    obtain ⟨l0, l1, l2⟩ := Bl.out.c3
    obtain ⟨m0, m1, m2, m3⟩ := Bm.out.c4
    simp at l0 l1 l2 m0 m1 m2 m3
    have n0 := HK.out.cellOf N0.out
    clear k3
    refine hK.out _ _ ?chS6 (fun hHeld => ?_)
    case chS6 => exact ⟨l0, l1, l2, m0, m1, m2, m3, n0⟩
    clear hK K
    try simp only [Act.put, sA, sB, sC]
    refine tp 8 40 rfl hHeld ?_
    refine wpAnyH_done (by kernel_rfl) ?_ _
    clear hHeld
    go_wp2
    go_roundw
    case rel =>
     refine ⟨kk + 1, by omega, by go_num, HK.out, (show Hid _ from fun j hj => ?_)⟩
     by_cases e : j = kk
     ·subst e; rw [HZK.out, HZQ.out, HTQ.out]; exact hq
     ·exact A.out j (by omega)
    case measure => simp [intOf]; omega
  ·have hltz : ¬ (kk : Int) < (na : Int) := by omega
   obtain rfl : na = kk := by omega
   have k3 := HR.out
   clear l0 l1 l2 m0 m1 m2 m3; replace Bl := kept (Bl.out.keep k3 (by simp)); replace Bm := kept (Bm.out.keep k3 (by simp)); replace HK := kept (HK.out.and_then k3); obtain ⟨l0, l1, l2⟩ := Bl.out.c3; obtain ⟨m0, m1, m2, m3⟩ := Bm.out.c4; simp at l0 l1 l2 m0 m1 m2 m3; clear k3
   have HXX := kept (show TB = (!mb || zd == mt) by rw [HX.out, allR_yes A.out]; rfl)
   clear HX A HC HV CAr
   cases mb with
   | false =>
    clear CD
    go_wp2_with (go_at_call 97; refine (CM.out _).mono ?_; rintro e w4 ⟨rfl, k3⟩; clear l0 l1 l2 m0 m1 m2 m3; replace Bl := kept (Bl.out.keep k3 (by simp)); replace Bm := kept (Bm.out.keep k3 (by simp)); replace HK := kept (HK.out.and_then k3); obtain ⟨l0, l1, l2⟩ := Bl.out.c3; obtain ⟨m0, m1, m2, m3⟩ := Bm.out.c4; simp at l0 l1 l2 m0 m1 m2 m3; clear k3)
    go_ret
    exact ⟨ret_bool (by rw [HXX.out]; rfl), HKA.out.and_then HK.out⟩
   | true =>
    have CD2 := kept (fun w h => CD.out w h rfl)
    clear CD
    go_wp2_with (first | (go_at_call 97; refine (CM.out _).mono ?_; rintro e w4 ⟨rfl, k3⟩; clear l0 l1 l2 m0 m1 m2 m3; replace Bl := kept (Bl.out.keep k3 (by simp)); replace Bm := kept (Bm.out.keep k3 (by simp)); replace HK := kept (HK.out.and_then k3); obtain ⟨l0, l1, l2⟩ := Bl.out.c3; obtain ⟨m0, m1, m2, m3⟩ := Bm.out.c4; simp at l0 l1 l2 m0 m1 m2 m3; clear k3) | (go_at_call 95; refine (CD2.out _ (HF3.out.keep HK.out)).mono ?_; rintro e w4 ⟨rfl, k3⟩; clear l0 l1 l2 m0 m1 m2 m3; replace Bl := kept (Bl.out.keep k3 (by simp)); replace Bm := kept (Bm.out.keep k3 (by simp)); replace HK := kept (HK.out.and_then k3); obtain ⟨l0, l1, l2⟩ := Bl.out.c3; obtain ⟨m0, m1, m2, m3⟩ := Bm.out.c4; simp at l0 l1 l2 m0 m1 m2 m3; clear k3))
    go_ret
    exact ⟨ret_bool (by rw [HXX.out]; simp), HKA.out.and_then HK.out⟩
theorem tinst_any (f : FuncM) (x : InstM) (w : World) (hf : FuncAt w f) (hp : InstAt w x) (hi : instB f x = true) :
  Calls Tryz.prog 56 #[f.val, .agg #[.int .i64 x.op, .int .i64 x.dst, x.args.1, .int .i64 x.num]] w fun e w' => e = .returned (.bool (tinstB f x)) ∧ Keeps w w' [] := by
 unfold instB at hi
 simp only [Bool.and_eq_true, decide_eq_true_eq, beq_iff_eq, List.all_eq_true] at hi
 obtain ⟨⟨⟨⟨⟨h0, h27⟩, hl⟩, ha⟩, hd⟩, _⟩ := hi
 have ek : x.op = ((x.op.toNat : Nat) : Int) := by omega
 have hl' : x.args.2.length = (ktakes x.op.toNat).size := hl
 by_cases h1 : x.op = 1
 ·have hm : mk1 x.op = true := by rw [h1]; decide +kernel
  rw [if_pos hm] at hd
  have hl1 : x.args.2.length = 1 := by rw [hl', h1]; decide +kernel
  exact tinst_copy f x w hf hp h1 hl1 (ha _ (bang_mem (by omega))) hd
 ·exact tinst_more f x x.op.toNat (by omega) ek (by rw [← ek]; simpa using h1) w hf hp hl' ha (fun hm => by rw [← ek] at hm; rw [if_pos hm] at hd; exact hd)
set_option maxRecDepth 100000 in
set_option maxHeartbeats 2000000 in
theorem tterm_jump (f : FuncM) (var to0 to1 : Int) (w : World) (hf : FuncAt w f) : Calls Tryz.prog 57 #[f.val, .agg #[.int .i64 0, .int .i64 var, .int .i64 to0, .int .i64 to1]] w fun e w' => e = .returned (.bool (!(to0 == 0))) ∧ Keeps w w' [] := by
 obtain ⟨a0, c0, a1, c1, a2, c2, hval, h1⟩ := hf.opened
 rw [hval]
 clear hf hval h1
 generalize f.nv = nv at *
 generalize f.np = np at *
 generalize f.nb = nb at *
 have hn0 : (to0 != 0) = !(to0 == 0) := rfl
 have hk0 : Keeps w (w.alloc (.cells #[.slice a0 nv c0, .slice a1 np c1, .slice a2 nb c2] 26)) [] := (Keeps.refl _ []).alloc _
 have bb0 := Blk.new w 26 #[.slice a0 nv c0, .slice a1 np c1, .slice a2 nb c2]
 have hk1 : Keeps (w.alloc (.cells #[.slice a0 nv c0, .slice a1 np c1, .slice a2 nb c2] 26)) ((w.alloc (.cells #[.slice a0 nv c0, .slice a1 np c1, .slice a2 nb c2] 26)).alloc (.cells #[.int .i64 0, .int .i64 var, .int .i64 to0, .int .i64 to1] 36)) [] := (Keeps.refl _ []).alloc _
 have bb1 := Blk.new (w.alloc (.cells #[.slice a0 nv c0, .slice a1 np c1, .slice a2 nb c2] 26)) 36 #[.int .i64 0, .int .i64 var, .int .i64 to0, .int .i64 to1]
 rw [show (w.alloc (.cells #[.slice a0 nv c0, .slice a1 np c1, .slice a2 nb c2] 26)).heap.size = w.heap.size + 1 by show (Array.push _ _).size = _; simp [Array.size_push]] at bb1
 have Bl := kept (bb0.keep hk1 (by simp))
 have Bm := kept bb1
 have HK := kept (hk0.and_then hk1)
 obtain ⟨l0, l1, l2⟩ := Bl.out.c3
 obtain ⟨m0, m1, m2, m3⟩ := Bm.out.c4
 simp at l0 l1 l2 m0 m1 m2 m3
 clear hk0 hk1 bb0 bb1
 go_enter Tryz.func57, Tryz.ntmps57
 go_wp2
 go_ret
 exact ⟨rfl, HK.out⟩
theorem tterm_any (f : FuncM) (b : BlockM) (w : World) (hf : FuncAt w f) (ht : termB f b.kind b.var b.to0 b.to1 = true) : Calls Tryz.prog 57 #[f.val, .agg #[.int .i64 b.kind, .int .i64 b.var, .int .i64 b.to0, .int .i64 b.to1]] w fun e w' => e = .returned (.bool (ttermB f b)) ∧ Keeps w w' [] := by
 by_cases h0 : b.kind = 0
 ·have e : ttermB f b = !(b.to0 == 0) := by unfold ttermB typedTermB; rw [if_pos h0]
  rw [e, h0]
  exact tterm_jump f b.var b.to0 b.to1 w hf
 ·have hv : inB b.var f.nv = true := by
   unfold termB at ht
   rw [if_neg h0] at ht
   split at ht
   ·simp only [Bool.and_eq_true] at ht
    first | exact ht.1.1 | exact ht.1
   ·split at ht
    ·simp only [Bool.and_eq_true] at ht
     first | exact ht.1.1 | exact ht.1
    ·cases ht
  have hv2 := inB_iff.1 hv
  have h := typedTerm_any f b.kind b.var.toNat b.to0 b.to1 w hf (by omega)
  rw [show ((b.var.toNat : Nat) : Int) = b.var by omega] at h
  exact h
/-- what 'Typed' comes to -/
def typedE (f : FuncM) : Int := if (shapedB f && typedB f) = true then 0 else 3
theorem shaped_blocks {f : FuncM} (h : shapedB f = true) : ∀ b ∈ f.blocks.2, (∀ p ∈ b.phis.2, phiB f p = true) ∧ (∀ x ∈ b.insts.2, instB f x = true) ∧ termB f b.kind b.var b.to0 b.to1 = true := by
 unfold shapedB at h
 simp only [Bool.and_eq_true, List.all_eq_true] at h
 intro b hb
 have := h.2.1 b hb
 unfold blockB at this
 simp only [Bool.and_eq_true, List.all_eq_true] at this
 exact ⟨this.1.1, this.1.2, this.2⟩
theorem phiB_args {f : FuncM} {p : PhiM} (h : phiB f p = true) : (∀ a ∈ p.args.2, inB a f.nv = true) ∧ inB p.dst f.nv = true := by
 unfold phiB at h
 simp only [Bool.and_eq_true, List.all_eq_true] at h
 exact ⟨h.1.2, h.1.1.2⟩
set_option maxRecDepth 100000 in
set_option maxHeartbeats 8000000 in
theorem typedF_any (f : FuncM) (w : World) (ht : Tabs w) (hf : FuncAt w f) (hfew : FewP f) : Calls Tryz.prog 33 #[f.val] w fun e w' => e = .returned (.int .i64 (typedE f)) ∧ Keeps w w' [] := by
 have hk0 : Keeps w (w.alloc (.cells #[f.vars.1, f.params.1, f.blocks.1] 26)) [] := (Keeps.refl w []).alloc _
 have CS := kept (shaped_any f _ (ht.keep hk0) (hf.keep hk0) hfew)
 have hbx := Boxed.new w f
 have HF := kept (hf.keep hk0)
 obtain ⟨a0, c0, e0, -, -, -⟩ := hf.vars.open_
 obtain ⟨a1, c1, e1, -, -, -⟩ := (show Row w 1 f.params.1 (f.params.2.map intCells) from hf.params).open_
 obtain ⟨a2, c2, e2, -, -, hc2⟩ := (hf.keep hk0).blocks.open_
 have hval : f.val = .agg #[.slice a0 f.nv c0, .slice a1 f.np c1, .slice a2 f.nb c2] := by unfold FuncM.val FuncM.nv FuncM.np FuncM.nb; rw [e0, e1, e2]
 have h1 : #[f.vars.1, f.params.1, f.blocks.1] = #[.slice a0 f.nv c0, .slice a1 f.np c1, .slice a2 f.nb c2] := by
  unfold FuncM.val at hval
  injection hval
 unfold Boxed at hbx
 have CP := kept (fun (p : PhiM) W h1 h2 h3 h4 => tphi_any f p W h1 h2 h3 h4)
 have CI := kept (fun (x : InstM) W h1 h2 h3 => tinst_any f x W h1 h2 h3)
 have CT := kept (fun (y : BlockM) W h1 h2 => tterm_any f y W h1 h2)
 rw [hval] at CS CP CI CT ⊢
 rw [h1] at hbx CS HF hc2 hk0
 have HC2 := kept hc2
 have HW := kept hk0
 have Bl := kept hbx
 have HX := kept (show typedE f = if (shapedB f && f.blocks.2.all (tblockB f)) = true then 0 else 3 from rfl)
 have hnb := hfew.nb
 have HFB := kept hfew.block
 have HNB := kept (show f.blocks.2.length = f.nb from rfl)
 obtain ⟨l0, l1, l2⟩ := Bl.out.c3
 simp at l0 l1 l2
 generalize typedE f = TE at *
 clear e0 e1 e2 hval h1 hbx hf ht hfew hc2 hk0
 cases hN : shapedB f with
 | false =>
  rw [hN] at CS HX
  go_enter Tryz.func33, Tryz.ntmps33
  go_wp2_with (go_at_call 54; refine (CS.out).mono ?_; rintro e w3 ⟨rfl, k3⟩; have K3 := kept k3; clear k3)
  go_ret
  exact ⟨by rw [HX.out]; rfl, HW.out.and_then K3.out⟩
 | true =>
  rw [hN] at CS HX
  have HSh := kept (shaped_blocks hN)
  clear hN
  have HK := kept (Keeps.refl (w.alloc (.cells #[.slice a0 f.nv c0, .slice a1 f.np c1, .slice a2 f.nb c2] 26)) [])
  go_enter Tryz.func33, Tryz.ntmps33
  go_wp2_with (go_at_call 54; refine (CS.out).mono ?_; rintro e w3 ⟨rfl, k3⟩; clear l0 l1 l2; replace Bl := kept (Bl.out.keep k3 (by simp)); replace HK := kept (HK.out.and_then k3); obtain ⟨l0, l1, l2⟩ := Bl.out.c3; simp at l0 l1 l2; clear k3)
  clear CS
  have HKa := HK
  have Blo := Bl
  go_loopw [15] (fun i wr => ∃ k : Nat, k ≤ f.nb ∧ i = .int .i64 k ∧ Keeps w3 wr [] ∧ Hid (∀ j, j < k → tblockB f f.blocks.2[j]! = true)) (fun i _ => f.nb - (intOf i).toNat)
  case atStart => exact ⟨0, Nat.zero_le _, rfl, Keeps.refl _ _, fun j hj => absurd hj (Nat.not_lt_zero _)⟩
  case round =>
   obtain ⟨k, hk, rfl, hr, A⟩ := hrel
   obtain ⟨wo, hwo⟩ : ∃ wo : World, wo = wr := ⟨_, rfl⟩
   subst hwo
   clear l0 l1 l2 Bl HK
   have HKo := kept hr
   have Bl := kept (Blo.out.keep hr (by simp))
   clear hr
   obtain ⟨l0, l1, l2⟩ := Bl.out.c3
   simp at l0 l1 l2
   by_cases hlt : k < f.nb
   ·have hltz : (k : Int) < (f.nb : Int) := by omega
    obtain ⟨bb, off, rfl, hbl, hcell⟩ := HC2.out k (by rw [HNB.out]; exact hlt)
    have n0 := (HKa.out.and_then HKo.out).cellOf (hcell 0 _ rfl)
    have n1 := (HKa.out.and_then HKo.out).cellOf (hcell 1 _ rfl)
    have n2 := (HKa.out.and_then HKo.out).cellOf (hcell 2 _ rfl)
    have n3 := (HKa.out.and_then HKo.out).cellOf (hcell 3 _ rfl)
    have n4 := (HKa.out.and_then HKo.out).cellOf (hcell 4 _ rfl)
    have n5 := (HKa.out.and_then HKo.out).cellOf (hcell 5 _ rfl)
    have n6 := (HKa.out.and_then HKo.out).cellOf (hcell 6 _ rfl)
    simp only [Nat.add_zero] at n0
    clear hcell HC2
    have hy2 := HFB.out _ (bang_mem (l := f.blocks.2) (k := k) (by rw [HNB.out]; exact hlt))
    have hyb := (HF.out.keep (HKa.out.and_then HKo.out)).block _ (bang_mem (l := f.blocks.2) (k := k) (by rw [HNB.out]; exact hlt))
    have hsh := HSh.out _ (bang_mem (l := f.blocks.2) (k := k) (by rw [HNB.out]; exact hlt))
    have HAll := kept (fun h : tblockB f f.blocks.2[k]! = false => all_no (p := tblockB f) (k := k) (show k < f.blocks.2.length by rw [HNB.out]; exact hlt) h)
    generalize hy : f.blocks.2[k]! = y at *
    have HY := kept hy
    clear hy
    have HFo := kept (HF.out.keep (HKa.out.and_then HKo.out))
    have HYB := kept hyb
    have HSP := kept hsh.1
    have HSI := kept hsh.2.1
    have HST := kept hsh.2.2
    clear hsh
    obtain ⟨pa, pc, pe, -, -, hpc⟩ := hyb.phis.open_
    obtain ⟨qa, qc, qe, -, -, hqc⟩ := hyb.insts.open_
    rw [pe] at n1
    rw [qe] at n2
    have HPC := kept hpc
    have HQC := kept hqc
    have hp4 := hy2.1
    have hi4 := hy2.2
    clear hyb pe qe hpc hqc hy2
    have C3 := kept (fun W (kW : Keeps wo W []) => CT.out y W (HFo.out.keep kW) HST.out)
    have HA := kept (show tblockB f y = (y.phis.2.all (tphiB f) && y.insts.2.all (tinstB f) && ttermB f y) from rfl)
    generalize hNP : y.phis.2.length = np' at *
    generalize hNI : y.insts.2.length = ni' at *
    have HNP := kept hNP
    have HNI := kept hNI
    clear hNP hNI
    generalize ttermB f y = A3 at *
    generalize y.name = yn at *
    generalize y.kind = yk at *
    generalize y.var = yv at *
    generalize y.to0 = y0 at *
    generalize y.to1 = y1 at *
    have bm := Blk.new wo 38 #[.string yn, .slice pa np' pc, .slice qa ni' qc, .int .i64 yk, .int .i64 yv, .int .i64 y0, .int .i64 y1]
    have k3 : Keeps wo (wo.alloc (.cells #[.string yn, .slice pa np' pc, .slice qa ni' qc, .int .i64 yk, .int .i64 yv, .int .i64 y0, .int .i64 y1] 38)) [] := (Keeps.refl wo []).alloc _
    have HKb := kept k3
    clear l0 l1 l2
    replace Bl := kept (Bl.out.keep k3 (by simp))
    clear k3
    have Bm := kept bm
    clear bm
    obtain ⟨l0, l1, l2⟩ := Bl.out.c3
    obtain ⟨m0, m1, m2, m3, m4, m5, m6⟩ := Bm.out.c7
    simp at l0 l1 l2 m0 m1 m2 m3 m4 m5 m6
    go_wp2
    clear l0 l1 l2 m0 m1 m2 m3 m4 m5 m6 n0 n1 n2 n3 n4 n5 n6
    generalize wo.alloc (.cells #[.string yn, .slice pa np' pc, .slice qa ni' qc, .int .i64 yk, .int .i64 yv, .int .i64 y0, .int .i64 y1] 38) = WB at *
    have BlW := Bl
    have BmW := Bm
    have HK := kept (Keeps.refl WB [])
    obtain ⟨l0, l1, l2⟩ := Bl.out.c3
    obtain ⟨m0, m1, m2, m3, m4, m5, m6⟩ := Bm.out.c7
    simp at l0 l1 l2 m0 m1 m2 m3 m4 m5 m6
    go_loopw [22] (fun i wr => ∃ j : Nat, j ≤ np' ∧ i = .int .i64 j ∧ Keeps WB wr [] ∧ Hid (∀ q, q < j → tphiB f y.phis.2[q]! = true)) (fun i _ => np' - (intOf i).toNat)
    case atStart => exact ⟨0, Nat.zero_le _, rfl, HK.out, fun j hj => absurd hj (Nat.not_lt_zero _)⟩
    case round =>
     clear l0 l1 l2 m0 m1 m2 m3 m4 m5 m6
     obtain ⟨j, hj, rfl, hr, A1⟩ := hrel
     clear Bl Bm HK
     have HK := kept hr
     have Bl := kept (BlW.out.keep hr (by simp))
     have Bm := kept (BmW.out.keep hr (by simp))
     clear hr
     obtain ⟨l0, l1, l2⟩ := Bl.out.c3
     obtain ⟨m0, m1, m2, m3, m4, m5, m6⟩ := Bm.out.c7
     simp at l0 l1 l2 m0 m1 m2 m3 m4 m5 m6
     by_cases hltj : j < np'
     ·have hltjz : (j : Int) < (np' : Int) := by omega
      obtain ⟨pb, po, rfl, hpb, hpcell⟩ := HPC.out j hltj
      have n0 := (HKb.out.and_then HK.out).cellOf (hpcell 0 _ rfl)
      have n1 := (HKb.out.and_then HK.out).cellOf (hpcell 1 _ rfl)
      have n2 := (HKb.out.and_then HK.out).cellOf (hpcell 2 _ rfl)
      simp only [Nat.add_zero] at n0
      clear hpcell HPC
      have hmem := bang_mem (l := y.phis.2) (k := j) (by rw [HNP.out]; exact hltj)
      have hpa := HYB.out.phi _ hmem
      have hps := HSP.out _ hmem
      have HAllP := kept (fun h : tphiB f y.phis.2[j]! = false => all_no (p := tphiB f) (k := j) (show j < y.phis.2.length by rw [HNP.out]; exact hltj) h)
      generalize hpy : y.phis.2[j]! = p at *
      have HPY := kept hpy
      clear hpy hmem
      have hkp : Keeps wr (wr.alloc (.cells p.cells.toArray 95)) [] := (Keeps.refl wr []).alloc _
      obtain ⟨hv1, hd1⟩ := phiB_args hps
      have C1 := kept (CP.out p _ ((HFo.out.keep HKb.out).keep (HK.out.and_then hkp)) ((hpa.keep HKb.out).keep (HK.out.and_then hkp)) hv1 hd1)
      have bq := Blk.new wr 95 p.cells.toArray
      obtain ⟨u1, v1, e1, -⟩ := IntsAt.open_ hpa.1
      obtain ⟨u2, v2, e2, -⟩ := IntsAt.open_ hpa.2
      simp only [PhiM.cells, e1, e2] at C1 bq hkp
      rw [e1] at n1
      rw [e2] at n2
      clear e1 e2 hv1 hd1
      clear hpa hps
      have q0 := bq.cell 0
      have q1 := bq.cell 1
      have q2 := bq.cell 2
      simp at q0 q1 q2
      have HKp := kept hkp
      clear bq hkp
      have Blx := kept (Bl.out.keep HKp.out (by simp))
      clear l0 l1 l2
      obtain ⟨l0, l1, l2⟩ := Blx.out.c3
      simp at l0 l1 l2
      generalize hap : tphiB f p = ap at *
      have HAP := kept hap
      clear hap
      generalize p.args.2.length = pna at *
      generalize p.froms.2.length = pnf at *
      generalize p.dst = pdst at *
      cases ap with
      | false =>
       go_wp2_with (go_at_call 55; refine (C1.out).mono ?_; rintro e w5 ⟨rfl, k5⟩; have K5 := kept k5; clear k5)
       go_ret
       exact ⟨by rw [HX.out, HAll.out (by rw [HA.out, HAllP.out (by simp)]; simp)]; rfl, HW.out.and_then (HKa.out.and_then (HKo.out.and_then (HKb.out.and_then (HK.out.and_then (HKp.out.and_then K5.out)))))⟩
      | true =>
       go_wp2_with (go_at_call 55; refine (C1.out).mono ?_; rintro e w5 ⟨rfl, k5⟩; have K5 := kept k5; clear k5)
       go_roundw
       case rel =>
        refine ⟨j + 1, by omega, by go_num, HK.out.and_then (HKp.out.and_then K5.out), (show Hid _ from fun q hq => ?_)⟩
        by_cases e : q = j
        ·subst e; rw [HPY.out]; exact HAP.out
        ·exact A1.out q (by omega)
       case measure => simp [intOf]; omega
     ·have hltjz : ¬ (j : Int) < (np' : Int) := by omega
      obtain rfl : np' = j := by omega
      have AP := kept (show y.phis.2.all (tphiB f) = true from all_yes (p := tphiB f) (fun q hq => A1.out q (by rw [← HNP.out]; exact hq)))
      clear A1 HPC
      go_wp2
      go_loopw [34] (fun i wr => ∃ j : Nat, j ≤ ni' ∧ i = .int .i64 j ∧ Keeps WB wr [] ∧ Hid (∀ q, q < j → tinstB f y.insts.2[q]! = true)) (fun i _ => ni' - (intOf i).toNat)
      case atStart => exact ⟨0, Nat.zero_le _, rfl, HK.out, fun j hj => absurd hj (Nat.not_lt_zero _)⟩
      case round =>
       clear l0 l1 l2 m0 m1 m2 m3 m4 m5 m6
       obtain ⟨j, hj, rfl, hr, A1⟩ := hrel
       clear Bl Bm HK
       have HK := kept hr
       have Bl := kept (BlW.out.keep hr (by simp))
       have Bm := kept (BmW.out.keep hr (by simp))
       clear hr
       obtain ⟨l0, l1, l2⟩ := Bl.out.c3
       obtain ⟨m0, m1, m2, m3, m4, m5, m6⟩ := Bm.out.c7
       simp at l0 l1 l2 m0 m1 m2 m3 m4 m5 m6
       by_cases hltj : j < ni'
       ·have hltjz : (j : Int) < (ni' : Int) := by omega
        obtain ⟨pb, po, rfl, hpb, hpcell⟩ := HQC.out j hltj
        have n0 := (HKb.out.and_then HK.out).cellOf (hpcell 0 _ rfl)
        have n1 := (HKb.out.and_then HK.out).cellOf (hpcell 1 _ rfl)
        have n2 := (HKb.out.and_then HK.out).cellOf (hpcell 2 _ rfl)
        have n3 := (HKb.out.and_then HK.out).cellOf (hpcell 3 _ rfl)
        simp only [Nat.add_zero] at n0
        clear hpcell HQC
        have hmem := bang_mem (l := y.insts.2) (k := j) (by rw [HNI.out]; exact hltj)
        have hpa := HYB.out.inst _ hmem
        have hps := HSI.out _ hmem
        have HAllP := kept (fun h : tinstB f y.insts.2[j]! = false => all_no (p := tinstB f) (k := j) (show j < y.insts.2.length by rw [HNI.out]; exact hltj) h)
        generalize hpy : y.insts.2[j]! = p at *
        have HPY := kept hpy
        clear hpy hmem
        have hkp : Keeps wr (wr.alloc (.cells p.cells.toArray 43)) [] := (Keeps.refl wr []).alloc _
        have C1 := kept (CI.out p _ ((HFo.out.keep HKb.out).keep (HK.out.and_then hkp)) ((Row.keep hpa HKb.out).keep (HK.out.and_then hkp)) hps)
        have bq := Blk.new wr 43 p.cells.toArray
        obtain ⟨u1, v1, e1, -⟩ := IntsAt.open_ hpa
        simp only [InstM.cells, e1] at C1 bq hkp
        rw [e1] at n2
        clear e1
        clear hpa hps
        have q0 := bq.cell 0
        have q1 := bq.cell 1
        have q2 := bq.cell 2
        have q3 := bq.cell 3
        simp at q0 q1 q2 q3
        have HKp := kept hkp
        clear bq hkp
        have Blx := kept (Bl.out.keep HKp.out (by simp))
        clear l0 l1 l2
        obtain ⟨l0, l1, l2⟩ := Blx.out.c3
        simp at l0 l1 l2
        generalize hap : tinstB f p = ap at *
        have HAP := kept hap
        clear hap
        generalize p.args.2.length = pna at *
        generalize p.op = pop at *
        generalize p.dst = pdst at *
        generalize p.num = pnum at *
        cases ap with
        | false =>
         go_wp2_with (go_at_call 56; refine (C1.out).mono ?_; rintro e w5 ⟨rfl, k5⟩; have K5 := kept k5; clear k5)
         go_ret
         exact ⟨by rw [HX.out, HAll.out (by rw [HA.out, HAllP.out (by simp)]; simp)]; rfl, HW.out.and_then (HKa.out.and_then (HKo.out.and_then (HKb.out.and_then (HK.out.and_then (HKp.out.and_then K5.out)))))⟩
        | true =>
         go_wp2_with (go_at_call 56; refine (C1.out).mono ?_; rintro e w5 ⟨rfl, k5⟩; have K5 := kept k5; clear k5)
         go_roundw
         case rel =>
          refine ⟨j + 1, by omega, by go_num, HK.out.and_then (HKp.out.and_then K5.out), (show Hid _ from fun q hq => ?_)⟩
          by_cases e : q = j
          ·subst e; rw [HPY.out]; exact HAP.out
          ·exact A1.out q (by omega)
         case measure => simp [intOf]; omega
       ·have hltjz : ¬ (j : Int) < (ni' : Int) := by omega
        obtain rfl : ni' = j := by omega
        have AI := kept (show y.insts.2.all (tinstB f) = true from all_yes (p := tinstB f) (fun q hq => A1.out q (by rw [← HNI.out]; exact hq)))
        clear A1 HQC
        cases hA3 : A3 with
        | false =>
         rw [hA3] at C3 HA
         go_wp2_with (go_at_call 57; refine (C3.out _ (HKb.out.and_then HK.out)).mono ?_; rintro e w5 ⟨rfl, k3⟩; clear l0 l1 l2 m0 m1 m2 m3 m4 m5 m6; replace Bl := kept (Bl.out.keep k3 (by simp)); replace Bm := kept (Bm.out.keep k3 (by simp)); replace HK := kept (HK.out.and_then k3); obtain ⟨l0, l1, l2⟩ := Bl.out.c3; obtain ⟨m0, m1, m2, m3, m4, m5, m6⟩ := Bm.out.c7; simp at l0 l1 l2 m0 m1 m2 m3 m4 m5 m6; clear k3)
         go_ret
         exact ⟨by rw [HX.out, HAll.out (by rw [HA.out]; simp)]; rfl, HW.out.and_then (HKa.out.and_then (HKo.out.and_then (HKb.out.and_then HK.out)))⟩
        | true =>
         rw [hA3] at C3 HA
         go_wp2_with (go_at_call 57; refine (C3.out _ (HKb.out.and_then HK.out)).mono ?_; rintro e w5 ⟨rfl, k3⟩; clear l0 l1 l2 m0 m1 m2 m3 m4 m5 m6; replace Bl := kept (Bl.out.keep k3 (by simp)); replace Bm := kept (Bm.out.keep k3 (by simp)); replace HK := kept (HK.out.and_then k3); obtain ⟨l0, l1, l2⟩ := Bl.out.c3; obtain ⟨m0, m1, m2, m3, m4, m5, m6⟩ := Bm.out.c7; simp at l0 l1 l2 m0 m1 m2 m3 m4 m5 m6; clear k3)
         go_roundw
         case rel =>
          refine ⟨k + 1, by omega, by go_num, HKo.out.and_then (HKb.out.and_then HK.out), (show Hid _ from fun q hq => ?_)⟩
          by_cases e : q = k
          ·subst e; rw [HY.out, HA.out, AP.out, AI.out]; rfl
          ·exact A.out q (by omega)
         case measure => simp [intOf]; omega
   ·have hltz : ¬ (k : Int) < (f.nb : Int) := by omega
    obtain rfl : f.nb = k := by omega
    go_wp2
    go_ret
    exact ⟨by rw [HX.out, all_yes (p := tblockB f) (fun j hj => A.out j (by rw [← HNB.out]; exact hj))]; rfl, HW.out.and_then (HKa.out.and_then HKo.out)⟩
end Go.Proofs.YtjllbchfojonhaaGreatDoor
