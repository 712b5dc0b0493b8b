/- Package typing: inst; contract. -/
import Derived.Test.YtjllbchfojonhaaGreatDoorTypA
namespace Go.Proofs.YtjllbchfojonhaaGreatDoor
open Go.RowKit
set_option linter.unusedVariables false
set_option linter.unusedSimpArgs false

theorem tcells_bang (s : ByteArray) (j : Nat) (hj : j < s.size) : (tcells s s.size)[j]? = some (.int .i64 (tsign (s.data.toList[j]!).toNat)) := by
 have h' : j < s.data.toList.length := by rw [Array.length_toList]; exact hj
 unfold tcells
 rw [List.getElem?_map, List.getElem?_take, if_pos hj, List.getElem?_eq_getElem h', getElem!_pos s.data.toList j h']
 rfl
theorem takes_open (k : Nat) (hk : k < 27) (w : World) : Calls Tryz.prog 74 #[.int .i64 k] w fun e w' => ∃ va vc, e = .returned (.slice va (ktakes k).size vc) ∧ Keeps w w' [] ∧ ∀ j, j < (ktakes k).size → ∃ g, va = some ⟨g, 0, none⟩ ∧ w'.cell? ⟨g, j, none⟩ = some (.int .i64 (tkT k j)) := by
 refine (takes_in k hk w).mono ?_
 rintro e w' ⟨v, rfl, ho, k1⟩
 rcases ho.2 with ⟨rfl, h0⟩ | ⟨g, cap, cur, rfl, h1, h2, h3, h4, h5, h6⟩
 ·exact ⟨none, 0, by rw [h0], k1, fun j hj => absurd hj (by omega)⟩
 ·refine ⟨_, _, rfl, k1, fun j hj => ⟨g, rfl, ?_⟩⟩
  rw [Blk.cell h2 j, ← Array.getElem?_toList]
  have := tcells_bang (ktakes k) j hj
  rw [← h6, List.getElem?_take] at this
  split at this
  ·exact this
  ·cases this

set_option maxRecDepth 100000 in
set_option maxHeartbeats 4000000 in
theorem tinst_copy (f : FuncM) (x : InstM) (w : World) (hf : FuncAt w f) (hp : InstAt w x) (ho : x.op = 1) (hl : x.args.2.length = 1) (ha : inB x.args.2[0]! f.nv = true) (hd : inB x.dst f.nv = true) :
  Calls Tryz.prog 56 #[f.val, .agg #[.int .i64 x.op, .int .i64 x.dst, x.args.1, .int .i64 x.num]] w fun e w' => e = .returned (.bool (tinstB f x)) ∧ Keeps w w' [] := by
 have CA := kept (fun w => any_any 1 w)
 have CD := kept (fun w h => kindI f x.dst w h hd)
 have C0 := kept (fun w h => kindI f x.args.2[0]! w h ha)
 have HX := kept (show tinstB f x = (f.tyI x.dst == f.tyI x.args.2[0]!) by unfold tinstB; rw [if_pos ho])
 obtain ⟨a0, c0, a1, c1, a2, c2, hval, h1⟩ := hf.opened
 obtain ⟨s1, d1, e3, hl1, hl2, hc⟩ := IntsAt.open_ hp
 have HF := kept hf
 rcases hc with hc | ⟨rb, ro, rfl, hrb, hc⟩
 ·omega
 have N0 := kept (hc 0 (by omega))
 rw [Nat.add_zero] at N0
 rw [hval] at CD C0 ⊢
 rw [e3, hl, ho, HX.out]
 clear hf hp ho hl ha hd HX hval h1 e3 hl1 hl2 hc
 generalize f.tyI x.dst = zd at *
 generalize f.tyI x.args.2[0]! = za at *
 generalize x.args.2[0]! = z0 at *
 generalize f.nv = nv at *
 generalize f.np = np at *
 generalize f.nb = nb at *
 generalize x.dst = dst at *
 generalize x.num = num at *
 have hk0 : Keeps w (w.alloc (.cells #[.slice a0 nv c0, .slice a1 np c1, .slice a2 nb c2] 26)) [] := (Keeps.refl _ []).alloc _
 have bb0 := Blk.new w 26 #[.slice a0 nv c0, .slice a1 np c1, .slice a2 nb c2]
 have hk1 : Keeps (w.alloc (.cells #[.slice a0 nv c0, .slice a1 np c1, .slice a2 nb c2] 26)) ((w.alloc (.cells #[.slice a0 nv c0, .slice a1 np c1, .slice a2 nb c2] 26)).alloc (.cells #[.int .i64 1, .int .i64 dst, .slice (some ⟨rb, ro, none⟩) 1 d1, .int .i64 num] 43)) [] := (Keeps.refl _ []).alloc _
 have bb1 := Blk.new (w.alloc (.cells #[.slice a0 nv c0, .slice a1 np c1, .slice a2 nb c2] 26)) 43 #[.int .i64 1, .int .i64 dst, .slice (some ⟨rb, ro, none⟩) 1 d1, .int .i64 num]
 rw [show (w.alloc (.cells #[.slice a0 nv c0, .slice a1 np c1, .slice a2 nb c2] 26)).heap.size = w.heap.size + 1 by show (Array.push _ _).size = _; simp [Array.size_push]] at bb1
 have Bl := kept (bb0.keep hk1 (by simp))
 have Bm := kept bb1
 have HK := kept (hk0.and_then hk1)
 obtain ⟨l0, l1, l2⟩ := Bl.out.c3
 obtain ⟨m0, m1, m2, m3⟩ := Bm.out.c4
 simp at l0 l1 l2 m0 m1 m2 m3
 have n0 := HK.out.cellOf N0.out
 clear hk0 hk1 bb0 bb1
 go_enter Tryz.func56, Tryz.ntmps56
 go_wp2_with (go_at_call 96; refine (CA.out _).mono ?_; rintro e w3 ⟨rfl, rfl⟩)
 clear l0 l1 l2 m0 m1 m2 m3 n0
 generalize ((w.alloc (.cells #[.slice a0 nv c0, .slice a1 np c1, .slice a2 nb c2] 26)).alloc (.cells #[.int .i64 1, .int .i64 dst, .slice (some ⟨rb, ro, none⟩) 1 d1, .int .i64 num] 43)) = W0 at *
 obtain ⟨l0, l1, l2⟩ := Bl.out.c3
 obtain ⟨m0, m1, m2, m3⟩ := Bm.out.c4
 simp at l0 l1 l2 m0 m1 m2 m3
 have n0 := HK.out.cellOf N0.out
 refine wp_region_held_drew (S := (fun w' => w'.cell? ⟨w.heap.size, 0, none⟩ = some (.slice a0 nv c0) ∧ w'.cell? ⟨w.heap.size, 1, none⟩ = some (.slice a1 np c1) ∧ w'.cell? ⟨w.heap.size, 2, none⟩ = some (.slice a2 nb c2) ∧ w'.cell? ⟨w.heap.size + 1, 0, none⟩ = some (.int .i64 1) ∧ w'.cell? ⟨w.heap.size + 1, 1, none⟩ = some (.int .i64 dst) ∧ w'.cell? ⟨w.heap.size + 1, 2, none⟩ = some (.slice (some ⟨rb, ro, none⟩) 1 d1) ∧ w'.cell? ⟨w.heap.size + 1, 3, none⟩ = some (.int .i64 num) ∧ w'.cell? ⟨rb, ro, none⟩ = some (.int .i64 z0))) (by kernel_rfl) ?ahSs (fun hHeld => ?_)
 case ahSs => exact ⟨l0, l1, l2, m0, m1, m2, m3, n0⟩
 clear l0 l1 l2 m0 m1 m2 m3 n0
 replace Bl := kept (Bl.out.keep ((Keeps.refl _ []).drew) (by simp))
 replace Bm := kept (Bm.out.keep ((Keeps.refl _ []).drew) (by simp))
 replace HK := kept (HK.out.drew)
 generalize World.drew _ = X0 at *
 obtain ⟨l0, l1, l2⟩ := Bl.out.c3
 obtain ⟨m0, m1, m2, m3⟩ := Bm.out.c4
 simp at l0 l1 l2 m0 m1 m2 m3
 have n0 := HK.out.cellOf N0.out
 refine tl 0 ⟨some 12, .load 26 (.tmp 2), 26, "typing.go:19", #[], none⟩ rfl hHeld ?_
 refine tl 1 ⟨some 13, .fieldAddr 43 (.tmp 3) 1, 0, "typing.go:19", #[], none⟩ rfl hHeld ?_
 refine tl 2 ⟨some 14, .load 3 (.tmp 13), 3, "typing.go:19", #[⟨1, .data⟩], none⟩ rfl hHeld ?_
 refine tl 4 ⟨some 16, .load 26 (.tmp 2), 26, "typing.go:19", #[], none⟩ rfl hHeld ?_
 refine tl 5 ⟨some 17, .fieldAddr 43 (.tmp 3) 2, 0, "typing.go:19", #[], none⟩ rfl hHeld ?_
 refine tl 6 ⟨some 18, .load 23 (.tmp 17), 23, "typing.go:19", #[⟨5, .data⟩], none⟩ rfl hHeld ?_
 refine tl 7 ⟨some 19, .indexAddr 23 (.tmp 18) (.const (Value.int IntKind.i64 0)), 0, "typing.go:19", #[⟨6, .data⟩], none⟩ rfl hHeld ?_
 refine tl 8 ⟨some 20, .load 3 (.tmp 19), 3, "typing.go:19", #[⟨7, .data⟩], none⟩ rfl hHeld ?_
 refine wpAnyH_ready (rs := [3]) (by kernel_rfl) (by simp) ?_
 refine AllReadyH.cons (o := ⟨some 15, .call ⟨.value (.func 95), #[.tmp 12, .tmp 14], #[26, 3]⟩, 81, "typing.go:19", #[⟨0, .data⟩, ⟨2, .data⟩], none⟩) rfl (fun K hK => ?_) AllReadyH.nil
 go_simp
 (with_reducible refine (CD.out _ (HF.out.keep HK.out)).mono ?_)
 rintro e wx ⟨rfl, k3⟩
 show K _ _
 clear hHeld
 clear l0 l1 l2 m0 m1 m2 m3 n0
 replace Bl := kept (Bl.out.keep k3 (by simp))
 replace Bm := kept (Bm.out.keep k3 (by simp))
 replace HK := kept (HK.out.and_then k3)
 obtain ⟨l0, l1, l2⟩ := Bl.out.c3
 obtain ⟨m0, m1, m2, m3⟩ := Bm.out.c4
 simp at l0 l1 l2 m0 m1 m2 m3
 have n0 := HK.out.cellOf N0.out
 clear k3
 refine hK.out _ _ ?ahS3 (fun hHeld => ?_)
 case ahS3 => exact ⟨l0, l1, l2, m0, m1, m2, m3, n0⟩
 clear hK K
 try simp only [Act.put, sA, sB, sC]
 refine wpAnyH_ready (rs := [9]) (by kernel_rfl) (by simp) ?_
 refine AllReadyH.cons (o := ⟨some 21, .call ⟨.value (.func 95), #[.tmp 16, .tmp 20], #[26, 3]⟩, 81, "typing.go:19", #[⟨4, .data⟩, ⟨8, .data⟩, ⟨3, .chain⟩], none⟩) rfl (fun K hK => ?_) AllReadyH.nil
 go_simp
 (with_reducible refine (C0.out _ (HF.out.keep HK.out)).mono ?_)
 rintro e wx ⟨rfl, k3⟩
 show K _ _
 clear hHeld
 clear l0 l1 l2 m0 m1 m2 m3 n0
 replace Bl := kept (Bl.out.keep k3 (by simp))
 replace Bm := kept (Bm.out.keep k3 (by simp))
 replace HK := kept (HK.out.and_then k3)
 obtain ⟨l0, l1, l2⟩ := Bl.out.c3
 obtain ⟨m0, m1, m2, m3⟩ := Bm.out.c4
 simp at l0 l1 l2 m0 m1 m2 m3
 have n0 := HK.out.cellOf N0.out
 clear k3
 refine hK.out _ _ ?ahS9 (fun hHeld => ?_)
 case ahS9 => exact ⟨l0, l1, l2, m0, m1, m2, m3, n0⟩
 clear hK K
 try simp only [Act.put, sA, sB, sC]
 refine tl 10 ⟨some 22, .binOp BinOp.eql 81 (.tmp 15) (.tmp 21) 81, 4, "typing.go:19", #[⟨3, .data⟩, ⟨9, .data⟩], none⟩ rfl hHeld ?_
 refine tl 11 ⟨some 4, .assign (.tmp 22), 4, "typing.go:19", #[⟨10, .data⟩, ⟨9, .chain⟩, ⟨0, .phase⟩, ⟨1, .phase⟩, ⟨2, .phase⟩, ⟨3, .phase⟩, ⟨4, .phase⟩, ⟨5, .phase⟩, ⟨6, .phase⟩, ⟨7, .phase⟩, ⟨8, .phase⟩, ⟨9, .phase⟩, ⟨10, .phase⟩], none⟩ rfl hHeld ?_
 refine wpAnyH_done (by kernel_rfl) ?_ _
 clear hHeld
 go_wp2
 go_ret
 exact ⟨rfl, HK.out⟩

set_option maxRecDepth 100000 in
set_option maxHeartbeats 4000000 in
theorem tinst_more (f : FuncM) (x : InstM) (k : Nat) (hk : k < 27) (ho : x.op = k) (h1n : ((k : Int) == 1) = false) (w : World) (hf : FuncAt w f) (hp : InstAt w x) (hl : x.args.2.length = (ktakes k).size) (ha : ∀ a ∈ x.args.2, inB a f.nv = true) (hd : mk1 k = true → inB x.dst f.nv = true) :
  Calls Tryz.prog 56 #[f.val, .agg #[.int .i64 x.op, .int .i64 x.dst, x.args.1, .int .i64 x.num]] w fun e w' => e = .returned (.bool (tinstB f x)) ∧ Keeps w w' [] := by
 have CA := kept (fun w => any_any (k : Int) w)
 have CT := kept (fun w => takes_open k hk w)
 have CM := kept (fun w => makes_in k hk w)
 have CD := kept (fun w h h2 => kindI f x.dst w h (hd h2))
 have CAr := kept (fun j (hj : j < (ktakes k).size) w h => kindI f x.args.2[j]! w h (ha _ (bang_mem (by rw [hl]; exact hj))))
 have HX := kept (show tinstB f x = ((allR (ktakes k).size fun i => f.tyI x.args.2[i]! == tkT k i) && (!(mk1 k) || f.tyI x.dst == mkT k)) by
  unfold tinstB
  rw [if_neg (by rw [ho]; simpa using h1n), ho]
  rfl)
 obtain ⟨a0, c0, a1, c1, a2, c2, hval, h1⟩ := hf.opened
 obtain ⟨s1, d1, e3, hl1, hl2, hc⟩ := IntsAt.open_ hp
 have HF := kept hf
 rw [hval] at CD CAr ⊢
 have hnaB : (ktakes k).size ≤ 100 := (takes_small k hk).1
 rw [hl] at hc
 have HC := kept hc
 rw [e3, hl, ho]
 clear hf hp ha hd hval h1 e3 hl1 hl2 hc hl ho hk
 generalize tinstB f x = TB at *
 generalize (ktakes k).size = na at *
 generalize mkT (k : Int) = mt at *
 generalize mk1 (k : Int) = mb at *
 generalize htk : tkT (k : Int) = tk at *
 clear htk
 generalize hop : (k : Int) = op at *
 clear hop
 generalize f.nv = nv at *
 generalize f.np = np at *
 generalize f.nb = nb at *
 generalize hzd : f.tyI x.dst = zd at *
 clear hzd
 generalize x.dst = dst at *
 generalize x.num = num at *
 have hk0 : Keeps w (w.alloc (.cells #[.slice a0 nv c0, .slice a1 np c1, .slice a2 nb c2] 26)) [] := (Keeps.refl _ []).alloc _
 have bb0 := Blk.new w 26 #[.slice a0 nv c0, .slice a1 np c1, .slice a2 nb c2]
 have hk1 : Keeps (w.alloc (.cells #[.slice a0 nv c0, .slice a1 np c1, .slice a2 nb c2] 26)) ((w.alloc (.cells #[.slice a0 nv c0, .slice a1 np c1, .slice a2 nb c2] 26)).alloc (.cells #[.int .i64 op, .int .i64 dst, .slice s1 na d1, .int .i64 num] 43)) [] := (Keeps.refl _ []).alloc _
 have bb1 := Blk.new (w.alloc (.cells #[.slice a0 nv c0, .slice a1 np c1, .slice a2 nb c2] 26)) 43 #[.int .i64 op, .int .i64 dst, .slice s1 na d1, .int .i64 num]
 rw [show (w.alloc (.cells #[.slice a0 nv c0, .slice a1 np c1, .slice a2 nb c2] 26)).heap.size = w.heap.size + 1 by show (Array.push _ _).size = _; simp [Array.size_push]] at bb1
 have Bl := kept (bb0.keep hk1 (by simp))
 have Bm := kept bb1
 have HK := kept (hk0.and_then hk1)
 obtain ⟨l0, l1, l2⟩ := Bl.out.c3
 obtain ⟨m0, m1, m2, m3⟩ := Bm.out.c4
 simp at l0 l1 l2 m0 m1 m2 m3
 clear hk0 hk1 bb0 bb1
 go_enter Tryz.func56, Tryz.ntmps56
 go_wp2_with (first | (go_at_call 96; refine (CA.out _).mono ?_; rintro e w3 ⟨rfl, rfl⟩) | (go_at_call 74; refine (CT.out _).mono ?_; rintro e w3 ⟨va, vc, rfl, k3, hv3⟩; have HV := kept hv3; clear hv3; clear l0 l1 l2 m0 m1 m2 m3; replace Bl := kept (Bl.out.keep k3 (by simp)); replace Bm := kept (Bm.out.keep k3 (by simp)); replace HK := kept (HK.out.and_then k3); obtain ⟨l0, l1, l2⟩ := Bl.out.c3; obtain ⟨m0, m1, m2, m3⟩ := Bm.out.c4; simp at l0 l1 l2 m0 m1 m2 m3; clear k3))
 clear CA CT
 have HKA := HK
 have HF3 := kept (HF.out.keep HK.out)
 clear HK
 have HK := kept (Keeps.refl w3 [])
 go_loopw [27] (fun i wr => ∃ kk : Nat, kk ≤ na ∧ i = .int .i64 kk ∧ Keeps w3 wr [] ∧ Hid (∀ j, j < kk → (f.tyI x.args.2[j]! == tk j) = true)) (fun i _ => na - (intOf i).toNat)
 case atStart => exact ⟨0, Nat.zero_le _, rfl, Keeps.refl _ _, fun j hj => absurd hj (Nat.not_lt_zero _)⟩
 case round =>
  obtain ⟨kk, hkk, rfl, hr, A⟩ := hrel
  have HR := kept hr
  clear hr
  by_cases hlt : kk < na
  ·have hltz : (kk : Int) < (na : Int) := by omega
   have k3 := HR.out
   clear l0 l1 l2 m0 m1 m2 m3; replace Bl := kept (Bl.out.keep k3 (by simp)); replace Bm := kept (Bm.out.keep k3 (by simp)); replace HK := kept (HK.out.and_then k3); obtain ⟨l0, l1, l2⟩ := Bl.out.c3; obtain ⟨m0, m1, m2, m3⟩ := Bm.out.c4; simp at l0 l1 l2 m0 m1 m2 m3; clear k3
   obtain ⟨g, rfl, hgc⟩ := HV.out kk hlt
   have g0 := HR.out.cellOf hgc
   rcases HC.out with hc | ⟨rb, ro, rfl, hrb, hc⟩
   ·omega
   have N0 := kept (HKA.out.cellOf (hc kk hlt))
   have C0 := fun w h => CAr.out kk hlt w h
   clear hc hgc
   have HT := kept (show f.tyI x.args.2[kk]! = f.tyI x.args.2[kk]! from rfl)
   generalize htq : tk kk = tq at *
   have HTQ := kept htq
   clear htq
   generalize hzq : f.tyI x.args.2[kk]! = zq at *
   have HZQ := kept hzq
   clear hzq HT
   generalize hzk : x.args.2[kk]! = zk at *
   have HZK := kept hzk
   clear hzk
   have n0 := HK.out.cellOf N0.out
   have hbq : (zq != tq) = !(zq == tq) := rfl
   cases hq : (zq == tq) with
   | false =>
    rw [hq] at hbq
    go_wp2_with fail
    refine wp_region_held_drew (S := (fun w' => w'.cell? ⟨w.heap.size, 0, none⟩ = some (.slice a0 nv c0) ∧ w'.cell? ⟨w.heap.size, 1, none⟩ = some (.slice a1 np c1) ∧ w'.cell? ⟨w.heap.size, 2, none⟩ = some (.slice a2 nb c2) ∧ w'.cell? ⟨w.heap.size + 1, 0, none⟩ = some (.int .i64 op) ∧ w'.cell? ⟨w.heap.size + 1, 1, none⟩ = some (.int .i64 dst) ∧ w'.cell? ⟨w.heap.size + 1, 2, none⟩ = some (.slice (some ⟨rb, ro, none⟩) na d1) ∧ w'.cell? ⟨w.heap.size + 1, 3, none⟩ = some (.int .i64 num) ∧ w'.cell? ⟨rb, ro + kk, none⟩ = some (.int .i64 zk))) (by kernel_rfl) ?bhSs (fun hHeld => ?_)
    case bhSs => exact ⟨l0, l1, l2, m0, m1, m2, m3, n0⟩
    clear l0 l1 l2 m0 m1 m2 m3 n0
    replace Bl := kept (Bl.out.keep ((Keeps.refl _ []).drew) (by simp))
    replace Bm := kept (Bm.out.keep ((Keeps.refl _ []).drew) (by simp))
    replace HK := kept (HK.out.drew)
    generalize World.drew _ = X0 at *
    obtain ⟨l0, l1, l2⟩ := Bl.out.c3
    obtain ⟨m0, m1, m2, m3⟩ := Bm.out.c4
    simp at l0 l1 l2 m0 m1 m2 m3
    have n0 := HK.out.cellOf N0.out
    refine tl 0 ⟨some 32, .load 26 (.tmp 2), 26, "typing.go:22", #[], none⟩ rfl hHeld ?_
    refine tl 1 ⟨some 33, .fieldAddr 43 (.tmp 3) 2, 0, "typing.go:22", #[], none⟩ rfl hHeld ?_
    refine tl 2 ⟨some 34, .load 23 (.tmp 33), 23, "typing.go:22", #[⟨1, .data⟩], none⟩ rfl hHeld ?_
    refine tl 3 ⟨some 35, .move (.tmp 5), 3, "typing.go:22", #[], none⟩ rfl hHeld ?_
    refine tl 4 ⟨some 36, .indexAddr 23 (.tmp 34) (.tmp 35), 0, "typing.go:22", #[⟨2, .data⟩, ⟨3, .data⟩], none⟩ rfl hHeld ?_
    refine tl 5 ⟨some 37, .load 3 (.tmp 36), 3, "typing.go:22", #[⟨4, .data⟩], none⟩ rfl hHeld ?_
    refine tl 7 ⟨some 39, .move (.tmp 6), 81, "typing.go:22", #[], none⟩ rfl hHeld ?_
    refine wpAnyH_ready (rs := [6]) (by kernel_rfl) (by simp) ?_
    refine AllReadyH.cons (o := ⟨some 38, .call ⟨.value (.func 95), #[.tmp 32, .tmp 37], #[26, 3]⟩, 81, "typing.go:22", #[⟨0, .data⟩, ⟨5, .data⟩], none⟩) rfl (fun K hK => ?_) AllReadyH.nil
    go_simp
    (with_reducible refine (C0 _ (HF3.out.keep HK.out)).mono ?_)
    rintro e wx ⟨rfl, k3⟩
    show K _ _
    clear hHeld
    clear l0 l1 l2 m0 m1 m2 m3 n0
    replace Bl := kept (Bl.out.keep k3 (by simp))
    replace Bm := kept (Bm.out.keep k3 (by simp))
    replace HK := kept (HK.out.and_then k3)
    obtain ⟨l0, l1, l2⟩ := Bl.out.c3
    obtain ⟨m0, m1, m2, m3⟩ := Bm.out.c4
    simp at l0 l1 l2 m0 m1 m2 m3
    have n0 := HK.out.cellOf N0.out
    clear k3
    refine hK.out _ _ ?bhS6 (fun hHeld => ?_)
    case bhS6 => exact ⟨l0, l1, l2, m0, m1, m2, m3, n0⟩
    clear hK K
    try simp only [Act.put, sA, sB, sC]
    refine tl 8 ⟨some 40, .binOp BinOp.neq 81 (.tmp 38) (.tmp 39) 81, 4, "typing.go:22", #[⟨6, .data⟩, ⟨7, .data⟩], none⟩ rfl hHeld ?_
    refine wpAnyH_done (by kernel_rfl) ?_ _
    clear hHeld
    go_wp2
    go_ret
    exact ⟨ret_bool (by rw [HX.out, allR_no hlt (by rw [HZK.out, HZQ.out, HTQ.out]; exact hq)]; rfl), HKA.out.and_then HK.out⟩
   | true =>
    rw [hq] at hbq
    go_wp2_with fail
    refine wp_region_held_drew (S := (fun w' => w'.cell? ⟨w.heap.size, 0, none⟩ = some (.slice a0 nv c0) ∧ w'.cell? ⟨w.heap.size, 1, none⟩ = some (.slice a1 np c1) ∧ w'.cell? ⟨w.heap.size, 2, none⟩ = some (.slice a2 nb c2) ∧ w'.cell? ⟨w.heap.size + 1, 0, none⟩ = some (.int .i64 op) ∧ w'.cell? ⟨w.heap.size + 1, 1, none⟩ = some (.int .i64 dst) ∧ w'.cell? ⟨w.heap.size + 1, 2, none⟩ = some (.slice (some ⟨rb, ro, none⟩) na d1) ∧ w'.cell? ⟨w.heap.size + 1, 3, none⟩ = some (.int .i64 num) ∧ w'.cell? ⟨rb, ro + kk, none⟩ = some (.int .i64 zk))) (by kernel_rfl) ?chSs (fun hHeld => ?_)
    case chSs => exact ⟨l0, l1, l2, m0, m1, m2, m3, n0⟩
    clear l0 l1 l2 m0 m1 m2 m3 n0
    replace Bl := kept (Bl.out.keep ((Keeps.refl _ []).drew) (by simp))
    replace Bm := kept (Bm.out.keep ((Keeps.refl _ []).drew) (by simp))
    replace HK := kept (HK.out.drew)
    generalize World.drew _ = X0 at *
    obtain ⟨l0, l1, l2⟩ := Bl.out.c3
    obtain ⟨m0, m1, m2, m3⟩ := Bm.out.c4
    simp at l0 l1 l2 m0 m1 m2 m3
    have n0 := HK.out.cellOf N0.out
    refine tl 0 ⟨some 32, .load 26 (.tmp 2), 26, "typing.go:22", #[], none⟩ rfl hHeld ?_
    refine tl 1 ⟨some 33, .fieldAddr 43 (.tmp 3) 2, 0, "typing.go:22", #[], none⟩ rfl hHeld ?_
    refine tl 2 ⟨some 34, .load 23 (.tmp 33), 23, "typing.go:22", #[⟨1, .data⟩], none⟩ rfl hHeld ?_
    refine tl 3 ⟨some 35, .move (.tmp 5), 3, "typing.go:22", #[], none⟩ rfl hHeld ?_
    refine tl 4 ⟨some 36, .indexAddr 23 (.tmp 34) (.tmp 35), 0, "typing.go:22", #[⟨2, .data⟩, ⟨3, .data⟩], none⟩ rfl hHeld ?_
    refine tl 5 ⟨some 37, .load 3 (.tmp 36), 3, "typing.go:22", #[⟨4, .data⟩], none⟩ rfl hHeld ?_
    refine tl 7 ⟨some 39, .move (.tmp 6), 81, "typing.go:22", #[], none⟩ rfl hHeld ?_
    refine wpAnyH_ready (rs := [6]) (by kernel_rfl) (by simp) ?_
    refine AllReadyH.cons (o := ⟨some 38, .call ⟨.value (.func 95), #[.tmp 32, .tmp 37], #[26, 3]⟩, 81, "typing.go:22", #[⟨0, .data⟩, ⟨5, .data⟩], none⟩) rfl (fun K hK => ?_) AllReadyH.nil
    go_simp
    (with_reducible refine (C0 _ (HF3.out.keep HK.out)).mono ?_)
    rintro e wx ⟨rfl, k3⟩
    show K _ _
    clear hHeld
    clear l0 l1 l2 m0 m1 m2 m3 n0
    replace Bl := kept (Bl.out.keep k3 (by simp))
    replace Bm := kept (Bm.out.keep k3 (by simp))
    replace HK := kept (HK.out.and_then k3)
    obtain ⟨l0, l1, l2⟩ := Bl.out.c3
    obtain ⟨m0, m1, m2, m3⟩ := Bm.out.c4
    simp at l0 l1 l2 m0 m1 m2 m3
    have n0 := HK.out.cellOf N0.out
    clear k3
    refine hK.out _ _ ?chS6 (fun hHeld => ?_)
    case chS6 => exact ⟨l0, l1, l2, m0, m1, m2, m3, n0⟩
    clear hK K
    try simp only [Act.put, sA, sB, sC]
    refine tl 8 ⟨some 40, .binOp BinOp.neq 81 (.tmp 38) (.tmp 39) 81, 4, "typing.go:22", #[⟨6, .data⟩, ⟨7, .data⟩], none⟩ rfl hHeld ?_
    refine wpAnyH_done (by kernel_rfl) ?_ _
    clear hHeld
    go_wp2
    go_roundw
    case rel =>
     refine ⟨kk + 1, by omega, by go_num, HK.out, (show Hid _ from fun j hj => ?_)⟩
     by_cases e : j = kk
     ·subst e; rw [HZK.out, HZQ.out, HTQ.out]; exact hq
     ·exact A.out j (by omega)
    case measure => simp [intOf]; omega
  ·have hltz : ¬ (kk : Int) < (na : Int) := by omega
   obtain rfl : na = kk := by omega
   have k3 := HR.out
   clear l0 l1 l2 m0 m1 m2 m3; replace Bl := kept (Bl.out.keep k3 (by simp)); replace Bm := kept (Bm.out.keep k3 (by simp)); replace HK := kept (HK.out.and_then k3); obtain ⟨l0, l1, l2⟩ := Bl.out.c3; obtain ⟨m0, m1, m2, m3⟩ := Bm.out.c4; simp at l0 l1 l2 m0 m1 m2 m3; clear k3
   have HXX := kept (show TB = (!mb || zd == mt) by rw [HX.out, allR_yes A.out]; rfl)
   clear HX A HC HV CAr
   cases mb with
   | false =>
    clear CD
    go_wp2_with (go_at_call 97; refine (CM.out _).mono ?_; rintro e w4 ⟨rfl, k3⟩; clear l0 l1 l2 m0 m1 m2 m3; replace Bl := kept (Bl.out.keep k3 (by simp)); replace Bm := kept (Bm.out.keep k3 (by simp)); replace HK := kept (HK.out.and_then k3); obtain ⟨l0, l1, l2⟩ := Bl.out.c3; obtain ⟨m0, m1, m2, m3⟩ := Bm.out.c4; simp at l0 l1 l2 m0 m1 m2 m3; clear k3)
    go_ret
    exact ⟨ret_bool (by rw [HXX.out]; rfl), HKA.out.and_then HK.out⟩
   | true =>
    have CD2 := kept (fun w h => CD.out w h rfl)
    clear CD
    go_wp2_with (first | (go_at_call 97; refine (CM.out _).mono ?_; rintro e w4 ⟨rfl, k3⟩; clear l0 l1 l2 m0 m1 m2 m3; replace Bl := kept (Bl.out.keep k3 (by simp)); replace Bm := kept (Bm.out.keep k3 (by simp)); replace HK := kept (HK.out.and_then k3); obtain ⟨l0, l1, l2⟩ := Bl.out.c3; obtain ⟨m0, m1, m2, m3⟩ := Bm.out.c4; simp at l0 l1 l2 m0 m1 m2 m3; clear k3) | (go_at_call 95; refine (CD2.out _ (HF3.out.keep HK.out)).mono ?_; rintro e w4 ⟨rfl, k3⟩; clear l0 l1 l2 m0 m1 m2 m3; replace Bl := kept (Bl.out.keep k3 (by simp)); replace Bm := kept (Bm.out.keep k3 (by simp)); replace HK := kept (HK.out.and_then k3); obtain ⟨l0, l1, l2⟩ := Bl.out.c3; obtain ⟨m0, m1, m2, m3⟩ := Bm.out.c4; simp at l0 l1 l2 m0 m1 m2 m3; clear k3))
    go_ret
    exact ⟨ret_bool (by rw [HXX.out]; simp), HKA.out.and_then HK.out⟩
theorem tinst_any (f : FuncM) (x : InstM) (w : World) (hf : FuncAt w f) (hp : InstAt w x) (hi : instB f x = true) :
  Calls Tryz.prog 56 #[f.val, .agg #[.int .i64 x.op, .int .i64 x.dst, x.args.1, .int .i64 x.num]] w fun e w' => e = .returned (.bool (tinstB f x)) ∧ Keeps w w' [] := by
 unfold instB at hi
 simp only [Bool.and_eq_true, decide_eq_true_eq, beq_iff_eq, List.all_eq_true] at hi
 obtain ⟨⟨⟨⟨⟨h0, h27⟩, hl⟩, ha⟩, hd⟩, _⟩ := hi
 have ek : x.op = ((x.op.toNat : Nat) : Int) := by omega
 have hl' : x.args.2.length = (ktakes x.op.toNat).size := hl
 by_cases h1 : x.op = 1
 ·have hm : mk1 x.op = true := by rw [h1]; decide +kernel
  rw [if_pos hm] at hd
  have hl1 : x.args.2.length = 1 := by rw [hl', h1]; decide +kernel
  exact tinst_copy f x w hf hp h1 hl1 (ha _ (bang_mem (by omega))) hd
 ·exact tinst_more f x x.op.toNat (by omega) ek (by rw [← ek]; simpa using h1) w hf hp hl' ha (fun hm => by rw [← ek] at hm; rw [if_pos hm] at hd; exact hd)
end Go.Proofs.YtjllbchfojonhaaGreatDoor
