/- An instruction of a run; contracts. -/
import Derived.Test.YtjllbchfojonhaaGreatDoorRK
import Derived.Deep.RegionHeld3
namespace Go.Proofs.YtjllbchfojonhaaGreatDoor
open Go.RowKit
set_option linter.unusedVariables false
set_option linter.unusedSimpArgs false
set_option maxRecDepth 100000 in
set_option maxHeartbeats 200000000 in
theorem inst_hi (wB W : World) (g : Nat) (R : RepM) (f : FuncM) (n K : Nat) (ty : Int → Int) (s : StM) (x : InstM) (hlo : 14 ≤ x.op) (hx : InstOK n ty x) (hn : inI x.num = true) (h : WAt wB W g R f n s) (hG : GoodM n K s) (hA : IntsAt wB x.args) (hK : K < 1000000) : Calls Tryz.prog 48 #[.pointer (some ⟨g, 0, none⟩), .agg #[.int .i64 x.op, .int .i64 x.dst, x.args.1, .int .i64 x.num]] W (RunRet wB g f n (instM s x)) := by
 obtain ⟨op, dst, ⟨av, l⟩, num⟩ := x
 simp only at hlo
 obtain ⟨z, rfl⟩ : ∃ z : Nat, op = (z : Int) := ⟨op.toNat, by have := hx.op; simp only at this; omega⟩
 have hAB := kept hA
 obtain ⟨sa, sc, eav, -⟩ := hA
 simp only [List.length_map] at eav
 subst eav
 have hz27 : z < 27 := by have := hx.op; simp only at this; omega
 have hzi : (z : Int) < 27 := by omega
 have HW := kept (h.keep ((Keeps.refl W []).alloc (.cells #[.int .i64 (z : Nat), .int .i64 dst, .slice sa l.length sc, .int .i64 num] 43)))
 have BX := kept (Blk.new W 43 #[.int .i64 (z : Nat), .int .i64 dst, .slice sa l.length sc, .int .i64 num])
 have HX := kept hx
 have HN := kept hn
 have HG := kept hG
 have HRWD := kept (rows_word z hz27)
 clear h hG hx hn
 go_enter Tryz.func48, Tryz.ntmps48
 go_wp2
 generalize hx0 : W.alloc (.cells #[.int .i64 (z : Nat), .int .i64 dst, .slice sa l.length sc, .int .i64 num] 43) = X at *
 generalize W.heap.size = xg at *
 clear hx0
 generalize hll : l.length = ll at *
 have l0 := BX.out.cell 0
 simp at l0
 refine wp_region_held_drew (S := fun w' => w'.cell? ⟨xg, 0, none⟩ = some (.int .i64 (z : Nat))) (by kernel_rfl) ?hSs (fun hHeld => ?_)
 case hSs => exact l0
 clear l0
 have kz := ((Keeps.refl X []).drew)
 replace HW := kept (HW.out.keep kz)
 replace BX := kept (BX.out.keep kz (by simp))
 clear kz
 generalize World.drew X = X0 at *
 have l0 := BX.out.cell 0
 simp at l0
 refine tp 1 16 rfl hHeld ?_
 refine tp 2 17 rfl hHeld ?_
 refine t1 0 fun K hK => ?_
 go_simp
 (with_reducible refine (HRWD.out X0).mono ?_)
 rintro e X1 ⟨gb, rfl, k3, hr⟩
 show K _ _
 clear hHeld l0
 have kz := k3
 replace HW := kept (HW.out.keep kz)
 replace BX := kept (BX.out.keep kz (by simp))
 clear kz k3
 have HR : Hid (X1.cell? ⟨gb, z * 3, none⟩ = some (.string (kword z))) := kept hr
 clear hr
 have l0 := BX.out.cell 0
 simp at l0
 refine hK.out _ _ ?hS0 (fun hHeld => ?_)
 case hS0 => exact l0
 clear hK K
 try simp only [Act.put, sA, sB, sC]
 refine tp 3 18 rfl hHeld ?_
 refine tp 4 19 rfl hHeld ?_
 refine t1 5 fun K hK => ?_
 have hr := HR.out
 go_simp
 clear hr
 refine hK.out _ _ ?hS5 (fun hHeld => ?_)
 case hS5 => exact l0
 clear hK K
 try simp only [Act.put, sA, sB, sC]
 refine tp 6 4 rfl hHeld ?_
 refine wpAnyH_done (by kernel_rfl) ?_ _
 clear hHeld l0 HR HRWD hzi
 subst hll
 have hzc : z = 14 ∨ z = 15 ∨ z = 16 ∨ z = 17 ∨ z = 18 ∨ z = 19 ∨ z = 20 ∨ z = 21 ∨ z = 22 ∨ z = 23 ∨ z = 24 ∨ z = 25 ∨ z = 26 := by omega
 clear hlo hz27
 rcases hzc with rfl | rfl | rfl | rfl | rfl | rfl | rfl | rfl | rfl | rfl | rfl | rfl | rfl
 ·as_aux_lemma =>
   try clear hHeld
   have hx := HX.out
   have hn := HN.out
   have hG := HG.out
   have h := HW.out
   have hAW : IntsAt X1 (.slice sa l.length sc, l) := Row.keep hAB.out HW.out.k
   have hl : l.length = _ := hx.len (by simp)
   have hdx := hx.dst (by simp)
   have harg := hx.arg
   simp only at harg hl
   obtain ⟨a0, a1, a2, rfl⟩ := list3 hl
   have ha0 := harg a0 (by simp)
   have ha1 := harg a1 (by simp)
   have ha2 := harg a2 (by simp)
   clear harg hl
   obtain ⟨p0, rfl⟩ : ∃ p : Nat, a0 = p := ⟨a0.toNat, by omega⟩
   have h0 : p0 < n := by omega
   clear ha0
   obtain ⟨p1, rfl⟩ : ∃ p : Nat, a1 = p := ⟨a1.toNat, by omega⟩
   have h1 : p1 < n := by omega
   clear ha1
   obtain ⟨p2, rfl⟩ : ∃ p : Nat, a2 = p := ⟨a2.toNat, by omega⟩
   have h2 : p2 < n := by omega
   clear ha2
   obtain rfl : dst = -1 := hdx
   obtain ⟨xb, xo, xc, exs, y0, y1, y2⟩ := ints_cells3 hAW
   simp at exs
   obtain ⟨rfl, rfl⟩ := exs
   have Y0 := kept y0
   have Y1 := kept y1
   have Y2 := kept y2
   clear y0 y1 y2
   have HI0 := kept (hG.I (p0 : Nat))
   have HI1 := kept (hG.I (p1 : Nat))
   have HI2 := kept (hG.I (p2 : Nat))
   have HA0 := kept (hG.A (v := (p0 : Nat)) (by omega))
   clear h hG hAW hx hn HX HN HG
   have HE := kept (show instM s ⟨14, -1, (Value.slice (some ⟨xb, xo, none⟩) 3 sc, [(p0 : Nat), (p1 : Nat), (p2 : Nat)]), num⟩ = if placeM s (s.A (p0 : Nat)) (s.I (p1 : Nat)) = true then { s with arrays := s.arrays.set (s.A (p0 : Nat)).toNat (s.arrays[(s.A (p0 : Nat)).toNat]!.set (s.I (p1 : Nat)).toNat (s.I (p2 : Nat))) } else s.fin 2 by simp [instM, rawM, wrapI_eq])
   rw [show kword 14 = ⟨#[115, 116, 111, 114, 101]⟩ from rfl]
   obtain ⟨l0, l1, l2, l3⟩ := BX.out.c4
   simp at l0 l1 l2 l3
   have y0 := Y0.out
   have y1 := Y1.out
   have y2 := Y2.out
   have CC := kept (fun w => show Calls Tryz.prog 12 #[.int .i64 14] w fun e w' => e = .returned (.int .i64 0) ∧ w = w' from refcheck_any 14 w (by decide))
   have i0 := HW.out.int_at h0
   have b0 := HW.out.bool_at h0
   have a0 := HW.out.arr_at h0
   have i1 := HW.out.int_at h1
   have b1 := HW.out.bool_at h1
   have i2 := HW.out.int_at h2
   have b2 := HW.out.bool_at h2
   have c3 := HW.out.c3
   have c4 := HW.out.c4
   have c5 := HW.out.c5
   generalize hI0 : s.I (p0 : Nat) = I0 at *
   generalize hB0 : s.B (p0 : Nat) = B0 at *
   generalize hI1 : s.I (p1 : Nat) = I1 at *
   generalize hB1 : s.B (p1 : Nat) = B1 at *
   generalize hI2 : s.I (p2 : Nat) = I2 at *
   generalize hB2 : s.B (p2 : Nat) = B2 at *
   generalize hA0 : s.A (p0 : Nat) = A0 at *
   go_wp2_with (first | (go_at_call 12; refine (CC.out _).mono ?_; rintro e w3 ⟨rfl, rfl⟩))
   clear CC
   go_quiet (fail)
   generalize hYq : X1.drewN _ = X2 at *
   have KY := kept (show Keeps X1 X2 [] by rw [← hYq]; exact (Keeps.refl X1 []).drewN _)
   clear l0 l1 l2 l3 c3 c4 c5 y0 i0 b0 y1 i1 b1 y2 i2 b2 a0 hYq
   have kz := KY.out
   have HWx := kept (HW.out.keep kz)
   have BXx := kept (BX.out.keep kz (by simp))
   have Yx0 := kept (kz.cellOf Y0.out)
   have Yx1 := kept (kz.cellOf Y1.out)
   have Yx2 := kept (kz.cellOf Y2.out)
   clear HW BX kz Y0 Y1 Y2
   have HW := HWx
   have BX := BXx
   have Y0 := Yx0
   have Y1 := Yx1
   have Y2 := Yx2
   clear HWx BXx Yx0 Yx1 Yx2
   clear KY
   have c3 := HW.out.c3
   have c4 := HW.out.c4
   have i1 := HW.out.int_at h1
   have b1 := HW.out.bool_at h1
   have y1 := Y1.out
   rw [hI1] at i1
   rw [hB1] at b1
   go_wp2
   go_quiet (fail)
   generalize hYq : X2.drewN _ = Y at *
   have KY := kept (show Keeps X2 Y [] by rw [← hYq]; exact (Keeps.refl X2 []).drewN _)
   clear c3 c4 i1 b1 y1 hYq
   have kz := KY.out
   have HWx := kept (HW.out.keep kz)
   have BXx := kept (BX.out.keep kz (by simp))
   have Yx0 := kept (kz.cellOf Y0.out)
   have Yx1 := kept (kz.cellOf Y1.out)
   have Yx2 := kept (kz.cellOf Y2.out)
   clear HW BX kz Y0 Y1 Y2
   have HW := HWx
   have BX := BXx
   have Y0 := Yx0
   have Y1 := Yx1
   have Y2 := Yx2
   clear HWx BXx Yx0 Yx1 Yx2
   clear KY
   have HD := kept HW.out
   obtain ⟨l0, l1, l2, l3⟩ := BX.out.c4
   simp at l0 l1 l2 l3
   have CP := kept (fun W' (h' : WAt wB W' g R f n s) => place_any wB W' g R f n s A0 I1 h')
   rcases Bool.eq_false_or_eq_true (placeM s A0 I1) with hz | hz
   ·have HE2 := kept (HE.out.trans (if_pos hz))
    clear HE
    have HZ := kept hz
    go_wp2_with (first | (go_at_call 82; refine (CP.out _ HD.out).mono ?_; rintro e w3 ⟨rfl, rfl⟩))
    have hpl := HZ.out
    unfold placeM at hpl
    simp only [Bool.and_eq_true, decide_eq_true_eq] at hpl
    obtain ⟨⟨⟨q0, q1⟩, q2⟩, q3⟩ := hpl
    obtain ⟨a, rfl⟩ : ∃ a : Nat, A0 = a := ⟨A0.toNat, by omega⟩
    obtain ⟨b, rfl⟩ : ∃ b : Nat, I1 = b := ⟨I1.toNat, by omega⟩
    rw [show ((a : Nat) : Int).toNat = a from rfl] at HE2 q3
    rw [show ((b : Nat) : Int).toNat = b from rfl] at HE2
    have hlt : a < s.arrays.length := by omega
    have hlb : b < s.arrays[a]!.length := by omega
    obtain ⟨q, qc, q9, cc, e6, e8, e9, e10, e11⟩ := HW.out.elem hlt hlb
    clear HZ hz CP HD q0 q1 q2 q3 l0 l1 l2 l3
    have kd : Keeps Y (World.drew Y) [] := (Keeps.refl Y []).drew
    have HD := kept (HW.out.keep kd)
    have BD := kept (BX.out.keep kd (by simp))
    obtain ⟨l0d, l1d, l2d, l3d⟩ := BD.out.c4
    obtain ⟨l0, l1, l2, l3⟩ := BX.out.c4
    simp at l0 l1 l2 l3 l0d l1d l2d l3d
    have y0d := kd.cellOf Y0.out
    have y1d := kd.cellOf Y1.out
    have y2d := kd.cellOf Y2.out
    have y0 := Y0.out
    have y1 := Y1.out
    have y2 := Y2.out
    clear kd
    have c3 := HW.out.c3
    have c3d := HD.out.c3
    have i2 := HW.out.int_at h2
    have i2d := HD.out.int_at h2
    rw [hI2] at i2 i2d
    have e8d := ((Keeps.refl Y []).drew).cellOf e8
    have e9d := ((Keeps.refl Y []).drew).cellOf e9
    have c6 := HW.out.c6
    have c6d := HD.out.c6
    rw [e6] at c6 c6d
    have e10d : (World.drew Y).frozen? ⟨q9, b, none⟩ = false := e10
    have HS := HW.out.store hlt e11 b I2
    have HS2 := HD.out.store hlt e11 b I2
    have HQ1 := kept hlt
    have HQ2 := kept hlb
    have HS1 := kept HS
    have HS3 := kept HS2
    clear HS HS2 e11
    generalize hkk : s.arrays[a]!.length = kk at *
    generalize hm2 : s.arrays.length = m at *
    go_region
    go_wp2
    first | (change bodyPost Tryz.prog Tryz.f48 _ Exit.normal _ _; refine bodyPost_end (v := .tuple #[]) (by have h : Tryz.f48.results = #[] := (by kernel_rfl); simp [results, h]) rfl ⟨rfl, { R with ar := R.ar.set a ((R.ar[a]! : IntsM).1, s.arrays[a]!.set b I2) }, ?_⟩) | (change bodyPost Tryz.prog Tryz.f48 _ Exit.ret _ _; refine bodyPost_ret (v := .tuple #[]) (by have h : Tryz.f48.results = #[] := (by kernel_rfl); simp [results, h]) rfl ⟨rfl, { R with ar := R.ar.set a ((R.ar[a]! : IntsM).1, s.arrays[a]!.set b I2) }, ?_⟩)
    show WAt _ _ _ _ _ _ (instM s ⟨14, -1, (Value.slice (some ⟨xb, xo, none⟩) 3 sc, [(p0 : Nat), (p1 : Nat), (p2 : Nat)]), num⟩)
    rw [HE2.out]
    first | exact HS3.out | exact HS1.out | exact (HS1.out).keep ((Keeps.refl _ []).drew)
   ·have HE2 := kept (HE.out.trans (if_neg (by rw [hz]; decide)))
    clear HE
    go_wp2_with (first | (go_at_call 82; refine (CP.out _ HD.out).mono ?_; rintro e w3 ⟨rfl, rfl⟩) | (go_at_call 49; refine (end84_any wB _ g R f n s (2) HD.out).mono ?_; rintro e w3 ⟨rfl, HF⟩))
    first | refine e48n rfl ⟨rfl, R, ?_⟩ | refine e48r rfl ⟨rfl, R, ?_⟩
    show WAt _ _ _ _ _ _ (instM s ⟨14, -1, (Value.slice (some ⟨xb, xo, none⟩) 3 sc, [(p0 : Nat), (p1 : Nat), (p2 : Nat)]), num⟩)
    rw [HE2.out]
    exact HF
 ·as_aux_lemma =>
   try clear hHeld
   have hx := HX.out
   have hn := HN.out
   have hG := HG.out
   have h := HW.out
   have hAW : IntsAt X1 (.slice sa l.length sc, l) := Row.keep hAB.out HW.out.k
   have hl : l.length = _ := hx.len (by simp)
   have hdx := hx.dst (by simp)
   have harg := hx.arg
   simp only at harg hl
   obtain ⟨a0, rfl⟩ : ∃ a, l = [a] := List.length_eq_one_iff.1 hl
   have ha0 := harg a0 (by simp)
   clear harg hl
   obtain ⟨p0, rfl⟩ : ∃ p : Nat, a0 = p := ⟨a0.toNat, by omega⟩
   have h0 : p0 < n := by omega
   clear ha0
   obtain ⟨hd0, hd1, _⟩ : 0 ≤ dst ∧ dst < (n : Int) ∧ _ := hdx
   obtain ⟨d, rfl⟩ : ∃ d : Nat, dst = d := ⟨dst.toNat, by omega⟩
   have hd : d < n := by omega
   clear hd0 hd1
   obtain ⟨xb, xo, xc, exs, y0⟩ := ints_cells1 hAW
   simp at exs
   obtain ⟨rfl, rfl⟩ := exs
   have Y0 := kept y0
   clear y0
   have HI0 := kept (hG.I (p0 : Nat))
   have HM := kept hG.m
   clear h hG hAW hx hn HX HN HG
   have HE := kept (show instM s ⟨15, (d : Nat), (Value.slice (some ⟨xb, xo, none⟩) 1 sc, [(p0 : Nat)]), num⟩ = if s.I (p0 : Nat) < 0 ∨ 64 < s.I (p0 : Nat) then s.fin 2 else if 32 ≤ s.arrays.length then s.fin 3 else ({ s with arrays := s.arrays ++ [List.replicate (s.I (p0 : Nat)).toNat 0] }).setA (d : Nat) s.arrays.length by simp [instM, rawM, wrapI_eq])
   rw [show kword 15 = ⟨#[110, 101, 119]⟩ from rfl]
   obtain ⟨l0, l1, l2, l3⟩ := BX.out.c4
   simp at l0 l1 l2 l3
   have y0 := Y0.out
   have CC := kept (fun w => show Calls Tryz.prog 12 #[.int .i64 15] w fun e w' => e = .returned (.int .i64 0) ∧ w = w' from refcheck_any 15 w (by decide))
   have i0 := HW.out.int_at h0
   have b0 := HW.out.bool_at h0
   have a0 := HW.out.arr_at h0
   have c3 := HW.out.c3
   have c4 := HW.out.c4
   have c5 := HW.out.c5
   generalize hI0 : s.I (p0 : Nat) = I0 at *
   generalize hB0 : s.B (p0 : Nat) = B0 at *
   generalize hA0 : s.A (p0 : Nat) = A0 at *
   go_wp2_with (first | (go_at_call 12; refine (CC.out _).mono ?_; rintro e w3 ⟨rfl, rfl⟩))
   clear CC
   go_quiet (fail)
   generalize hYq : X1.drewN _ = Y at *
   have KY := kept (show Keeps X1 Y [] by rw [← hYq]; exact (Keeps.refl X1 []).drewN _)
   clear l0 l1 l2 l3 c3 c4 c5 y0 i0 b0 a0 hYq
   have kz := KY.out
   have HWx := kept (HW.out.keep kz)
   have BXx := kept (BX.out.keep kz (by simp))
   have Yx0 := kept (kz.cellOf Y0.out)
   clear HW BX kz Y0
   have HW := HWx
   have BX := BXx
   have Y0 := Yx0
   clear HWx BXx Yx0
   clear KY
   have HD := kept HW.out
   obtain ⟨l0, l1, l2, l3⟩ := BX.out.c4
   simp at l0 l1 l2 l3
   obtain ⟨ta, tc, et⟩ := HW.out.form
   have HO := kept HW.out.rows
   have HAL := kept HW.out.alen
   have c6 := HW.out.c6
   rw [et] at c6
   obtain ⟨i61, hi2, he2⟩ := Option.map_eq_some_iff.1 info61
   simp only [Prod.mk.injEq] at he2
   obtain ⟨hz2, hs2, hb2⟩ := he2
   by_cases hz : I0 < 0 ∨ 64 < I0
   ·have HE2 := kept (HE.out.trans (if_pos hz))
    clear HE
    rcases Bool.eq_false_or_eq_true (decide (I0 < 0)) with hq | hq
    ·go_wp2_with (first | (go_at_call 49; refine (end84_any wB _ g R f n s (2) HD.out).mono ?_; rintro e w3 ⟨rfl, HF⟩))
     first | refine e48n rfl ⟨rfl, R, ?_⟩ | refine e48r rfl ⟨rfl, R, ?_⟩
     show WAt _ _ _ _ _ _ (instM s ⟨15, (d : Nat), (Value.slice (some ⟨xb, xo, none⟩) 1 sc, [(p0 : Nat)]), num⟩)
     rw [HE2.out]
     exact HF
    ·have hq2 : 64 < I0 := by simp at hq; omega
     go_wp2_with (first | (go_at_call 49; refine (end84_any wB _ g R f n s (2) HD.out).mono ?_; rintro e w3 ⟨rfl, HF⟩))
     first | refine e48n rfl ⟨rfl, R, ?_⟩ | refine e48r rfl ⟨rfl, R, ?_⟩
     show WAt _ _ _ _ _ _ (instM s ⟨15, (d : Nat), (Value.slice (some ⟨xb, xo, none⟩) 1 sc, [(p0 : Nat)]), num⟩)
     rw [HE2.out]
     exact HF
   have HE2 := kept (HE.out.trans (if_neg hz))
   clear HE
   obtain ⟨hi0, hi1⟩ : 0 ≤ I0 ∧ I0 ≤ 64 := by omega
   obtain ⟨a, rfl⟩ : ∃ a : Nat, I0 = a := ⟨I0.toNat, by omega⟩
   rw [show ((a : Nat) : Int).toNat = a from rfl] at HE2
   have ha64 : a ≤ 64 := by omega
   by_cases hm : 32 ≤ s.arrays.length
   ·have HE3 := kept (HE2.out.trans (if_pos hm))
    clear HE2
    go_wp2_with (first | (go_at_call 49; refine (end84_any wB _ g R f n s (3) HD.out).mono ?_; rintro e w3 ⟨rfl, HF⟩))
    first | refine e48n rfl ⟨rfl, R, ?_⟩ | refine e48r rfl ⟨rfl, R, ?_⟩
    show WAt _ _ _ _ _ _ (instM s ⟨15, (d : Nat), (Value.slice (some ⟨xb, xo, none⟩) 1 sc, [(p0 : Nat)]), num⟩)
    rw [HE3.out]
    exact HF
   ·have HE3 := kept (HE2.out.trans (if_neg hm))
    clear HE2
    have hhm : (s.arrays.length : Int) < 32 := by omega
    go_wp2
    refine wp_region_held_drew (S := fun _ => True) (by kernel_rfl) ?h5Ss (fun hHeld => ?_)
    case h5Ss => exact trivial
    clear l0 l1 l2 l3 c6 HD
    have kz := ((Keeps.refl Y []).drew)
    have HWx := kept (HW.out.keep kz)
    have BXx := kept (BX.out.keep kz (by simp))
    have Yx0 := kept (kz.cellOf Y0.out)
    clear HW BX kz Y0
    have HW := HWx
    have BX := BXx
    have Y0 := Yx0
    clear HWx BXx Yx0
    clear HO
    generalize World.drew Y = Z0 at *
    have c6 := HW.out.c6
    rw [et] at c6
    refine tp 0 310 rfl hHeld ?_
    refine tp 1 311 rfl hHeld ?_
    refine tp 2 312 rfl hHeld ?_
    refine tp 3 313 rfl hHeld ?_
    refine tp 5 315 rfl hHeld ?_
    refine t2 [4, 6] ?_
    refine t3 (fun K hK => ?_) ?_
    ·clear hHeld
     go_simp
     refine hK.out _ _ trivial (fun hHeld => ?_)
     clear hK K
     try simp only [Act.put, sA, sB, sC]
     refine t2 [6] ?_
     refine t3 (fun K hK => ?_) ?_
     ·clear hHeld
      have hmk := make_ints a (by omega) Z0
      go_simp
      clear hmk
      have k3 : Keeps Z0 (Z0.alloc (.cells (i64C (List.replicate a 0)) 2)) [] := (Keeps.refl Z0 []).alloc _
      have HB1 := kept (Blk.new Z0 2 (i64C (List.replicate a 0)))
      have HW0 := HW
      have HWS := kept HW.out.k.size
      clear c6
      have kz := k3
      have HWx := kept (HW.out.keep kz)
      have BXx := kept (BX.out.keep kz (by simp))
      have Yx0 := kept (kz.cellOf Y0.out)
      clear HW BX kz Y0 k3
      have HW := HWx
      have BX := BXx
      have Y0 := Yx0
      clear HWx BXx Yx0
      have K01 := kept ((Keeps.refl Z0 []).alloc (.cells (i64C (List.replicate a 0)) 2))
      have HQ := kept (show wB.heap.size ≤ Z0.heap.size from HWS.out)
      generalize hZ1 : Z0.alloc (.cells (i64C (List.replicate a 0)) 2) = Z1 at *
      generalize hqq : Z0.heap.size = qq at *
      clear hZ1
      have c6 := HW.out.c6
      rw [et] at c6
      refine hK.out _ _ trivial (fun hHeld => ?_)
      clear hK K
      try simp only [Act.put, sA, sB, sC]
      refine t2 [7] ?_
      refine t3 (fun K hK => ?_) ?_
      ·clear hHeld
       go_simp
       clear c6
       have k3 : Keeps Z1 (Z1.alloc (.cells #[.slice (some ⟨qq, 0, none⟩) a a] 64)) [] := (Keeps.refl Z1 []).alloc _
       have kz := k3
       have HWx := kept (HW.out.keep kz)
       have BXx := kept (BX.out.keep kz (by simp))
       have Yx0 := kept (kz.cellOf Y0.out)
       clear HW BX kz Y0 k3
       have HW := HWx
       have BX := BXx
       have Y0 := Yx0
       clear HWx BXx Yx0
       have HN := kept (news_one Z1 (.slice (some ⟨qq, 0, none⟩) a a) 64)
       have K02 := kept (K01.out.alloc (.cells #[.slice (some ⟨qq, 0, none⟩) a a] 64))
       have HB2 := kept (HB1.out.keep ((Keeps.refl Z1 []).alloc (.cells #[.slice (some ⟨qq, 0, none⟩) a a] 64)) (by simp))
       clear HB1 K01
       generalize hZ2 : Z1.alloc (.cells #[.slice (some ⟨qq, 0, none⟩) a a] 64) = Z2 at *
       generalize Z1.heap.size = q2 at *
       clear hZ2
       have c6 := HW.out.c6
       rw [et] at c6
       refine hK.out _ _ trivial (fun hHeld => ?_)
       clear hK K
       try simp only [Act.put, sA, sB, sC]
       refine t2 [8] ?_
       refine t3 (fun K hK => ?_) ?_
       ·clear hHeld
        have HO := HW.out.rows
        have HWS2 := HW.out.k.size
        rw [et, HAL.out] at HO
        refine wp_append_own _ (.tmp 314) (.tmp 317) 55 rfl wB.heap.size 64 i61 (.slice none 0 0) 1 24 Tryz.underlying55 hi2 hz2 hs2 hb2 rfl (by decide) _ _ _ rfl HO ⟨q2, 0, none⟩ 1 1 [.slice (some ⟨qq, 0, none⟩) a a] rfl rfl HN.out (ones_one rfl) (by unfold maxLen; omega) (by omega) HWS2 ?_
        intro v' Z3 hown' hgrow3 _
        obtain ⟨va, vc, rfl, _, _⟩ := own_form hown'
        have hg2 : Z2.grownBy Z3 R.va.ownBlock := (by rw [et]; exact hgrow3)
        have HOA := kept (own_made (base := wB.heap.size) HB2.out HQ.out (by rw [List.length_replicate]; omega))
        rw [List.length_replicate] at HOA
        have HOA2 : Hid (Z2.ownsRow wB.heap.size 2 1 (.slice (some ⟨qq, 0, none⟩) a a) (List.replicate a (0 : Int)).length ((List.replicate a (0 : Int)).map (Value.int .i64))) := kept (by rw [List.length_replicate]; exact HOA.out)
        have HF := kept (HW0.out.more K02.out HOA2.out (fun b e => by rw [hqq]; exact Nat.le_of_eq (Option.some.inj e)) hg2 (by rw [HAL.out]; exact hown'))
        have HB3 := kept (show Blk Z3 g 75 (stateC R f n s) from (hg2.block g HW.out.blk.lt (fun e => own_ne HW.out.rows HW.out.blk (by decide) e.symm)).trans HW.out.blk)
        have d0 := HB3.out.frozen 6
        have d1 : Z3.cell? ⟨g, 6, none⟩ = some R.va := (HB3.out.cell 6).trans rfl
        rw [et] at d1
        clear hg2 hown' hgrow3 HO HWS2 c6
        refine hK.out _ _ trivial (fun hHeld => ?_)
        clear hK K
        try simp only [Act.put, sA, sB, sC]
        refine tp 9 319 rfl hHeld ?_
        refine tp 10 320 rfl hHeld ?_
        refine t1 11 fun K hK => ?_
        go_simp
        clear HW0 HW BX HB2 K02 HN HOA HOA2 HQ HWS HB3 d0 d1
        refine hK.out _ _ trivial (fun hHeld => ?_)
        clear hK K
        try simp only [Act.put, sA, sB, sC]
        refine wpAnyH_done (by kernel_rfl) ?_ _
        generalize hV : Z3.setCell ⟨g, 6, none⟩ (.slice va (s.arrays.length + 1) vc) = V at *
        clear hV hqq
        have hdV := (HF.out.keep ((Keeps.refl V []).drew))
        have z1 : V.cell? ⟨g, 5, none⟩ = some (.slice (some ⟨R.ga, 0, none⟩) n n) := HF.out.c5
        have z2 : V.cell? ⟨g, 6, none⟩ = some (.slice va (s.arrays.length + 1) vc) := HF.out.c6
        have z3 : V.frozen? ⟨R.ga, d, none⟩ = false := HF.out.ba.2.1.frozen d
        have z4 : V.cell? ⟨R.ga, d, none⟩ = _ := HF.out.arr_at hd
        have z5 : (World.drew V).cell? ⟨g, 5, none⟩ = some (.slice (some ⟨R.ga, 0, none⟩) n n) := hdV.c5
        have z6 : (World.drew V).cell? ⟨g, 6, none⟩ = some (.slice va (s.arrays.length + 1) vc) := hdV.c6
        have z7 : (World.drew V).frozen? ⟨R.ga, d, none⟩ = false := hdV.ba.2.1.frozen d
        have z8 : (World.drew V).cell? ⟨R.ga, d, none⟩ = _ := hdV.arr_at hd
        have HDV := kept hdV
        clear hdV
        generalize hml : s.arrays.length = m at *
        have hw1 : IntKind.i64.wrap ((m : Int) + 1 - 1) = (m : Int) := by rw [Int.add_sub_cancel]; exact IntWalk.i64_in _ (by omega)
        go_wp2
        go_region
        go_wp2
        first | (change bodyPost Tryz.prog Tryz.f48 _ Exit.normal _ _; refine bodyPost_end (v := .tuple #[]) (by have h : Tryz.f48.results = #[] := (by kernel_rfl); simp [results, h]) rfl ⟨rfl, { R with va := .slice va (m + 1) vc, ar := R.ar ++ [(.slice (some ⟨qq, 0, none⟩) a a, List.replicate a 0)] }, ?_⟩) | (change bodyPost Tryz.prog Tryz.f48 _ Exit.ret _ _; refine bodyPost_ret (v := .tuple #[]) (by have h : Tryz.f48.results = #[] := (by kernel_rfl); simp [results, h]) rfl ⟨rfl, { R with va := .slice va (m + 1) vc, ar := R.ar ++ [(.slice (some ⟨qq, 0, none⟩) a a, List.replicate a 0)] }, ?_⟩)
        show WAt _ _ _ _ _ _ (instM s ⟨15, (d : Nat), (Value.slice (some ⟨xb, xo, none⟩) 1 sc, [(p0 : Nat)]), num⟩)
        rw [HE3.out]
        first | exact HDV.out.setA d _ | exact HF.out.setA d _ | exact (HF.out.setA d _).keep ((Keeps.refl _ []).drew)
       exact t4
      exact t4
     exact t4
    refine t3 (fun K hK => ?_) ?_
    ·clear hHeld
     have hmk := make_ints a (by omega) Z0
     go_simp
     clear hmk
     have k3 : Keeps Z0 (Z0.alloc (.cells (i64C (List.replicate a 0)) 2)) [] := (Keeps.refl Z0 []).alloc _
     have HB1 := kept (Blk.new Z0 2 (i64C (List.replicate a 0)))
     have HW0 := HW
     have HWS := kept HW.out.k.size
     clear c6
     have kz := k3
     have HWx := kept (HW.out.keep kz)
     have BXx := kept (BX.out.keep kz (by simp))
     have Yx0 := kept (kz.cellOf Y0.out)
     clear HW BX kz Y0 k3
     have HW := HWx
     have BX := BXx
     have Y0 := Yx0
     clear HWx BXx Yx0
     have K01 := kept ((Keeps.refl Z0 []).alloc (.cells (i64C (List.replicate a 0)) 2))
     have HQ := kept (show wB.heap.size ≤ Z0.heap.size from HWS.out)
     generalize hZ1 : Z0.alloc (.cells (i64C (List.replicate a 0)) 2) = Z1 at *
     generalize hqq : Z0.heap.size = qq at *
     clear hZ1
     have c6 := HW.out.c6
     rw [et] at c6
     refine hK.out _ _ trivial (fun hHeld => ?_)
     clear hK K
     try simp only [Act.put, sA, sB, sC]
     refine t2 [4, 7] ?_
     refine t3 (fun K hK => ?_) ?_
     ·clear hHeld
      go_simp
      refine hK.out _ _ trivial (fun hHeld => ?_)
      clear hK K
      try simp only [Act.put, sA, sB, sC]
      refine t2 [7] ?_
      refine t3 (fun K hK => ?_) ?_
      ·clear hHeld
       go_simp
       clear c6
       have k3 : Keeps Z1 (Z1.alloc (.cells #[.slice (some ⟨qq, 0, none⟩) a a] 64)) [] := (Keeps.refl Z1 []).alloc _
       have kz := k3
       have HWx := kept (HW.out.keep kz)
       have BXx := kept (BX.out.keep kz (by simp))
       have Yx0 := kept (kz.cellOf Y0.out)
       clear HW BX kz Y0 k3
       have HW := HWx
       have BX := BXx
       have Y0 := Yx0
       clear HWx BXx Yx0
       have HN := kept (news_one Z1 (.slice (some ⟨qq, 0, none⟩) a a) 64)
       have K02 := kept (K01.out.alloc (.cells #[.slice (some ⟨qq, 0, none⟩) a a] 64))
       have HB2 := kept (HB1.out.keep ((Keeps.refl Z1 []).alloc (.cells #[.slice (some ⟨qq, 0, none⟩) a a] 64)) (by simp))
       clear HB1 K01
       generalize hZ2 : Z1.alloc (.cells #[.slice (some ⟨qq, 0, none⟩) a a] 64) = Z2 at *
       generalize Z1.heap.size = q2 at *
       clear hZ2
       have c6 := HW.out.c6
       rw [et] at c6
       refine hK.out _ _ trivial (fun hHeld => ?_)
       clear hK K
       try simp only [Act.put, sA, sB, sC]
       refine t2 [8] ?_
       refine t3 (fun K hK => ?_) ?_
       ·clear hHeld
        have HO := HW.out.rows
        have HWS2 := HW.out.k.size
        rw [et, HAL.out] at HO
        refine wp_append_own _ (.tmp 314) (.tmp 317) 55 rfl wB.heap.size 64 i61 (.slice none 0 0) 1 24 Tryz.underlying55 hi2 hz2 hs2 hb2 rfl (by decide) _ _ _ rfl HO ⟨q2, 0, none⟩ 1 1 [.slice (some ⟨qq, 0, none⟩) a a] rfl rfl HN.out (ones_one rfl) (by unfold maxLen; omega) (by omega) HWS2 ?_
        intro v' Z3 hown' hgrow3 _
        obtain ⟨va, vc, rfl, _, _⟩ := own_form hown'
        have hg2 : Z2.grownBy Z3 R.va.ownBlock := (by rw [et]; exact hgrow3)
        have HOA := kept (own_made (base := wB.heap.size) HB2.out HQ.out (by rw [List.length_replicate]; omega))
        rw [List.length_replicate] at HOA
        have HOA2 : Hid (Z2.ownsRow wB.heap.size 2 1 (.slice (some ⟨qq, 0, none⟩) a a) (List.replicate a (0 : Int)).length ((List.replicate a (0 : Int)).map (Value.int .i64))) := kept (by rw [List.length_replicate]; exact HOA.out)
        have HF := kept (HW0.out.more K02.out HOA2.out (fun b e => by rw [hqq]; exact Nat.le_of_eq (Option.some.inj e)) hg2 (by rw [HAL.out]; exact hown'))
        have HB3 := kept (show Blk Z3 g 75 (stateC R f n s) from (hg2.block g HW.out.blk.lt (fun e => own_ne HW.out.rows HW.out.blk (by decide) e.symm)).trans HW.out.blk)
        have d0 := HB3.out.frozen 6
        have d1 : Z3.cell? ⟨g, 6, none⟩ = some R.va := (HB3.out.cell 6).trans rfl
        rw [et] at d1
        clear hg2 hown' hgrow3 HO HWS2 c6
        refine hK.out _ _ trivial (fun hHeld => ?_)
        clear hK K
        try simp only [Act.put, sA, sB, sC]
        refine tp 9 319 rfl hHeld ?_
        refine tp 10 320 rfl hHeld ?_
        refine t1 11 fun K hK => ?_
        go_simp
        clear HW0 HW BX HB2 K02 HN HOA HOA2 HQ HWS HB3 d0 d1
        refine hK.out _ _ trivial (fun hHeld => ?_)
        clear hK K
        try simp only [Act.put, sA, sB, sC]
        refine wpAnyH_done (by kernel_rfl) ?_ _
        generalize hV : Z3.setCell ⟨g, 6, none⟩ (.slice va (s.arrays.length + 1) vc) = V at *
        clear hV hqq
        have hdV := (HF.out.keep ((Keeps.refl V []).drew))
        have z1 : V.cell? ⟨g, 5, none⟩ = some (.slice (some ⟨R.ga, 0, none⟩) n n) := HF.out.c5
        have z2 : V.cell? ⟨g, 6, none⟩ = some (.slice va (s.arrays.length + 1) vc) := HF.out.c6
        have z3 : V.frozen? ⟨R.ga, d, none⟩ = false := HF.out.ba.2.1.frozen d
        have z4 : V.cell? ⟨R.ga, d, none⟩ = _ := HF.out.arr_at hd
        have z5 : (World.drew V).cell? ⟨g, 5, none⟩ = some (.slice (some ⟨R.ga, 0, none⟩) n n) := hdV.c5
        have z6 : (World.drew V).cell? ⟨g, 6, none⟩ = some (.slice va (s.arrays.length + 1) vc) := hdV.c6
        have z7 : (World.drew V).frozen? ⟨R.ga, d, none⟩ = false := hdV.ba.2.1.frozen d
        have z8 : (World.drew V).cell? ⟨R.ga, d, none⟩ = _ := hdV.arr_at hd
        have HDV := kept hdV
        clear hdV
        generalize hml : s.arrays.length = m at *
        have hw1 : IntKind.i64.wrap ((m : Int) + 1 - 1) = (m : Int) := by rw [Int.add_sub_cancel]; exact IntWalk.i64_in _ (by omega)
        go_wp2
        go_region
        go_wp2
        first | (change bodyPost Tryz.prog Tryz.f48 _ Exit.normal _ _; refine bodyPost_end (v := .tuple #[]) (by have h : Tryz.f48.results = #[] := (by kernel_rfl); simp [results, h]) rfl ⟨rfl, { R with va := .slice va (m + 1) vc, ar := R.ar ++ [(.slice (some ⟨qq, 0, none⟩) a a, List.replicate a 0)] }, ?_⟩) | (change bodyPost Tryz.prog Tryz.f48 _ Exit.ret _ _; refine bodyPost_ret (v := .tuple #[]) (by have h : Tryz.f48.results = #[] := (by kernel_rfl); simp [results, h]) rfl ⟨rfl, { R with va := .slice va (m + 1) vc, ar := R.ar ++ [(.slice (some ⟨qq, 0, none⟩) a a, List.replicate a 0)] }, ?_⟩)
        show WAt _ _ _ _ _ _ (instM s ⟨15, (d : Nat), (Value.slice (some ⟨xb, xo, none⟩) 1 sc, [(p0 : Nat)]), num⟩)
        rw [HE3.out]
        first | exact HDV.out.setA d _ | exact HF.out.setA d _ | exact (HF.out.setA d _).keep ((Keeps.refl _ []).drew)
       exact t4
      exact t4
     refine t3 (fun K hK => ?_) ?_
     ·clear hHeld
      go_simp
      clear c6
      have k3 : Keeps Z1 (Z1.alloc (.cells #[.slice (some ⟨qq, 0, none⟩) a a] 64)) [] := (Keeps.refl Z1 []).alloc _
      have kz := k3
      have HWx := kept (HW.out.keep kz)
      have BXx := kept (BX.out.keep kz (by simp))
      have Yx0 := kept (kz.cellOf Y0.out)
      clear HW BX kz Y0 k3
      have HW := HWx
      have BX := BXx
      have Y0 := Yx0
      clear HWx BXx Yx0
      have HN := kept (news_one Z1 (.slice (some ⟨qq, 0, none⟩) a a) 64)
      have K02 := kept (K01.out.alloc (.cells #[.slice (some ⟨qq, 0, none⟩) a a] 64))
      have HB2 := kept (HB1.out.keep ((Keeps.refl Z1 []).alloc (.cells #[.slice (some ⟨qq, 0, none⟩) a a] 64)) (by simp))
      clear HB1 K01
      generalize hZ2 : Z1.alloc (.cells #[.slice (some ⟨qq, 0, none⟩) a a] 64) = Z2 at *
      generalize Z1.heap.size = q2 at *
      clear hZ2
      have c6 := HW.out.c6
      rw [et] at c6
      refine hK.out _ _ trivial (fun hHeld => ?_)
      clear hK K
      try simp only [Act.put, sA, sB, sC]
      refine t2 [4] ?_
      refine t3 (fun K hK => ?_) ?_
      ·clear hHeld
       go_simp
       refine hK.out _ _ trivial (fun hHeld => ?_)
       clear hK K
       try simp only [Act.put, sA, sB, sC]
       refine t2 [8] ?_
       refine t3 (fun K hK => ?_) ?_
       ·clear hHeld
        have HO := HW.out.rows
        have HWS2 := HW.out.k.size
        rw [et, HAL.out] at HO
        refine wp_append_own _ (.tmp 314) (.tmp 317) 55 rfl wB.heap.size 64 i61 (.slice none 0 0) 1 24 Tryz.underlying55 hi2 hz2 hs2 hb2 rfl (by decide) _ _ _ rfl HO ⟨q2, 0, none⟩ 1 1 [.slice (some ⟨qq, 0, none⟩) a a] rfl rfl HN.out (ones_one rfl) (by unfold maxLen; omega) (by omega) HWS2 ?_
        intro v' Z3 hown' hgrow3 _
        obtain ⟨va, vc, rfl, _, _⟩ := own_form hown'
        have hg2 : Z2.grownBy Z3 R.va.ownBlock := (by rw [et]; exact hgrow3)
        have HOA := kept (own_made (base := wB.heap.size) HB2.out HQ.out (by rw [List.length_replicate]; omega))
        rw [List.length_replicate] at HOA
        have HOA2 : Hid (Z2.ownsRow wB.heap.size 2 1 (.slice (some ⟨qq, 0, none⟩) a a) (List.replicate a (0 : Int)).length ((List.replicate a (0 : Int)).map (Value.int .i64))) := kept (by rw [List.length_replicate]; exact HOA.out)
        have HF := kept (HW0.out.more K02.out HOA2.out (fun b e => by rw [hqq]; exact Nat.le_of_eq (Option.some.inj e)) hg2 (by rw [HAL.out]; exact hown'))
        have HB3 := kept (show Blk Z3 g 75 (stateC R f n s) from (hg2.block g HW.out.blk.lt (fun e => own_ne HW.out.rows HW.out.blk (by decide) e.symm)).trans HW.out.blk)
        have d0 := HB3.out.frozen 6
        have d1 : Z3.cell? ⟨g, 6, none⟩ = some R.va := (HB3.out.cell 6).trans rfl
        rw [et] at d1
        clear hg2 hown' hgrow3 HO HWS2 c6
        refine hK.out _ _ trivial (fun hHeld => ?_)
        clear hK K
        try simp only [Act.put, sA, sB, sC]
        refine tp 9 319 rfl hHeld ?_
        refine tp 10 320 rfl hHeld ?_
        refine t1 11 fun K hK => ?_
        go_simp
        clear HW0 HW BX HB2 K02 HN HOA HOA2 HQ HWS HB3 d0 d1
        refine hK.out _ _ trivial (fun hHeld => ?_)
        clear hK K
        try simp only [Act.put, sA, sB, sC]
        refine wpAnyH_done (by kernel_rfl) ?_ _
        generalize hV : Z3.setCell ⟨g, 6, none⟩ (.slice va (s.arrays.length + 1) vc) = V at *
        clear hV hqq
        have hdV := (HF.out.keep ((Keeps.refl V []).drew))
        have z1 : V.cell? ⟨g, 5, none⟩ = some (.slice (some ⟨R.ga, 0, none⟩) n n) := HF.out.c5
        have z2 : V.cell? ⟨g, 6, none⟩ = some (.slice va (s.arrays.length + 1) vc) := HF.out.c6
        have z3 : V.frozen? ⟨R.ga, d, none⟩ = false := HF.out.ba.2.1.frozen d
        have z4 : V.cell? ⟨R.ga, d, none⟩ = _ := HF.out.arr_at hd
        have z5 : (World.drew V).cell? ⟨g, 5, none⟩ = some (.slice (some ⟨R.ga, 0, none⟩) n n) := hdV.c5
        have z6 : (World.drew V).cell? ⟨g, 6, none⟩ = some (.slice va (s.arrays.length + 1) vc) := hdV.c6
        have z7 : (World.drew V).frozen? ⟨R.ga, d, none⟩ = false := hdV.ba.2.1.frozen d
        have z8 : (World.drew V).cell? ⟨R.ga, d, none⟩ = _ := hdV.arr_at hd
        have HDV := kept hdV
        clear hdV
        generalize hml : s.arrays.length = m at *
        have hw1 : IntKind.i64.wrap ((m : Int) + 1 - 1) = (m : Int) := by rw [Int.add_sub_cancel]; exact IntWalk.i64_in _ (by omega)
        go_wp2
        go_region
        go_wp2
        first | (change bodyPost Tryz.prog Tryz.f48 _ Exit.normal _ _; refine bodyPost_end (v := .tuple #[]) (by have h : Tryz.f48.results = #[] := (by kernel_rfl); simp [results, h]) rfl ⟨rfl, { R with va := .slice va (m + 1) vc, ar := R.ar ++ [(.slice (some ⟨qq, 0, none⟩) a a, List.replicate a 0)] }, ?_⟩) | (change bodyPost Tryz.prog Tryz.f48 _ Exit.ret _ _; refine bodyPost_ret (v := .tuple #[]) (by have h : Tryz.f48.results = #[] := (by kernel_rfl); simp [results, h]) rfl ⟨rfl, { R with va := .slice va (m + 1) vc, ar := R.ar ++ [(.slice (some ⟨qq, 0, none⟩) a a, List.replicate a 0)] }, ?_⟩)
        show WAt _ _ _ _ _ _ (instM s ⟨15, (d : Nat), (Value.slice (some ⟨xb, xo, none⟩) 1 sc, [(p0 : Nat)]), num⟩)
        rw [HE3.out]
        first | exact HDV.out.setA d _ | exact HF.out.setA d _ | exact (HF.out.setA d _).keep ((Keeps.refl _ []).drew)
       exact t4
      exact t4
     exact t4
    exact t4
 ·as_aux_lemma =>
   try clear hHeld
   have hx := HX.out
   have hn := HN.out
   have hG := HG.out
   have h := HW.out
   have hAW : IntsAt X1 (.slice sa l.length sc, l) := Row.keep hAB.out HW.out.k
   have hl : l.length = _ := hx.len (by simp)
   have hdx := hx.dst (by simp)
   have harg := hx.arg
   simp only at harg hl
   obtain rfl : l = [] := List.length_eq_zero_iff.1 hl
   clear hl harg
   obtain ⟨hd0, hd1, _⟩ : 0 ≤ dst ∧ dst < (n : Int) ∧ _ := hdx
   obtain ⟨d, rfl⟩ : ∃ d : Nat, dst = d := ⟨dst.toNat, by omega⟩
   have hd : d < n := by omega
   clear hd0 hd1
   obtain ⟨xa, xc, exs⟩ := ints_cells0 hAW
   simp at exs
   obtain ⟨rfl, rfl⟩ := exs
   clear h hG hAW hx hn HX HN HG
   have HE := kept (show instM s ⟨16, (d : Nat), (Value.slice sa 0 sc, []), num⟩ = s.setA (d : Nat) (-1) by simp [instM, rawM, wrapI_eq])
   rw [show kword 16 = ⟨#[110, 105, 108]⟩ from rfl]
   obtain ⟨l0, l1, l2, l3⟩ := BX.out.c4
   simp at l0 l1 l2 l3
   have CC := kept (fun w => show Calls Tryz.prog 12 #[.int .i64 16] w fun e w' => e = .returned (.int .i64 0) ∧ w = w' from refcheck_any 16 w (by decide))
   have HD := kept HW.out
   have c5 := HD.out.c5
   have e4 := HD.out.ba.2.1.frozen d
   have e5 := HD.out.arr_at hd
   go_wp2_with (first | (go_at_call 12; refine (CC.out _).mono ?_; rintro e w3 ⟨rfl, rfl⟩))
   clear CC
   first | refine e48n rfl ⟨rfl, R, ?_⟩ | refine e48r rfl ⟨rfl, R, ?_⟩
   show WAt _ _ _ _ _ _ (instM s ⟨16, (d : Nat), (Value.slice sa 0 sc, []), num⟩)
   rw [HE.out]
   first | exact HD.out.setA d _ | exact (HD.out.setA d _).keep ((Keeps.refl _ []).drew)
 ·as_aux_lemma =>
   try clear hHeld
   have hx := HX.out
   have hn := HN.out
   have hG := HG.out
   have h := HW.out
   have hAW : IntsAt X1 (.slice sa l.length sc, l) := Row.keep hAB.out HW.out.k
   have hl : l.length = _ := hx.len (by simp)
   have hdx := hx.dst (by simp)
   have harg := hx.arg
   simp only at harg hl
   obtain ⟨a0, rfl⟩ : ∃ a, l = [a] := List.length_eq_one_iff.1 hl
   have ha0 := harg a0 (by simp)
   clear harg hl
   obtain ⟨p0, rfl⟩ : ∃ p : Nat, a0 = p := ⟨a0.toNat, by omega⟩
   have h0 : p0 < n := by omega
   clear ha0
   obtain rfl : dst = -1 := hdx
   obtain ⟨xb, xo, xc, exs, y0⟩ := ints_cells1 hAW
   simp at exs
   obtain ⟨rfl, rfl⟩ := exs
   have Y0 := kept y0
   clear y0
   have HI0 := kept (hG.I (p0 : Nat))
   clear h hG hAW hx hn HX HN HG
   have HE := kept (show instM s ⟨17, -1, (Value.slice (some ⟨xb, xo, none⟩) 1 sc, [(p0 : Nat)]), num⟩ = if 4096 ≤ s.out.trace.length then s.fin 3 else { s with out := { s.out with trace := s.out.trace ++ [s.I (p0 : Nat)] } } by simp [instM, rawM, wrapI_eq])
   rw [show kword 17 = ⟨#[111, 117, 116]⟩ from rfl]
   obtain ⟨l0, l1, l2, l3⟩ := BX.out.c4
   simp at l0 l1 l2 l3
   have y0 := Y0.out
   have CC := kept (fun w => show Calls Tryz.prog 12 #[.int .i64 17] w fun e w' => e = .returned (.int .i64 0) ∧ w = w' from refcheck_any 17 w (by decide))
   have i0 := HW.out.int_at h0
   have b0 := HW.out.bool_at h0
   have a0 := HW.out.arr_at h0
   have c3 := HW.out.c3
   have c4 := HW.out.c4
   have c5 := HW.out.c5
   generalize hI0 : s.I (p0 : Nat) = I0 at *
   generalize hB0 : s.B (p0 : Nat) = B0 at *
   generalize hA0 : s.A (p0 : Nat) = A0 at *
   go_wp2_with (first | (go_at_call 12; refine (CC.out _).mono ?_; rintro e w3 ⟨rfl, rfl⟩))
   clear CC
   go_quiet (fail)
   generalize hYq : X1.drewN _ = Y at *
   have KY := kept (show Keeps X1 Y [] by rw [← hYq]; exact (Keeps.refl X1 []).drewN _)
   clear l0 l1 l2 l3 c3 c4 c5 y0 i0 b0 a0 hYq
   have kz := KY.out
   have HWx := kept (HW.out.keep kz)
   have BXx := kept (BX.out.keep kz (by simp))
   have Yx0 := kept (kz.cellOf Y0.out)
   clear HW BX kz Y0
   have HW := HWx
   have BX := BXx
   have Y0 := Yx0
   clear HWx BXx Yx0
   clear KY
   have HD := kept HW.out
   obtain ⟨l0, l1, l2, l3⟩ := BX.out.c4
   simp at l0 l1 l2 l3
   obtain ⟨ta, tc, et⟩ := HW.out.tform
   have c12 := HW.out.c12
   rw [et] at c12
   have HO := kept HW.out.trace
   obtain ⟨i2', hi2, he2⟩ := Option.map_eq_some_iff.1 info2
   simp only [Prod.mk.injEq] at he2
   obtain ⟨hz2, hs2, hb2⟩ := he2
   generalize htl : s.out.trace.length = tl at *
   by_cases hz : 4096 ≤ tl
   ·have HE2 := kept (HE.out.trans (if_pos hz))
    clear HE
    go_wp2_with (first | (go_at_call 49; refine (end84_any wB _ g R f n s (3) HD.out).mono ?_; rintro e w3 ⟨rfl, HF⟩))
    first | refine e48n rfl ⟨rfl, R, ?_⟩ | refine e48r rfl ⟨rfl, R, ?_⟩
    show WAt _ _ _ _ _ _ (instM s ⟨17, -1, (Value.slice (some ⟨xb, xo, none⟩) 1 sc, [(p0 : Nat)]), num⟩)
    rw [HE2.out]
    exact HF
   ·have HE2 := kept (HE.out.trans (if_neg hz))
    clear HE
    have HWS := kept HW.out.k.size
    rw [et] at HO
    go_wp2_with (first | (at_builtin; go_must ((refine wpList_append_own_at _ rfl (.tmp 375) (.tmp 377) 64 rfl wB.heap.size 2 i2' (.int .i64 0) 1 8 Tryz.underlying64 hi2 hz2 hs2 hb2 rfl (by decide) _ _ _ rfl (HO.out.alloc _) ⟨Y.heap.size, 0, none⟩ 1 1 [.int .i64 I0] rfl rfl (news_at _ _ _ _ rfl) (ones_one rfl) (by unfold maxLen; omega) (by omega) (by have := HWS.out; rw [size_alloc1]; omega) ?_); intro v' w3 hown' hgrow3 _ hat; obtain ⟨va, vc, rfl, _, _⟩ := own_form hown'; have hg2 : (Y.alloc (.cells #[.int .i64 I0] 2)).grownBy w3 R.vt.ownBlock := (by rw [et]; exact hgrow3); have hat2 : (Value.slice va (tl + 1) vc).ownBlock = R.vt.ownBlock ∨ (Value.slice va (tl + 1) vc).ownBlock = some (Y.alloc (.cells #[.int .i64 I0] 2)).heap.size := (by rw [et]; exact hat); have HB3 := kept (blk_append hg2 HD.out.blk (fun k hk e => own_ne HD.out.trace HD.out.blk (by decide) (by rw [hk, e]))); have d0 := HB3.out.frozen 12; have d1 : w3.cell? ⟨g, 12, none⟩ = some R.vt := (HB3.out.cell 12).trans rfl; rw [et] at d1; (have HF := kept (HD.out.wrote ((Keeps.refl Y []).alloc _) hg2 hg2.size (by rw [htl]; exact hown') (fun b hb => hat2.elim (fun e => .inl (e.symm.trans hb)) (fun e => .inr (by rw [e] at hb; exact Nat.le_of_eq (Option.some.inj hb)))))); clear hg2 hat2 hown' hgrow3 hat)))
    first | (change bodyPost Tryz.prog Tryz.f48 _ Exit.normal _ _; refine bodyPost_end (v := .tuple #[]) (by have h : Tryz.f48.results = #[] := (by kernel_rfl); simp [results, h]) rfl ⟨rfl, { R with vt := .slice va (tl + 1) vc }, ?_⟩) | (change bodyPost Tryz.prog Tryz.f48 _ Exit.ret _ _; refine bodyPost_ret (v := .tuple #[]) (by have h : Tryz.f48.results = #[] := (by kernel_rfl); simp [results, h]) rfl ⟨rfl, { R with vt := .slice va (tl + 1) vc }, ?_⟩)
    show WAt _ _ _ _ _ _ (instM s ⟨17, -1, (Value.slice (some ⟨xb, xo, none⟩) 1 sc, [(p0 : Nat)]), num⟩)
    rw [HE2.out]
    exact HF.out
 ·as_aux_lemma =>
   try clear hHeld
   have hx := HX.out
   have hn := HN.out
   have hG := HG.out
   have h := HW.out
   have hAW : IntsAt X1 (.slice sa l.length sc, l) := Row.keep hAB.out HW.out.k
   have hl : l.length = _ := hx.len (by simp)
   have hdx := hx.dst (by simp)
   have harg := hx.arg
   simp only at harg hl
   obtain ⟨a0, a1, rfl⟩ := list2 hl
   have ha0 := harg a0 (by simp)
   have ha1 := harg a1 (by simp)
   clear harg hl
   obtain ⟨p0, rfl⟩ : ∃ p : Nat, a0 = p := ⟨a0.toNat, by omega⟩
   have h0 : p0 < n := by omega
   clear ha0
   obtain ⟨p1, rfl⟩ : ∃ p : Nat, a1 = p := ⟨a1.toNat, by omega⟩
   have h1 : p1 < n := by omega
   clear ha1
   obtain rfl : dst = -1 := hdx
   obtain ⟨xb, xo, xc, exs, y0, y1⟩ := ints_cells2 hAW
   simp at exs
   obtain ⟨rfl, rfl⟩ := exs
   have Y0 := kept y0
   have Y1 := kept y1
   clear y0 y1
   have HI0 := kept (hG.I (p0 : Nat))
   have HI1 := kept (hG.I (p1 : Nat))
   have HA0 := kept (hG.A (v := (p0 : Nat)) (by omega))
   have HCk := kept hG.k
   have HC8 := kept hG.c
   clear h hG hAW hx hn HX HN HG
   have HE := kept (show instM s ⟨18, -1, (Value.slice (some ⟨xb, xo, none⟩) 2 sc, [(p0 : Nat), (p1 : Nat)]), num⟩ = if passM s 18 [(p0 : Nat), (p1 : Nat)] = true then { s with out := { s.out with checks := s.out.checks.set 1 (s.out.checks[1]! + 1) } } else StM.fin ({ s with out := { s.out with checks := s.out.checks.set 1 (s.out.checks[1]! + 1), trap := 1 } } : StM) 1 by simp [instM, checkM])
   rw [show kword 18 = ⟨#[99, 104, 107, 105, 100, 120]⟩ from rfl]
   obtain ⟨l0, l1, l2, l3⟩ := BX.out.c4
   simp at l0 l1 l2 l3
   have y0 := Y0.out
   have y1 := Y1.out
   have CC := kept (fun w => show Calls Tryz.prog 12 #[.int .i64 18] w fun e w' => e = .returned (.int .i64 1) ∧ w = w' from refcheck_any 18 w (by decide))
   have hcb : s.out.checks[1]! < 1000000 := by have := HCk.out _ (nth_memN (l := s.out.checks) (i := 1) (by rw [HC8.out]; decide)); omega
   have x0 : X1.cell? ⟨g, 15, none⟩ = some (.int .i64 (s.out.checks[1]! : Nat)) := (HW.out.blk.cell 15).trans rfl
   have x1 := HW.out.fz 15
   have x2 : (World.drew X1).cell? ⟨g, 15, none⟩ = some (.int .i64 (s.out.checks[1]! : Nat)) := ((HW.out.keep ((Keeps.refl X1 []).drew)).blk.cell 15).trans rfl
   have x3 := (HW.out.keep ((Keeps.refl X1 []).drew)).fz 15
   have HT : Hid (WAt wB (X1.setCell ⟨g, 15, none⟩ (.int .i64 ((s.out.checks[1]! : Nat) + 1 : Int))) g R f n { s with out := { s.out with checks := s.out.checks.set 1 (s.out.checks[1]! + 1) } }) := kept (HW.out.turn (keeps_set1 _ _ _ _) (by rw [← stateC_chk R f n s 1 _ (by decide) HC8.out]; exact HW.out.blk.set_ 15 _) rfl rfl rfl rfl rfl (by show (s.out.checks.set _ _).length = 8; rw [List.length_set]; exact HC8.out))
   have HXB := kept (BX.out.keep (keeps_set1 X1 g 15 (.int .i64 ((s.out.checks[1]! : Nat) + 1 : Int))) (by simp; exact blk_ne BX.out HW.out.blk (by decide)))
   generalize hS1 : ({ s with out := { s.out with checks := s.out.checks.set 1 (s.out.checks[1]! + 1) } } : StM) = s1 at *
   have HPS := kept (show passM s 18 [(p0 : Nat), (p1 : Nat)] = passM s1 18 [(p0 : Nat), (p1 : Nat)] by rw [← hS1]; rfl)
   have HI_ := kept (show ∀ v, s1.I v = s.I v from fun v => by rw [← hS1]; rfl)
   have HC8b := kept (show s1.out.checks.length = 8 by rw [← hS1]; show (s.out.checks.set _ _).length = 8; rw [List.length_set]; exact HC8.out)
   have HE2 : Hid ((({ s with out := { s.out with checks := s.out.checks.set 1 (s.out.checks[1]! + 1), trap := 1 } } : StM) : StM) = { s1 with out := { s1.out with trap := 1 } }) := kept (by rw [← hS1])
   rw [HE2.out] at HE
   generalize s.out.checks[1]! = c at *
   have HT2 := kept (HT.out.keep ((Keeps.refl (X1.setCell ⟨g, 15, none⟩ (.int .i64 ((c : Nat) + 1 : Int))) []).drew))
   have HXB2 := kept (HXB.out.keep ((Keeps.refl (X1.setCell ⟨g, 15, none⟩ (.int .i64 ((c : Nat) + 1 : Int))) []).drew) (by simp))
   clear HT HXB
   go_wp2_with (first | (go_at_call 12; refine (CC.out _).mono ?_; rintro e w3 ⟨rfl, rfl⟩))
   clear CC
   go_region
   generalize hX2 : (World.drew (X1.setCell ⟨g, 15, none⟩ (.int .i64 ((c : Nat) + 1 : Int)))) = X2 at *
   clear hX2 l0 l1 l2 l3 x0 x1 x2 x3 y0 y1
   have l2 := HXB2.out.cell 2
   simp at l2
   have CP := kept (passes_18 wB X2 g R f n s1 HT2.out (.slice (some ⟨xb, xo, none⟩) 2 sc) p0 p1 (Row.keep hAB.out HT2.out.k) h0 h1)
   rw [HPS.out] at HE
   generalize hpb : passM s1 18 [(p0 : Nat), (p1 : Nat)] = pb at *
   cases pb
   ·go_wp2_with (first | (go_at_call 79; go_must (refine (CP.out).mono ?_; rintro e w5 ⟨rfl, k5⟩; have HW5 := kept (HT2.out.keep k5); have d0 := HW5.out.fz 11; have d1 : w5.cell? ⟨g, 11, none⟩ = some (.int .i64 s1.out.trap) := (HW5.out.blk.cell 11).trans rfl; have H6 : Hid (WAt wB (w5.setCell ⟨g, 11, none⟩ (.int .i64 1)) g R f n { s1 with out := { s1.out with trap := 1 } }) := kept (HW5.out.turn (keeps_set1 _ _ _ _) (by rw [← stateC_trap R f n s1 1]; exact HW5.out.blk.set_ 11 _) rfl rfl rfl rfl rfl HC8b.out))) | (go_at_call 49; go_must (refine (end84_any wB _ g R f n { s1 with out := { s1.out with trap := 1 } } 1 H6.out).mono ?_; rintro e w6 ⟨rfl, HF⟩)))
    first | refine e48n rfl ⟨rfl, R, ?_⟩ | refine e48r rfl ⟨rfl, R, ?_⟩
    show WAt _ _ _ _ _ _ (instM s ⟨18, -1, (Value.slice (some ⟨xb, xo, none⟩) 2 sc, [(p0 : Nat), (p1 : Nat)]), num⟩)
    rw [HE.out]
    first | rw [if_neg (by decide)] | rw [if_neg (by simp)]
    exact HF
   ·go_wp2_with (first | (go_at_call 79; go_must (refine (CP.out).mono ?_; rintro e w5 ⟨rfl, k5⟩; have HW5 := kept (HT2.out.keep k5); have d0 := HW5.out.fz 11; have d1 : w5.cell? ⟨g, 11, none⟩ = some (.int .i64 s1.out.trap) := (HW5.out.blk.cell 11).trans rfl; have H6 : Hid (WAt wB (w5.setCell ⟨g, 11, none⟩ (.int .i64 1)) g R f n { s1 with out := { s1.out with trap := 1 } }) := kept (HW5.out.turn (keeps_set1 _ _ _ _) (by rw [← stateC_trap R f n s1 1]; exact HW5.out.blk.set_ 11 _) rfl rfl rfl rfl rfl HC8b.out))))
    first | refine e48n rfl ⟨rfl, R, ?_⟩ | refine e48r rfl ⟨rfl, R, ?_⟩
    show WAt _ _ _ _ _ _ (instM s ⟨18, -1, (Value.slice (some ⟨xb, xo, none⟩) 2 sc, [(p0 : Nat), (p1 : Nat)]), num⟩)
    rw [HE.out]
    first | rw [if_pos rfl] | rw [if_pos trivial]
    exact HW5.out
 ·as_aux_lemma =>
   try clear hHeld
   have hx := HX.out
   have hn := HN.out
   have hG := HG.out
   have h := HW.out
   have hAW : IntsAt X1 (.slice sa l.length sc, l) := Row.keep hAB.out HW.out.k
   have hl : l.length = _ := hx.len (by simp)
   have hdx := hx.dst (by simp)
   have harg := hx.arg
   simp only at harg hl
   obtain ⟨a0, rfl⟩ : ∃ a, l = [a] := List.length_eq_one_iff.1 hl
   have ha0 := harg a0 (by simp)
   clear harg hl
   obtain ⟨p0, rfl⟩ : ∃ p : Nat, a0 = p := ⟨a0.toNat, by omega⟩
   have h0 : p0 < n := by omega
   clear ha0
   obtain rfl : dst = -1 := hdx
   obtain ⟨xb, xo, xc, exs, y0⟩ := ints_cells1 hAW
   simp at exs
   obtain ⟨rfl, rfl⟩ := exs
   have Y0 := kept y0
   clear y0
   have HI0 := kept (hG.I (p0 : Nat))
   have HA0 := kept (hG.A (v := (p0 : Nat)) (by omega))
   have HCk := kept hG.k
   have HC8 := kept hG.c
   clear h hG hAW hx hn HX HN HG
   have HE := kept (show instM s ⟨19, -1, (Value.slice (some ⟨xb, xo, none⟩) 1 sc, [(p0 : Nat)]), num⟩ = if passM s 19 [(p0 : Nat)] = true then { s with out := { s.out with checks := s.out.checks.set 2 (s.out.checks[2]! + 1) } } else StM.fin ({ s with out := { s.out with checks := s.out.checks.set 2 (s.out.checks[2]! + 1), trap := 2 } } : StM) 1 by simp [instM, checkM])
   rw [show kword 19 = ⟨#[99, 104, 107, 110, 105, 108]⟩ from rfl]
   obtain ⟨l0, l1, l2, l3⟩ := BX.out.c4
   simp at l0 l1 l2 l3
   have y0 := Y0.out
   have CC := kept (fun w => show Calls Tryz.prog 12 #[.int .i64 19] w fun e w' => e = .returned (.int .i64 2) ∧ w = w' from refcheck_any 19 w (by decide))
   have hcb : s.out.checks[2]! < 1000000 := by have := HCk.out _ (nth_memN (l := s.out.checks) (i := 2) (by rw [HC8.out]; decide)); omega
   have x0 : X1.cell? ⟨g, 16, none⟩ = some (.int .i64 (s.out.checks[2]! : Nat)) := (HW.out.blk.cell 16).trans rfl
   have x1 := HW.out.fz 16
   have x2 : (World.drew X1).cell? ⟨g, 16, none⟩ = some (.int .i64 (s.out.checks[2]! : Nat)) := ((HW.out.keep ((Keeps.refl X1 []).drew)).blk.cell 16).trans rfl
   have x3 := (HW.out.keep ((Keeps.refl X1 []).drew)).fz 16
   have HT : Hid (WAt wB (X1.setCell ⟨g, 16, none⟩ (.int .i64 ((s.out.checks[2]! : Nat) + 1 : Int))) g R f n { s with out := { s.out with checks := s.out.checks.set 2 (s.out.checks[2]! + 1) } }) := kept (HW.out.turn (keeps_set1 _ _ _ _) (by rw [← stateC_chk R f n s 2 _ (by decide) HC8.out]; exact HW.out.blk.set_ 16 _) rfl rfl rfl rfl rfl (by show (s.out.checks.set _ _).length = 8; rw [List.length_set]; exact HC8.out))
   have HXB := kept (BX.out.keep (keeps_set1 X1 g 16 (.int .i64 ((s.out.checks[2]! : Nat) + 1 : Int))) (by simp; exact blk_ne BX.out HW.out.blk (by decide)))
   generalize hS1 : ({ s with out := { s.out with checks := s.out.checks.set 2 (s.out.checks[2]! + 1) } } : StM) = s1 at *
   have HPS := kept (show passM s 19 [(p0 : Nat)] = passM s1 19 [(p0 : Nat)] by rw [← hS1]; rfl)
   have HI_ := kept (show ∀ v, s1.I v = s.I v from fun v => by rw [← hS1]; rfl)
   have HC8b := kept (show s1.out.checks.length = 8 by rw [← hS1]; show (s.out.checks.set _ _).length = 8; rw [List.length_set]; exact HC8.out)
   have HE2 : Hid ((({ s with out := { s.out with checks := s.out.checks.set 2 (s.out.checks[2]! + 1), trap := 2 } } : StM) : StM) = { s1 with out := { s1.out with trap := 2 } }) := kept (by rw [← hS1])
   rw [HE2.out] at HE
   generalize s.out.checks[2]! = c at *
   have HT2 := kept (HT.out.keep ((Keeps.refl (X1.setCell ⟨g, 16, none⟩ (.int .i64 ((c : Nat) + 1 : Int))) []).drew))
   have HXB2 := kept (HXB.out.keep ((Keeps.refl (X1.setCell ⟨g, 16, none⟩ (.int .i64 ((c : Nat) + 1 : Int))) []).drew) (by simp))
   clear HT HXB
   go_wp2_with (first | (go_at_call 12; refine (CC.out _).mono ?_; rintro e w3 ⟨rfl, rfl⟩))
   clear CC
   go_region
   generalize hX2 : (World.drew (X1.setCell ⟨g, 16, none⟩ (.int .i64 ((c : Nat) + 1 : Int)))) = X2 at *
   clear hX2 l0 l1 l2 l3 x0 x1 x2 x3 y0
   have l2 := HXB2.out.cell 2
   simp at l2
   have CP := kept (passes_19 wB X2 g R f n s1 HT2.out (.slice (some ⟨xb, xo, none⟩) 1 sc) p0 (Row.keep hAB.out HT2.out.k) h0)
   rw [HPS.out] at HE
   generalize hpb : passM s1 19 [(p0 : Nat)] = pb at *
   cases pb
   ·go_wp2_with (first | (go_at_call 79; go_must (refine (CP.out).mono ?_; rintro e w5 ⟨rfl, k5⟩; have HW5 := kept (HT2.out.keep k5); have d0 := HW5.out.fz 11; have d1 : w5.cell? ⟨g, 11, none⟩ = some (.int .i64 s1.out.trap) := (HW5.out.blk.cell 11).trans rfl; have H6 : Hid (WAt wB (w5.setCell ⟨g, 11, none⟩ (.int .i64 2)) g R f n { s1 with out := { s1.out with trap := 2 } }) := kept (HW5.out.turn (keeps_set1 _ _ _ _) (by rw [← stateC_trap R f n s1 2]; exact HW5.out.blk.set_ 11 _) rfl rfl rfl rfl rfl HC8b.out))) | (go_at_call 49; go_must (refine (end84_any wB _ g R f n { s1 with out := { s1.out with trap := 2 } } 1 H6.out).mono ?_; rintro e w6 ⟨rfl, HF⟩)))
    first | refine e48n rfl ⟨rfl, R, ?_⟩ | refine e48r rfl ⟨rfl, R, ?_⟩
    show WAt _ _ _ _ _ _ (instM s ⟨19, -1, (Value.slice (some ⟨xb, xo, none⟩) 1 sc, [(p0 : Nat)]), num⟩)
    rw [HE.out]
    first | rw [if_neg (by decide)] | rw [if_neg (by simp)]
    exact HF
   ·go_wp2_with (first | (go_at_call 79; go_must (refine (CP.out).mono ?_; rintro e w5 ⟨rfl, k5⟩; have HW5 := kept (HT2.out.keep k5); have d0 := HW5.out.fz 11; have d1 : w5.cell? ⟨g, 11, none⟩ = some (.int .i64 s1.out.trap) := (HW5.out.blk.cell 11).trans rfl; have H6 : Hid (WAt wB (w5.setCell ⟨g, 11, none⟩ (.int .i64 2)) g R f n { s1 with out := { s1.out with trap := 2 } }) := kept (HW5.out.turn (keeps_set1 _ _ _ _) (by rw [← stateC_trap R f n s1 2]; exact HW5.out.blk.set_ 11 _) rfl rfl rfl rfl rfl HC8b.out))))
    first | refine e48n rfl ⟨rfl, R, ?_⟩ | refine e48r rfl ⟨rfl, R, ?_⟩
    show WAt _ _ _ _ _ _ (instM s ⟨19, -1, (Value.slice (some ⟨xb, xo, none⟩) 1 sc, [(p0 : Nat)]), num⟩)
    rw [HE.out]
    first | rw [if_pos rfl] | rw [if_pos trivial]
    exact HW5.out
 ·as_aux_lemma =>
   try clear hHeld
   have hx := HX.out
   have hn := HN.out
   have hG := HG.out
   have h := HW.out
   have hAW : IntsAt X1 (.slice sa l.length sc, l) := Row.keep hAB.out HW.out.k
   have hl : l.length = _ := hx.len (by simp)
   have hdx := hx.dst (by simp)
   have harg := hx.arg
   simp only at harg hl
   obtain ⟨a0, rfl⟩ : ∃ a, l = [a] := List.length_eq_one_iff.1 hl
   have ha0 := harg a0 (by simp)
   clear harg hl
   obtain ⟨p0, rfl⟩ : ∃ p : Nat, a0 = p := ⟨a0.toNat, by omega⟩
   have h0 : p0 < n := by omega
   clear ha0
   obtain rfl : dst = -1 := hdx
   obtain ⟨xb, xo, xc, exs, y0⟩ := ints_cells1 hAW
   simp at exs
   obtain ⟨rfl, rfl⟩ := exs
   have Y0 := kept y0
   clear y0
   have HI0 := kept (hG.I (p0 : Nat))
   have HCk := kept hG.k
   have HC8 := kept hG.c
   clear h hG hAW hx hn HX HN HG
   have HE := kept (show instM s ⟨20, -1, (Value.slice (some ⟨xb, xo, none⟩) 1 sc, [(p0 : Nat)]), num⟩ = if passM s 20 [(p0 : Nat)] = true then { s with out := { s.out with checks := s.out.checks.set 3 (s.out.checks[3]! + 1) } } else StM.fin ({ s with out := { s.out with checks := s.out.checks.set 3 (s.out.checks[3]! + 1), trap := 3 } } : StM) 1 by simp [instM, checkM])
   rw [show kword 20 = ⟨#[99, 104, 107, 100, 105, 118]⟩ from rfl]
   obtain ⟨l0, l1, l2, l3⟩ := BX.out.c4
   simp at l0 l1 l2 l3
   have y0 := Y0.out
   have CC := kept (fun w => show Calls Tryz.prog 12 #[.int .i64 20] w fun e w' => e = .returned (.int .i64 3) ∧ w = w' from refcheck_any 20 w (by decide))
   have hcb : s.out.checks[3]! < 1000000 := by have := HCk.out _ (nth_memN (l := s.out.checks) (i := 3) (by rw [HC8.out]; decide)); omega
   have x0 : X1.cell? ⟨g, 17, none⟩ = some (.int .i64 (s.out.checks[3]! : Nat)) := (HW.out.blk.cell 17).trans rfl
   have x1 := HW.out.fz 17
   have x2 : (World.drew X1).cell? ⟨g, 17, none⟩ = some (.int .i64 (s.out.checks[3]! : Nat)) := ((HW.out.keep ((Keeps.refl X1 []).drew)).blk.cell 17).trans rfl
   have x3 := (HW.out.keep ((Keeps.refl X1 []).drew)).fz 17
   have HT : Hid (WAt wB (X1.setCell ⟨g, 17, none⟩ (.int .i64 ((s.out.checks[3]! : Nat) + 1 : Int))) g R f n { s with out := { s.out with checks := s.out.checks.set 3 (s.out.checks[3]! + 1) } }) := kept (HW.out.turn (keeps_set1 _ _ _ _) (by rw [← stateC_chk R f n s 3 _ (by decide) HC8.out]; exact HW.out.blk.set_ 17 _) rfl rfl rfl rfl rfl (by show (s.out.checks.set _ _).length = 8; rw [List.length_set]; exact HC8.out))
   have HXB := kept (BX.out.keep (keeps_set1 X1 g 17 (.int .i64 ((s.out.checks[3]! : Nat) + 1 : Int))) (by simp; exact blk_ne BX.out HW.out.blk (by decide)))
   generalize hS1 : ({ s with out := { s.out with checks := s.out.checks.set 3 (s.out.checks[3]! + 1) } } : StM) = s1 at *
   have HPS := kept (show passM s 20 [(p0 : Nat)] = passM s1 20 [(p0 : Nat)] by rw [← hS1]; rfl)
   have HI_ := kept (show ∀ v, s1.I v = s.I v from fun v => by rw [← hS1]; rfl)
   have HC8b := kept (show s1.out.checks.length = 8 by rw [← hS1]; show (s.out.checks.set _ _).length = 8; rw [List.length_set]; exact HC8.out)
   have HE2 : Hid ((({ s with out := { s.out with checks := s.out.checks.set 3 (s.out.checks[3]! + 1), trap := 3 } } : StM) : StM) = { s1 with out := { s1.out with trap := 3 } }) := kept (by rw [← hS1])
   rw [HE2.out] at HE
   generalize s.out.checks[3]! = c at *
   have HT2 := kept (HT.out.keep ((Keeps.refl (X1.setCell ⟨g, 17, none⟩ (.int .i64 ((c : Nat) + 1 : Int))) []).drew))
   have HXB2 := kept (HXB.out.keep ((Keeps.refl (X1.setCell ⟨g, 17, none⟩ (.int .i64 ((c : Nat) + 1 : Int))) []).drew) (by simp))
   clear HT HXB
   go_wp2_with (first | (go_at_call 12; refine (CC.out _).mono ?_; rintro e w3 ⟨rfl, rfl⟩))
   clear CC
   go_region
   generalize hX2 : (World.drew (X1.setCell ⟨g, 17, none⟩ (.int .i64 ((c : Nat) + 1 : Int)))) = X2 at *
   clear hX2 l0 l1 l2 l3 x0 x1 x2 x3 y0
   have l2 := HXB2.out.cell 2
   simp at l2
   have CP := kept (passes_20 wB X2 g R f n s1 HT2.out (.slice (some ⟨xb, xo, none⟩) 1 sc) p0 (Row.keep hAB.out HT2.out.k) h0)
   rw [HPS.out] at HE
   generalize hpb : passM s1 20 [(p0 : Nat)] = pb at *
   cases pb
   ·go_wp2_with (first | (go_at_call 79; go_must (refine (CP.out).mono ?_; rintro e w5 ⟨rfl, k5⟩; have HW5 := kept (HT2.out.keep k5); have d0 := HW5.out.fz 11; have d1 : w5.cell? ⟨g, 11, none⟩ = some (.int .i64 s1.out.trap) := (HW5.out.blk.cell 11).trans rfl; have H6 : Hid (WAt wB (w5.setCell ⟨g, 11, none⟩ (.int .i64 3)) g R f n { s1 with out := { s1.out with trap := 3 } }) := kept (HW5.out.turn (keeps_set1 _ _ _ _) (by rw [← stateC_trap R f n s1 3]; exact HW5.out.blk.set_ 11 _) rfl rfl rfl rfl rfl HC8b.out))) | (go_at_call 49; go_must (refine (end84_any wB _ g R f n { s1 with out := { s1.out with trap := 3 } } 1 H6.out).mono ?_; rintro e w6 ⟨rfl, HF⟩)))
    first | refine e48n rfl ⟨rfl, R, ?_⟩ | refine e48r rfl ⟨rfl, R, ?_⟩
    show WAt _ _ _ _ _ _ (instM s ⟨20, -1, (Value.slice (some ⟨xb, xo, none⟩) 1 sc, [(p0 : Nat)]), num⟩)
    rw [HE.out]
    first | rw [if_neg (by decide)] | rw [if_neg (by simp)]
    exact HF
   ·go_wp2_with (first | (go_at_call 79; go_must (refine (CP.out).mono ?_; rintro e w5 ⟨rfl, k5⟩; have HW5 := kept (HT2.out.keep k5); have d0 := HW5.out.fz 11; have d1 : w5.cell? ⟨g, 11, none⟩ = some (.int .i64 s1.out.trap) := (HW5.out.blk.cell 11).trans rfl; have H6 : Hid (WAt wB (w5.setCell ⟨g, 11, none⟩ (.int .i64 3)) g R f n { s1 with out := { s1.out with trap := 3 } }) := kept (HW5.out.turn (keeps_set1 _ _ _ _) (by rw [← stateC_trap R f n s1 3]; exact HW5.out.blk.set_ 11 _) rfl rfl rfl rfl rfl HC8b.out))))
    first | refine e48n rfl ⟨rfl, R, ?_⟩ | refine e48r rfl ⟨rfl, R, ?_⟩
    show WAt _ _ _ _ _ _ (instM s ⟨20, -1, (Value.slice (some ⟨xb, xo, none⟩) 1 sc, [(p0 : Nat)]), num⟩)
    rw [HE.out]
    first | rw [if_pos rfl] | rw [if_pos trivial]
    exact HW5.out
 ·as_aux_lemma =>
   try clear hHeld
   have hx := HX.out
   have hn := HN.out
   have hG := HG.out
   have h := HW.out
   have hAW : IntsAt X1 (.slice sa l.length sc, l) := Row.keep hAB.out HW.out.k
   have hl : l.length = _ := hx.len (by simp)
   have hdx := hx.dst (by simp)
   have harg := hx.arg
   simp only at harg hl
   obtain ⟨a0, a1, rfl⟩ := list2 hl
   have ha0 := harg a0 (by simp)
   have ha1 := harg a1 (by simp)
   clear harg hl
   obtain ⟨p0, rfl⟩ : ∃ p : Nat, a0 = p := ⟨a0.toNat, by omega⟩
   have h0 : p0 < n := by omega
   clear ha0
   obtain ⟨p1, rfl⟩ : ∃ p : Nat, a1 = p := ⟨a1.toNat, by omega⟩
   have h1 : p1 < n := by omega
   clear ha1
   obtain rfl : dst = -1 := hdx
   obtain ⟨xb, xo, xc, exs, y0, y1⟩ := ints_cells2 hAW
   simp at exs
   obtain ⟨rfl, rfl⟩ := exs
   have Y0 := kept y0
   have Y1 := kept y1
   clear y0 y1
   have HI0 := kept (hG.I (p0 : Nat))
   have HI1 := kept (hG.I (p1 : Nat))
   have HCk := kept hG.k
   have HC8 := kept hG.c
   clear h hG hAW hx hn HX HN HG
   have HE := kept (show instM s ⟨21, -1, (Value.slice (some ⟨xb, xo, none⟩) 2 sc, [(p0 : Nat), (p1 : Nat)]), num⟩ = if passM s 21 [(p0 : Nat), (p1 : Nat)] = true then { s with out := { s.out with checks := s.out.checks.set 4 (s.out.checks[4]! + 1) } } else StM.fin ({ s with out := { s.out with checks := s.out.checks.set 4 (s.out.checks[4]! + 1), trap := 4 } } : StM) 1 by simp [instM, checkM])
   rw [show kword 21 = ⟨#[99, 104, 107, 97, 100, 100]⟩ from rfl]
   obtain ⟨l0, l1, l2, l3⟩ := BX.out.c4
   simp at l0 l1 l2 l3
   have y0 := Y0.out
   have y1 := Y1.out
   have CC := kept (fun w => show Calls Tryz.prog 12 #[.int .i64 21] w fun e w' => e = .returned (.int .i64 4) ∧ w = w' from refcheck_any 21 w (by decide))
   have hcb : s.out.checks[4]! < 1000000 := by have := HCk.out _ (nth_memN (l := s.out.checks) (i := 4) (by rw [HC8.out]; decide)); omega
   have x0 : X1.cell? ⟨g, 18, none⟩ = some (.int .i64 (s.out.checks[4]! : Nat)) := (HW.out.blk.cell 18).trans rfl
   have x1 := HW.out.fz 18
   have x2 : (World.drew X1).cell? ⟨g, 18, none⟩ = some (.int .i64 (s.out.checks[4]! : Nat)) := ((HW.out.keep ((Keeps.refl X1 []).drew)).blk.cell 18).trans rfl
   have x3 := (HW.out.keep ((Keeps.refl X1 []).drew)).fz 18
   have HT : Hid (WAt wB (X1.setCell ⟨g, 18, none⟩ (.int .i64 ((s.out.checks[4]! : Nat) + 1 : Int))) g R f n { s with out := { s.out with checks := s.out.checks.set 4 (s.out.checks[4]! + 1) } }) := kept (HW.out.turn (keeps_set1 _ _ _ _) (by rw [← stateC_chk R f n s 4 _ (by decide) HC8.out]; exact HW.out.blk.set_ 18 _) rfl rfl rfl rfl rfl (by show (s.out.checks.set _ _).length = 8; rw [List.length_set]; exact HC8.out))
   have HXB := kept (BX.out.keep (keeps_set1 X1 g 18 (.int .i64 ((s.out.checks[4]! : Nat) + 1 : Int))) (by simp; exact blk_ne BX.out HW.out.blk (by decide)))
   generalize hS1 : ({ s with out := { s.out with checks := s.out.checks.set 4 (s.out.checks[4]! + 1) } } : StM) = s1 at *
   have HPS := kept (show passM s 21 [(p0 : Nat), (p1 : Nat)] = passM s1 21 [(p0 : Nat), (p1 : Nat)] by rw [← hS1]; rfl)
   have HI_ := kept (show ∀ v, s1.I v = s.I v from fun v => by rw [← hS1]; rfl)
   have HC8b := kept (show s1.out.checks.length = 8 by rw [← hS1]; show (s.out.checks.set _ _).length = 8; rw [List.length_set]; exact HC8.out)
   have HE2 : Hid ((({ s with out := { s.out with checks := s.out.checks.set 4 (s.out.checks[4]! + 1), trap := 4 } } : StM) : StM) = { s1 with out := { s1.out with trap := 4 } }) := kept (by rw [← hS1])
   rw [HE2.out] at HE
   generalize s.out.checks[4]! = c at *
   have HT2 := kept (HT.out.keep ((Keeps.refl (X1.setCell ⟨g, 18, none⟩ (.int .i64 ((c : Nat) + 1 : Int))) []).drew))
   have HXB2 := kept (HXB.out.keep ((Keeps.refl (X1.setCell ⟨g, 18, none⟩ (.int .i64 ((c : Nat) + 1 : Int))) []).drew) (by simp))
   clear HT HXB
   go_wp2_with (first | (go_at_call 12; refine (CC.out _).mono ?_; rintro e w3 ⟨rfl, rfl⟩))
   clear CC
   go_region
   generalize hX2 : (World.drew (X1.setCell ⟨g, 18, none⟩ (.int .i64 ((c : Nat) + 1 : Int)))) = X2 at *
   clear hX2 l0 l1 l2 l3 x0 x1 x2 x3 y0 y1
   have l2 := HXB2.out.cell 2
   simp at l2
   have CP := kept (passes_21 wB X2 g R f n s1 HT2.out (.slice (some ⟨xb, xo, none⟩) 2 sc) p0 p1 (Row.keep hAB.out HT2.out.k) h0 h1 (by rw [HI_.out]; exact HI0.out) (by rw [HI_.out]; exact HI1.out))
   rw [HPS.out] at HE
   generalize hpb : passM s1 21 [(p0 : Nat), (p1 : Nat)] = pb at *
   cases pb
   ·go_wp2_with (first | (go_at_call 79; go_must (refine (CP.out).mono ?_; rintro e w5 ⟨rfl, k5⟩; have HW5 := kept (HT2.out.keep k5); have d0 := HW5.out.fz 11; have d1 : w5.cell? ⟨g, 11, none⟩ = some (.int .i64 s1.out.trap) := (HW5.out.blk.cell 11).trans rfl; have H6 : Hid (WAt wB (w5.setCell ⟨g, 11, none⟩ (.int .i64 4)) g R f n { s1 with out := { s1.out with trap := 4 } }) := kept (HW5.out.turn (keeps_set1 _ _ _ _) (by rw [← stateC_trap R f n s1 4]; exact HW5.out.blk.set_ 11 _) rfl rfl rfl rfl rfl HC8b.out))) | (go_at_call 49; go_must (refine (end84_any wB _ g R f n { s1 with out := { s1.out with trap := 4 } } 1 H6.out).mono ?_; rintro e w6 ⟨rfl, HF⟩)))
    first | refine e48n rfl ⟨rfl, R, ?_⟩ | refine e48r rfl ⟨rfl, R, ?_⟩
    show WAt _ _ _ _ _ _ (instM s ⟨21, -1, (Value.slice (some ⟨xb, xo, none⟩) 2 sc, [(p0 : Nat), (p1 : Nat)]), num⟩)
    rw [HE.out]
    first | rw [if_neg (by decide)] | rw [if_neg (by simp)]
    exact HF
   ·go_wp2_with (first | (go_at_call 79; go_must (refine (CP.out).mono ?_; rintro e w5 ⟨rfl, k5⟩; have HW5 := kept (HT2.out.keep k5); have d0 := HW5.out.fz 11; have d1 : w5.cell? ⟨g, 11, none⟩ = some (.int .i64 s1.out.trap) := (HW5.out.blk.cell 11).trans rfl; have H6 : Hid (WAt wB (w5.setCell ⟨g, 11, none⟩ (.int .i64 4)) g R f n { s1 with out := { s1.out with trap := 4 } }) := kept (HW5.out.turn (keeps_set1 _ _ _ _) (by rw [← stateC_trap R f n s1 4]; exact HW5.out.blk.set_ 11 _) rfl rfl rfl rfl rfl HC8b.out))))
    first | refine e48n rfl ⟨rfl, R, ?_⟩ | refine e48r rfl ⟨rfl, R, ?_⟩
    show WAt _ _ _ _ _ _ (instM s ⟨21, -1, (Value.slice (some ⟨xb, xo, none⟩) 2 sc, [(p0 : Nat), (p1 : Nat)]), num⟩)
    rw [HE.out]
    first | rw [if_pos rfl] | rw [if_pos trivial]
    exact HW5.out
 ·as_aux_lemma =>
   try clear hHeld
   have hx := HX.out
   have hn := HN.out
   have hG := HG.out
   have h := HW.out
   have hAW : IntsAt X1 (.slice sa l.length sc, l) := Row.keep hAB.out HW.out.k
   have hl : l.length = _ := hx.len (by simp)
   have hdx := hx.dst (by simp)
   have harg := hx.arg
   simp only at harg hl
   obtain ⟨a0, a1, rfl⟩ := list2 hl
   have ha0 := harg a0 (by simp)
   have ha1 := harg a1 (by simp)
   clear harg hl
   obtain ⟨p0, rfl⟩ : ∃ p : Nat, a0 = p := ⟨a0.toNat, by omega⟩
   have h0 : p0 < n := by omega
   clear ha0
   obtain ⟨p1, rfl⟩ : ∃ p : Nat, a1 = p := ⟨a1.toNat, by omega⟩
   have h1 : p1 < n := by omega
   clear ha1
   obtain rfl : dst = -1 := hdx
   obtain ⟨xb, xo, xc, exs, y0, y1⟩ := ints_cells2 hAW
   simp at exs
   obtain ⟨rfl, rfl⟩ := exs
   have Y0 := kept y0
   have Y1 := kept y1
   clear y0 y1
   have HI0 := kept (hG.I (p0 : Nat))
   have HI1 := kept (hG.I (p1 : Nat))
   have HCk := kept hG.k
   have HC8 := kept hG.c
   clear h hG hAW hx hn HX HN HG
   have HE := kept (show instM s ⟨22, -1, (Value.slice (some ⟨xb, xo, none⟩) 2 sc, [(p0 : Nat), (p1 : Nat)]), num⟩ = if passM s 22 [(p0 : Nat), (p1 : Nat)] = true then { s with out := { s.out with checks := s.out.checks.set 5 (s.out.checks[5]! + 1) } } else StM.fin ({ s with out := { s.out with checks := s.out.checks.set 5 (s.out.checks[5]! + 1), trap := 5 } } : StM) 1 by simp [instM, checkM])
   rw [show kword 22 = ⟨#[99, 104, 107, 115, 117, 98]⟩ from rfl]
   obtain ⟨l0, l1, l2, l3⟩ := BX.out.c4
   simp at l0 l1 l2 l3
   have y0 := Y0.out
   have y1 := Y1.out
   have CC := kept (fun w => show Calls Tryz.prog 12 #[.int .i64 22] w fun e w' => e = .returned (.int .i64 5) ∧ w = w' from refcheck_any 22 w (by decide))
   have hcb : s.out.checks[5]! < 1000000 := by have := HCk.out _ (nth_memN (l := s.out.checks) (i := 5) (by rw [HC8.out]; decide)); omega
   have x0 : X1.cell? ⟨g, 19, none⟩ = some (.int .i64 (s.out.checks[5]! : Nat)) := (HW.out.blk.cell 19).trans rfl
   have x1 := HW.out.fz 19
   have x2 : (World.drew X1).cell? ⟨g, 19, none⟩ = some (.int .i64 (s.out.checks[5]! : Nat)) := ((HW.out.keep ((Keeps.refl X1 []).drew)).blk.cell 19).trans rfl
   have x3 := (HW.out.keep ((Keeps.refl X1 []).drew)).fz 19
   have HT : Hid (WAt wB (X1.setCell ⟨g, 19, none⟩ (.int .i64 ((s.out.checks[5]! : Nat) + 1 : Int))) g R f n { s with out := { s.out with checks := s.out.checks.set 5 (s.out.checks[5]! + 1) } }) := kept (HW.out.turn (keeps_set1 _ _ _ _) (by rw [← stateC_chk R f n s 5 _ (by decide) HC8.out]; exact HW.out.blk.set_ 19 _) rfl rfl rfl rfl rfl (by show (s.out.checks.set _ _).length = 8; rw [List.length_set]; exact HC8.out))
   have HXB := kept (BX.out.keep (keeps_set1 X1 g 19 (.int .i64 ((s.out.checks[5]! : Nat) + 1 : Int))) (by simp; exact blk_ne BX.out HW.out.blk (by decide)))
   generalize hS1 : ({ s with out := { s.out with checks := s.out.checks.set 5 (s.out.checks[5]! + 1) } } : StM) = s1 at *
   have HPS := kept (show passM s 22 [(p0 : Nat), (p1 : Nat)] = passM s1 22 [(p0 : Nat), (p1 : Nat)] by rw [← hS1]; rfl)
   have HI_ := kept (show ∀ v, s1.I v = s.I v from fun v => by rw [← hS1]; rfl)
   have HC8b := kept (show s1.out.checks.length = 8 by rw [← hS1]; show (s.out.checks.set _ _).length = 8; rw [List.length_set]; exact HC8.out)
   have HE2 : Hid ((({ s with out := { s.out with checks := s.out.checks.set 5 (s.out.checks[5]! + 1), trap := 5 } } : StM) : StM) = { s1 with out := { s1.out with trap := 5 } }) := kept (by rw [← hS1])
   rw [HE2.out] at HE
   generalize s.out.checks[5]! = c at *
   have HT2 := kept (HT.out.keep ((Keeps.refl (X1.setCell ⟨g, 19, none⟩ (.int .i64 ((c : Nat) + 1 : Int))) []).drew))
   have HXB2 := kept (HXB.out.keep ((Keeps.refl (X1.setCell ⟨g, 19, none⟩ (.int .i64 ((c : Nat) + 1 : Int))) []).drew) (by simp))
   clear HT HXB
   go_wp2_with (first | (go_at_call 12; refine (CC.out _).mono ?_; rintro e w3 ⟨rfl, rfl⟩))
   clear CC
   go_region
   generalize hX2 : (World.drew (X1.setCell ⟨g, 19, none⟩ (.int .i64 ((c : Nat) + 1 : Int)))) = X2 at *
   clear hX2 l0 l1 l2 l3 x0 x1 x2 x3 y0 y1
   have l2 := HXB2.out.cell 2
   simp at l2
   have CP := kept (passes_22 wB X2 g R f n s1 HT2.out (.slice (some ⟨xb, xo, none⟩) 2 sc) p0 p1 (Row.keep hAB.out HT2.out.k) h0 h1 (by rw [HI_.out]; exact HI0.out) (by rw [HI_.out]; exact HI1.out))
   rw [HPS.out] at HE
   generalize hpb : passM s1 22 [(p0 : Nat), (p1 : Nat)] = pb at *
   cases pb
   ·go_wp2_with (first | (go_at_call 79; go_must (refine (CP.out).mono ?_; rintro e w5 ⟨rfl, k5⟩; have HW5 := kept (HT2.out.keep k5); have d0 := HW5.out.fz 11; have d1 : w5.cell? ⟨g, 11, none⟩ = some (.int .i64 s1.out.trap) := (HW5.out.blk.cell 11).trans rfl; have H6 : Hid (WAt wB (w5.setCell ⟨g, 11, none⟩ (.int .i64 5)) g R f n { s1 with out := { s1.out with trap := 5 } }) := kept (HW5.out.turn (keeps_set1 _ _ _ _) (by rw [← stateC_trap R f n s1 5]; exact HW5.out.blk.set_ 11 _) rfl rfl rfl rfl rfl HC8b.out))) | (go_at_call 49; go_must (refine (end84_any wB _ g R f n { s1 with out := { s1.out with trap := 5 } } 1 H6.out).mono ?_; rintro e w6 ⟨rfl, HF⟩)))
    first | refine e48n rfl ⟨rfl, R, ?_⟩ | refine e48r rfl ⟨rfl, R, ?_⟩
    show WAt _ _ _ _ _ _ (instM s ⟨22, -1, (Value.slice (some ⟨xb, xo, none⟩) 2 sc, [(p0 : Nat), (p1 : Nat)]), num⟩)
    rw [HE.out]
    first | rw [if_neg (by decide)] | rw [if_neg (by simp)]
    exact HF
   ·go_wp2_with (first | (go_at_call 79; go_must (refine (CP.out).mono ?_; rintro e w5 ⟨rfl, k5⟩; have HW5 := kept (HT2.out.keep k5); have d0 := HW5.out.fz 11; have d1 : w5.cell? ⟨g, 11, none⟩ = some (.int .i64 s1.out.trap) := (HW5.out.blk.cell 11).trans rfl; have H6 : Hid (WAt wB (w5.setCell ⟨g, 11, none⟩ (.int .i64 5)) g R f n { s1 with out := { s1.out with trap := 5 } }) := kept (HW5.out.turn (keeps_set1 _ _ _ _) (by rw [← stateC_trap R f n s1 5]; exact HW5.out.blk.set_ 11 _) rfl rfl rfl rfl rfl HC8b.out))))
    first | refine e48n rfl ⟨rfl, R, ?_⟩ | refine e48r rfl ⟨rfl, R, ?_⟩
    show WAt _ _ _ _ _ _ (instM s ⟨22, -1, (Value.slice (some ⟨xb, xo, none⟩) 2 sc, [(p0 : Nat), (p1 : Nat)]), num⟩)
    rw [HE.out]
    first | rw [if_pos rfl] | rw [if_pos trivial]
    exact HW5.out
 ·as_aux_lemma =>
   try clear hHeld
   have hx := HX.out
   have hn := HN.out
   have hG := HG.out
   have h := HW.out
   have hAW : IntsAt X1 (.slice sa l.length sc, l) := Row.keep hAB.out HW.out.k
   have hl : l.length = _ := hx.len (by simp)
   have hdx := hx.dst (by simp)
   have harg := hx.arg
   simp only at harg hl
   obtain ⟨a0, a1, rfl⟩ := list2 hl
   have ha0 := harg a0 (by simp)
   have ha1 := harg a1 (by simp)
   clear harg hl
   obtain ⟨p0, rfl⟩ : ∃ p : Nat, a0 = p := ⟨a0.toNat, by omega⟩
   have h0 : p0 < n := by omega
   clear ha0
   obtain ⟨p1, rfl⟩ : ∃ p : Nat, a1 = p := ⟨a1.toNat, by omega⟩
   have h1 : p1 < n := by omega
   clear ha1
   obtain rfl : dst = -1 := hdx
   obtain ⟨xb, xo, xc, exs, y0, y1⟩ := ints_cells2 hAW
   simp at exs
   obtain ⟨rfl, rfl⟩ := exs
   have Y0 := kept y0
   have Y1 := kept y1
   clear y0 y1
   have HI0 := kept (hG.I (p0 : Nat))
   have HI1 := kept (hG.I (p1 : Nat))
   have HCk := kept hG.k
   have HC8 := kept hG.c
   clear h hG hAW hx hn HX HN HG
   have HE := kept (show instM s ⟨23, -1, (Value.slice (some ⟨xb, xo, none⟩) 2 sc, [(p0 : Nat), (p1 : Nat)]), num⟩ = if passM s 23 [(p0 : Nat), (p1 : Nat)] = true then { s with out := { s.out with checks := s.out.checks.set 6 (s.out.checks[6]! + 1) } } else StM.fin ({ s with out := { s.out with checks := s.out.checks.set 6 (s.out.checks[6]! + 1), trap := 6 } } : StM) 1 by simp [instM, checkM])
   rw [show kword 23 = ⟨#[99, 104, 107, 109, 117, 108]⟩ from rfl]
   obtain ⟨l0, l1, l2, l3⟩ := BX.out.c4
   simp at l0 l1 l2 l3
   have y0 := Y0.out
   have y1 := Y1.out
   have CC := kept (fun w => show Calls Tryz.prog 12 #[.int .i64 23] w fun e w' => e = .returned (.int .i64 6) ∧ w = w' from refcheck_any 23 w (by decide))
   have hcb : s.out.checks[6]! < 1000000 := by have := HCk.out _ (nth_memN (l := s.out.checks) (i := 6) (by rw [HC8.out]; decide)); omega
   have x0 : X1.cell? ⟨g, 20, none⟩ = some (.int .i64 (s.out.checks[6]! : Nat)) := (HW.out.blk.cell 20).trans rfl
   have x1 := HW.out.fz 20
   have x2 : (World.drew X1).cell? ⟨g, 20, none⟩ = some (.int .i64 (s.out.checks[6]! : Nat)) := ((HW.out.keep ((Keeps.refl X1 []).drew)).blk.cell 20).trans rfl
   have x3 := (HW.out.keep ((Keeps.refl X1 []).drew)).fz 20
   have HT : Hid (WAt wB (X1.setCell ⟨g, 20, none⟩ (.int .i64 ((s.out.checks[6]! : Nat) + 1 : Int))) g R f n { s with out := { s.out with checks := s.out.checks.set 6 (s.out.checks[6]! + 1) } }) := kept (HW.out.turn (keeps_set1 _ _ _ _) (by rw [← stateC_chk R f n s 6 _ (by decide) HC8.out]; exact HW.out.blk.set_ 20 _) rfl rfl rfl rfl rfl (by show (s.out.checks.set _ _).length = 8; rw [List.length_set]; exact HC8.out))
   have HXB := kept (BX.out.keep (keeps_set1 X1 g 20 (.int .i64 ((s.out.checks[6]! : Nat) + 1 : Int))) (by simp; exact blk_ne BX.out HW.out.blk (by decide)))
   generalize hS1 : ({ s with out := { s.out with checks := s.out.checks.set 6 (s.out.checks[6]! + 1) } } : StM) = s1 at *
   have HPS := kept (show passM s 23 [(p0 : Nat), (p1 : Nat)] = passM s1 23 [(p0 : Nat), (p1 : Nat)] by rw [← hS1]; rfl)
   have HI_ := kept (show ∀ v, s1.I v = s.I v from fun v => by rw [← hS1]; rfl)
   have HC8b := kept (show s1.out.checks.length = 8 by rw [← hS1]; show (s.out.checks.set _ _).length = 8; rw [List.length_set]; exact HC8.out)
   have HE2 : Hid ((({ s with out := { s.out with checks := s.out.checks.set 6 (s.out.checks[6]! + 1), trap := 6 } } : StM) : StM) = { s1 with out := { s1.out with trap := 6 } }) := kept (by rw [← hS1])
   rw [HE2.out] at HE
   generalize s.out.checks[6]! = c at *
   have HT2 := kept (HT.out.keep ((Keeps.refl (X1.setCell ⟨g, 20, none⟩ (.int .i64 ((c : Nat) + 1 : Int))) []).drew))
   have HXB2 := kept (HXB.out.keep ((Keeps.refl (X1.setCell ⟨g, 20, none⟩ (.int .i64 ((c : Nat) + 1 : Int))) []).drew) (by simp))
   clear HT HXB
   go_wp2_with (first | (go_at_call 12; refine (CC.out _).mono ?_; rintro e w3 ⟨rfl, rfl⟩))
   clear CC
   go_region
   generalize hX2 : (World.drew (X1.setCell ⟨g, 20, none⟩ (.int .i64 ((c : Nat) + 1 : Int)))) = X2 at *
   clear hX2 l0 l1 l2 l3 x0 x1 x2 x3 y0 y1
   have l2 := HXB2.out.cell 2
   simp at l2
   have CP := kept (passes_23 wB X2 g R f n s1 HT2.out (.slice (some ⟨xb, xo, none⟩) 2 sc) p0 p1 (Row.keep hAB.out HT2.out.k) h0 h1 (by rw [HI_.out]; exact HI0.out) (by rw [HI_.out]; exact HI1.out))
   rw [HPS.out] at HE
   generalize hpb : passM s1 23 [(p0 : Nat), (p1 : Nat)] = pb at *
   cases pb
   ·go_wp2_with (first | (go_at_call 79; go_must (refine (CP.out).mono ?_; rintro e w5 ⟨rfl, k5⟩; have HW5 := kept (HT2.out.keep k5); have d0 := HW5.out.fz 11; have d1 : w5.cell? ⟨g, 11, none⟩ = some (.int .i64 s1.out.trap) := (HW5.out.blk.cell 11).trans rfl; have H6 : Hid (WAt wB (w5.setCell ⟨g, 11, none⟩ (.int .i64 6)) g R f n { s1 with out := { s1.out with trap := 6 } }) := kept (HW5.out.turn (keeps_set1 _ _ _ _) (by rw [← stateC_trap R f n s1 6]; exact HW5.out.blk.set_ 11 _) rfl rfl rfl rfl rfl HC8b.out))) | (go_at_call 49; go_must (refine (end84_any wB _ g R f n { s1 with out := { s1.out with trap := 6 } } 1 H6.out).mono ?_; rintro e w6 ⟨rfl, HF⟩)))
    first | refine e48n rfl ⟨rfl, R, ?_⟩ | refine e48r rfl ⟨rfl, R, ?_⟩
    show WAt _ _ _ _ _ _ (instM s ⟨23, -1, (Value.slice (some ⟨xb, xo, none⟩) 2 sc, [(p0 : Nat), (p1 : Nat)]), num⟩)
    rw [HE.out]
    first | rw [if_neg (by decide)] | rw [if_neg (by simp)]
    exact HF
   ·go_wp2_with (first | (go_at_call 79; go_must (refine (CP.out).mono ?_; rintro e w5 ⟨rfl, k5⟩; have HW5 := kept (HT2.out.keep k5); have d0 := HW5.out.fz 11; have d1 : w5.cell? ⟨g, 11, none⟩ = some (.int .i64 s1.out.trap) := (HW5.out.blk.cell 11).trans rfl; have H6 : Hid (WAt wB (w5.setCell ⟨g, 11, none⟩ (.int .i64 6)) g R f n { s1 with out := { s1.out with trap := 6 } }) := kept (HW5.out.turn (keeps_set1 _ _ _ _) (by rw [← stateC_trap R f n s1 6]; exact HW5.out.blk.set_ 11 _) rfl rfl rfl rfl rfl HC8b.out))))
    first | refine e48n rfl ⟨rfl, R, ?_⟩ | refine e48r rfl ⟨rfl, R, ?_⟩
    show WAt _ _ _ _ _ _ (instM s ⟨23, -1, (Value.slice (some ⟨xb, xo, none⟩) 2 sc, [(p0 : Nat), (p1 : Nat)]), num⟩)
    rw [HE.out]
    first | rw [if_pos rfl] | rw [if_pos trivial]
    exact HW5.out
 ·as_aux_lemma =>
   try clear hHeld
   have hx := HX.out
   have hn := HN.out
   have hG := HG.out
   have h := HW.out
   have hAW : IntsAt X1 (.slice sa l.length sc, l) := Row.keep hAB.out HW.out.k
   have hl : l.length = _ := hx.len (by simp)
   have hdx := hx.dst (by simp)
   have harg := hx.arg
   simp only at harg hl
   obtain ⟨a0, rfl⟩ : ∃ a, l = [a] := List.length_eq_one_iff.1 hl
   have ha0 := harg a0 (by simp)
   clear harg hl
   obtain ⟨p0, rfl⟩ : ∃ p : Nat, a0 = p := ⟨a0.toNat, by omega⟩
   have h0 : p0 < n := by omega
   clear ha0
   obtain rfl : dst = -1 := hdx
   obtain ⟨xb, xo, xc, exs, y0⟩ := ints_cells1 hAW
   simp at exs
   obtain ⟨rfl, rfl⟩ := exs
   have Y0 := kept y0
   clear y0
   have HI0 := kept (hG.I (p0 : Nat))
   have HCk := kept hG.k
   have HC8 := kept hG.c
   clear h hG hAW hx hn HX HN HG
   have HE := kept (show instM s ⟨24, -1, (Value.slice (some ⟨xb, xo, none⟩) 1 sc, [(p0 : Nat)]), num⟩ = if passM s 24 [(p0 : Nat)] = true then { s with out := { s.out with checks := s.out.checks.set 7 (s.out.checks[7]! + 1) } } else StM.fin ({ s with out := { s.out with checks := s.out.checks.set 7 (s.out.checks[7]! + 1), trap := 7 } } : StM) 1 by simp [instM, checkM])
   rw [show kword 24 = ⟨#[99, 104, 107, 108, 101, 110]⟩ from rfl]
   obtain ⟨l0, l1, l2, l3⟩ := BX.out.c4
   simp at l0 l1 l2 l3
   have y0 := Y0.out
   have CC := kept (fun w => show Calls Tryz.prog 12 #[.int .i64 24] w fun e w' => e = .returned (.int .i64 7) ∧ w = w' from refcheck_any 24 w (by decide))
   have hcb : s.out.checks[7]! < 1000000 := by have := HCk.out _ (nth_memN (l := s.out.checks) (i := 7) (by rw [HC8.out]; decide)); omega
   have x0 : X1.cell? ⟨g, 21, none⟩ = some (.int .i64 (s.out.checks[7]! : Nat)) := (HW.out.blk.cell 21).trans rfl
   have x1 := HW.out.fz 21
   have x2 : (World.drew X1).cell? ⟨g, 21, none⟩ = some (.int .i64 (s.out.checks[7]! : Nat)) := ((HW.out.keep ((Keeps.refl X1 []).drew)).blk.cell 21).trans rfl
   have x3 := (HW.out.keep ((Keeps.refl X1 []).drew)).fz 21
   have HT : Hid (WAt wB (X1.setCell ⟨g, 21, none⟩ (.int .i64 ((s.out.checks[7]! : Nat) + 1 : Int))) g R f n { s with out := { s.out with checks := s.out.checks.set 7 (s.out.checks[7]! + 1) } }) := kept (HW.out.turn (keeps_set1 _ _ _ _) (by rw [← stateC_chk R f n s 7 _ (by decide) HC8.out]; exact HW.out.blk.set_ 21 _) rfl rfl rfl rfl rfl (by show (s.out.checks.set _ _).length = 8; rw [List.length_set]; exact HC8.out))
   have HXB := kept (BX.out.keep (keeps_set1 X1 g 21 (.int .i64 ((s.out.checks[7]! : Nat) + 1 : Int))) (by simp; exact blk_ne BX.out HW.out.blk (by decide)))
   generalize hS1 : ({ s with out := { s.out with checks := s.out.checks.set 7 (s.out.checks[7]! + 1) } } : StM) = s1 at *
   have HPS := kept (show passM s 24 [(p0 : Nat)] = passM s1 24 [(p0 : Nat)] by rw [← hS1]; rfl)
   have HI_ := kept (show ∀ v, s1.I v = s.I v from fun v => by rw [← hS1]; rfl)
   have HC8b := kept (show s1.out.checks.length = 8 by rw [← hS1]; show (s.out.checks.set _ _).length = 8; rw [List.length_set]; exact HC8.out)
   have HE2 : Hid ((({ s with out := { s.out with checks := s.out.checks.set 7 (s.out.checks[7]! + 1), trap := 7 } } : StM) : StM) = { s1 with out := { s1.out with trap := 7 } }) := kept (by rw [← hS1])
   rw [HE2.out] at HE
   generalize s.out.checks[7]! = c at *
   have HT2 := kept (HT.out.keep ((Keeps.refl (X1.setCell ⟨g, 21, none⟩ (.int .i64 ((c : Nat) + 1 : Int))) []).drew))
   have HXB2 := kept (HXB.out.keep ((Keeps.refl (X1.setCell ⟨g, 21, none⟩ (.int .i64 ((c : Nat) + 1 : Int))) []).drew) (by simp))
   clear HT HXB
   go_wp2_with (first | (go_at_call 12; refine (CC.out _).mono ?_; rintro e w3 ⟨rfl, rfl⟩))
   clear CC
   go_region
   generalize hX2 : (World.drew (X1.setCell ⟨g, 21, none⟩ (.int .i64 ((c : Nat) + 1 : Int)))) = X2 at *
   clear hX2 l0 l1 l2 l3 x0 x1 x2 x3 y0
   have l2 := HXB2.out.cell 2
   simp at l2
   have CP := kept (passes_24 wB X2 g R f n s1 HT2.out (.slice (some ⟨xb, xo, none⟩) 1 sc) p0 (Row.keep hAB.out HT2.out.k) h0)
   rw [HPS.out] at HE
   generalize hpb : passM s1 24 [(p0 : Nat)] = pb at *
   cases pb
   ·go_wp2_with (first | (go_at_call 79; go_must (refine (CP.out).mono ?_; rintro e w5 ⟨rfl, k5⟩; have HW5 := kept (HT2.out.keep k5); have d0 := HW5.out.fz 11; have d1 : w5.cell? ⟨g, 11, none⟩ = some (.int .i64 s1.out.trap) := (HW5.out.blk.cell 11).trans rfl; have H6 : Hid (WAt wB (w5.setCell ⟨g, 11, none⟩ (.int .i64 7)) g R f n { s1 with out := { s1.out with trap := 7 } }) := kept (HW5.out.turn (keeps_set1 _ _ _ _) (by rw [← stateC_trap R f n s1 7]; exact HW5.out.blk.set_ 11 _) rfl rfl rfl rfl rfl HC8b.out))) | (go_at_call 49; go_must (refine (end84_any wB _ g R f n { s1 with out := { s1.out with trap := 7 } } 1 H6.out).mono ?_; rintro e w6 ⟨rfl, HF⟩)))
    first | refine e48n rfl ⟨rfl, R, ?_⟩ | refine e48r rfl ⟨rfl, R, ?_⟩
    show WAt _ _ _ _ _ _ (instM s ⟨24, -1, (Value.slice (some ⟨xb, xo, none⟩) 1 sc, [(p0 : Nat)]), num⟩)
    rw [HE.out]
    first | rw [if_neg (by decide)] | rw [if_neg (by simp)]
    exact HF
   ·go_wp2_with (first | (go_at_call 79; go_must (refine (CP.out).mono ?_; rintro e w5 ⟨rfl, k5⟩; have HW5 := kept (HT2.out.keep k5); have d0 := HW5.out.fz 11; have d1 : w5.cell? ⟨g, 11, none⟩ = some (.int .i64 s1.out.trap) := (HW5.out.blk.cell 11).trans rfl; have H6 : Hid (WAt wB (w5.setCell ⟨g, 11, none⟩ (.int .i64 7)) g R f n { s1 with out := { s1.out with trap := 7 } }) := kept (HW5.out.turn (keeps_set1 _ _ _ _) (by rw [← stateC_trap R f n s1 7]; exact HW5.out.blk.set_ 11 _) rfl rfl rfl rfl rfl HC8b.out))))
    first | refine e48n rfl ⟨rfl, R, ?_⟩ | refine e48r rfl ⟨rfl, R, ?_⟩
    show WAt _ _ _ _ _ _ (instM s ⟨24, -1, (Value.slice (some ⟨xb, xo, none⟩) 1 sc, [(p0 : Nat)]), num⟩)
    rw [HE.out]
    first | rw [if_pos rfl] | rw [if_pos trivial]
    exact HW5.out
 ·as_aux_lemma =>
   try clear hHeld
   have hx := HX.out
   have hn := HN.out
   have hG := HG.out
   have h := HW.out
   have hAW : IntsAt X1 (.slice sa l.length sc, l) := Row.keep hAB.out HW.out.k
   have hl : l.length = _ := hx.len (by simp)
   have hdx := hx.dst (by simp)
   have harg := hx.arg
   simp only at harg hl
   obtain ⟨a0, a1, rfl⟩ := list2 hl
   have ha0 := harg a0 (by simp)
   have ha1 := harg a1 (by simp)
   clear harg hl
   obtain ⟨p0, rfl⟩ : ∃ p : Nat, a0 = p := ⟨a0.toNat, by omega⟩
   have h0 : p0 < n := by omega
   clear ha0
   obtain ⟨p1, rfl⟩ : ∃ p : Nat, a1 = p := ⟨a1.toNat, by omega⟩
   have h1 : p1 < n := by omega
   clear ha1
   obtain ⟨hd0, hd1, _⟩ : 0 ≤ dst ∧ dst < (n : Int) ∧ _ := hdx
   obtain ⟨d, rfl⟩ : ∃ d : Nat, dst = d := ⟨dst.toNat, by omega⟩
   have hd : d < n := by omega
   clear hd0 hd1
   obtain ⟨xb, xo, xc, exs, y0, y1⟩ := ints_cells2 hAW
   simp at exs
   obtain ⟨rfl, rfl⟩ := exs
   have Y0 := kept y0
   have Y1 := kept y1
   clear y0 y1
   have HI0 := kept (hG.I (p0 : Nat))
   have HI1 := kept (hG.I (p1 : Nat))
   clear h hG hAW hx hn HX HN HG
   have HE := kept (show instM s ⟨25, (d : Nat), (Value.slice (some ⟨xb, xo, none⟩) 2 sc, [(p0 : Nat), (p1 : Nat)]), num⟩ = ((s.setI (d : Nat) (s.I (p0 : Nat))).setB (d : Nat) (s.B (p0 : Nat))).setA (d : Nat) (s.A (p0 : Nat)) by simp [instM, rawM, wrapI_eq])
   rw [show kword 25 = ⟨#[112, 105]⟩ from rfl]
   obtain ⟨l0, l1, l2, l3⟩ := BX.out.c4
   simp at l0 l1 l2 l3
   have y0 := Y0.out
   have y1 := Y1.out
   have CC := kept (fun w => show Calls Tryz.prog 12 #[.int .i64 25] w fun e w' => e = .returned (.int .i64 0) ∧ w = w' from refcheck_any 25 w (by decide))
   have i0 := HW.out.int_at h0
   have b0 := HW.out.bool_at h0
   have a0 := HW.out.arr_at h0
   have i1 := HW.out.int_at h1
   have b1 := HW.out.bool_at h1
   have c3 := HW.out.c3
   have c4 := HW.out.c4
   have c5 := HW.out.c5
   generalize hI0 : s.I (p0 : Nat) = I0 at *
   generalize hB0 : s.B (p0 : Nat) = B0 at *
   generalize hI1 : s.I (p1 : Nat) = I1 at *
   generalize hB1 : s.B (p1 : Nat) = B1 at *
   generalize hA0 : s.A (p0 : Nat) = A0 at *
   go_wp2_with (first | (go_at_call 12; refine (CC.out _).mono ?_; rintro e w3 ⟨rfl, rfl⟩))
   clear CC
   go_quiet (fail)
   generalize hYq : X1.drewN _ = X2 at *
   have KY := kept (show Keeps X1 X2 [] by rw [← hYq]; exact (Keeps.refl X1 []).drewN _)
   clear l0 l1 l2 l3 c3 c4 c5 y0 i0 b0 y1 i1 b1 a0 hYq
   have kz := KY.out
   have HWx := kept (HW.out.keep kz)
   have BXx := kept (BX.out.keep kz (by simp))
   have Yx0 := kept (kz.cellOf Y0.out)
   have Yx1 := kept (kz.cellOf Y1.out)
   clear HW BX kz Y0 Y1
   have HW := HWx
   have BX := BXx
   have Y0 := Yx0
   have Y1 := Yx1
   clear HWx BXx Yx0 Yx1
   clear KY
   have c3 := HW.out.c3
   have c4 := HW.out.c4
   have i1 := HW.out.int_at h1
   have b1 := HW.out.bool_at h1
   have y1 := Y1.out
   rw [hI1] at i1
   rw [hB1] at b1
   go_wp2
   go_quiet (fail)
   generalize hYq : X2.drewN _ = Y at *
   have KY := kept (show Keeps X2 Y [] by rw [← hYq]; exact (Keeps.refl X2 []).drewN _)
   clear c3 c4 i1 b1 y1 hYq
   have kz := KY.out
   have HWx := kept (HW.out.keep kz)
   have BXx := kept (BX.out.keep kz (by simp))
   have Yx0 := kept (kz.cellOf Y0.out)
   have Yx1 := kept (kz.cellOf Y1.out)
   clear HW BX kz Y0 Y1
   have HW := HWx
   have BX := BXx
   have Y0 := Yx0
   have Y1 := Yx1
   clear HWx BXx Yx0 Yx1
   clear KY
   have n1 : ¬ R.gi = R.gb := blk_ne HW.out.bi.2.1 HW.out.bb.2.1 (by decide)
   have n2 : ¬ R.gb = R.gi := fun e => n1 e.symm
   have n3 : ¬ R.gi = R.ga := blk_ne HW.out.bi.2.1 HW.out.ba.2.1 (by decide)
   have n4 : ¬ R.ga = R.gi := fun e => n3 e.symm
   have n5 : ¬ R.gb = R.ga := blk_ne HW.out.bb.2.1 HW.out.ba.2.1 (by decide)
   have n6 : ¬ R.ga = R.gb := fun e => n5 e.symm
   have kd : Keeps Y (World.drew Y) [] := (Keeps.refl Y []).drew
   have HD := kept (HW.out.keep kd)
   have BD := kept (BX.out.keep kd (by simp))
   obtain ⟨l0d, l1d, l2d, l3d⟩ := BD.out.c4
   obtain ⟨l0, l1, l2, l3⟩ := BX.out.c4
   simp at l0 l1 l2 l3 l0d l1d l2d l3d
   clear kd
   have c3d := HD.out.c3
   have e0d := HD.out.bi.2.1.frozen d
   have e1d := HD.out.int_at hd
   have c4d := HD.out.c4
   have e2d := HD.out.bb.2.1.frozen d
   have e3d := HD.out.bool_at hd
   have c5d := HD.out.c5
   have e4d := HD.out.ba.2.1.frozen d
   have e5d := HD.out.arr_at hd
   have c3 := HW.out.c3
   have e0 := HW.out.bi.2.1.frozen d
   have e1 := HW.out.int_at hd
   have c4 := HW.out.c4
   have e2 := HW.out.bb.2.1.frozen d
   have e3 := HW.out.bool_at hd
   have c5 := HW.out.c5
   have e4 := HW.out.ba.2.1.frozen d
   have e5 := HW.out.arr_at hd
   go_wp2
   go_region
   go_wp2
   first | refine e48n rfl ⟨rfl, R, ?_⟩ | refine e48r rfl ⟨rfl, R, ?_⟩
   show WAt _ _ _ _ _ _ (instM s ⟨25, (d : Nat), (Value.slice (some ⟨xb, xo, none⟩) 2 sc, [(p0 : Nat), (p1 : Nat)]), num⟩)
   rw [HE.out]
   first | exact ((HD.out.setI d I0).setB d B0).setA d A0 | exact (((HD.out.setI d I0).setB d B0).setA d A0).keep ((Keeps.refl _ []).drew) | exact ((HW.out.setI d I0).setB d B0).setA d A0 | exact (((HW.out.setI d I0).setB d B0).setA d A0).keep ((Keeps.refl _ []).drew)
 ·as_aux_lemma =>
   try clear hHeld
   have hx := HX.out
   have hn := HN.out
   have hG := HG.out
   have h := HW.out
   have hAW : IntsAt X1 (.slice sa l.length sc, l) := Row.keep hAB.out HW.out.k
   have hl : l.length = _ := hx.len (by simp)
   have hdx := hx.dst (by simp)
   have harg := hx.arg
   simp only at harg hl
   obtain ⟨a0, a1, rfl⟩ := list2 hl
   have ha0 := harg a0 (by simp)
   have ha1 := harg a1 (by simp)
   clear harg hl
   obtain ⟨p0, rfl⟩ : ∃ p : Nat, a0 = p := ⟨a0.toNat, by omega⟩
   have h0 : p0 < n := by omega
   clear ha0
   obtain ⟨p1, rfl⟩ : ∃ p : Nat, a1 = p := ⟨a1.toNat, by omega⟩
   have h1 : p1 < n := by omega
   clear ha1
   obtain ⟨hd0, hd1, _⟩ : 0 ≤ dst ∧ dst < (n : Int) ∧ _ := hdx
   obtain ⟨d, rfl⟩ : ∃ d : Nat, dst = d := ⟨dst.toNat, by omega⟩
   have hd : d < n := by omega
   clear hd0 hd1
   obtain ⟨xb, xo, xc, exs, y0, y1⟩ := ints_cells2 hAW
   simp at exs
   obtain ⟨rfl, rfl⟩ := exs
   have Y0 := kept y0
   have Y1 := kept y1
   clear y0 y1
   have HI0 := kept (hG.I (p0 : Nat))
   have HI1 := kept (hG.I (p1 : Nat))
   clear h hG hAW hx hn HX HN HG
   have HE := kept (show instM s ⟨26, (d : Nat), (Value.slice (some ⟨xb, xo, none⟩) 2 sc, [(p0 : Nat), (p1 : Nat)]), num⟩ = ((s.setI (d : Nat) (s.I (p0 : Nat))).setB (d : Nat) (s.B (p0 : Nat))).setA (d : Nat) (s.A (p0 : Nat)) by simp [instM, rawM, wrapI_eq])
   rw [show kword 26 = ⟨#[112, 105, 108, 101, 110]⟩ from rfl]
   obtain ⟨l0, l1, l2, l3⟩ := BX.out.c4
   simp at l0 l1 l2 l3
   have y0 := Y0.out
   have y1 := Y1.out
   have CC := kept (fun w => show Calls Tryz.prog 12 #[.int .i64 26] w fun e w' => e = .returned (.int .i64 0) ∧ w = w' from refcheck_any 26 w (by decide))
   have i0 := HW.out.int_at h0
   have b0 := HW.out.bool_at h0
   have a0 := HW.out.arr_at h0
   have i1 := HW.out.int_at h1
   have b1 := HW.out.bool_at h1
   have c3 := HW.out.c3
   have c4 := HW.out.c4
   have c5 := HW.out.c5
   generalize hI0 : s.I (p0 : Nat) = I0 at *
   generalize hB0 : s.B (p0 : Nat) = B0 at *
   generalize hI1 : s.I (p1 : Nat) = I1 at *
   generalize hB1 : s.B (p1 : Nat) = B1 at *
   generalize hA0 : s.A (p0 : Nat) = A0 at *
   go_wp2_with (first | (go_at_call 12; refine (CC.out _).mono ?_; rintro e w3 ⟨rfl, rfl⟩))
   clear CC
   go_quiet (fail)
   generalize hYq : X1.drewN _ = X2 at *
   have KY := kept (show Keeps X1 X2 [] by rw [← hYq]; exact (Keeps.refl X1 []).drewN _)
   clear l0 l1 l2 l3 c3 c4 c5 y0 i0 b0 y1 i1 b1 a0 hYq
   have kz := KY.out
   have HWx := kept (HW.out.keep kz)
   have BXx := kept (BX.out.keep kz (by simp))
   have Yx0 := kept (kz.cellOf Y0.out)
   have Yx1 := kept (kz.cellOf Y1.out)
   clear HW BX kz Y0 Y1
   have HW := HWx
   have BX := BXx
   have Y0 := Yx0
   have Y1 := Yx1
   clear HWx BXx Yx0 Yx1
   clear KY
   have c3 := HW.out.c3
   have c4 := HW.out.c4
   have i1 := HW.out.int_at h1
   have b1 := HW.out.bool_at h1
   have y1 := Y1.out
   rw [hI1] at i1
   rw [hB1] at b1
   go_wp2
   go_quiet (fail)
   generalize hYq : X2.drewN _ = Y at *
   have KY := kept (show Keeps X2 Y [] by rw [← hYq]; exact (Keeps.refl X2 []).drewN _)
   clear c3 c4 i1 b1 y1 hYq
   have kz := KY.out
   have HWx := kept (HW.out.keep kz)
   have BXx := kept (BX.out.keep kz (by simp))
   have Yx0 := kept (kz.cellOf Y0.out)
   have Yx1 := kept (kz.cellOf Y1.out)
   clear HW BX kz Y0 Y1
   have HW := HWx
   have BX := BXx
   have Y0 := Yx0
   have Y1 := Yx1
   clear HWx BXx Yx0 Yx1
   clear KY
   have n1 : ¬ R.gi = R.gb := blk_ne HW.out.bi.2.1 HW.out.bb.2.1 (by decide)
   have n2 : ¬ R.gb = R.gi := fun e => n1 e.symm
   have n3 : ¬ R.gi = R.ga := blk_ne HW.out.bi.2.1 HW.out.ba.2.1 (by decide)
   have n4 : ¬ R.ga = R.gi := fun e => n3 e.symm
   have n5 : ¬ R.gb = R.ga := blk_ne HW.out.bb.2.1 HW.out.ba.2.1 (by decide)
   have n6 : ¬ R.ga = R.gb := fun e => n5 e.symm
   have kd : Keeps Y (World.drew Y) [] := (Keeps.refl Y []).drew
   have HD := kept (HW.out.keep kd)
   have BD := kept (BX.out.keep kd (by simp))
   obtain ⟨l0d, l1d, l2d, l3d⟩ := BD.out.c4
   obtain ⟨l0, l1, l2, l3⟩ := BX.out.c4
   simp at l0 l1 l2 l3 l0d l1d l2d l3d
   clear kd
   have c3d := HD.out.c3
   have e0d := HD.out.bi.2.1.frozen d
   have e1d := HD.out.int_at hd
   have c4d := HD.out.c4
   have e2d := HD.out.bb.2.1.frozen d
   have e3d := HD.out.bool_at hd
   have c5d := HD.out.c5
   have e4d := HD.out.ba.2.1.frozen d
   have e5d := HD.out.arr_at hd
   have c3 := HW.out.c3
   have e0 := HW.out.bi.2.1.frozen d
   have e1 := HW.out.int_at hd
   have c4 := HW.out.c4
   have e2 := HW.out.bb.2.1.frozen d
   have e3 := HW.out.bool_at hd
   have c5 := HW.out.c5
   have e4 := HW.out.ba.2.1.frozen d
   have e5 := HW.out.arr_at hd
   go_wp2
   go_region
   go_wp2
   first | refine e48n rfl ⟨rfl, R, ?_⟩ | refine e48r rfl ⟨rfl, R, ?_⟩
   show WAt _ _ _ _ _ _ (instM s ⟨26, (d : Nat), (Value.slice (some ⟨xb, xo, none⟩) 2 sc, [(p0 : Nat), (p1 : Nat)]), num⟩)
   rw [HE.out]
   first | exact ((HD.out.setI d I0).setB d B0).setA d A0 | exact (((HD.out.setI d I0).setB d B0).setA d A0).keep ((Keeps.refl _ []).drew) | exact ((HW.out.setI d I0).setB d B0).setA d A0 | exact (((HW.out.setI d I0).setB d B0).setA d A0).keep ((Keeps.refl _ []).drew)
end Go.Proofs.YtjllbchfojonhaaGreatDoor
