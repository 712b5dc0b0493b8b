/- An instruction of a run; contracts. -/
import Derived.Test.YtjllbchfojonhaaGreatDoorRK
namespace Go.Proofs.YtjllbchfojonhaaGreatDoor
open Go.RowKit
set_option linter.unusedVariables false
set_option linter.unusedSimpArgs false
set_option maxRecDepth 100000 in
set_option maxHeartbeats 200000000 in
theorem inst_lo (wB W : World) (g : Nat) (R : RepM) (f : FuncM) (n K : Nat) (ty : Int → Int) (s : StM) (x : InstM) (hlo : x.op < 14) (hx : InstOK n ty x) (hn : inI x.num = true) (h : WAt wB W g R f n s) (hG : GoodM n K s) (hA : IntsAt wB x.args) (hK : K < 1000000) : Calls Tryz.prog 48 #[.pointer (some ⟨g, 0, none⟩), .agg #[.int .i64 x.op, .int .i64 x.dst, x.args.1, .int .i64 x.num]] W (RunRet wB g f n (instM s x)) := by
 obtain ⟨op, dst, ⟨av, l⟩, num⟩ := x
 simp only at hlo
 obtain ⟨z, rfl⟩ : ∃ z : Nat, op = (z : Int) := ⟨op.toNat, by have := hx.op; simp only at this; omega⟩
 have hAB := kept hA
 obtain ⟨sa, sc, eav, -⟩ := hA
 simp only [List.length_map] at eav
 subst eav
 have hz27 : z < 27 := by have := hx.op; simp only at this; omega
 have hzi : (z : Int) < 27 := by omega
 have HW := kept (h.keep ((Keeps.refl W []).alloc (.cells #[.int .i64 (z : Nat), .int .i64 dst, .slice sa l.length sc, .int .i64 num] 43)))
 have BX := kept (Blk.new W 43 #[.int .i64 (z : Nat), .int .i64 dst, .slice sa l.length sc, .int .i64 num])
 have HX := kept hx
 have HN := kept hn
 have HG := kept hG
 have HRWD := kept (rows_word z hz27)
 clear h hG hx hn
 go_enter Tryz.func48, Tryz.ntmps48
 go_wp2
 generalize hx0 : W.alloc (.cells #[.int .i64 (z : Nat), .int .i64 dst, .slice sa l.length sc, .int .i64 num] 43) = X at *
 generalize W.heap.size = xg at *
 clear hx0
 generalize hll : l.length = ll at *
 have l0 := BX.out.cell 0
 simp at l0
 refine wp_region_held_drew (S := fun w' => w'.cell? ⟨xg, 0, none⟩ = some (.int .i64 (z : Nat))) (by kernel_rfl) ?hSs (fun hHeld => ?_)
 case hSs => exact l0
 clear l0
 have kz := ((Keeps.refl X []).drew)
 replace HW := kept (HW.out.keep kz)
 replace BX := kept (BX.out.keep kz (by simp))
 clear kz
 generalize World.drew X = X0 at *
 have l0 := BX.out.cell 0
 simp at l0
 refine tp 1 16 rfl hHeld ?_
 refine tp 2 17 rfl hHeld ?_
 refine t1 0 fun K hK => ?_
 go_simp
 (with_reducible refine (HRWD.out X0).mono ?_)
 rintro e X1 ⟨gb, rfl, k3, hr⟩
 show K _ _
 clear hHeld l0
 have kz := k3
 replace HW := kept (HW.out.keep kz)
 replace BX := kept (BX.out.keep kz (by simp))
 clear kz k3
 have HR : Hid (X1.cell? ⟨gb, z * 3, none⟩ = some (.string (kword z))) := kept hr
 clear hr
 have l0 := BX.out.cell 0
 simp at l0
 refine hK.out _ _ ?hS0 (fun hHeld => ?_)
 case hS0 => exact l0
 clear hK K
 try simp only [Act.put, sA, sB, sC]
 refine tp 3 18 rfl hHeld ?_
 refine tp 4 19 rfl hHeld ?_
 refine t1 5 fun K hK => ?_
 have hr := HR.out
 go_simp
 clear hr
 refine hK.out _ _ ?hS5 (fun hHeld => ?_)
 case hS5 => exact l0
 clear hK K
 try simp only [Act.put, sA, sB, sC]
 refine tp 6 4 rfl hHeld ?_
 refine wpAnyH_done (by kernel_rfl) ?_ _
 clear hHeld l0 HR HRWD hzi
 subst hll
 have hzc : z = 0 ∨ z = 1 ∨ z = 2 ∨ z = 3 ∨ z = 4 ∨ z = 5 ∨ z = 6 ∨ z = 7 ∨ z = 8 ∨ z = 9 ∨ z = 10 ∨ z = 11 ∨ z = 12 ∨ z = 13 := by omega
 clear hlo hz27
 rcases hzc with rfl | rfl | rfl | rfl | rfl | rfl | rfl | rfl | rfl | rfl | rfl | rfl | rfl | rfl
 ·as_aux_lemma =>
   try clear hHeld
   have hx := HX.out
   have hn := HN.out
   have hG := HG.out
   have h := HW.out
   have hAW : IntsAt X1 (.slice sa l.length sc, l) := Row.keep hAB.out HW.out.k
   have hl : l.length = _ := hx.len (by simp)
   have hdx := hx.dst (by simp)
   have harg := hx.arg
   simp only at harg hl
   obtain rfl : l = [] := List.length_eq_zero_iff.1 hl
   clear hl harg
   obtain ⟨hd0, hd1, _⟩ : 0 ≤ dst ∧ dst < (n : Int) ∧ _ := hdx
   obtain ⟨d, rfl⟩ : ∃ d : Nat, dst = d := ⟨dst.toNat, by omega⟩
   have hd : d < n := by omega
   clear hd0 hd1
   obtain ⟨xa, xc, exs⟩ := ints_cells0 hAW
   simp at exs
   obtain ⟨rfl, rfl⟩ := exs
   clear h hG hAW hx hn HX HN HG
   have HE := kept (show instM s ⟨0, (d : Nat), (Value.slice sa 0 sc, []), num⟩ = s.setI (d : Nat) num by simp [instM, rawM, wrapI_eq])
   rw [show kword 0 = ⟨#[99, 111, 110, 115, 116]⟩ from rfl]
   obtain ⟨l0, l1, l2, l3⟩ := BX.out.c4
   simp at l0 l1 l2 l3
   have CC := kept (fun w => show Calls Tryz.prog 12 #[.int .i64 0] w fun e w' => e = .returned (.int .i64 0) ∧ w = w' from refcheck_any 0 w (by decide))
   have kd : Keeps X1 (World.drew X1) [] := (Keeps.refl X1 []).drew
   have HD := kept (HW.out.keep kd)
   clear kd
   have c3d := HD.out.c3
   have e0d := HD.out.bi.2.1.frozen d
   have e1d := HD.out.int_at hd
   have c3 := HW.out.c3
   have e0 := HW.out.bi.2.1.frozen d
   have e1 := HW.out.int_at hd
   have l3d := (BX.out.keep ((Keeps.refl X1 []).drew) (by simp)).cell 3
   simp at l3d
   go_wp2_with (first | (go_at_call 12; refine (CC.out _).mono ?_; rintro e w3 ⟨rfl, rfl⟩))
   clear CC
   go_region
   go_wp2
   first | refine e48n rfl ⟨rfl, R, ?_⟩ | refine e48r rfl ⟨rfl, R, ?_⟩
   show WAt _ _ _ _ _ _ (instM s ⟨0, (d : Nat), (Value.slice sa 0 sc, []), num⟩)
   rw [HE.out]
   first | exact HD.out.setI d num | exact (HD.out.setI d num).keep ((Keeps.refl _ []).drew) | exact HW.out.setI d num | exact (HW.out.setI d num).keep ((Keeps.refl _ []).drew)
 ·as_aux_lemma =>
   try clear hHeld
   have hx := HX.out
   have hn := HN.out
   have hG := HG.out
   have h := HW.out
   have hAW : IntsAt X1 (.slice sa l.length sc, l) := Row.keep hAB.out HW.out.k
   obtain ⟨hl, hd0, hd1, _⟩ : _ = 1 ∧ 0 ≤ dst ∧ dst < (n : Int) ∧ _ := hx.copy rfl
   have harg := hx.arg
   simp only at harg hl
   obtain ⟨a0, rfl⟩ : ∃ a, l = [a] := List.length_eq_one_iff.1 hl
   have ha0 := harg a0 (by simp)
   clear harg hl
   obtain ⟨p0, rfl⟩ : ∃ p : Nat, a0 = p := ⟨a0.toNat, by omega⟩
   have h0 : p0 < n := by omega
   clear ha0
   obtain ⟨d, rfl⟩ : ∃ d : Nat, dst = d := ⟨dst.toNat, by omega⟩
   have hd : d < n := by omega
   clear hd0 hd1
   obtain ⟨xb, xo, xc, exs, y0⟩ := ints_cells1 hAW
   simp at exs
   obtain ⟨rfl, rfl⟩ := exs
   have Y0 := kept y0
   clear y0
   have HI0 := kept (hG.I (p0 : Nat))
   clear h hG hAW hx hn HX HN HG
   have HE := kept (show instM s ⟨1, (d : Nat), (Value.slice (some ⟨xb, xo, none⟩) 1 sc, [(p0 : Nat)]), num⟩ = ((s.setI (d : Nat) (s.I (p0 : Nat))).setB (d : Nat) (s.B (p0 : Nat))).setA (d : Nat) (s.A (p0 : Nat)) by simp [instM, rawM, wrapI_eq])
   rw [show kword 1 = ⟨#[99, 111, 112, 121]⟩ from rfl]
   obtain ⟨l0, l1, l2, l3⟩ := BX.out.c4
   simp at l0 l1 l2 l3
   have y0 := Y0.out
   have CC := kept (fun w => show Calls Tryz.prog 12 #[.int .i64 1] w fun e w' => e = .returned (.int .i64 0) ∧ w = w' from refcheck_any 1 w (by decide))
   have i0 := HW.out.int_at h0
   have b0 := HW.out.bool_at h0
   have a0 := HW.out.arr_at h0
   have c3 := HW.out.c3
   have c4 := HW.out.c4
   have c5 := HW.out.c5
   generalize hI0 : s.I (p0 : Nat) = I0 at *
   generalize hB0 : s.B (p0 : Nat) = B0 at *
   generalize hA0 : s.A (p0 : Nat) = A0 at *
   go_wp2_with (first | (go_at_call 12; refine (CC.out _).mono ?_; rintro e w3 ⟨rfl, rfl⟩))
   clear CC
   go_quiet (fail)
   generalize hYq : X1.drewN _ = Y at *
   have KY := kept (show Keeps X1 Y [] by rw [← hYq]; exact (Keeps.refl X1 []).drewN _)
   clear l0 l1 l2 l3 c3 c4 c5 y0 i0 b0 a0 hYq
   have kz := KY.out
   have HWx := kept (HW.out.keep kz)
   have BXx := kept (BX.out.keep kz (by simp))
   have Yx0 := kept (kz.cellOf Y0.out)
   clear HW BX kz Y0
   have HW := HWx
   have BX := BXx
   have Y0 := Yx0
   clear HWx BXx Yx0
   clear KY
   have n1 : ¬ R.gi = R.gb := blk_ne HW.out.bi.2.1 HW.out.bb.2.1 (by decide)
   have n2 : ¬ R.gb = R.gi := fun e => n1 e.symm
   have n3 : ¬ R.gi = R.ga := blk_ne HW.out.bi.2.1 HW.out.ba.2.1 (by decide)
   have n4 : ¬ R.ga = R.gi := fun e => n3 e.symm
   have n5 : ¬ R.gb = R.ga := blk_ne HW.out.bb.2.1 HW.out.ba.2.1 (by decide)
   have n6 : ¬ R.ga = R.gb := fun e => n5 e.symm
   have kd : Keeps Y (World.drew Y) [] := (Keeps.refl Y []).drew
   have HD := kept (HW.out.keep kd)
   have BD := kept (BX.out.keep kd (by simp))
   obtain ⟨l0d, l1d, l2d, l3d⟩ := BD.out.c4
   obtain ⟨l0, l1, l2, l3⟩ := BX.out.c4
   simp at l0 l1 l2 l3 l0d l1d l2d l3d
   clear kd
   have c3d := HD.out.c3
   have e0d := HD.out.bi.2.1.frozen d
   have e1d := HD.out.int_at hd
   have c4d := HD.out.c4
   have e2d := HD.out.bb.2.1.frozen d
   have e3d := HD.out.bool_at hd
   have c5d := HD.out.c5
   have e4d := HD.out.ba.2.1.frozen d
   have e5d := HD.out.arr_at hd
   have c3 := HW.out.c3
   have e0 := HW.out.bi.2.1.frozen d
   have e1 := HW.out.int_at hd
   have c4 := HW.out.c4
   have e2 := HW.out.bb.2.1.frozen d
   have e3 := HW.out.bool_at hd
   have c5 := HW.out.c5
   have e4 := HW.out.ba.2.1.frozen d
   have e5 := HW.out.arr_at hd
   go_wp2
   go_region
   go_wp2
   first | refine e48n rfl ⟨rfl, R, ?_⟩ | refine e48r rfl ⟨rfl, R, ?_⟩
   show WAt _ _ _ _ _ _ (instM s ⟨1, (d : Nat), (Value.slice (some ⟨xb, xo, none⟩) 1 sc, [(p0 : Nat)]), num⟩)
   rw [HE.out]
   first | exact ((HD.out.setI d I0).setB d B0).setA d A0 | exact (((HD.out.setI d I0).setB d B0).setA d A0).keep ((Keeps.refl _ []).drew) | exact ((HW.out.setI d I0).setB d B0).setA d A0 | exact (((HW.out.setI d I0).setB d B0).setA d A0).keep ((Keeps.refl _ []).drew)
 ·as_aux_lemma =>
   try clear hHeld
   have hx := HX.out
   have hn := HN.out
   have hG := HG.out
   have h := HW.out
   have hAW : IntsAt X1 (.slice sa l.length sc, l) := Row.keep hAB.out HW.out.k
   have hl : l.length = _ := hx.len (by simp)
   have hdx := hx.dst (by simp)
   have harg := hx.arg
   simp only at harg hl
   obtain ⟨a0, a1, rfl⟩ := list2 hl
   have ha0 := harg a0 (by simp)
   have ha1 := harg a1 (by simp)
   clear harg hl
   obtain ⟨p0, rfl⟩ : ∃ p : Nat, a0 = p := ⟨a0.toNat, by omega⟩
   have h0 : p0 < n := by omega
   clear ha0
   obtain ⟨p1, rfl⟩ : ∃ p : Nat, a1 = p := ⟨a1.toNat, by omega⟩
   have h1 : p1 < n := by omega
   clear ha1
   obtain ⟨hd0, hd1, _⟩ : 0 ≤ dst ∧ dst < (n : Int) ∧ _ := hdx
   obtain ⟨d, rfl⟩ : ∃ d : Nat, dst = d := ⟨dst.toNat, by omega⟩
   have hd : d < n := by omega
   clear hd0 hd1
   obtain ⟨xb, xo, xc, exs, y0, y1⟩ := ints_cells2 hAW
   simp at exs
   obtain ⟨rfl, rfl⟩ := exs
   have Y0 := kept y0
   have Y1 := kept y1
   clear y0 y1
   have HI0 := kept (hG.I (p0 : Nat))
   have HI1 := kept (hG.I (p1 : Nat))
   clear h hG hAW hx hn HX HN HG
   have HE := kept (show instM s ⟨2, (d : Nat), (Value.slice (some ⟨xb, xo, none⟩) 2 sc, [(p0 : Nat), (p1 : Nat)]), num⟩ = s.setI (d : Nat) (wrap64 (s.I (p0 : Nat) + s.I (p1 : Nat))) by simp [instM, rawM, wrapI_eq])
   rw [show kword 2 = ⟨#[97, 100, 100]⟩ from rfl]
   obtain ⟨l0, l1, l2, l3⟩ := BX.out.c4
   simp at l0 l1 l2 l3
   have y0 := Y0.out
   have y1 := Y1.out
   have CC := kept (fun w => show Calls Tryz.prog 12 #[.int .i64 2] w fun e w' => e = .returned (.int .i64 0) ∧ w = w' from refcheck_any 2 w (by decide))
   have i0 := HW.out.int_at h0
   have b0 := HW.out.bool_at h0
   have a0 := HW.out.arr_at h0
   have i1 := HW.out.int_at h1
   have b1 := HW.out.bool_at h1
   have c3 := HW.out.c3
   have c4 := HW.out.c4
   have c5 := HW.out.c5
   generalize hI0 : s.I (p0 : Nat) = I0 at *
   generalize hB0 : s.B (p0 : Nat) = B0 at *
   generalize hI1 : s.I (p1 : Nat) = I1 at *
   generalize hB1 : s.B (p1 : Nat) = B1 at *
   generalize hA0 : s.A (p0 : Nat) = A0 at *
   go_wp2_with (first | (go_at_call 12; refine (CC.out _).mono ?_; rintro e w3 ⟨rfl, rfl⟩))
   clear CC
   go_quiet (fail)
   generalize hYq : X1.drewN _ = X2 at *
   have KY := kept (show Keeps X1 X2 [] by rw [← hYq]; exact (Keeps.refl X1 []).drewN _)
   clear l0 l1 l2 l3 c3 c4 c5 y0 i0 b0 y1 i1 b1 a0 hYq
   have kz := KY.out
   have HWx := kept (HW.out.keep kz)
   have BXx := kept (BX.out.keep kz (by simp))
   have Yx0 := kept (kz.cellOf Y0.out)
   have Yx1 := kept (kz.cellOf Y1.out)
   clear HW BX kz Y0 Y1
   have HW := HWx
   have BX := BXx
   have Y0 := Yx0
   have Y1 := Yx1
   clear HWx BXx Yx0 Yx1
   clear KY
   have c3 := HW.out.c3
   have c4 := HW.out.c4
   have i1 := HW.out.int_at h1
   have b1 := HW.out.bool_at h1
   have y1 := Y1.out
   rw [hI1] at i1
   rw [hB1] at b1
   go_wp2
   go_quiet (fail)
   generalize hYq : X2.drewN _ = Y at *
   have KY := kept (show Keeps X2 Y [] by rw [← hYq]; exact (Keeps.refl X2 []).drewN _)
   clear c3 c4 i1 b1 y1 hYq
   have kz := KY.out
   have HWx := kept (HW.out.keep kz)
   have BXx := kept (BX.out.keep kz (by simp))
   have Yx0 := kept (kz.cellOf Y0.out)
   have Yx1 := kept (kz.cellOf Y1.out)
   clear HW BX kz Y0 Y1
   have HW := HWx
   have BX := BXx
   have Y0 := Yx0
   have Y1 := Yx1
   clear HWx BXx Yx0 Yx1
   clear KY
   have kd : Keeps Y (World.drew Y) [] := (Keeps.refl Y []).drew
   have HD := kept (HW.out.keep kd)
   have BD := kept (BX.out.keep kd (by simp))
   obtain ⟨l0, l1, l2, l3⟩ := BX.out.c4
   simp at l0 l1 l2 l3
   go_wp2
   clear kd HW BX l0 l1 l2 l3
   have c3d := HD.out.c3
   have l0d : (World.drew Y).cell? ⟨xg, 0, none⟩ = some (.int .i64 2) := BD.out.cell 0
   refine wp_region_held_drew (S := fun w' => w'.cell? ⟨g, 3, none⟩ = some (.slice (some ⟨R.gi, 0, none⟩) n n) ∧ w'.cell? ⟨xg, 0, none⟩ = some (.int .i64 2)) (by kernel_rfl) ⟨c3d, l0d⟩ (fun hHeld => ?_)
   clear c3d l0d
   generalize World.drew Y = Z at *
   refine tp 0 146 rfl hHeld ?_
   refine tp 1 147 rfl hHeld ?_
   refine tp 2 148 rfl hHeld ?_
   refine tp 3 149 rfl hHeld ?_
   refine tp 4 150 rfl hHeld ?_
   refine tp 5 151 rfl hHeld ?_
   refine tp 6 152 rfl hHeld ?_
   refine tp 7 153 rfl hHeld ?_
   refine tp 8 154 rfl hHeld ?_
   refine tp 9 155 rfl hHeld ?_
   refine t1 10 fun K hK => ?_
   go_simp
   rw [show IntKind.i64.wrap 0 = 0 from rfl]
   (with_reducible refine (refwrap_0 I0 I1 _).mono ?_)
   rintro e wx ⟨rfl, rfl⟩
   show K _ _
   refine hK.out _ _ hHeld (fun hHeld => ?_)
   clear hK K
   try simp only [Act.put, sA, sB, sC]
   refine tp 11 157 rfl hHeld ?_
   refine t1 12 fun K hK => ?_
   clear hHeld
   have e0d := HD.out.bi.2.1.frozen d
   have e1d := HD.out.int_at hd
   go_simp
   clear e0d e1d
   refine hK.out _ _ ⟨(HD.out.setI d _).c3, (BD.out.keep ((Keeps.refl _ [R.gi]).setCell (.inl (by simp)) _) (by simp; exact blk_ne BD.out HD.out.bi.2.1 (by decide))).cell 0⟩ (fun hHeld => ?_)
   clear hK K
   try simp only [Act.put, sA, sB, sC]
   refine wpAnyH_done (by kernel_rfl) ?_ _
   clear hHeld
   all_goals go_wp2
   all_goals
    first | refine e48n rfl ⟨rfl, R, ?_⟩ | refine e48r rfl ⟨rfl, R, ?_⟩
    show WAt _ _ _ _ _ _ (instM s ⟨2, (d : Nat), (Value.slice (some ⟨xb, xo, none⟩) 2 sc, [(p0 : Nat), (p1 : Nat)]), num⟩)
    rw [HE.out]
    first | exact HD.out.setI d _ | exact (HD.out.setI d _).keep ((Keeps.refl _ []).drew) | exact HW.out.setI d _ | exact (HW.out.setI d _).keep ((Keeps.refl _ []).drew)
 ·as_aux_lemma =>
   try clear hHeld
   have hx := HX.out
   have hn := HN.out
   have hG := HG.out
   have h := HW.out
   have hAW : IntsAt X1 (.slice sa l.length sc, l) := Row.keep hAB.out HW.out.k
   have hl : l.length = _ := hx.len (by simp)
   have hdx := hx.dst (by simp)
   have harg := hx.arg
   simp only at harg hl
   obtain ⟨a0, a1, rfl⟩ := list2 hl
   have ha0 := harg a0 (by simp)
   have ha1 := harg a1 (by simp)
   clear harg hl
   obtain ⟨p0, rfl⟩ : ∃ p : Nat, a0 = p := ⟨a0.toNat, by omega⟩
   have h0 : p0 < n := by omega
   clear ha0
   obtain ⟨p1, rfl⟩ : ∃ p : Nat, a1 = p := ⟨a1.toNat, by omega⟩
   have h1 : p1 < n := by omega
   clear ha1
   obtain ⟨hd0, hd1, _⟩ : 0 ≤ dst ∧ dst < (n : Int) ∧ _ := hdx
   obtain ⟨d, rfl⟩ : ∃ d : Nat, dst = d := ⟨dst.toNat, by omega⟩
   have hd : d < n := by omega
   clear hd0 hd1
   obtain ⟨xb, xo, xc, exs, y0, y1⟩ := ints_cells2 hAW
   simp at exs
   obtain ⟨rfl, rfl⟩ := exs
   have Y0 := kept y0
   have Y1 := kept y1
   clear y0 y1
   have HI0 := kept (hG.I (p0 : Nat))
   have HI1 := kept (hG.I (p1 : Nat))
   clear h hG hAW hx hn HX HN HG
   have HE := kept (show instM s ⟨3, (d : Nat), (Value.slice (some ⟨xb, xo, none⟩) 2 sc, [(p0 : Nat), (p1 : Nat)]), num⟩ = s.setI (d : Nat) (wrap64 (s.I (p0 : Nat) - s.I (p1 : Nat))) by simp [instM, rawM, wrapI_eq])
   rw [show kword 3 = ⟨#[115, 117, 98]⟩ from rfl]
   obtain ⟨l0, l1, l2, l3⟩ := BX.out.c4
   simp at l0 l1 l2 l3
   have y0 := Y0.out
   have y1 := Y1.out
   have CC := kept (fun w => show Calls Tryz.prog 12 #[.int .i64 3] w fun e w' => e = .returned (.int .i64 0) ∧ w = w' from refcheck_any 3 w (by decide))
   have i0 := HW.out.int_at h0
   have b0 := HW.out.bool_at h0
   have a0 := HW.out.arr_at h0
   have i1 := HW.out.int_at h1
   have b1 := HW.out.bool_at h1
   have c3 := HW.out.c3
   have c4 := HW.out.c4
   have c5 := HW.out.c5
   generalize hI0 : s.I (p0 : Nat) = I0 at *
   generalize hB0 : s.B (p0 : Nat) = B0 at *
   generalize hI1 : s.I (p1 : Nat) = I1 at *
   generalize hB1 : s.B (p1 : Nat) = B1 at *
   generalize hA0 : s.A (p0 : Nat) = A0 at *
   go_wp2_with (first | (go_at_call 12; refine (CC.out _).mono ?_; rintro e w3 ⟨rfl, rfl⟩))
   clear CC
   go_quiet (fail)
   generalize hYq : X1.drewN _ = X2 at *
   have KY := kept (show Keeps X1 X2 [] by rw [← hYq]; exact (Keeps.refl X1 []).drewN _)
   clear l0 l1 l2 l3 c3 c4 c5 y0 i0 b0 y1 i1 b1 a0 hYq
   have kz := KY.out
   have HWx := kept (HW.out.keep kz)
   have BXx := kept (BX.out.keep kz (by simp))
   have Yx0 := kept (kz.cellOf Y0.out)
   have Yx1 := kept (kz.cellOf Y1.out)
   clear HW BX kz Y0 Y1
   have HW := HWx
   have BX := BXx
   have Y0 := Yx0
   have Y1 := Yx1
   clear HWx BXx Yx0 Yx1
   clear KY
   have c3 := HW.out.c3
   have c4 := HW.out.c4
   have i1 := HW.out.int_at h1
   have b1 := HW.out.bool_at h1
   have y1 := Y1.out
   rw [hI1] at i1
   rw [hB1] at b1
   go_wp2
   go_quiet (fail)
   generalize hYq : X2.drewN _ = Y at *
   have KY := kept (show Keeps X2 Y [] by rw [← hYq]; exact (Keeps.refl X2 []).drewN _)
   clear c3 c4 i1 b1 y1 hYq
   have kz := KY.out
   have HWx := kept (HW.out.keep kz)
   have BXx := kept (BX.out.keep kz (by simp))
   have Yx0 := kept (kz.cellOf Y0.out)
   have Yx1 := kept (kz.cellOf Y1.out)
   clear HW BX kz Y0 Y1
   have HW := HWx
   have BX := BXx
   have Y0 := Yx0
   have Y1 := Yx1
   clear HWx BXx Yx0 Yx1
   clear KY
   have kd : Keeps Y (World.drew Y) [] := (Keeps.refl Y []).drew
   have HD := kept (HW.out.keep kd)
   have BD := kept (BX.out.keep kd (by simp))
   obtain ⟨l0, l1, l2, l3⟩ := BX.out.c4
   simp at l0 l1 l2 l3
   go_wp2
   clear kd HW BX l0 l1 l2 l3
   have c3d := HD.out.c3
   have l0d : (World.drew Y).cell? ⟨xg, 0, none⟩ = some (.int .i64 3) := BD.out.cell 0
   refine wp_region_held_drew (S := fun w' => w'.cell? ⟨g, 3, none⟩ = some (.slice (some ⟨R.gi, 0, none⟩) n n) ∧ w'.cell? ⟨xg, 0, none⟩ = some (.int .i64 3)) (by kernel_rfl) ⟨c3d, l0d⟩ (fun hHeld => ?_)
   clear c3d l0d
   generalize World.drew Y = Z at *
   refine tp 0 146 rfl hHeld ?_
   refine tp 1 147 rfl hHeld ?_
   refine tp 2 148 rfl hHeld ?_
   refine tp 3 149 rfl hHeld ?_
   refine tp 4 150 rfl hHeld ?_
   refine tp 5 151 rfl hHeld ?_
   refine tp 6 152 rfl hHeld ?_
   refine tp 7 153 rfl hHeld ?_
   refine tp 8 154 rfl hHeld ?_
   refine tp 9 155 rfl hHeld ?_
   refine t1 10 fun K hK => ?_
   go_simp
   rw [show IntKind.i64.wrap 1 = 1 from rfl]
   (with_reducible refine (refwrap_1 I0 I1 _).mono ?_)
   rintro e wx ⟨rfl, rfl⟩
   show K _ _
   refine hK.out _ _ hHeld (fun hHeld => ?_)
   clear hK K
   try simp only [Act.put, sA, sB, sC]
   refine tp 11 157 rfl hHeld ?_
   refine t1 12 fun K hK => ?_
   clear hHeld
   have e0d := HD.out.bi.2.1.frozen d
   have e1d := HD.out.int_at hd
   go_simp
   clear e0d e1d
   refine hK.out _ _ ⟨(HD.out.setI d _).c3, (BD.out.keep ((Keeps.refl _ [R.gi]).setCell (.inl (by simp)) _) (by simp; exact blk_ne BD.out HD.out.bi.2.1 (by decide))).cell 0⟩ (fun hHeld => ?_)
   clear hK K
   try simp only [Act.put, sA, sB, sC]
   refine wpAnyH_done (by kernel_rfl) ?_ _
   clear hHeld
   all_goals go_wp2
   all_goals
    first | refine e48n rfl ⟨rfl, R, ?_⟩ | refine e48r rfl ⟨rfl, R, ?_⟩
    show WAt _ _ _ _ _ _ (instM s ⟨3, (d : Nat), (Value.slice (some ⟨xb, xo, none⟩) 2 sc, [(p0 : Nat), (p1 : Nat)]), num⟩)
    rw [HE.out]
    first | exact HD.out.setI d _ | exact (HD.out.setI d _).keep ((Keeps.refl _ []).drew) | exact HW.out.setI d _ | exact (HW.out.setI d _).keep ((Keeps.refl _ []).drew)
 ·as_aux_lemma =>
   try clear hHeld
   have hx := HX.out
   have hn := HN.out
   have hG := HG.out
   have h := HW.out
   have hAW : IntsAt X1 (.slice sa l.length sc, l) := Row.keep hAB.out HW.out.k
   have hl : l.length = _ := hx.len (by simp)
   have hdx := hx.dst (by simp)
   have harg := hx.arg
   simp only at harg hl
   obtain ⟨a0, a1, rfl⟩ := list2 hl
   have ha0 := harg a0 (by simp)
   have ha1 := harg a1 (by simp)
   clear harg hl
   obtain ⟨p0, rfl⟩ : ∃ p : Nat, a0 = p := ⟨a0.toNat, by omega⟩
   have h0 : p0 < n := by omega
   clear ha0
   obtain ⟨p1, rfl⟩ : ∃ p : Nat, a1 = p := ⟨a1.toNat, by omega⟩
   have h1 : p1 < n := by omega
   clear ha1
   obtain ⟨hd0, hd1, _⟩ : 0 ≤ dst ∧ dst < (n : Int) ∧ _ := hdx
   obtain ⟨d, rfl⟩ : ∃ d : Nat, dst = d := ⟨dst.toNat, by omega⟩
   have hd : d < n := by omega
   clear hd0 hd1
   obtain ⟨xb, xo, xc, exs, y0, y1⟩ := ints_cells2 hAW
   simp at exs
   obtain ⟨rfl, rfl⟩ := exs
   have Y0 := kept y0
   have Y1 := kept y1
   clear y0 y1
   have HI0 := kept (hG.I (p0 : Nat))
   have HI1 := kept (hG.I (p1 : Nat))
   clear h hG hAW hx hn HX HN HG
   have HE := kept (show instM s ⟨4, (d : Nat), (Value.slice (some ⟨xb, xo, none⟩) 2 sc, [(p0 : Nat), (p1 : Nat)]), num⟩ = s.setI (d : Nat) (wrap64 (s.I (p0 : Nat) * s.I (p1 : Nat))) by simp [instM, rawM, wrapI_eq])
   rw [show kword 4 = ⟨#[109, 117, 108]⟩ from rfl]
   obtain ⟨l0, l1, l2, l3⟩ := BX.out.c4
   simp at l0 l1 l2 l3
   have y0 := Y0.out
   have y1 := Y1.out
   have CC := kept (fun w => show Calls Tryz.prog 12 #[.int .i64 4] w fun e w' => e = .returned (.int .i64 0) ∧ w = w' from refcheck_any 4 w (by decide))
   have i0 := HW.out.int_at h0
   have b0 := HW.out.bool_at h0
   have a0 := HW.out.arr_at h0
   have i1 := HW.out.int_at h1
   have b1 := HW.out.bool_at h1
   have c3 := HW.out.c3
   have c4 := HW.out.c4
   have c5 := HW.out.c5
   generalize hI0 : s.I (p0 : Nat) = I0 at *
   generalize hB0 : s.B (p0 : Nat) = B0 at *
   generalize hI1 : s.I (p1 : Nat) = I1 at *
   generalize hB1 : s.B (p1 : Nat) = B1 at *
   generalize hA0 : s.A (p0 : Nat) = A0 at *
   go_wp2_with (first | (go_at_call 12; refine (CC.out _).mono ?_; rintro e w3 ⟨rfl, rfl⟩))
   clear CC
   go_quiet (fail)
   generalize hYq : X1.drewN _ = X2 at *
   have KY := kept (show Keeps X1 X2 [] by rw [← hYq]; exact (Keeps.refl X1 []).drewN _)
   clear l0 l1 l2 l3 c3 c4 c5 y0 i0 b0 y1 i1 b1 a0 hYq
   have kz := KY.out
   have HWx := kept (HW.out.keep kz)
   have BXx := kept (BX.out.keep kz (by simp))
   have Yx0 := kept (kz.cellOf Y0.out)
   have Yx1 := kept (kz.cellOf Y1.out)
   clear HW BX kz Y0 Y1
   have HW := HWx
   have BX := BXx
   have Y0 := Yx0
   have Y1 := Yx1
   clear HWx BXx Yx0 Yx1
   clear KY
   have c3 := HW.out.c3
   have c4 := HW.out.c4
   have i1 := HW.out.int_at h1
   have b1 := HW.out.bool_at h1
   have y1 := Y1.out
   rw [hI1] at i1
   rw [hB1] at b1
   go_wp2
   go_quiet (fail)
   generalize hYq : X2.drewN _ = Y at *
   have KY := kept (show Keeps X2 Y [] by rw [← hYq]; exact (Keeps.refl X2 []).drewN _)
   clear c3 c4 i1 b1 y1 hYq
   have kz := KY.out
   have HWx := kept (HW.out.keep kz)
   have BXx := kept (BX.out.keep kz (by simp))
   have Yx0 := kept (kz.cellOf Y0.out)
   have Yx1 := kept (kz.cellOf Y1.out)
   clear HW BX kz Y0 Y1
   have HW := HWx
   have BX := BXx
   have Y0 := Yx0
   have Y1 := Yx1
   clear HWx BXx Yx0 Yx1
   clear KY
   have kd : Keeps Y (World.drew Y) [] := (Keeps.refl Y []).drew
   have HD := kept (HW.out.keep kd)
   have BD := kept (BX.out.keep kd (by simp))
   obtain ⟨l0, l1, l2, l3⟩ := BX.out.c4
   simp at l0 l1 l2 l3
   go_wp2
   clear kd HW BX l0 l1 l2 l3
   have c3d := HD.out.c3
   have l0d : (World.drew Y).cell? ⟨xg, 0, none⟩ = some (.int .i64 4) := BD.out.cell 0
   refine wp_region_held_drew (S := fun w' => w'.cell? ⟨g, 3, none⟩ = some (.slice (some ⟨R.gi, 0, none⟩) n n) ∧ w'.cell? ⟨xg, 0, none⟩ = some (.int .i64 4)) (by kernel_rfl) ⟨c3d, l0d⟩ (fun hHeld => ?_)
   clear c3d l0d
   generalize World.drew Y = Z at *
   refine tp 0 146 rfl hHeld ?_
   refine tp 1 147 rfl hHeld ?_
   refine tp 2 148 rfl hHeld ?_
   refine tp 3 149 rfl hHeld ?_
   refine tp 4 150 rfl hHeld ?_
   refine tp 5 151 rfl hHeld ?_
   refine tp 6 152 rfl hHeld ?_
   refine tp 7 153 rfl hHeld ?_
   refine tp 8 154 rfl hHeld ?_
   refine tp 9 155 rfl hHeld ?_
   refine t1 10 fun K hK => ?_
   go_simp
   rw [show IntKind.i64.wrap 2 = 2 from rfl]
   (with_reducible refine (refwrap_2 I0 I1 _).mono ?_)
   rintro e wx ⟨rfl, rfl⟩
   show K _ _
   refine hK.out _ _ hHeld (fun hHeld => ?_)
   clear hK K
   try simp only [Act.put, sA, sB, sC]
   refine tp 11 157 rfl hHeld ?_
   refine t1 12 fun K hK => ?_
   clear hHeld
   have e0d := HD.out.bi.2.1.frozen d
   have e1d := HD.out.int_at hd
   go_simp
   clear e0d e1d
   refine hK.out _ _ ⟨(HD.out.setI d _).c3, (BD.out.keep ((Keeps.refl _ [R.gi]).setCell (.inl (by simp)) _) (by simp; exact blk_ne BD.out HD.out.bi.2.1 (by decide))).cell 0⟩ (fun hHeld => ?_)
   clear hK K
   try simp only [Act.put, sA, sB, sC]
   refine wpAnyH_done (by kernel_rfl) ?_ _
   clear hHeld
   all_goals go_wp2
   all_goals
    first | refine e48n rfl ⟨rfl, R, ?_⟩ | refine e48r rfl ⟨rfl, R, ?_⟩
    show WAt _ _ _ _ _ _ (instM s ⟨4, (d : Nat), (Value.slice (some ⟨xb, xo, none⟩) 2 sc, [(p0 : Nat), (p1 : Nat)]), num⟩)
    rw [HE.out]
    first | exact HD.out.setI d _ | exact (HD.out.setI d _).keep ((Keeps.refl _ []).drew) | exact HW.out.setI d _ | exact (HW.out.setI d _).keep ((Keeps.refl _ []).drew)
 ·as_aux_lemma =>
   try clear hHeld
   have hx := HX.out
   have hn := HN.out
   have hG := HG.out
   have h := HW.out
   have hAW : IntsAt X1 (.slice sa l.length sc, l) := Row.keep hAB.out HW.out.k
   have hl : l.length = _ := hx.len (by simp)
   have hdx := hx.dst (by simp)
   have harg := hx.arg
   simp only at harg hl
   obtain ⟨a0, a1, rfl⟩ := list2 hl
   have ha0 := harg a0 (by simp)
   have ha1 := harg a1 (by simp)
   clear harg hl
   obtain ⟨p0, rfl⟩ : ∃ p : Nat, a0 = p := ⟨a0.toNat, by omega⟩
   have h0 : p0 < n := by omega
   clear ha0
   obtain ⟨p1, rfl⟩ : ∃ p : Nat, a1 = p := ⟨a1.toNat, by omega⟩
   have h1 : p1 < n := by omega
   clear ha1
   obtain ⟨hd0, hd1, _⟩ : 0 ≤ dst ∧ dst < (n : Int) ∧ _ := hdx
   obtain ⟨d, rfl⟩ : ∃ d : Nat, dst = d := ⟨dst.toNat, by omega⟩
   have hd : d < n := by omega
   clear hd0 hd1
   obtain ⟨xb, xo, xc, exs, y0, y1⟩ := ints_cells2 hAW
   simp at exs
   obtain ⟨rfl, rfl⟩ := exs
   have Y0 := kept y0
   have Y1 := kept y1
   clear y0 y1
   have HI0 := kept (hG.I (p0 : Nat))
   have HI1 := kept (hG.I (p1 : Nat))
   clear h hG hAW hx hn HX HN HG
   have HE := kept (show instM s ⟨5, (d : Nat), (Value.slice (some ⟨xb, xo, none⟩) 2 sc, [(p0 : Nat), (p1 : Nat)]), num⟩ = if s.I (p1 : Nat) = 0 then s.fin 2 else s.setI (d : Nat) (wrap64 ((s.I (p0 : Nat)).tdiv (s.I (p1 : Nat)))) by simp [instM, rawM, wrapI_eq])
   rw [show kword 5 = ⟨#[100, 105, 118]⟩ from rfl]
   obtain ⟨l0, l1, l2, l3⟩ := BX.out.c4
   simp at l0 l1 l2 l3
   have y0 := Y0.out
   have y1 := Y1.out
   have CC := kept (fun w => show Calls Tryz.prog 12 #[.int .i64 5] w fun e w' => e = .returned (.int .i64 0) ∧ w = w' from refcheck_any 5 w (by decide))
   have i0 := HW.out.int_at h0
   have b0 := HW.out.bool_at h0
   have a0 := HW.out.arr_at h0
   have i1 := HW.out.int_at h1
   have b1 := HW.out.bool_at h1
   have c3 := HW.out.c3
   have c4 := HW.out.c4
   have c5 := HW.out.c5
   generalize hI0 : s.I (p0 : Nat) = I0 at *
   generalize hB0 : s.B (p0 : Nat) = B0 at *
   generalize hI1 : s.I (p1 : Nat) = I1 at *
   generalize hB1 : s.B (p1 : Nat) = B1 at *
   generalize hA0 : s.A (p0 : Nat) = A0 at *
   go_wp2_with (first | (go_at_call 12; refine (CC.out _).mono ?_; rintro e w3 ⟨rfl, rfl⟩))
   clear CC
   go_quiet (fail)
   generalize hYq : X1.drewN _ = X2 at *
   have KY := kept (show Keeps X1 X2 [] by rw [← hYq]; exact (Keeps.refl X1 []).drewN _)
   clear l0 l1 l2 l3 c3 c4 c5 y0 i0 b0 y1 i1 b1 a0 hYq
   have kz := KY.out
   have HWx := kept (HW.out.keep kz)
   have BXx := kept (BX.out.keep kz (by simp))
   have Yx0 := kept (kz.cellOf Y0.out)
   have Yx1 := kept (kz.cellOf Y1.out)
   clear HW BX kz Y0 Y1
   have HW := HWx
   have BX := BXx
   have Y0 := Yx0
   have Y1 := Yx1
   clear HWx BXx Yx0 Yx1
   clear KY
   have c3 := HW.out.c3
   have c4 := HW.out.c4
   have i1 := HW.out.int_at h1
   have b1 := HW.out.bool_at h1
   have y1 := Y1.out
   rw [hI1] at i1
   rw [hB1] at b1
   go_wp2
   go_quiet (fail)
   generalize hYq : X2.drewN _ = Y at *
   have KY := kept (show Keeps X2 Y [] by rw [← hYq]; exact (Keeps.refl X2 []).drewN _)
   clear c3 c4 i1 b1 y1 hYq
   have kz := KY.out
   have HWx := kept (HW.out.keep kz)
   have BXx := kept (BX.out.keep kz (by simp))
   have Yx0 := kept (kz.cellOf Y0.out)
   have Yx1 := kept (kz.cellOf Y1.out)
   clear HW BX kz Y0 Y1
   have HW := HWx
   have BX := BXx
   have Y0 := Yx0
   have Y1 := Yx1
   clear HWx BXx Yx0 Yx1
   clear KY
   have HD := kept HW.out
   obtain ⟨l0, l1, l2, l3⟩ := BX.out.c4
   simp at l0 l1 l2 l3
   have c3 := HD.out.c3
   have e0 := HD.out.bi.2.1.frozen d
   have e1 := HD.out.int_at hd
   by_cases hz : I1 = 0
   ·have HE2 := kept (HE.out.trans (if_pos hz))
    clear HE
    subst hz
    go_wp2_with (first | (go_at_call 49; refine (end84_any wB _ g R f n s (2) HD.out).mono ?_; rintro e w3 ⟨rfl, HF⟩))
    first | refine e48n rfl ⟨rfl, R, ?_⟩ | refine e48r rfl ⟨rfl, R, ?_⟩
    show WAt _ _ _ _ _ _ (instM s ⟨5, (d : Nat), (Value.slice (some ⟨xb, xo, none⟩) 2 sc, [(p0 : Nat), (p1 : Nat)]), num⟩)
    rw [HE2.out]
    exact HF
   have hzb : (I1 == 0) = false := by simpa using hz
   have HE2 := kept (HE.out.trans (if_neg hz))
   have HNZ := kept hz
   clear HE hz
   go_wp2_with (first | (go_at_call 81; go_must (refine (refdiv_keep I0 I1 _ HI0.out HNZ.out).mono ?_; rintro e w3 ⟨rfl, k3⟩; replace HD := kept (HD.out.keep k3); clear c3 e0 e1; have c3 := HD.out.c3; have e0 := HD.out.bi.2.1.frozen d; have e1 := HD.out.int_at hd)))
   first | refine e48n rfl ⟨rfl, R, ?_⟩ | refine e48r rfl ⟨rfl, R, ?_⟩
   show WAt _ _ _ _ _ _ (instM s ⟨5, (d : Nat), (Value.slice (some ⟨xb, xo, none⟩) 2 sc, [(p0 : Nat), (p1 : Nat)]), num⟩)
   rw [HE2.out]
   exact HD.out.setI d _
 ·as_aux_lemma =>
   try clear hHeld
   have hx := HX.out
   have hn := HN.out
   have hG := HG.out
   have h := HW.out
   have hAW : IntsAt X1 (.slice sa l.length sc, l) := Row.keep hAB.out HW.out.k
   have hl : l.length = _ := hx.len (by simp)
   have hdx := hx.dst (by simp)
   have harg := hx.arg
   simp only at harg hl
   obtain ⟨a0, a1, rfl⟩ := list2 hl
   have ha0 := harg a0 (by simp)
   have ha1 := harg a1 (by simp)
   clear harg hl
   obtain ⟨p0, rfl⟩ : ∃ p : Nat, a0 = p := ⟨a0.toNat, by omega⟩
   have h0 : p0 < n := by omega
   clear ha0
   obtain ⟨p1, rfl⟩ : ∃ p : Nat, a1 = p := ⟨a1.toNat, by omega⟩
   have h1 : p1 < n := by omega
   clear ha1
   obtain ⟨hd0, hd1, _⟩ : 0 ≤ dst ∧ dst < (n : Int) ∧ _ := hdx
   obtain ⟨d, rfl⟩ : ∃ d : Nat, dst = d := ⟨dst.toNat, by omega⟩
   have hd : d < n := by omega
   clear hd0 hd1
   obtain ⟨xb, xo, xc, exs, y0, y1⟩ := ints_cells2 hAW
   simp at exs
   obtain ⟨rfl, rfl⟩ := exs
   have Y0 := kept y0
   have Y1 := kept y1
   clear y0 y1
   have HI0 := kept (hG.I (p0 : Nat))
   have HI1 := kept (hG.I (p1 : Nat))
   clear h hG hAW hx hn HX HN HG
   have HE := kept (show instM s ⟨6, (d : Nat), (Value.slice (some ⟨xb, xo, none⟩) 2 sc, [(p0 : Nat), (p1 : Nat)]), num⟩ = if s.I (p1 : Nat) = 0 then s.fin 2 else s.setI (d : Nat) ((s.I (p0 : Nat)).tmod (s.I (p1 : Nat))) by simp [instM, rawM, wrapI_eq])
   rw [show kword 6 = ⟨#[114, 101, 109]⟩ from rfl]
   obtain ⟨l0, l1, l2, l3⟩ := BX.out.c4
   simp at l0 l1 l2 l3
   have y0 := Y0.out
   have y1 := Y1.out
   have CC := kept (fun w => show Calls Tryz.prog 12 #[.int .i64 6] w fun e w' => e = .returned (.int .i64 0) ∧ w = w' from refcheck_any 6 w (by decide))
   have i0 := HW.out.int_at h0
   have b0 := HW.out.bool_at h0
   have a0 := HW.out.arr_at h0
   have i1 := HW.out.int_at h1
   have b1 := HW.out.bool_at h1
   have c3 := HW.out.c3
   have c4 := HW.out.c4
   have c5 := HW.out.c5
   generalize hI0 : s.I (p0 : Nat) = I0 at *
   generalize hB0 : s.B (p0 : Nat) = B0 at *
   generalize hI1 : s.I (p1 : Nat) = I1 at *
   generalize hB1 : s.B (p1 : Nat) = B1 at *
   generalize hA0 : s.A (p0 : Nat) = A0 at *
   go_wp2_with (first | (go_at_call 12; refine (CC.out _).mono ?_; rintro e w3 ⟨rfl, rfl⟩))
   clear CC
   go_quiet (fail)
   generalize hYq : X1.drewN _ = X2 at *
   have KY := kept (show Keeps X1 X2 [] by rw [← hYq]; exact (Keeps.refl X1 []).drewN _)
   clear l0 l1 l2 l3 c3 c4 c5 y0 i0 b0 y1 i1 b1 a0 hYq
   have kz := KY.out
   have HWx := kept (HW.out.keep kz)
   have BXx := kept (BX.out.keep kz (by simp))
   have Yx0 := kept (kz.cellOf Y0.out)
   have Yx1 := kept (kz.cellOf Y1.out)
   clear HW BX kz Y0 Y1
   have HW := HWx
   have BX := BXx
   have Y0 := Yx0
   have Y1 := Yx1
   clear HWx BXx Yx0 Yx1
   clear KY
   have c3 := HW.out.c3
   have c4 := HW.out.c4
   have i1 := HW.out.int_at h1
   have b1 := HW.out.bool_at h1
   have y1 := Y1.out
   rw [hI1] at i1
   rw [hB1] at b1
   go_wp2
   go_quiet (fail)
   generalize hYq : X2.drewN _ = Y at *
   have KY := kept (show Keeps X2 Y [] by rw [← hYq]; exact (Keeps.refl X2 []).drewN _)
   clear c3 c4 i1 b1 y1 hYq
   have kz := KY.out
   have HWx := kept (HW.out.keep kz)
   have BXx := kept (BX.out.keep kz (by simp))
   have Yx0 := kept (kz.cellOf Y0.out)
   have Yx1 := kept (kz.cellOf Y1.out)
   clear HW BX kz Y0 Y1
   have HW := HWx
   have BX := BXx
   have Y0 := Yx0
   have Y1 := Yx1
   clear HWx BXx Yx0 Yx1
   clear KY
   have HD := kept HW.out
   obtain ⟨l0, l1, l2, l3⟩ := BX.out.c4
   simp at l0 l1 l2 l3
   have c3 := HD.out.c3
   have e0 := HD.out.bi.2.1.frozen d
   have e1 := HD.out.int_at hd
   by_cases hz : I1 = 0
   ·have HE2 := kept (HE.out.trans (if_pos hz))
    clear HE
    subst hz
    go_wp2_with (first | (go_at_call 49; refine (end84_any wB _ g R f n s (2) HD.out).mono ?_; rintro e w3 ⟨rfl, HF⟩))
    first | refine e48n rfl ⟨rfl, R, ?_⟩ | refine e48r rfl ⟨rfl, R, ?_⟩
    show WAt _ _ _ _ _ _ (instM s ⟨6, (d : Nat), (Value.slice (some ⟨xb, xo, none⟩) 2 sc, [(p0 : Nat), (p1 : Nat)]), num⟩)
    rw [HE2.out]
    exact HF
   have hzb : (I1 == 0) = false := by simpa using hz
   have HE2 := kept (HE.out.trans (if_neg hz))
   have HNZ := kept hz
   clear HE hz
   go_wp2_with (first | (go_at_call 81; go_must (refine (refdiv_keep I0 I1 _ HI0.out HNZ.out).mono ?_; rintro e w3 ⟨rfl, k3⟩; replace HD := kept (HD.out.keep k3); clear c3 e0 e1; have c3 := HD.out.c3; have e0 := HD.out.bi.2.1.frozen d; have e1 := HD.out.int_at hd)))
   first | refine e48n rfl ⟨rfl, R, ?_⟩ | refine e48r rfl ⟨rfl, R, ?_⟩
   show WAt _ _ _ _ _ _ (instM s ⟨6, (d : Nat), (Value.slice (some ⟨xb, xo, none⟩) 2 sc, [(p0 : Nat), (p1 : Nat)]), num⟩)
   rw [HE2.out]
   exact HD.out.setI d _
 ·as_aux_lemma =>
   try clear hHeld
   have hx := HX.out
   have hn := HN.out
   have hG := HG.out
   have h := HW.out
   have hAW : IntsAt X1 (.slice sa l.length sc, l) := Row.keep hAB.out HW.out.k
   have hl : l.length = _ := hx.len (by simp)
   have hdx := hx.dst (by simp)
   have harg := hx.arg
   simp only at harg hl
   obtain ⟨a0, a1, rfl⟩ := list2 hl
   have ha0 := harg a0 (by simp)
   have ha1 := harg a1 (by simp)
   clear harg hl
   obtain ⟨p0, rfl⟩ : ∃ p : Nat, a0 = p := ⟨a0.toNat, by omega⟩
   have h0 : p0 < n := by omega
   clear ha0
   obtain ⟨p1, rfl⟩ : ∃ p : Nat, a1 = p := ⟨a1.toNat, by omega⟩
   have h1 : p1 < n := by omega
   clear ha1
   obtain ⟨hd0, hd1, _⟩ : 0 ≤ dst ∧ dst < (n : Int) ∧ _ := hdx
   obtain ⟨d, rfl⟩ : ∃ d : Nat, dst = d := ⟨dst.toNat, by omega⟩
   have hd : d < n := by omega
   clear hd0 hd1
   obtain ⟨xb, xo, xc, exs, y0, y1⟩ := ints_cells2 hAW
   simp at exs
   obtain ⟨rfl, rfl⟩ := exs
   have Y0 := kept y0
   have Y1 := kept y1
   clear y0 y1
   have HI0 := kept (hG.I (p0 : Nat))
   have HI1 := kept (hG.I (p1 : Nat))
   clear h hG hAW hx hn HX HN HG
   have HE := kept (show instM s ⟨7, (d : Nat), (Value.slice (some ⟨xb, xo, none⟩) 2 sc, [(p0 : Nat), (p1 : Nat)]), num⟩ = s.setB (d : Nat) (s.I (p0 : Nat) == s.I (p1 : Nat)) by simp [instM, rawM, wrapI_eq])
   rw [show kword 7 = ⟨#[101, 113]⟩ from rfl]
   obtain ⟨l0, l1, l2, l3⟩ := BX.out.c4
   simp at l0 l1 l2 l3
   have y0 := Y0.out
   have y1 := Y1.out
   have CC := kept (fun w => show Calls Tryz.prog 12 #[.int .i64 7] w fun e w' => e = .returned (.int .i64 0) ∧ w = w' from refcheck_any 7 w (by decide))
   have i0 := HW.out.int_at h0
   have b0 := HW.out.bool_at h0
   have a0 := HW.out.arr_at h0
   have i1 := HW.out.int_at h1
   have b1 := HW.out.bool_at h1
   have c3 := HW.out.c3
   have c4 := HW.out.c4
   have c5 := HW.out.c5
   generalize hI0 : s.I (p0 : Nat) = I0 at *
   generalize hB0 : s.B (p0 : Nat) = B0 at *
   generalize hI1 : s.I (p1 : Nat) = I1 at *
   generalize hB1 : s.B (p1 : Nat) = B1 at *
   generalize hA0 : s.A (p0 : Nat) = A0 at *
   go_wp2_with (first | (go_at_call 12; refine (CC.out _).mono ?_; rintro e w3 ⟨rfl, rfl⟩))
   clear CC
   go_quiet (fail)
   generalize hYq : X1.drewN _ = X2 at *
   have KY := kept (show Keeps X1 X2 [] by rw [← hYq]; exact (Keeps.refl X1 []).drewN _)
   clear l0 l1 l2 l3 c3 c4 c5 y0 i0 b0 y1 i1 b1 a0 hYq
   have kz := KY.out
   have HWx := kept (HW.out.keep kz)
   have BXx := kept (BX.out.keep kz (by simp))
   have Yx0 := kept (kz.cellOf Y0.out)
   have Yx1 := kept (kz.cellOf Y1.out)
   clear HW BX kz Y0 Y1
   have HW := HWx
   have BX := BXx
   have Y0 := Yx0
   have Y1 := Yx1
   clear HWx BXx Yx0 Yx1
   clear KY
   have c3 := HW.out.c3
   have c4 := HW.out.c4
   have i1 := HW.out.int_at h1
   have b1 := HW.out.bool_at h1
   have y1 := Y1.out
   rw [hI1] at i1
   rw [hB1] at b1
   go_wp2
   go_quiet (fail)
   generalize hYq : X2.drewN _ = Y at *
   have KY := kept (show Keeps X2 Y [] by rw [← hYq]; exact (Keeps.refl X2 []).drewN _)
   clear c3 c4 i1 b1 y1 hYq
   have kz := KY.out
   have HWx := kept (HW.out.keep kz)
   have BXx := kept (BX.out.keep kz (by simp))
   have Yx0 := kept (kz.cellOf Y0.out)
   have Yx1 := kept (kz.cellOf Y1.out)
   clear HW BX kz Y0 Y1
   have HW := HWx
   have BX := BXx
   have Y0 := Yx0
   have Y1 := Yx1
   clear HWx BXx Yx0 Yx1
   clear KY
   have HD := kept HW.out
   obtain ⟨l0, l1, l2, l3⟩ := BX.out.c4
   simp at l0 l1 l2 l3
   have c4 := HD.out.c4
   have e2 := HD.out.bb.2.1.frozen d
   have e3 := HD.out.bool_at hd
   go_wp2
   first | refine e48n rfl ⟨rfl, R, ?_⟩ | refine e48r rfl ⟨rfl, R, ?_⟩
   show WAt _ _ _ _ _ _ (instM s ⟨7, (d : Nat), (Value.slice (some ⟨xb, xo, none⟩) 2 sc, [(p0 : Nat), (p1 : Nat)]), num⟩)
   rw [HE.out]
   first | exact HD.out.setB d _ | exact (HD.out.setB d _).keep ((Keeps.refl _ []).drew)
 ·as_aux_lemma =>
   try clear hHeld
   have hx := HX.out
   have hn := HN.out
   have hG := HG.out
   have h := HW.out
   have hAW : IntsAt X1 (.slice sa l.length sc, l) := Row.keep hAB.out HW.out.k
   have hl : l.length = _ := hx.len (by simp)
   have hdx := hx.dst (by simp)
   have harg := hx.arg
   simp only at harg hl
   obtain ⟨a0, a1, rfl⟩ := list2 hl
   have ha0 := harg a0 (by simp)
   have ha1 := harg a1 (by simp)
   clear harg hl
   obtain ⟨p0, rfl⟩ : ∃ p : Nat, a0 = p := ⟨a0.toNat, by omega⟩
   have h0 : p0 < n := by omega
   clear ha0
   obtain ⟨p1, rfl⟩ : ∃ p : Nat, a1 = p := ⟨a1.toNat, by omega⟩
   have h1 : p1 < n := by omega
   clear ha1
   obtain ⟨hd0, hd1, _⟩ : 0 ≤ dst ∧ dst < (n : Int) ∧ _ := hdx
   obtain ⟨d, rfl⟩ : ∃ d : Nat, dst = d := ⟨dst.toNat, by omega⟩
   have hd : d < n := by omega
   clear hd0 hd1
   obtain ⟨xb, xo, xc, exs, y0, y1⟩ := ints_cells2 hAW
   simp at exs
   obtain ⟨rfl, rfl⟩ := exs
   have Y0 := kept y0
   have Y1 := kept y1
   clear y0 y1
   have HI0 := kept (hG.I (p0 : Nat))
   have HI1 := kept (hG.I (p1 : Nat))
   clear h hG hAW hx hn HX HN HG
   have HE := kept (show instM s ⟨8, (d : Nat), (Value.slice (some ⟨xb, xo, none⟩) 2 sc, [(p0 : Nat), (p1 : Nat)]), num⟩ = s.setB (d : Nat) (decide (s.I (p0 : Nat) < s.I (p1 : Nat))) by simp [instM, rawM, wrapI_eq])
   rw [show kword 8 = ⟨#[108, 116]⟩ from rfl]
   obtain ⟨l0, l1, l2, l3⟩ := BX.out.c4
   simp at l0 l1 l2 l3
   have y0 := Y0.out
   have y1 := Y1.out
   have CC := kept (fun w => show Calls Tryz.prog 12 #[.int .i64 8] w fun e w' => e = .returned (.int .i64 0) ∧ w = w' from refcheck_any 8 w (by decide))
   have i0 := HW.out.int_at h0
   have b0 := HW.out.bool_at h0
   have a0 := HW.out.arr_at h0
   have i1 := HW.out.int_at h1
   have b1 := HW.out.bool_at h1
   have c3 := HW.out.c3
   have c4 := HW.out.c4
   have c5 := HW.out.c5
   generalize hI0 : s.I (p0 : Nat) = I0 at *
   generalize hB0 : s.B (p0 : Nat) = B0 at *
   generalize hI1 : s.I (p1 : Nat) = I1 at *
   generalize hB1 : s.B (p1 : Nat) = B1 at *
   generalize hA0 : s.A (p0 : Nat) = A0 at *
   go_wp2_with (first | (go_at_call 12; refine (CC.out _).mono ?_; rintro e w3 ⟨rfl, rfl⟩))
   clear CC
   go_quiet (fail)
   generalize hYq : X1.drewN _ = X2 at *
   have KY := kept (show Keeps X1 X2 [] by rw [← hYq]; exact (Keeps.refl X1 []).drewN _)
   clear l0 l1 l2 l3 c3 c4 c5 y0 i0 b0 y1 i1 b1 a0 hYq
   have kz := KY.out
   have HWx := kept (HW.out.keep kz)
   have BXx := kept (BX.out.keep kz (by simp))
   have Yx0 := kept (kz.cellOf Y0.out)
   have Yx1 := kept (kz.cellOf Y1.out)
   clear HW BX kz Y0 Y1
   have HW := HWx
   have BX := BXx
   have Y0 := Yx0
   have Y1 := Yx1
   clear HWx BXx Yx0 Yx1
   clear KY
   have c3 := HW.out.c3
   have c4 := HW.out.c4
   have i1 := HW.out.int_at h1
   have b1 := HW.out.bool_at h1
   have y1 := Y1.out
   rw [hI1] at i1
   rw [hB1] at b1
   go_wp2
   go_quiet (fail)
   generalize hYq : X2.drewN _ = Y at *
   have KY := kept (show Keeps X2 Y [] by rw [← hYq]; exact (Keeps.refl X2 []).drewN _)
   clear c3 c4 i1 b1 y1 hYq
   have kz := KY.out
   have HWx := kept (HW.out.keep kz)
   have BXx := kept (BX.out.keep kz (by simp))
   have Yx0 := kept (kz.cellOf Y0.out)
   have Yx1 := kept (kz.cellOf Y1.out)
   clear HW BX kz Y0 Y1
   have HW := HWx
   have BX := BXx
   have Y0 := Yx0
   have Y1 := Yx1
   clear HWx BXx Yx0 Yx1
   clear KY
   have HD := kept HW.out
   obtain ⟨l0, l1, l2, l3⟩ := BX.out.c4
   simp at l0 l1 l2 l3
   have c4 := HD.out.c4
   have e2 := HD.out.bb.2.1.frozen d
   have e3 := HD.out.bool_at hd
   go_wp2
   first | refine e48n rfl ⟨rfl, R, ?_⟩ | refine e48r rfl ⟨rfl, R, ?_⟩
   show WAt _ _ _ _ _ _ (instM s ⟨8, (d : Nat), (Value.slice (some ⟨xb, xo, none⟩) 2 sc, [(p0 : Nat), (p1 : Nat)]), num⟩)
   rw [HE.out]
   first | exact HD.out.setB d _ | exact (HD.out.setB d _).keep ((Keeps.refl _ []).drew)
 ·as_aux_lemma =>
   try clear hHeld
   have hx := HX.out
   have hn := HN.out
   have hG := HG.out
   have h := HW.out
   have hAW : IntsAt X1 (.slice sa l.length sc, l) := Row.keep hAB.out HW.out.k
   have hl : l.length = _ := hx.len (by simp)
   have hdx := hx.dst (by simp)
   have harg := hx.arg
   simp only at harg hl
   obtain ⟨a0, a1, rfl⟩ := list2 hl
   have ha0 := harg a0 (by simp)
   have ha1 := harg a1 (by simp)
   clear harg hl
   obtain ⟨p0, rfl⟩ : ∃ p : Nat, a0 = p := ⟨a0.toNat, by omega⟩
   have h0 : p0 < n := by omega
   clear ha0
   obtain ⟨p1, rfl⟩ : ∃ p : Nat, a1 = p := ⟨a1.toNat, by omega⟩
   have h1 : p1 < n := by omega
   clear ha1
   obtain ⟨hd0, hd1, _⟩ : 0 ≤ dst ∧ dst < (n : Int) ∧ _ := hdx
   obtain ⟨d, rfl⟩ : ∃ d : Nat, dst = d := ⟨dst.toNat, by omega⟩
   have hd : d < n := by omega
   clear hd0 hd1
   obtain ⟨xb, xo, xc, exs, y0, y1⟩ := ints_cells2 hAW
   simp at exs
   obtain ⟨rfl, rfl⟩ := exs
   have Y0 := kept y0
   have Y1 := kept y1
   clear y0 y1
   have HI0 := kept (hG.I (p0 : Nat))
   have HI1 := kept (hG.I (p1 : Nat))
   clear h hG hAW hx hn HX HN HG
   have HE := kept (show instM s ⟨9, (d : Nat), (Value.slice (some ⟨xb, xo, none⟩) 2 sc, [(p0 : Nat), (p1 : Nat)]), num⟩ = s.setB (d : Nat) (decide (s.I (p0 : Nat) ≤ s.I (p1 : Nat))) by simp [instM, rawM, wrapI_eq])
   rw [show kword 9 = ⟨#[108, 101]⟩ from rfl]
   obtain ⟨l0, l1, l2, l3⟩ := BX.out.c4
   simp at l0 l1 l2 l3
   have y0 := Y0.out
   have y1 := Y1.out
   have CC := kept (fun w => show Calls Tryz.prog 12 #[.int .i64 9] w fun e w' => e = .returned (.int .i64 0) ∧ w = w' from refcheck_any 9 w (by decide))
   have i0 := HW.out.int_at h0
   have b0 := HW.out.bool_at h0
   have a0 := HW.out.arr_at h0
   have i1 := HW.out.int_at h1
   have b1 := HW.out.bool_at h1
   have c3 := HW.out.c3
   have c4 := HW.out.c4
   have c5 := HW.out.c5
   generalize hI0 : s.I (p0 : Nat) = I0 at *
   generalize hB0 : s.B (p0 : Nat) = B0 at *
   generalize hI1 : s.I (p1 : Nat) = I1 at *
   generalize hB1 : s.B (p1 : Nat) = B1 at *
   generalize hA0 : s.A (p0 : Nat) = A0 at *
   go_wp2_with (first | (go_at_call 12; refine (CC.out _).mono ?_; rintro e w3 ⟨rfl, rfl⟩))
   clear CC
   go_quiet (fail)
   generalize hYq : X1.drewN _ = X2 at *
   have KY := kept (show Keeps X1 X2 [] by rw [← hYq]; exact (Keeps.refl X1 []).drewN _)
   clear l0 l1 l2 l3 c3 c4 c5 y0 i0 b0 y1 i1 b1 a0 hYq
   have kz := KY.out
   have HWx := kept (HW.out.keep kz)
   have BXx := kept (BX.out.keep kz (by simp))
   have Yx0 := kept (kz.cellOf Y0.out)
   have Yx1 := kept (kz.cellOf Y1.out)
   clear HW BX kz Y0 Y1
   have HW := HWx
   have BX := BXx
   have Y0 := Yx0
   have Y1 := Yx1
   clear HWx BXx Yx0 Yx1
   clear KY
   have c3 := HW.out.c3
   have c4 := HW.out.c4
   have i1 := HW.out.int_at h1
   have b1 := HW.out.bool_at h1
   have y1 := Y1.out
   rw [hI1] at i1
   rw [hB1] at b1
   go_wp2
   go_quiet (fail)
   generalize hYq : X2.drewN _ = Y at *
   have KY := kept (show Keeps X2 Y [] by rw [← hYq]; exact (Keeps.refl X2 []).drewN _)
   clear c3 c4 i1 b1 y1 hYq
   have kz := KY.out
   have HWx := kept (HW.out.keep kz)
   have BXx := kept (BX.out.keep kz (by simp))
   have Yx0 := kept (kz.cellOf Y0.out)
   have Yx1 := kept (kz.cellOf Y1.out)
   clear HW BX kz Y0 Y1
   have HW := HWx
   have BX := BXx
   have Y0 := Yx0
   have Y1 := Yx1
   clear HWx BXx Yx0 Yx1
   clear KY
   have HD := kept HW.out
   obtain ⟨l0, l1, l2, l3⟩ := BX.out.c4
   simp at l0 l1 l2 l3
   have c4 := HD.out.c4
   have e2 := HD.out.bb.2.1.frozen d
   have e3 := HD.out.bool_at hd
   go_wp2
   first | refine e48n rfl ⟨rfl, R, ?_⟩ | refine e48r rfl ⟨rfl, R, ?_⟩
   show WAt _ _ _ _ _ _ (instM s ⟨9, (d : Nat), (Value.slice (some ⟨xb, xo, none⟩) 2 sc, [(p0 : Nat), (p1 : Nat)]), num⟩)
   rw [HE.out]
   first | exact HD.out.setB d _ | exact (HD.out.setB d _).keep ((Keeps.refl _ []).drew)
 ·as_aux_lemma =>
   try clear hHeld
   have hx := HX.out
   have hn := HN.out
   have hG := HG.out
   have h := HW.out
   have hAW : IntsAt X1 (.slice sa l.length sc, l) := Row.keep hAB.out HW.out.k
   have hl : l.length = _ := hx.len (by simp)
   have hdx := hx.dst (by simp)
   have harg := hx.arg
   simp only at harg hl
   obtain ⟨a0, rfl⟩ : ∃ a, l = [a] := List.length_eq_one_iff.1 hl
   have ha0 := harg a0 (by simp)
   clear harg hl
   obtain ⟨p0, rfl⟩ : ∃ p : Nat, a0 = p := ⟨a0.toNat, by omega⟩
   have h0 : p0 < n := by omega
   clear ha0
   obtain ⟨hd0, hd1, _⟩ : 0 ≤ dst ∧ dst < (n : Int) ∧ _ := hdx
   obtain ⟨d, rfl⟩ : ∃ d : Nat, dst = d := ⟨dst.toNat, by omega⟩
   have hd : d < n := by omega
   clear hd0 hd1
   obtain ⟨xb, xo, xc, exs, y0⟩ := ints_cells1 hAW
   simp at exs
   obtain ⟨rfl, rfl⟩ := exs
   have Y0 := kept y0
   clear y0
   have HI0 := kept (hG.I (p0 : Nat))
   clear h hG hAW hx hn HX HN HG
   have HE := kept (show instM s ⟨10, (d : Nat), (Value.slice (some ⟨xb, xo, none⟩) 1 sc, [(p0 : Nat)]), num⟩ = s.setB (d : Nat) (!(s.B (p0 : Nat))) by simp [instM, rawM, wrapI_eq])
   rw [show kword 10 = ⟨#[110, 111, 116]⟩ from rfl]
   obtain ⟨l0, l1, l2, l3⟩ := BX.out.c4
   simp at l0 l1 l2 l3
   have y0 := Y0.out
   have CC := kept (fun w => show Calls Tryz.prog 12 #[.int .i64 10] w fun e w' => e = .returned (.int .i64 0) ∧ w = w' from refcheck_any 10 w (by decide))
   have i0 := HW.out.int_at h0
   have b0 := HW.out.bool_at h0
   have a0 := HW.out.arr_at h0
   have c3 := HW.out.c3
   have c4 := HW.out.c4
   have c5 := HW.out.c5
   generalize hI0 : s.I (p0 : Nat) = I0 at *
   generalize hB0 : s.B (p0 : Nat) = B0 at *
   generalize hA0 : s.A (p0 : Nat) = A0 at *
   go_wp2_with (first | (go_at_call 12; refine (CC.out _).mono ?_; rintro e w3 ⟨rfl, rfl⟩))
   clear CC
   go_quiet (fail)
   generalize hYq : X1.drewN _ = Y at *
   have KY := kept (show Keeps X1 Y [] by rw [← hYq]; exact (Keeps.refl X1 []).drewN _)
   clear l0 l1 l2 l3 c3 c4 c5 y0 i0 b0 a0 hYq
   have kz := KY.out
   have HWx := kept (HW.out.keep kz)
   have BXx := kept (BX.out.keep kz (by simp))
   have Yx0 := kept (kz.cellOf Y0.out)
   clear HW BX kz Y0
   have HW := HWx
   have BX := BXx
   have Y0 := Yx0
   clear HWx BXx Yx0
   clear KY
   have HD := kept HW.out
   obtain ⟨l0, l1, l2, l3⟩ := BX.out.c4
   simp at l0 l1 l2 l3
   have c4 := HD.out.c4
   have e2 := HD.out.bb.2.1.frozen d
   have e3 := HD.out.bool_at hd
   go_wp2
   first | refine e48n rfl ⟨rfl, R, ?_⟩ | refine e48r rfl ⟨rfl, R, ?_⟩
   show WAt _ _ _ _ _ _ (instM s ⟨10, (d : Nat), (Value.slice (some ⟨xb, xo, none⟩) 1 sc, [(p0 : Nat)]), num⟩)
   rw [HE.out]
   first | exact HD.out.setB d _ | exact (HD.out.setB d _).keep ((Keeps.refl _ []).drew)
 ·as_aux_lemma =>
   try clear hHeld
   have hx := HX.out
   have hn := HN.out
   have hG := HG.out
   have h := HW.out
   have hAW : IntsAt X1 (.slice sa l.length sc, l) := Row.keep hAB.out HW.out.k
   have hl : l.length = _ := hx.len (by simp)
   have hdx := hx.dst (by simp)
   have harg := hx.arg
   simp only at harg hl
   obtain ⟨a0, a1, rfl⟩ := list2 hl
   have ha0 := harg a0 (by simp)
   have ha1 := harg a1 (by simp)
   clear harg hl
   obtain ⟨p0, rfl⟩ : ∃ p : Nat, a0 = p := ⟨a0.toNat, by omega⟩
   have h0 : p0 < n := by omega
   clear ha0
   obtain ⟨p1, rfl⟩ : ∃ p : Nat, a1 = p := ⟨a1.toNat, by omega⟩
   have h1 : p1 < n := by omega
   clear ha1
   obtain ⟨hd0, hd1, _⟩ : 0 ≤ dst ∧ dst < (n : Int) ∧ _ := hdx
   obtain ⟨d, rfl⟩ : ∃ d : Nat, dst = d := ⟨dst.toNat, by omega⟩
   have hd : d < n := by omega
   clear hd0 hd1
   obtain ⟨xb, xo, xc, exs, y0, y1⟩ := ints_cells2 hAW
   simp at exs
   obtain ⟨rfl, rfl⟩ := exs
   have Y0 := kept y0
   have Y1 := kept y1
   clear y0 y1
   have HI0 := kept (hG.I (p0 : Nat))
   have HI1 := kept (hG.I (p1 : Nat))
   clear h hG hAW hx hn HX HN HG
   have HE := kept (show instM s ⟨11, (d : Nat), (Value.slice (some ⟨xb, xo, none⟩) 2 sc, [(p0 : Nat), (p1 : Nat)]), num⟩ = s.setB (d : Nat) (s.B (p0 : Nat) && s.B (p1 : Nat)) by simp [instM, rawM, wrapI_eq])
   rw [show kword 11 = ⟨#[97, 110, 100]⟩ from rfl]
   obtain ⟨l0, l1, l2, l3⟩ := BX.out.c4
   simp at l0 l1 l2 l3
   have y0 := Y0.out
   have y1 := Y1.out
   have CC := kept (fun w => show Calls Tryz.prog 12 #[.int .i64 11] w fun e w' => e = .returned (.int .i64 0) ∧ w = w' from refcheck_any 11 w (by decide))
   have i0 := HW.out.int_at h0
   have b0 := HW.out.bool_at h0
   have a0 := HW.out.arr_at h0
   have i1 := HW.out.int_at h1
   have b1 := HW.out.bool_at h1
   have c3 := HW.out.c3
   have c4 := HW.out.c4
   have c5 := HW.out.c5
   generalize hI0 : s.I (p0 : Nat) = I0 at *
   generalize hB0 : s.B (p0 : Nat) = B0 at *
   generalize hI1 : s.I (p1 : Nat) = I1 at *
   generalize hB1 : s.B (p1 : Nat) = B1 at *
   generalize hA0 : s.A (p0 : Nat) = A0 at *
   go_wp2_with (first | (go_at_call 12; refine (CC.out _).mono ?_; rintro e w3 ⟨rfl, rfl⟩))
   clear CC
   go_quiet (fail)
   generalize hYq : X1.drewN _ = X2 at *
   have KY := kept (show Keeps X1 X2 [] by rw [← hYq]; exact (Keeps.refl X1 []).drewN _)
   clear l0 l1 l2 l3 c3 c4 c5 y0 i0 b0 y1 i1 b1 a0 hYq
   have kz := KY.out
   have HWx := kept (HW.out.keep kz)
   have BXx := kept (BX.out.keep kz (by simp))
   have Yx0 := kept (kz.cellOf Y0.out)
   have Yx1 := kept (kz.cellOf Y1.out)
   clear HW BX kz Y0 Y1
   have HW := HWx
   have BX := BXx
   have Y0 := Yx0
   have Y1 := Yx1
   clear HWx BXx Yx0 Yx1
   clear KY
   have c3 := HW.out.c3
   have c4 := HW.out.c4
   have i1 := HW.out.int_at h1
   have b1 := HW.out.bool_at h1
   have y1 := Y1.out
   rw [hI1] at i1
   rw [hB1] at b1
   go_wp2
   go_quiet (fail)
   generalize hYq : X2.drewN _ = Y at *
   have KY := kept (show Keeps X2 Y [] by rw [← hYq]; exact (Keeps.refl X2 []).drewN _)
   clear c3 c4 i1 b1 y1 hYq
   have kz := KY.out
   have HWx := kept (HW.out.keep kz)
   have BXx := kept (BX.out.keep kz (by simp))
   have Yx0 := kept (kz.cellOf Y0.out)
   have Yx1 := kept (kz.cellOf Y1.out)
   clear HW BX kz Y0 Y1
   have HW := HWx
   have BX := BXx
   have Y0 := Yx0
   have Y1 := Yx1
   clear HWx BXx Yx0 Yx1
   clear KY
   have HD := kept HW.out
   obtain ⟨l0, l1, l2, l3⟩ := BX.out.c4
   simp at l0 l1 l2 l3
   have c4 := HD.out.c4
   have e2 := HD.out.bb.2.1.frozen d
   have e3 := HD.out.bool_at hd
   clear hB0
   cases B0
   all_goals simp only [Bool.true_and, Bool.false_and] at HE
   go_wp2
   all_goals go_wp2
   all_goals
    first | refine e48n rfl ⟨rfl, R, ?_⟩ | refine e48r rfl ⟨rfl, R, ?_⟩
    show WAt _ _ _ _ _ _ (instM s ⟨11, (d : Nat), (Value.slice (some ⟨xb, xo, none⟩) 2 sc, [(p0 : Nat), (p1 : Nat)]), num⟩)
    rw [HE.out]
    first | exact HD.out.setB d _ | exact (HD.out.setB d _).keep ((Keeps.refl _ []).drew)
 ·as_aux_lemma =>
   try clear hHeld
   have hx := HX.out
   have hn := HN.out
   have hG := HG.out
   have h := HW.out
   have hAW : IntsAt X1 (.slice sa l.length sc, l) := Row.keep hAB.out HW.out.k
   have hl : l.length = _ := hx.len (by simp)
   have hdx := hx.dst (by simp)
   have harg := hx.arg
   simp only at harg hl
   obtain ⟨a0, rfl⟩ : ∃ a, l = [a] := List.length_eq_one_iff.1 hl
   have ha0 := harg a0 (by simp)
   clear harg hl
   obtain ⟨p0, rfl⟩ : ∃ p : Nat, a0 = p := ⟨a0.toNat, by omega⟩
   have h0 : p0 < n := by omega
   clear ha0
   obtain ⟨hd0, hd1, _⟩ : 0 ≤ dst ∧ dst < (n : Int) ∧ _ := hdx
   obtain ⟨d, rfl⟩ : ∃ d : Nat, dst = d := ⟨dst.toNat, by omega⟩
   have hd : d < n := by omega
   clear hd0 hd1
   obtain ⟨xb, xo, xc, exs, y0⟩ := ints_cells1 hAW
   simp at exs
   obtain ⟨rfl, rfl⟩ := exs
   have Y0 := kept y0
   clear y0
   have HI0 := kept (hG.I (p0 : Nat))
   have HA0 := kept (hG.A (v := (p0 : Nat)) (by omega))
   have HLo := kept hG.long
   clear h hG hAW hx hn HX HN HG
   have HE := kept (show instM s ⟨12, (d : Nat), (Value.slice (some ⟨xb, xo, none⟩) 1 sc, [(p0 : Nat)]), num⟩ = if s.A (p0 : Nat) < 0 then s.fin 2 else s.setI (d : Nat) s.arrays[(s.A (p0 : Nat)).toNat]!.length by simp [instM, rawM, wrapI_eq])
   rw [show kword 12 = ⟨#[108, 101, 110]⟩ from rfl]
   obtain ⟨l0, l1, l2, l3⟩ := BX.out.c4
   simp at l0 l1 l2 l3
   have y0 := Y0.out
   have CC := kept (fun w => show Calls Tryz.prog 12 #[.int .i64 12] w fun e w' => e = .returned (.int .i64 0) ∧ w = w' from refcheck_any 12 w (by decide))
   have i0 := HW.out.int_at h0
   have b0 := HW.out.bool_at h0
   have a0 := HW.out.arr_at h0
   have c3 := HW.out.c3
   have c4 := HW.out.c4
   have c5 := HW.out.c5
   generalize hI0 : s.I (p0 : Nat) = I0 at *
   generalize hB0 : s.B (p0 : Nat) = B0 at *
   generalize hA0 : s.A (p0 : Nat) = A0 at *
   go_wp2_with (first | (go_at_call 12; refine (CC.out _).mono ?_; rintro e w3 ⟨rfl, rfl⟩))
   clear CC
   go_quiet (fail)
   generalize hYq : X1.drewN _ = Y at *
   have KY := kept (show Keeps X1 Y [] by rw [← hYq]; exact (Keeps.refl X1 []).drewN _)
   clear l0 l1 l2 l3 c3 c4 c5 y0 i0 b0 a0 hYq
   have kz := KY.out
   have HWx := kept (HW.out.keep kz)
   have BXx := kept (BX.out.keep kz (by simp))
   have Yx0 := kept (kz.cellOf Y0.out)
   clear HW BX kz Y0
   have HW := HWx
   have BX := BXx
   have Y0 := Yx0
   clear HWx BXx Yx0
   clear KY
   have HD0 := kept HW.out
   obtain ⟨l0, l1, l2, l3⟩ := BX.out.c4
   simp at l0 l1 l2 l3
   by_cases hz : A0 < 0
   ·have HE2 := kept (HE.out.trans (if_pos hz))
    clear HE
    go_wp2_with (first | (go_at_call 49; refine (end84_any wB _ g R f n s (2) HD0.out).mono ?_; rintro e w3 ⟨rfl, HF⟩))
    first | refine e48n rfl ⟨rfl, R, ?_⟩ | refine e48r rfl ⟨rfl, R, ?_⟩
    show WAt _ _ _ _ _ _ (instM s ⟨12, (d : Nat), (Value.slice (some ⟨xb, xo, none⟩) 1 sc, [(p0 : Nat)]), num⟩)
    rw [HE2.out]
    exact HF
   have HE2 := kept (HE.out.trans (if_neg hz))
   obtain ⟨a, rfl⟩ : ∃ a : Nat, A0 = a := ⟨A0.toNat, by omega⟩
   have hlt : a < s.arrays.length := by have := HA0.out.2; omega
   obtain ⟨q, qc, bb, cc, e6, e7, e8⟩ := HW.out.arow hlt
   have HLa := HLo.out a
   rw [show ((a : Nat) : Int).toNat = a from rfl] at HE2
   clear HE
   have kd : Keeps Y (World.drew Y) [] := (Keeps.refl Y []).drew
   have HD := kept (HW.out.keep kd)
   have BD := kept (BX.out.keep kd (by simp))
   obtain ⟨l0d, l1d, l2d, l3d⟩ := BD.out.c4
   obtain ⟨l0, l1, l2, l3⟩ := BX.out.c4
   simp at l0 l1 l2 l3 l0d l1d l2d l3d
   clear kd
   have c3d := HD.out.c3
   have e0d := HD.out.bi.2.1.frozen d
   have e1d := HD.out.int_at hd
   have c3 := HW.out.c3
   have e0 := HW.out.bi.2.1.frozen d
   have e1 := HW.out.int_at hd
   have e8d := ((Keeps.refl Y []).drew).cellOf e8
   have c6 := HW.out.c6
   have c6d := HD.out.c6
   rw [e6] at c6 c6d
   generalize s.arrays[a]!.length = k at *
   generalize s.arrays.length = m at *
   go_wp2
   go_region
   go_wp2
   first | refine e48n rfl ⟨rfl, R, ?_⟩ | refine e48r rfl ⟨rfl, R, ?_⟩
   show WAt _ _ _ _ _ _ (instM s ⟨12, (d : Nat), (Value.slice (some ⟨xb, xo, none⟩) 1 sc, [(p0 : Nat)]), num⟩)
   rw [HE2.out]
   first | exact HD.out.setI d _ | exact HW.out.setI d _ | exact (HW.out.setI d _).keep ((Keeps.refl _ []).drew)
 ·as_aux_lemma =>
   try clear hHeld
   have hx := HX.out
   have hn := HN.out
   have hG := HG.out
   have h := HW.out
   have hAW : IntsAt X1 (.slice sa l.length sc, l) := Row.keep hAB.out HW.out.k
   have hl : l.length = _ := hx.len (by simp)
   have hdx := hx.dst (by simp)
   have harg := hx.arg
   simp only at harg hl
   obtain ⟨a0, a1, rfl⟩ := list2 hl
   have ha0 := harg a0 (by simp)
   have ha1 := harg a1 (by simp)
   clear harg hl
   obtain ⟨p0, rfl⟩ : ∃ p : Nat, a0 = p := ⟨a0.toNat, by omega⟩
   have h0 : p0 < n := by omega
   clear ha0
   obtain ⟨p1, rfl⟩ : ∃ p : Nat, a1 = p := ⟨a1.toNat, by omega⟩
   have h1 : p1 < n := by omega
   clear ha1
   obtain ⟨hd0, hd1, _⟩ : 0 ≤ dst ∧ dst < (n : Int) ∧ _ := hdx
   obtain ⟨d, rfl⟩ : ∃ d : Nat, dst = d := ⟨dst.toNat, by omega⟩
   have hd : d < n := by omega
   clear hd0 hd1
   obtain ⟨xb, xo, xc, exs, y0, y1⟩ := ints_cells2 hAW
   simp at exs
   obtain ⟨rfl, rfl⟩ := exs
   have Y0 := kept y0
   have Y1 := kept y1
   clear y0 y1
   have HI0 := kept (hG.I (p0 : Nat))
   have HI1 := kept (hG.I (p1 : Nat))
   have HA0 := kept (hG.A (v := (p0 : Nat)) (by omega))
   clear h hG hAW hx hn HX HN HG
   have HE := kept (show instM s ⟨13, (d : Nat), (Value.slice (some ⟨xb, xo, none⟩) 2 sc, [(p0 : Nat), (p1 : Nat)]), num⟩ = if placeM s (s.A (p0 : Nat)) (s.I (p1 : Nat)) = true then s.setI (d : Nat) s.arrays[(s.A (p0 : Nat)).toNat]![(s.I (p1 : Nat)).toNat]! else s.fin 2 by simp [instM, rawM, wrapI_eq])
   rw [show kword 13 = ⟨#[108, 111, 97, 100]⟩ from rfl]
   obtain ⟨l0, l1, l2, l3⟩ := BX.out.c4
   simp at l0 l1 l2 l3
   have y0 := Y0.out
   have y1 := Y1.out
   have CC := kept (fun w => show Calls Tryz.prog 12 #[.int .i64 13] w fun e w' => e = .returned (.int .i64 0) ∧ w = w' from refcheck_any 13 w (by decide))
   have i0 := HW.out.int_at h0
   have b0 := HW.out.bool_at h0
   have a0 := HW.out.arr_at h0
   have i1 := HW.out.int_at h1
   have b1 := HW.out.bool_at h1
   have c3 := HW.out.c3
   have c4 := HW.out.c4
   have c5 := HW.out.c5
   generalize hI0 : s.I (p0 : Nat) = I0 at *
   generalize hB0 : s.B (p0 : Nat) = B0 at *
   generalize hI1 : s.I (p1 : Nat) = I1 at *
   generalize hB1 : s.B (p1 : Nat) = B1 at *
   generalize hA0 : s.A (p0 : Nat) = A0 at *
   go_wp2_with (first | (go_at_call 12; refine (CC.out _).mono ?_; rintro e w3 ⟨rfl, rfl⟩))
   clear CC
   go_quiet (fail)
   generalize hYq : X1.drewN _ = X2 at *
   have KY := kept (show Keeps X1 X2 [] by rw [← hYq]; exact (Keeps.refl X1 []).drewN _)
   clear l0 l1 l2 l3 c3 c4 c5 y0 i0 b0 y1 i1 b1 a0 hYq
   have kz := KY.out
   have HWx := kept (HW.out.keep kz)
   have BXx := kept (BX.out.keep kz (by simp))
   have Yx0 := kept (kz.cellOf Y0.out)
   have Yx1 := kept (kz.cellOf Y1.out)
   clear HW BX kz Y0 Y1
   have HW := HWx
   have BX := BXx
   have Y0 := Yx0
   have Y1 := Yx1
   clear HWx BXx Yx0 Yx1
   clear KY
   have c3 := HW.out.c3
   have c4 := HW.out.c4
   have i1 := HW.out.int_at h1
   have b1 := HW.out.bool_at h1
   have y1 := Y1.out
   rw [hI1] at i1
   rw [hB1] at b1
   go_wp2
   go_quiet (fail)
   generalize hYq : X2.drewN _ = Y at *
   have KY := kept (show Keeps X2 Y [] by rw [← hYq]; exact (Keeps.refl X2 []).drewN _)
   clear c3 c4 i1 b1 y1 hYq
   have kz := KY.out
   have HWx := kept (HW.out.keep kz)
   have BXx := kept (BX.out.keep kz (by simp))
   have Yx0 := kept (kz.cellOf Y0.out)
   have Yx1 := kept (kz.cellOf Y1.out)
   clear HW BX kz Y0 Y1
   have HW := HWx
   have BX := BXx
   have Y0 := Yx0
   have Y1 := Yx1
   clear HWx BXx Yx0 Yx1
   clear KY
   have HD := kept HW.out
   obtain ⟨l0, l1, l2, l3⟩ := BX.out.c4
   simp at l0 l1 l2 l3
   have CP := kept (fun W' (h' : WAt wB W' g R f n s) => place_any wB W' g R f n s A0 I1 h')
   rcases Bool.eq_false_or_eq_true (placeM s A0 I1) with hz | hz
   ·have HE2 := kept (HE.out.trans (if_pos hz))
    clear HE
    have HZ := kept hz
    go_wp2_with (first | (go_at_call 82; refine (CP.out _ HD.out).mono ?_; rintro e w3 ⟨rfl, rfl⟩))
    have hpl := HZ.out
    unfold placeM at hpl
    simp only [Bool.and_eq_true, decide_eq_true_eq] at hpl
    obtain ⟨⟨⟨q0, q1⟩, q2⟩, q3⟩ := hpl
    obtain ⟨a, rfl⟩ : ∃ a : Nat, A0 = a := ⟨A0.toNat, by omega⟩
    obtain ⟨b, rfl⟩ : ∃ b : Nat, I1 = b := ⟨I1.toNat, by omega⟩
    rw [show ((a : Nat) : Int).toNat = a from rfl] at HE2 q3
    rw [show ((b : Nat) : Int).toNat = b from rfl] at HE2
    have hlt : a < s.arrays.length := by omega
    have hlb : b < s.arrays[a]!.length := by omega
    obtain ⟨q, qc, q9, cc, e6, e8, e9, e10, e11⟩ := HW.out.elem hlt hlb
    clear HZ hz CP HD q0 q1 q2 q3 l0 l1 l2 l3
    have kd : Keeps Y (World.drew Y) [] := (Keeps.refl Y []).drew
    have HD := kept (HW.out.keep kd)
    have BD := kept (BX.out.keep kd (by simp))
    obtain ⟨l0d, l1d, l2d, l3d⟩ := BD.out.c4
    obtain ⟨l0, l1, l2, l3⟩ := BX.out.c4
    simp at l0 l1 l2 l3 l0d l1d l2d l3d
    have y0d := kd.cellOf Y0.out
    have y1d := kd.cellOf Y1.out
    have y0 := Y0.out
    have y1 := Y1.out
    clear kd
    have c3d := HD.out.c3
    have e0d := HD.out.bi.2.1.frozen d
    have e1d := HD.out.int_at hd
    have c3 := HW.out.c3
    have e0 := HW.out.bi.2.1.frozen d
    have e1 := HW.out.int_at hd
    have e8d := ((Keeps.refl Y []).drew).cellOf e8
    have e9d := ((Keeps.refl Y []).drew).cellOf e9
    have c6 := HW.out.c6
    have c6d := HD.out.c6
    rw [e6] at c6 c6d
    have HQ1 := kept hlt
    have HQ2 := kept hlb
    generalize hm1 : s.arrays[a]![b]! = ev at *
    generalize s.arrays[a]!.length = kk at *
    generalize s.arrays.length = m at *
    go_region
    go_wp2
    first | refine e48n rfl ⟨rfl, R, ?_⟩ | refine e48r rfl ⟨rfl, R, ?_⟩
    show WAt _ _ _ _ _ _ (instM s ⟨13, (d : Nat), (Value.slice (some ⟨xb, xo, none⟩) 2 sc, [(p0 : Nat), (p1 : Nat)]), num⟩)
    rw [HE2.out]
    first | exact HD.out.setI d _ | exact HW.out.setI d _ | exact (HW.out.setI d _).keep ((Keeps.refl _ []).drew)
   ·have HE2 := kept (HE.out.trans (if_neg (by rw [hz]; decide)))
    clear HE
    go_wp2_with (first | (go_at_call 82; refine (CP.out _ HD.out).mono ?_; rintro e w3 ⟨rfl, rfl⟩) | (go_at_call 49; refine (end84_any wB _ g R f n s (2) HD.out).mono ?_; rintro e w3 ⟨rfl, HF⟩))
    first | refine e48n rfl ⟨rfl, R, ?_⟩ | refine e48r rfl ⟨rfl, R, ?_⟩
    show WAt _ _ _ _ _ _ (instM s ⟨13, (d : Nat), (Value.slice (some ⟨xb, xo, none⟩) 2 sc, [(p0 : Nat), (p1 : Nat)]), num⟩)
    rw [HE2.out]
    exact HF
end Go.Proofs.YtjllbchfojonhaaGreatDoor
