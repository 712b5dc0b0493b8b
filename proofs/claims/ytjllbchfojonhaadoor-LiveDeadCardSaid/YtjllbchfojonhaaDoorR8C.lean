/- A check of a run; contracts. -/
import Derived.Test.YtjllbchfojonhaaDoorR8B
import Derived.Test.YtjllbchfojonhaaDoorB3
import Derived.Deep.RegionHeld3
namespace Go.Proofs.YtjllbchfojonhaaDoor
open Go.RowKit
set_option linter.unusedVariables false
set_option linter.unusedSimpArgs false

theorem ints_cells1 {w : World} {v : Value} {p0 : Int} (h : IntsAt w (v, [p0])) : ∃ b off cap, v = .slice (some ⟨b, off, none⟩) 1 cap ∧ w.cell? ⟨b, off, none⟩ = some (.int .i64 p0) := by
 obtain ⟨a, cap, e, _, _, hc⟩ := Row.open_ (M := Int) (cells := intCells) h
 obtain ⟨b, off, rfl, _, h0⟩ := hc 0 (by simp)
 exact ⟨b, off, cap, e, h0 0 _ rfl⟩
theorem ints_cells2 {w : World} {v : Value} {p0 p1 : Int} (h : IntsAt w (v, [p0, p1])) : ∃ b off cap, v = .slice (some ⟨b, off, none⟩) 2 cap ∧ w.cell? ⟨b, off, none⟩ = some (.int .i64 p0) ∧ w.cell? ⟨b, off + 1, none⟩ = some (.int .i64 p1) := by
 obtain ⟨a, cap, e, _, _, hc⟩ := Row.open_ (M := Int) (cells := intCells) h
 obtain ⟨b, off, rfl, _, h0⟩ := hc 0 (by simp)
 obtain ⟨b2, off2, e2, _, h1⟩ := hc 1 (by simp)
 simp only [Option.some.injEq, Addr.mk.injEq, and_true] at e2
 obtain ⟨rfl, rfl⟩ := e2
 exact ⟨b, off, cap, e, h0 0 _ rfl, h1 0 _ rfl⟩
theorem ints_cells3 {w : World} {v : Value} {p0 p1 p2 : Int} (h : IntsAt w (v, [p0, p1, p2])) : ∃ b off cap, v = .slice (some ⟨b, off, none⟩) 3 cap ∧ w.cell? ⟨b, off, none⟩ = some (.int .i64 p0) ∧ w.cell? ⟨b, off + 1, none⟩ = some (.int .i64 p1) ∧ w.cell? ⟨b, off + 2, none⟩ = some (.int .i64 p2) := by
 obtain ⟨a, cap, e, _, _, hc⟩ := Row.open_ (M := Int) (cells := intCells) h
 obtain ⟨b, off, rfl, _, h0⟩ := hc 0 (by simp)
 obtain ⟨b2, off2, e2, _, h1⟩ := hc 1 (by simp)
 obtain ⟨b3, off3, e3, _, h2⟩ := hc 2 (by simp)
 simp only [Option.some.injEq, Addr.mk.injEq, and_true] at e2 e3
 obtain ⟨rfl, rfl⟩ := e2
 obtain ⟨rfl, rfl⟩ := e3
 exact ⟨b, off, cap, e, h0 0 _ rfl, h1 0 _ rfl, h2 0 _ rfl⟩

set_option maxRecDepth 100000 in
set_option maxHeartbeats 200000000 in
theorem passes_18 (wB W : World) (g : Nat) (R : RepM) (f : FuncM) (n : Nat) (s : StM) (h : WAt wB W g R f n s) (v : Value) (p0 p1 : Nat) (hv : IntsAt W (v, [(p0 : Nat), (p1 : Nat)])) (h0 : p0 < n) (h1 : p1 < n) : Calls Tryd.prog 101 #[.pointer (some ⟨g, 0, none⟩), .string ⟨#[99, 104, 107, 105, 100, 120]⟩, v] W fun e w' => e = .returned (.bool (passM s 18 [(p0 : Nat), (p1 : Nat)])) ∧ Keeps W w' [] := by
 have HW := kept h
 obtain ⟨b, off, cap, rfl, x0, x1⟩ := ints_cells2 hv
 have c3 := h.c3
 have i0 := h.int_at h0
 have i1 := h.int_at h1
 have c5 := h.c5
 have a0 := h.arr_at h0
 have CP := kept (fun W' (h' : WAt wB W' g R f n s) => place_any wB W' g R f n s (s.A (p0 : Nat)) (s.I (p1 : Nat)) h')
 have HP := kept (show passM s 18 [(p0 : Nat), (p1 : Nat)] = (placeM s (s.A (p0 : Nat)) (s.I (p1 : Nat))) by unfold passM; simp)
 clear h hv
 generalize hI0 : s.I (p0 : Nat) = I0 at *
 generalize hI1 : s.I (p1 : Nat) = I1 at *
 generalize hA0 : s.A (p0 : Nat) = A0 at *
 go_enter Tryd.func101, Tryd.ntmps101
 go_wp2
 go_quiet (fail)
 go_wp2
 go_quiet (fail)
 go_wp2
 generalize hXq : W.drewN _ = X at *
 have KX : Hid (Keeps W X []) := kept (by rw [← hXq]; exact (Keeps.refl W []).drewN _)
 clear hXq
 have HS := kept (And.intro (KX.out.cellOf c5) (And.intro (KX.out.cellOf x0) (KX.out.cellOf a0)))
 clear c3 c5 x0 x1 a0 i0 i1
 refine wp_region_held_drew (S := (fun w' => w'.cell? ⟨g, 5, none⟩ = some (.slice (some ⟨R.ga, 0, none⟩) n n) ∧ w'.cell? ⟨b, off, none⟩ = some (.int .i64 (p0 : Nat)) ∧ w'.cell? ⟨R.ga, p0, none⟩ = some (.int .i64 A0))) (by kernel_rfl) ?ahSs (fun hHeld => ?_)
 case ahSs => exact HS.out
 have k9 : Keeps X (World.drew X) [] := (Keeps.refl X []).drew
 have HS0 := kept (And.intro (k9.cellOf HS.out.1) (And.intro (k9.cellOf HS.out.2.1) (k9.cellOf HS.out.2.2)))
 have KX0 := kept (KX.out.and_then k9)
 clear k9 KX HS
 generalize World.drew X = X0 at *
 refine tl 0 ⟨some 33, .move (.tmp 0), 102, "ref.go:84", #[], none⟩ rfl hHeld ?_
 refine tl 1 ⟨some 34, .move (.tmp 0), 102, "ref.go:84", #[], none⟩ rfl hHeld ?_
 refine tl 2 ⟨some 35, .nilCheck (.tmp 34), 0, "ref.go:84", #[⟨1, .data⟩], none⟩ rfl hHeld ?_
 refine tl 3 ⟨some 36, .fieldAddr 105 (.tmp 35) 3, 0, "ref.go:84", #[⟨2, .data⟩], none⟩ rfl hHeld ?_
 refine tl 4 ⟨some 37, .load 23 (.tmp 36), 23, "ref.go:84", #[⟨3, .data⟩], none⟩ rfl hHeld ?_
 refine tl 5 ⟨some 38, .move (.tmp 2), 23, "ref.go:84", #[], none⟩ rfl hHeld ?_
 refine tl 6 ⟨some 39, .indexAddr 23 (.tmp 38) (.const (Value.int IntKind.i64 0)), 0, "ref.go:84", #[⟨5, .data⟩], none⟩ rfl hHeld ?_
 refine tl 7 ⟨some 40, .load 3 (.tmp 39), 3, "ref.go:84", #[⟨6, .data⟩], none⟩ rfl hHeld ?_
 refine tl 8 ⟨some 41, .indexAddr 23 (.tmp 37) (.tmp 40), 0, "ref.go:84", #[⟨4, .data⟩, ⟨7, .data⟩], none⟩ rfl hHeld ?_
 refine tl 9 ⟨some 42, .load 3 (.tmp 41), 3, "ref.go:84", #[⟨8, .data⟩], none⟩ rfl hHeld ?_
 refine tl 10 ⟨some 43, .move (.tmp 8), 2, "ref.go:84", #[], none⟩ rfl hHeld ?_
 refine wpAnyH_ready (rs := [11]) (by kernel_rfl) (by simp) ?_
 refine AllReadyH.cons (o := ⟨some 44, .call ⟨.value (.func 104), #[.tmp 33, .tmp 42, .tmp 43], #[102, 3, 2]⟩, 4, "ref.go:84", #[⟨0, .data⟩, ⟨9, .data⟩, ⟨10, .data⟩], none⟩) rfl (fun K hK => ?_) AllReadyH.nil
 go_simp
 (with_reducible refine (CP.out _ (HW.out.keep KX0.out)).mono ?_)
 rintro e wx ⟨rfl, rfl⟩
 show K _ _
 clear hHeld
 refine hK.out _ _ ?ahS11 (fun hHeld => ?_)
 case ahS11 => exact HS0.out
 clear hK K
 try simp only [Act.put, sA, sB, sC]
 refine tl 12 ⟨some 6, .assign (.tmp 44), 4, "ref.go:84", #[⟨11, .data⟩, ⟨11, .chain⟩, ⟨0, .phase⟩, ⟨1, .phase⟩, ⟨2, .phase⟩, ⟨3, .phase⟩, ⟨4, .phase⟩, ⟨5, .phase⟩, ⟨6, .phase⟩, ⟨7, .phase⟩, ⟨8, .phase⟩, ⟨9, .phase⟩, ⟨10, .phase⟩, ⟨11, .phase⟩], none⟩ rfl hHeld ?_
 refine wpAnyH_done (by kernel_rfl) ?_ _
 clear hHeld
 go_wp2
 go_ret
 exact ⟨ret_bool (by rw [HP.out]), KX0.out⟩

set_option maxRecDepth 100000 in
set_option maxHeartbeats 200000000 in
theorem passes_19 (wB W : World) (g : Nat) (R : RepM) (f : FuncM) (n : Nat) (s : StM) (h : WAt wB W g R f n s) (v : Value) (p0 : Nat) (hv : IntsAt W (v, [(p0 : Nat)])) (h0 : p0 < n) : Calls Tryd.prog 101 #[.pointer (some ⟨g, 0, none⟩), .string ⟨#[99, 104, 107, 110, 105, 108]⟩, v] W fun e w' => e = .returned (.bool (passM s 19 [(p0 : Nat)])) ∧ Keeps W w' [] := by
 have HW := kept h
 obtain ⟨b, off, cap, rfl, x0⟩ := ints_cells1 hv
 have c3 := h.c3
 have i0 := h.int_at h0
 have c5 := h.c5
 have a0 := h.arr_at h0
 have HP := kept (show passM s 19 [(p0 : Nat)] = (decide (0 ≤ s.A (p0 : Nat))) by unfold passM; simp)
 clear h hv
 generalize hI0 : s.I (p0 : Nat) = I0 at *
 generalize hA0 : s.A (p0 : Nat) = A0 at *
 go_enter Tryd.func101, Tryd.ntmps101
 go_wp2
 go_quiet (fail)
 go_wp2
 go_quiet (fail)
 go_wp2
 go_ret
 exact ⟨ret_bool (by rw [HP.out]), by repeat' (first | exact Keeps.refl _ _ | apply Keeps.drewN | apply Keeps.drew)⟩

set_option maxRecDepth 100000 in
set_option maxHeartbeats 200000000 in
theorem passes_20 (wB W : World) (g : Nat) (R : RepM) (f : FuncM) (n : Nat) (s : StM) (h : WAt wB W g R f n s) (v : Value) (p0 : Nat) (hv : IntsAt W (v, [(p0 : Nat)])) (h0 : p0 < n) : Calls Tryd.prog 101 #[.pointer (some ⟨g, 0, none⟩), .string ⟨#[99, 104, 107, 100, 105, 118]⟩, v] W fun e w' => e = .returned (.bool (passM s 20 [(p0 : Nat)])) ∧ Keeps W w' [] := by
 have HW := kept h
 obtain ⟨b, off, cap, rfl, x0⟩ := ints_cells1 hv
 have c3 := h.c3
 have i0 := h.int_at h0
 have HP := kept (show passM s 20 [(p0 : Nat)] = (!(s.I (p0 : Nat) == 0)) by unfold passM; simp)
 clear h hv
 generalize hI0 : s.I (p0 : Nat) = I0 at *
 go_enter Tryd.func101, Tryd.ntmps101
 go_wp2
 go_quiet (fail)
 go_wp2
 go_ret
 exact ⟨ret_bool (by rw [HP.out]; rfl), by repeat' (first | exact Keeps.refl _ _ | apply Keeps.drewN | apply Keeps.drew)⟩

set_option maxRecDepth 100000 in
set_option maxHeartbeats 200000000 in
theorem passes_21 (wB W : World) (g : Nat) (R : RepM) (f : FuncM) (n : Nat) (s : StM) (h : WAt wB W g R f n s) (v : Value) (p0 p1 : Nat) (hv : IntsAt W (v, [(p0 : Nat), (p1 : Nat)])) (h0 : p0 < n) (h1 : p1 < n) (hi0 : inI (s.I (p0 : Nat)) = true) (hi1 : inI (s.I (p1 : Nat)) = true) : Calls Tryd.prog 101 #[.pointer (some ⟨g, 0, none⟩), .string ⟨#[99, 104, 107, 97, 100, 100]⟩, v] W fun e w' => e = .returned (.bool (passM s 21 [(p0 : Nat), (p1 : Nat)])) ∧ Keeps W w' [] := by
 have HW := kept h
 obtain ⟨b, off, cap, rfl, x0, x1⟩ := ints_cells2 hv
 have c3 := h.c3
 have i0 := h.int_at h0
 have i1 := h.int_at h1
 have HP := kept (show passM s 21 [(p0 : Nat), (p1 : Nat)] = (inI (s.I (p0 : Nat) + s.I (p1 : Nat))) by unfold passM; simp)
 clear h hv
 generalize hI0 : s.I (p0 : Nat) = I0 at *
 generalize hI1 : s.I (p1 : Nat) = I1 at *
 have HI0 := kept hi0
 have HI1 := kept hi1
 clear hi0 hi1
 go_enter Tryd.func101, Tryd.ntmps101
 go_wp2
 go_quiet (fail)
 go_wp2
 go_quiet (fail)
 go_wp2_with (first | (go_at_call 112; refine (reffits_0 I0 I1 _ HI0.out HI1.out).mono ?_; rintro e w3 ⟨rfl, rfl⟩))
 go_ret
 exact ⟨ret_bool (by rw [HP.out]), by repeat' (first | exact Keeps.refl _ _ | apply Keeps.drewN | apply Keeps.drew)⟩

set_option maxRecDepth 100000 in
set_option maxHeartbeats 200000000 in
theorem passes_22 (wB W : World) (g : Nat) (R : RepM) (f : FuncM) (n : Nat) (s : StM) (h : WAt wB W g R f n s) (v : Value) (p0 p1 : Nat) (hv : IntsAt W (v, [(p0 : Nat), (p1 : Nat)])) (h0 : p0 < n) (h1 : p1 < n) (hi0 : inI (s.I (p0 : Nat)) = true) (hi1 : inI (s.I (p1 : Nat)) = true) : Calls Tryd.prog 101 #[.pointer (some ⟨g, 0, none⟩), .string ⟨#[99, 104, 107, 115, 117, 98]⟩, v] W fun e w' => e = .returned (.bool (passM s 22 [(p0 : Nat), (p1 : Nat)])) ∧ Keeps W w' [] := by
 have HW := kept h
 obtain ⟨b, off, cap, rfl, x0, x1⟩ := ints_cells2 hv
 have c3 := h.c3
 have i0 := h.int_at h0
 have i1 := h.int_at h1
 have HP := kept (show passM s 22 [(p0 : Nat), (p1 : Nat)] = (inI (s.I (p0 : Nat) - s.I (p1 : Nat))) by unfold passM; simp)
 clear h hv
 generalize hI0 : s.I (p0 : Nat) = I0 at *
 generalize hI1 : s.I (p1 : Nat) = I1 at *
 have HI0 := kept hi0
 have HI1 := kept hi1
 clear hi0 hi1
 go_enter Tryd.func101, Tryd.ntmps101
 go_wp2
 go_quiet (fail)
 go_wp2
 go_quiet (fail)
 go_wp2_with (first | (go_at_call 112; refine (reffits_1 I0 I1 _ HI0.out HI1.out).mono ?_; rintro e w3 ⟨rfl, rfl⟩))
 go_ret
 exact ⟨ret_bool (by rw [HP.out]), by repeat' (first | exact Keeps.refl _ _ | apply Keeps.drewN | apply Keeps.drew)⟩

set_option maxRecDepth 100000 in
set_option maxHeartbeats 200000000 in
theorem passes_23 (wB W : World) (g : Nat) (R : RepM) (f : FuncM) (n : Nat) (s : StM) (h : WAt wB W g R f n s) (v : Value) (p0 p1 : Nat) (hv : IntsAt W (v, [(p0 : Nat), (p1 : Nat)])) (h0 : p0 < n) (h1 : p1 < n) (hi0 : inI (s.I (p0 : Nat)) = true) (hi1 : inI (s.I (p1 : Nat)) = true) : Calls Tryd.prog 101 #[.pointer (some ⟨g, 0, none⟩), .string ⟨#[99, 104, 107, 109, 117, 108]⟩, v] W fun e w' => e = .returned (.bool (passM s 23 [(p0 : Nat), (p1 : Nat)])) ∧ Keeps W w' [] := by
 have HW := kept h
 obtain ⟨b, off, cap, rfl, x0, x1⟩ := ints_cells2 hv
 have c3 := h.c3
 have i0 := h.int_at h0
 have i1 := h.int_at h1
 have HP := kept (show passM s 23 [(p0 : Nat), (p1 : Nat)] = (inI (s.I (p0 : Nat) * s.I (p1 : Nat))) by unfold passM; simp)
 clear h hv
 generalize hI0 : s.I (p0 : Nat) = I0 at *
 generalize hI1 : s.I (p1 : Nat) = I1 at *
 have HI0 := kept hi0
 have HI1 := kept hi1
 clear hi0 hi1
 go_enter Tryd.func101, Tryd.ntmps101
 go_wp2
 go_quiet (fail)
 go_wp2
 go_quiet (fail)
 go_wp2_with (first | (go_at_call 112; refine (reffits_2 I0 I1 _ HI0.out HI1.out).mono ?_; rintro e w3 ⟨rfl, rfl⟩))
 go_ret
 exact ⟨ret_bool (by rw [HP.out]), by repeat' (first | exact Keeps.refl _ _ | apply Keeps.drewN | apply Keeps.drew)⟩

set_option maxRecDepth 100000 in
set_option maxHeartbeats 200000000 in
theorem passes_24 (wB W : World) (g : Nat) (R : RepM) (f : FuncM) (n : Nat) (s : StM) (h : WAt wB W g R f n s) (v : Value) (p0 : Nat) (hv : IntsAt W (v, [(p0 : Nat)])) (h0 : p0 < n) : Calls Tryd.prog 101 #[.pointer (some ⟨g, 0, none⟩), .string ⟨#[99, 104, 107, 108, 101, 110]⟩, v] W fun e w' => e = .returned (.bool (passM s 24 [(p0 : Nat)])) ∧ Keeps W w' [] := by
 have HW := kept h
 obtain ⟨b, off, cap, rfl, x0⟩ := ints_cells1 hv
 have c3 := h.c3
 have i0 := h.int_at h0
 have HP := kept (show passM s 24 [(p0 : Nat)] = ((decide (0 ≤ s.I (p0 : Nat)) && decide (s.I (p0 : Nat) ≤ 64))) by unfold passM; simp)
 clear h hv
 generalize hI0 : s.I (p0 : Nat) = I0 at *
 go_enter Tryd.func101, Tryd.ntmps101
 go_wp2
 go_quiet (fail)
 rcases Bool.eq_false_or_eq_true (decide (0 ≤ I0)) with h9 | h9
 ·go_wp2
  go_ret
  exact ⟨ret_bool (by rw [HP.out]; simp [h9]), by repeat' (first | exact Keeps.refl _ _ | apply Keeps.drewN | apply Keeps.drew)⟩
 ·go_wp2
  go_ret
  exact ⟨ret_bool (by rw [HP.out]; simp [h9]), by repeat' (first | exact Keeps.refl _ _ | apply Keeps.drewN | apply Keeps.drew)⟩
theorem r83 (tmps : Array Value) (P : Program) (w : World) : (results Tryd.f83 tmps).run P w = .ok (.tuple #[]) w := by have h : Tryd.f83.results = #[] := (by kernel_rfl); simp [results, h]
end Go.Proofs.YtjllbchfojonhaaDoor
