/- Package typing: kind at any variable that there is, phi, and its closure; contracts. -/
import Derived.Test.YtjllbchfojonhaaGreatDoorShaped
import Derived.Test.YtjllbchfojonhaaGreatDoorAnyL
namespace Go.Proofs.YtjllbchfojonhaaGreatDoor
open Go.RowKit
set_option linter.unusedVariables false
set_option linter.unusedSimpArgs false

theorem inB_iff {v : Int} {n : Nat} : inB v n = true ↔ 0 ≤ v ∧ v < (n : Int) := by unfold inB; rw [Bool.and_eq_true, decide_eq_true_eq, decide_eq_true_eq]
theorem kindI (f : FuncM) (v : Int) (w : World) (hf : FuncAt w f) (hv : inB v f.nv = true) : Calls Tryz.prog 95 #[f.val, .int .i64 v] w fun e w' => e = .returned (.int .i64 (f.tyI v)) ∧ Keeps w w' [] := by
 rw [inB_iff] at hv
 have h := kind_any f v.toNat w hf (by omega)
 rw [show ((v.toNat : Nat) : Int) = v by omega] at h
 exact h
theorem FuncAt.opened {w : World} {f : FuncM} (h : FuncAt w f) : ∃ a0 c0 a1 c1 a2 c2, f.val = .agg #[.slice a0 f.nv c0, .slice a1 f.np c1, .slice a2 f.nb c2] ∧ #[f.vars.1, f.params.1, f.blocks.1] = #[.slice a0 f.nv c0, .slice a1 f.np c1, .slice a2 f.nb c2] := by
 obtain ⟨a0, c0, a1, c1, a2, c2, e0, e1, e2⟩ := h.shape2
 exact ⟨a0, c0, a1, c1, a2, c2, by unfold FuncM.val; rw [e0, e1, e2], by rw [e0, e1, e2]⟩

set_option maxRecDepth 100000 in
set_option maxHeartbeats 2000000 in
theorem tphiC_any (f : FuncM) (p : PhiM) (v : Int) (L M : Nat) (w : World) (hf : FuncAt w f) (hp : PhiAt w p) (hb : Boxed w L f) (hm : Blk w M 95 p.cells.toArray) (hv : inB v f.nv = true) (hd : inB p.dst f.nv = true) :
  Calls Tryz.prog 94 (#[.int .i64 v] ++ #[.pointer (some ⟨L, 0, none⟩), .pointer (some ⟨M, 0, none⟩)]) w fun e w' => e = .returned (.bool (!(f.tyI v == f.tyI p.dst))) ∧ Keeps w w' [] := by
 have CV := kept (fun w h => kindI f v w h hv)
 have CD := kept (fun w h => kindI f p.dst w h hd)
 have HF := kept hf
 obtain ⟨a0, c0, a1, c1, a2, c2, hval, h1⟩ := hf.opened
 obtain ⟨s1, d1, e3, _⟩ := IntsAt.open_ hp.1
 obtain ⟨s2, d2, e4, _⟩ := IntsAt.open_ hp.2
 unfold Boxed at hb
 rw [h1] at hb
 rw [hval] at CV CD
 simp only [PhiM.cells, e3, e4] at hm
 have Bl := kept hb
 have Bm := kept (show Blk w M 95 #[.int .i64 p.dst, .slice s1 p.args.2.length d1, .slice s2 p.froms.2.length d2] from hm)
 have HK := kept (Keeps.refl w [])
 have HX := kept (show (!(f.tyI v == f.tyI p.dst)) = (f.tyI v != f.tyI p.dst) from rfl)
 rw [HX.out]
 clear hf hp hb hm e3 e4 h1 hval HX hv hd
 generalize f.tyI v = z1 at *
 generalize f.tyI p.dst = z2 at *
 generalize f.nv = nv at *
 generalize f.np = np at *
 generalize f.nb = nb at *
 generalize p.args.2.length = na at *
 generalize p.froms.2.length = nf at *
 generalize p.dst = dst at *
 obtain ⟨l0, l1, l2⟩ := Bl.out.c3
 obtain ⟨m0, m1, m2⟩ := Bm.out.c3
 simp at l0 l1 l2 m0 m1 m2
 go_enter Tryz.func94, Tryz.ntmps94
 go_wp2_with fail
 refine wp_region_held_drew (S := (fun w' => w'.cell? ⟨L, 0, none⟩ = some (.slice a0 nv c0) ∧ w'.cell? ⟨L, 1, none⟩ = some (.slice a1 np c1) ∧ w'.cell? ⟨L, 2, none⟩ = some (.slice a2 nb c2) ∧ w'.cell? ⟨M, 0, none⟩ = some (.int .i64 dst) ∧ w'.cell? ⟨M, 1, none⟩ = some (.slice s1 na d1) ∧ w'.cell? ⟨M, 2, none⟩ = some (.slice s2 nf d2))) (by kernel_rfl) ?ahSs (fun hHeld => ?_)
 case ahSs => exact ⟨l0, l1, l2, m0, m1, m2⟩
 clear l0 l1 l2 m0 m1 m2
 replace Bl := kept (Bl.out.keep ((Keeps.refl _ []).drew) (by simp))
 replace Bm := kept (Bm.out.keep ((Keeps.refl _ []).drew) (by simp))
 replace HK := kept (HK.out.drew)
 generalize World.drew _ = X0 at *
 obtain ⟨l0, l1, l2⟩ := Bl.out.c3
 obtain ⟨m0, m1, m2⟩ := Bm.out.c3
 simp at l0 l1 l2 m0 m1 m2
 refine tl 0 ⟨some 5, .load 26 (.tmp 1), 26, "typing.go:32", #[], none⟩ rfl hHeld ?_
 refine tl 1 ⟨some 6, .move (.tmp 0), 3, "typing.go:32", #[], none⟩ rfl hHeld ?_
 refine tl 3 ⟨some 8, .load 26 (.tmp 1), 26, "typing.go:32", #[], none⟩ rfl hHeld ?_
 refine tl 4 ⟨some 9, .fieldAddr 95 (.tmp 2) 0, 0, "typing.go:32", #[], none⟩ rfl hHeld ?_
 refine tl 5 ⟨some 10, .load 3 (.tmp 9), 3, "typing.go:32", #[⟨4, .data⟩], none⟩ rfl hHeld ?_
 refine wpAnyH_ready (rs := [2]) (by kernel_rfl) (by simp) ?_
 refine AllReadyH.cons (o := ⟨some 7, .call ⟨.value (.func 95), #[.tmp 5, .tmp 6], #[26, 3]⟩, 81, "typing.go:32", #[⟨0, .data⟩, ⟨1, .data⟩], none⟩) rfl (fun K hK => ?_) AllReadyH.nil
 go_simp
 (with_reducible refine (CV.out _ (HF.out.keep HK.out)).mono ?_)
 rintro e wx ⟨rfl, k3⟩
 show K _ _
 clear hHeld
 clear l0 l1 l2 m0 m1 m2
 replace Bl := kept (Bl.out.keep k3 (by simp))
 replace Bm := kept (Bm.out.keep k3 (by simp))
 replace HK := kept (HK.out.and_then k3)
 obtain ⟨l0, l1, l2⟩ := Bl.out.c3
 obtain ⟨m0, m1, m2⟩ := Bm.out.c3
 simp at l0 l1 l2 m0 m1 m2
 clear k3
 refine hK.out _ _ ?ahS2 (fun hHeld => ?_)
 case ahS2 => exact ⟨l0, l1, l2, m0, m1, m2⟩
 clear hK K
 try simp only [Act.put, sA, sB, sC]
 refine wpAnyH_ready (rs := [6]) (by kernel_rfl) (by simp) ?_
 refine AllReadyH.cons (o := ⟨some 11, .call ⟨.value (.func 95), #[.tmp 8, .tmp 10], #[26, 3]⟩, 81, "typing.go:32", #[⟨3, .data⟩, ⟨5, .data⟩, ⟨2, .chain⟩], none⟩) rfl (fun K hK => ?_) AllReadyH.nil
 go_simp
 (with_reducible refine (CD.out _ (HF.out.keep HK.out)).mono ?_)
 rintro e wx ⟨rfl, k3⟩
 show K _ _
 clear hHeld
 clear l0 l1 l2 m0 m1 m2
 replace Bl := kept (Bl.out.keep k3 (by simp))
 replace Bm := kept (Bm.out.keep k3 (by simp))
 replace HK := kept (HK.out.and_then k3)
 obtain ⟨l0, l1, l2⟩ := Bl.out.c3
 obtain ⟨m0, m1, m2⟩ := Bm.out.c3
 simp at l0 l1 l2 m0 m1 m2
 clear k3
 refine hK.out _ _ ?ahS6 (fun hHeld => ?_)
 case ahS6 => exact ⟨l0, l1, l2, m0, m1, m2⟩
 clear hK K
 try simp only [Act.put, sA, sB, sC]
 refine tl 7 ⟨some 12, .binOp BinOp.neq 81 (.tmp 7) (.tmp 11) 81, 4, "typing.go:32", #[⟨2, .data⟩, ⟨6, .data⟩], none⟩ rfl hHeld ?_
 refine tl 8 ⟨some 4, .assign (.tmp 12), 4, "typing.go:32", #[⟨7, .data⟩, ⟨6, .chain⟩, ⟨0, .phase⟩, ⟨1, .phase⟩, ⟨2, .phase⟩, ⟨3, .phase⟩, ⟨4, .phase⟩, ⟨5, .phase⟩, ⟨6, .phase⟩, ⟨7, .phase⟩], none⟩ rfl hHeld ?_
 refine wpAnyH_done (by kernel_rfl) ?_ _
 clear hHeld
 go_wp2
 go_ret
 exact ⟨rfl, HK.out⟩

set_option maxRecDepth 100000 in
set_option maxHeartbeats 2000000 in
theorem tphi_any (f : FuncM) (p : PhiM) (w : World) (hf : FuncAt w f) (hp : PhiAt w p) (hv : ∀ a ∈ p.args.2, inB a f.nv = true) (hd : inB p.dst f.nv = true) :
  Calls Tryz.prog 55 #[f.val, .agg #[.int .i64 p.dst, p.args.1, p.froms.1]] w fun e w' => e = .returned (.bool (tphiB f p)) ∧ Keeps w w' [] := by
 have hk1 : Keeps w (w.alloc (.cells #[f.vars.1, f.params.1, f.blocks.1] 26)) [] := (Keeps.refl w []).alloc _
 have hk2 : Keeps (w.alloc (.cells #[f.vars.1, f.params.1, f.blocks.1] 26)) ((w.alloc (.cells #[f.vars.1, f.params.1, f.blocks.1] 26)).alloc (.cells p.cells.toArray 95)) [] := (Keeps.refl _ []).alloc _
 have b1 := (Boxed.new w f).keep hk2
 have b2 := Blk.new (w.alloc (.cells #[f.vars.1, f.params.1, f.blocks.1] 26)) 95 p.cells.toArray
 rw [show (w.alloc (.cells #[f.vars.1, f.params.1, f.blocks.1] 26)).heap.size = w.heap.size + 1 by show (Array.push _ _).size = _; rw [Array.size_push]] at b2
 have hk := hk1.and_then hk2
 have C := kept (any_intsL 94 #[.pointer (some ⟨w.heap.size, 0, none⟩), .pointer (some ⟨w.heap.size + 1, 0, none⟩)] (fun v => !(f.tyI v == f.tyI p.dst)) p.args _ (Row.keep hp.1 hk)
  (fun W k hlt hW => tphiC_any f p _ w.heap.size (w.heap.size + 1) W ((hf.keep hk).keep hW) ((hp.keep hk).keep hW) (b1.keep hW) (b2.keep hW (by simp)) (hv _ (bang_mem hlt)) hd) (enters_of Tryz.func94 (by kernel_rfl) rfl))
 have HX := kept (show tphiB f p = !(p.args.2.any fun v => !(f.tyI v == f.tyI p.dst)) by unfold tphiB; rw [List.all_eq_not_any_not])
 obtain ⟨a0, c0, a1, c1, a2, c2, hval, h1⟩ := hf.opened
 obtain ⟨s1, d1, e3, _⟩ := IntsAt.open_ hp.1
 obtain ⟨s2, d2, e4, _⟩ := IntsAt.open_ hp.2
 unfold Boxed at b1
 simp only [PhiM.cells, h1, e3, e4] at C b1 b2 hk
 rw [hval, e3, e4, HX.out]
 have Bl := kept b1
 have Bm := kept (show Blk _ (w.heap.size + 1) 95 #[.int .i64 p.dst, .slice s1 p.args.2.length d1, .slice s2 p.froms.2.length d2] from b2)
 have HK := kept (show Keeps w ((w.alloc (.cells #[.slice a0 f.nv c0, .slice a1 f.np c1, .slice a2 f.nb c2] 26)).alloc (.cells #[.int .i64 p.dst, .slice s1 p.args.2.length d1, .slice s2 p.froms.2.length d2] 95)) [] from hk)
 clear hk hk1 hk2 b1 b2 hf hp hv hd HX hval h1 e3 e4
 generalize (p.args.2.any fun v => !(f.tyI v == f.tyI p.dst)) = X at *
 generalize f.nv = nv at *
 generalize f.np = np at *
 generalize f.nb = nb at *
 generalize p.args.2.length = na at *
 generalize p.froms.2.length = nf at *
 generalize p.dst = dst at *
 obtain ⟨l0, l1, l2⟩ := Bl.out.c3
 obtain ⟨m0, m1, m2⟩ := Bm.out.c3
 simp at l0 l1 l2 m0 m1 m2
 go_enter Tryz.func55, Tryz.ntmps55
 go_wp2_with (refine (C.out).mono ?_; rintro e w3 ⟨rfl, k3⟩; have K3 := kept k3; clear k3)
 go_ret
 exact ⟨rfl, HK.out.and_then K3.out⟩
end Go.Proofs.YtjllbchfojonhaaGreatDoor
