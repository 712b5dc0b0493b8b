/- The document's Typed, of a shaped program; contract. -/
import Derived.Test.YtjllbchfojonhaaGreatDoorRefShA
import Derived.Test.YtjllbchfojonhaaGreatDoorTY
import Derived.Deep.CutBlock
import Derived.Deep.Cut
import Derived.Deep.CutRange
namespace Go.Proofs.YtjllbchfojonhaaGreatDoor
open Go.RowKit
set_option linter.unusedVariables false
set_option linter.unusedSimpArgs false
theorem ofI (f : FuncM) (v : Int) (w : World) (hf : FuncAt w f) (hv : inB v f.nv = true) : Calls Tryz.prog 77 #[f.val, .int .i64 v] w fun e w' => e = .returned (.int .i64 (f.tyI v)) ∧ Keeps w w' [] := by
 rw [inB_iff] at hv
 have h := of_any f v.toNat w hf (by omega)
 rw [show ((v.toNat : Nat) : Int) = v by omega] at h
 exact h
theorem kword1 : ∀ k : Nat, k < 27 → ((kword k).toList == [99, 111, 112, 121]) = decide (k = 1) := by
 intro k hk
 rw [ByteArray.toList_eq]
 revert hk k
 decide +kernel
theorem takes_at (k j : Nat) (h : j < (ktakes k).size) : tsign (((ktakes k)[j]'h).toNat : Int) = tkT (k : Int) j := by
 have h' : j < (ktakes k).data.toList.length := by rw [Array.length_toList]; exact h
 unfold tkT
 rw [show ((k : Int).toNat) = k from rfl, getElem!_pos _ j h']
 rfl
theorem makes_at (k : Nat) (h : 0 < (kmakes k).size) : tsign (((kmakes k)[0]'h).toNat : Int) = mkT (k : Int) := by
 have h' : 0 < (kmakes k).data.toList.length := by rw [Array.length_toList]; exact h
 unfold mkT
 rw [show ((k : Int).toNat) = k from rfl, getElem!_pos _ 0 h']
 rfl
theorem makes_pos (k : Nat) (h : mk1 (k : Int) = true) : 0 < (kmakes k).size := by
 unfold mk1 at h
 rw [show ((k : Int).toNat) = k from rfl] at h
 rcases Nat.eq_zero_or_pos (kmakes k).size with e | e
 ·rw [e] at h; cases h
 ·exact e
theorem inst_parts {f : FuncM} {x : InstM} (h : instB f x = true) : (0 ≤ x.op ∧ x.op < 27) ∧ x.args.2.length = ntk x.op ∧ (∀ a ∈ x.args.2, inB a f.nv = true) ∧ (mk1 x.op = true → inB x.dst f.nv = true) := by
 unfold instB at h
 simp only [Bool.and_eq_true, decide_eq_true_eq, beq_iff_eq, List.all_eq_true] at h
 obtain ⟨⟨⟨⟨⟨h0, h27⟩, hl⟩, ha⟩, hd⟩, _⟩ := h
 exact ⟨⟨h0, h27⟩, hl, ha, fun hm => by rw [if_pos hm] at hd; exact hd⟩
theorem term_var {f : FuncM} {k v a b : Int} (h : termB f k v a b = true) (h0 : ¬ k = 0) : inB v f.nv = true := by
 unfold termB at h
 rw [if_neg h0] at h
 split at h
 ·simp only [Bool.and_eq_true] at h; exact h.1.1
 ·split at h
  ·simp only [Bool.and_eq_true] at h; exact h.1
  ·cases h
theorem term_two {f : FuncM} {k v a b : Int} (h : termB f k v a b = true) (h0 : ¬ k = 0) (h1 : ¬ k = 1) : k = 2 := by
 unfold termB at h
 rw [if_neg h0, if_neg h1] at h
 split at h
 ·assumption
 ·cases h
theorem nameWorld {a b : World} (k : Keeps a b []) : ∃ W : World, W = b := ⟨b, rfl⟩
theorem tb_no1 {f : FuncM} {k : Nat} (hk : k < f.nb) (h : tblockB f f.blocks.2[k]! = false) : typedB f = false := all_no (p := tblockB f) hk h
theorem tb_no2 {f : FuncM} {y : BlockM} {j : Nat} (hj : j < y.phis.2.length) (h : tphiB f y.phis.2[j]! = false) : tblockB f y = false := by unfold tblockB; rw [all_no hj h]; rfl
theorem tb_no3 {f : FuncM} {y : BlockM} {j : Nat} (hj : j < y.insts.2.length) (h : tinstB f y.insts.2[j]! = false) : tblockB f y = false := by unfold tblockB; rw [all_no hj h]; simp
theorem tb_no4 {f : FuncM} {y : BlockM} (h : ttermB f y = false) : tblockB f y = false := by unfold tblockB; rw [h]; simp
theorem tb_yes {f : FuncM} {y : BlockM} (h1 : ∀ j, j < y.phis.2.length → tphiB f y.phis.2[j]! = true) (h2 : ∀ j, j < y.insts.2.length → tinstB f y.insts.2[j]! = true) (h3 : ttermB f y = true) : tblockB f y = true := by
 unfold tblockB; rw [all_yes h1, all_yes h2, h3]; rfl
theorem tp_no {f : FuncM} {p : PhiM} {i : Nat} (hi : i < p.args.2.length) (h : (f.tyI p.args.2[i]! == f.tyI p.dst) = false) : tphiB f p = false := all_no (p := fun a => f.tyI a == f.tyI p.dst) hi h
theorem tp_yes {f : FuncM} {p : PhiM} (h : ∀ i, i < p.args.2.length → (f.tyI p.args.2[i]! == f.tyI p.dst) = true) : tphiB f p = true := all_yes (p := fun a => f.tyI a == f.tyI p.dst) h
theorem ti_no1 {f : FuncM} {x : InstM} {i : Nat} (hx : instB f x = true) (hi : i < x.args.2.length) (h : (f.tyI x.args.2[i]! == if x.op = 1 then f.tyI x.dst else tkT x.op i) = false) : tinstB f x = false := by
 rw [← tinst_eq f x hx]; unfold refTinstB; rw [allR_no hi h]; rfl
theorem ti_no2 {f : FuncM} {x : InstM} (hx : instB f x = true) (h : (mk1 x.op && !(x.op == 1) && !(f.tyI x.dst == mkT x.op)) = true) : tinstB f x = false := by
 rw [← tinst_eq f x hx]; unfold refTinstB; rw [h]; simp
theorem ti_yes {f : FuncM} {x : InstM} (hx : instB f x = true) (h1 : ∀ i, i < x.args.2.length → (f.tyI x.args.2[i]! == if x.op = 1 then f.tyI x.dst else tkT x.op i) = true) (h : (mk1 x.op && !(x.op == 1) && !(f.tyI x.dst == mkT x.op)) = false) : tinstB f x = true := by
 rw [← tinst_eq f x hx]; unfold refTinstB; rw [allR_yes h1, h]; rfl
set_option maxRecDepth 100000 in
set_option maxHeartbeats 200000000 in
theorem refTyped_any (f : FuncM) (w : World) (hf : FuncAt w f) (hS : shapedB f = true) (hfew : FewP f) : Calls Tryz.prog 47 #[f.val] w fun e w' => e = .returned (.bool (typedB f)) ∧ Keeps w w' [] := by
 obtain ⟨a0, c0, a1, c1, a2, c2, e0, e1, e2, hval, h1, HF, HC0, HC1, HC2, HNV, HNP, HNB⟩ := fopen hf
 have HFB := kept hfew.block
 have HSh := kept (shaped_blocks hS)
 have hnbF := hfew.nb
 have CO := kept (fun v W h1 h2 => ofI f v W h1 h2)
 rw [hval] at CO ⊢
 clear e0 e1 e2 hval h1 hf hfew hS
 generalize hRB : typedB f = RB at *
 have HRB := kept hRB
 clear hRB
 obtain ⟨HK, Bl⟩ := fbox w 26 #[.slice a0 f.nv c0, .slice a1 f.np c1, .slice a2 f.nb c2]
 obtain ⟨l0, l1, l2⟩ := Bl.out.c3
 simp at l0 l1 l2
 go_enter Tryz.func47, Tryz.ntmps47
 go_wp2
 clear l0 l1 l2
 generalize (w.alloc (.cells #[.slice a0 f.nv c0, .slice a1 f.np c1, .slice a2 f.nb c2] 26)) = W0 at *
 have Bl_W0 := Bl
 have TW0 := HK
 clear HK
 have HK := kept (Keeps.refl W0 [])
 obtain ⟨l0, l1, l2⟩ := Bl.out.c3
 simp at l0 l1 l2
 go_loopw [18] (fun i wr => ∃ k : Nat, k ≤ f.nb ∧ i = .int .i64 k ∧ Keeps W0 wr [] ∧ Hid (∀ j, j < k → tblockB f f.blocks.2[j]! = true)) (fun i _ => f.nb - (intOf i).toNat)
 case atStart => exact ⟨0, Nat.zero_le _, rfl, HK.out, fun j hj => absurd hj (Nat.not_lt_zero _)⟩
 case round =>
  obtain ⟨k, hk, rfl, hr, A⟩ := hrel
  obtain ⟨wb, hwb⟩ : ∃ wb : World, wb = wr := ⟨_, rfl⟩
  subst hwb
  clear l0 l1 l2
  clear Bl HK
  have HK := kept hr
  have Bl := kept (Bl_W0.out.keep hr (by simp))
  clear hr
  obtain ⟨l0, l1, l2⟩ := Bl.out.c3
  simp at l0 l1 l2
  by_cases hlt : k < f.nb
  ·have hltz : (k : Int) < (f.nb : Int) := by omega
   obtain ⟨bb, off, rfl, hbl, hcell⟩ := HC2.out k (by rw [HNB.out]; exact hlt)
   have n0 := (TW0.out.and_then HK.out).cellOf (hcell 0 _ rfl)
   have n1 := (TW0.out.and_then HK.out).cellOf (hcell 1 _ rfl)
   have n2 := (TW0.out.and_then HK.out).cellOf (hcell 2 _ rfl)
   have n3 := (TW0.out.and_then HK.out).cellOf (hcell 3 _ rfl)
   have n4 := (TW0.out.and_then HK.out).cellOf (hcell 4 _ rfl)
   have n5 := (TW0.out.and_then HK.out).cellOf (hcell 5 _ rfl)
   have n6 := (TW0.out.and_then HK.out).cellOf (hcell 6 _ rfl)
   simp only [Nat.add_zero] at n0
   have hyb := (HF.out.keep (TW0.out.and_then HK.out)).block _ (bang_mem (l := f.blocks.2) (k := k) (by rw [HNB.out]; exact hlt))
   have hfb := HFB.out _ (bang_mem (l := f.blocks.2) (k := k) (by rw [HNB.out]; exact hlt))
   have hsh := HSh.out _ (bang_mem (l := f.blocks.2) (k := k) (by rw [HNB.out]; exact hlt))
   clear hcell
   generalize hy : f.blocks.2[k]! = y at *
   have HY := kept hy
   clear hy
   have HSP := kept hsh.1
   have HSI := kept hsh.2.1
   have HST := kept hsh.2.2
   clear hsh
   obtain ⟨pa, pc, pe, -, -, hpc⟩ := hyb.phis.open_
   obtain ⟨qa, qc, qe, -, -, hqc⟩ := hyb.insts.open_
   have HYB := kept hyb
   rw [pe] at n1
   rw [qe] at n2
   have HPC := kept hpc
   have HQC := kept hqc
   clear hyb pe qe hpc hqc
   generalize hPN : y.phis.2.length = pn at *
   generalize hQN : y.insts.2.length = qn at *
   have HPN := kept hPN
   have HQN := kept hQN
   clear hPN hQN
   have hfb1 := hfb.1
   have hfb2 := hfb.2
   clear hfb
   generalize hyn : y.name = yn at *
   have Hyn := kept hyn
   clear hyn
   generalize hyk : y.kind = yk at *
   have Hyk := kept hyk
   clear hyk
   generalize hyv : y.var = yv at *
   have Hyv := kept hyv
   clear hyv
   generalize hy0 : y.to0 = y0 at *
   have Hy0 := kept hy0
   clear hy0
   generalize hy1 : y.to1 = y1 at *
   have Hy1 := kept hy1
   clear hy1
   clear l0 l1 l2
   have bmx := Blk.new wb 38 #[.string yn, .slice pa pn pc, .slice qa qn qc, .int .i64 yk, .int .i64 yv, .int .i64 y0, .int .i64 y1]
   have k3 : Keeps wb (wb.alloc (.cells #[.string yn, .slice pa pn pc, .slice qa qn qc, .int .i64 yk, .int .i64 yv, .int .i64 y0, .int .i64 y1] 38)) [] := (Keeps.refl wb []).alloc _
   replace Bl := kept (Bl.out.keep k3 (by simp))
   replace HK := kept (HK.out.and_then k3)
   clear k3
   have Bm := kept bmx
   clear bmx
   obtain ⟨l0, l1, l2⟩ := Bl.out.c3
   obtain ⟨m0, m1, m2, m3, m4, m5, m6⟩ := Bm.out.c7
   simp at l0 l1 l2 m0 m1 m2 m3 m4 m5 m6
   go_wp2
   clear n0 n1 n2 n3 n4 n5 n6
   have KB : Hid (Keeps wb (wb.alloc (.cells #[.string yn, .slice pa pn pc, .slice qa qn qc, .int .i64 yk, .int .i64 yv, .int .i64 y0, .int .i64 y1] 38)) []) := (Keeps.refl wb []).alloc _
   clear l0 l1 l2 m0 m1 m2 m3 m4 m5 m6
   generalize wb.alloc (.cells #[.string yn, .slice pa pn pc, .slice qa qn qc, .int .i64 yk, .int .i64 yv, .int .i64 y0, .int .i64 y1] 38) = WB at *
   have Bl_WB := Bl
   have Bm_WB := Bm
   have TWB := HK
   clear HK
   have HK := kept (Keeps.refl WB [])
   obtain ⟨l0, l1, l2⟩ := Bl.out.c3
   obtain ⟨m0, m1, m2, m3, m4, m5, m6⟩ := Bm.out.c7
   simp at l0 l1 l2 m0 m1 m2 m3 m4 m5 m6
   go_loopw [25] (fun i wr => ∃ j : Nat, j ≤ pn ∧ i = .int .i64 j ∧ Keeps WB wr [] ∧ Hid (∀ q, q < j → tphiB f y.phis.2[q]! = true)) (fun i _ => pn - (intOf i).toNat)
   case atStart => exact ⟨0, Nat.zero_le _, rfl, Keeps.refl _ _, fun j hj => absurd hj (Nat.not_lt_zero _)⟩
   case round =>
    obtain ⟨j, hj, rfl, hr, A3⟩ := hrel
    obtain ⟨wd, hwd⟩ : ∃ wd : World, wd = wr := ⟨_, rfl⟩
    subst hwd
    clear l0 l1 l2 m0 m1 m2 m3 m4 m5 m6
    clear Bl Bm HK
    have HK := kept hr
    have Bl := kept (Bl_WB.out.keep hr (by simp))
    have Bm := kept (Bm_WB.out.keep hr (by simp))
    clear hr
    obtain ⟨l0, l1, l2⟩ := Bl.out.c3
    obtain ⟨m0, m1, m2, m3, m4, m5, m6⟩ := Bm.out.c7
    simp at l0 l1 l2 m0 m1 m2 m3 m4 m5 m6
    by_cases hltj : j < pn
    ·have hltjz : (j : Int) < (pn : Int) := by omega
     obtain ⟨pb, po, rfl, hpb, hpcell⟩ := HPC.out j hltj
     have n0 := (KB.out.and_then HK.out).cellOf (hpcell 0 _ rfl)
     have n1 := (KB.out.and_then HK.out).cellOf (hpcell 1 _ rfl)
     have n2 := (KB.out.and_then HK.out).cellOf (hpcell 2 _ rfl)
     simp only [Nat.add_zero] at n0
     have hpa := (HYB.out.phi _ (bang_mem (l := y.phis.2) (k := j) (by rw [HPN.out]; exact hltj))).keep (KB.out.and_then HK.out)
     have hps := phiB_args (HSP.out _ (bang_mem (l := y.phis.2) (k := j) (by rw [HPN.out]; exact hltj)))
     clear hpcell
     generalize hp : y.phis.2[j]! = p at *
     have HP := kept hp
     clear hp
     obtain ⟨ua, va1, e1, hle1, hm1, hz1⟩ := IntsAt.open_ hpa.1
     have hpaL : p.args.2.length ≤ 9223372036854775807 := by unfold maxLen at hm1; omega
     obtain ⟨ub, va2, e2, -, -, -⟩ := IntsAt.open_ hpa.2
     rw [e1] at n1
     rw [e2] at n2
     have HZ1 := kept hz1
     have HPS := kept hps
     clear e1 e2 hpa hz1 hps
     generalize hPA : p.args.2.length = pna at *
     generalize p.froms.2.length = pnf at *
     have HPA := kept hPA
     clear hPA
     have CD := kept (fun W h => CO.out p.dst W h HPS.out.2)
     generalize hdd : p.dst = pdst at *
     have HDD := kept hdd
     clear hdd
     generalize htd : f.tyI pdst = td at *
     have HTD := kept htd
     clear htd
     clear l0 l1 l2 m0 m1 m2 m3 m4 m5 m6
     have bmx := Blk.new wd 95 #[.int .i64 pdst, .slice ua pna va1, .slice ub pnf va2]
     have k3 : Keeps wd (wd.alloc (.cells #[.int .i64 pdst, .slice ua pna va1, .slice ub pnf va2] 95)) [] := (Keeps.refl wd []).alloc _
     replace Bl := kept (Bl.out.keep k3 (by simp))
     replace Bm := kept (Bm.out.keep k3 (by simp))
     replace HK := kept (HK.out.and_then k3)
     clear k3
     have Bq := kept bmx
     clear bmx
     obtain ⟨l0, l1, l2⟩ := Bl.out.c3
     obtain ⟨m0, m1, m2, m3, m4, m5, m6⟩ := Bm.out.c7
     obtain ⟨q0, q1, q2⟩ := Bq.out.c3
     simp at l0 l1 l2 m0 m1 m2 m3 m4 m5 m6 q0 q1 q2
     go_wp2
     clear n0 n1 n2
     have TPW : Hid (Keeps wd (wd.alloc (.cells #[.int .i64 pdst, .slice ua pna va1, .slice ub pnf va2] 95)) []) := (Keeps.refl wd []).alloc _
     clear l0 l1 l2 m0 m1 m2 m3 m4 m5 m6 q0 q1 q2
     generalize wd.alloc (.cells #[.int .i64 pdst, .slice ua pna va1, .slice ub pnf va2] 95) = WP at *
     have Bl_WP := Bl
     have Bm_WP := Bm
     have Bq_WP := Bq
     have TWP := HK
     clear HK
     have HK := kept (Keeps.refl WP [])
     obtain ⟨l0, l1, l2⟩ := Bl.out.c3
     obtain ⟨m0, m1, m2, m3, m4, m5, m6⟩ := Bm.out.c7
     obtain ⟨q0, q1, q2⟩ := Bq.out.c3
     simp at l0 l1 l2 m0 m1 m2 m3 m4 m5 m6 q0 q1 q2
     go_loopw [32] (fun i wr => ∃ i2 : Nat, i2 ≤ pna ∧ i = .int .i64 i2 ∧ Keeps WP wr [] ∧ Hid (∀ q, q < i2 → (f.tyI p.args.2[q]! == td) = true)) (fun i _ => pna - (intOf i).toNat)
     case atStart => exact ⟨0, Nat.zero_le _, rfl, Keeps.refl _ _, fun j hj => absurd hj (Nat.not_lt_zero _)⟩
     case round =>
      obtain ⟨i2, hi2, rfl, hr, A4⟩ := hrel
      clear l0 l1 l2 m0 m1 m2 m3 m4 m5 m6 q0 q1 q2
      clear Bl Bm Bq HK
      have HK := kept hr
      have Bl := kept (Bl_WP.out.keep hr (by simp))
      have Bm := kept (Bm_WP.out.keep hr (by simp))
      have Bq := kept (Bq_WP.out.keep hr (by simp))
      clear hr
      obtain ⟨l0, l1, l2⟩ := Bl.out.c3
      obtain ⟨m0, m1, m2, m3, m4, m5, m6⟩ := Bm.out.c7
      obtain ⟨q0, q1, q2⟩ := Bq.out.c3
      simp at l0 l1 l2 m0 m1 m2 m3 m4 m5 m6 q0 q1 q2
      by_cases hlt2 : i2 < pna
      ·have hlt2z : (i2 : Int) < (pna : Int) := by omega
       rcases HZ1.out with hz | ⟨ra, ro, rfl, -, hra⟩
       ·omega
       have o0 := (TPW.out.and_then HK.out).cellOf (hra i2 hlt2)
       clear hra
       have C4 := kept (fun W h => CO.out p.args.2[i2]! W h (HPS.out.1 _ (bang_mem (by rw [HPA.out]; exact hlt2))))
       generalize hza : p.args.2[i2]! = za at *
       have HZA := kept hza
       clear hza
       generalize hta : f.tyI za = ta at *
       have HTA := kept hta
       clear hta
       have hne : (ta != td) = !(ta == td) := rfl
       cases hq : (ta == td) with
       | false =>
        rw [hq] at hne
        go_wp2_with fail
        refine wp_region_held_drew (S := (fun w' => w'.cell? ⟨w.heap.size, 0, none⟩ = some (.slice a0 f.nv c0) ∧ w'.cell? ⟨w.heap.size, 1, none⟩ = some (.slice a1 f.np c1) ∧ w'.cell? ⟨w.heap.size, 2, none⟩ = some (.slice (some ⟨bb, off, none⟩) f.nb c2) ∧ w'.cell? ⟨wb.heap.size, 0, none⟩ = some (.string yn) ∧ w'.cell? ⟨wb.heap.size, 1, none⟩ = some (.slice (some ⟨pb, po, none⟩) pn pc) ∧ w'.cell? ⟨wb.heap.size, 2, none⟩ = some (.slice qa qn qc) ∧ w'.cell? ⟨wb.heap.size, 3, none⟩ = some (.int .i64 yk) ∧ w'.cell? ⟨wb.heap.size, 4, none⟩ = some (.int .i64 yv) ∧ w'.cell? ⟨wb.heap.size, 5, none⟩ = some (.int .i64 y0) ∧ w'.cell? ⟨wb.heap.size, 6, none⟩ = some (.int .i64 y1) ∧ w'.cell? ⟨wd.heap.size, 0, none⟩ = some (.int .i64 pdst) ∧ w'.cell? ⟨wd.heap.size, 1, none⟩ = some (.slice (some ⟨ra, ro, none⟩) pna va1) ∧ w'.cell? ⟨wd.heap.size, 2, none⟩ = some (.slice ub pnf va2))) (by kernel_rfl) ?pahSs (fun hHeld => ?_)
        case pahSs => exact ⟨l0, l1, l2, m0, m1, m2, m3, m4, m5, m6, q0, q1, q2⟩
        clear l0 l1 l2 m0 m1 m2 m3 m4 m5 m6 q0 q1 q2
        replace Bl := kept (Bl.out.keep ((Keeps.refl _ []).drew) (by simp))
        replace Bm := kept (Bm.out.keep ((Keeps.refl _ []).drew) (by simp))
        replace Bq := kept (Bq.out.keep ((Keeps.refl _ []).drew) (by simp))
        replace HK := kept (HK.out.drew)
        generalize World.drew _ = X0 at *
        obtain ⟨l0, l1, l2⟩ := Bl.out.c3
        obtain ⟨m0, m1, m2, m3, m4, m5, m6⟩ := Bm.out.c7
        obtain ⟨q0, q1, q2⟩ := Bq.out.c3
        simp at l0 l1 l2 m0 m1 m2 m3 m4 m5 m6 q0 q1 q2
        refine tp 0 36 rfl hHeld ?_
        refine tp 1 37 rfl hHeld ?_
        refine tp 3 39 rfl hHeld ?_
        refine tp 4 40 rfl hHeld ?_
        refine tp 5 41 rfl hHeld ?_
        refine wpAnyH_ready (rs := [2]) (by kernel_rfl) (by simp) ?_
        refine AllReadyH.cons rfl (fun K hK => ?_) AllReadyH.nil
        go_simp
        (with_reducible refine (C4.out _ (HF.out.keep (TW0.out.and_then (TWB.out.and_then (TWP.out.and_then HK.out))))).mono ?_)
        rintro e wx ⟨rfl, k3⟩
        show K _ _
        clear hHeld
        clear l0 l1 l2 m0 m1 m2 m3 m4 m5 m6 q0 q1 q2
        replace Bl := kept (Bl.out.keep k3 (by simp))
        replace Bm := kept (Bm.out.keep k3 (by simp))
        replace Bq := kept (Bq.out.keep k3 (by simp))
        replace HK := kept (HK.out.and_then k3)
        obtain ⟨l0, l1, l2⟩ := Bl.out.c3
        obtain ⟨m0, m1, m2, m3, m4, m5, m6⟩ := Bm.out.c7
        obtain ⟨q0, q1, q2⟩ := Bq.out.c3
        simp at l0 l1 l2 m0 m1 m2 m3 m4 m5 m6 q0 q1 q2
        clear k3
        refine hK.out _ _ ?pahS2 (fun hHeld => ?_)
        case pahS2 => exact ⟨l0, l1, l2, m0, m1, m2, m3, m4, m5, m6, q0, q1, q2⟩
        clear hK K
        try simp only [Act.put, sA, sB, sC]
        refine wpAnyH_ready (rs := [6]) (by kernel_rfl) (by simp) ?_
        refine AllReadyH.cons rfl (fun K hK => ?_) AllReadyH.nil
        go_simp
        (with_reducible refine (CD.out _ (HF.out.keep (TW0.out.and_then (TWB.out.and_then (TWP.out.and_then HK.out))))).mono ?_)
        rintro e wx ⟨rfl, k3⟩
        show K _ _
        clear hHeld
        clear l0 l1 l2 m0 m1 m2 m3 m4 m5 m6 q0 q1 q2
        replace Bl := kept (Bl.out.keep k3 (by simp))
        replace Bm := kept (Bm.out.keep k3 (by simp))
        replace Bq := kept (Bq.out.keep k3 (by simp))
        replace HK := kept (HK.out.and_then k3)
        obtain ⟨l0, l1, l2⟩ := Bl.out.c3
        obtain ⟨m0, m1, m2, m3, m4, m5, m6⟩ := Bm.out.c7
        obtain ⟨q0, q1, q2⟩ := Bq.out.c3
        simp at l0 l1 l2 m0 m1 m2 m3 m4 m5 m6 q0 q1 q2
        clear k3
        refine hK.out _ _ ?pahS6 (fun hHeld => ?_)
        case pahS6 => exact ⟨l0, l1, l2, m0, m1, m2, m3, m4, m5, m6, q0, q1, q2⟩
        clear hK K
        try simp only [Act.put, sA, sB, sC]
        refine tp 7 43 rfl hHeld ?_
        refine wpAnyH_done (by kernel_rfl) ?_ _
        clear hHeld
        go_wp2
        go_ret
        exact ⟨ret_bool (by rw [← HRB.out]; exact (tb_no1 hlt (by rw [HY.out]; exact (tb_no2 (by rw [HPN.out]; exact hltj) (by rw [HP.out]; exact tp_no (i := i2) (by rw [HPA.out]; exact hlt2) (by rw [HZA.out, HTA.out, HDD.out, HTD.out]; exact hq))))).symm), (TW0.out.and_then (TWB.out.and_then (TWP.out.and_then HK.out)))⟩
       | true =>
        rw [hq] at hne
        go_wp2_with fail
        refine wp_region_held_drew (S := (fun w' => w'.cell? ⟨w.heap.size, 0, none⟩ = some (.slice a0 f.nv c0) ∧ w'.cell? ⟨w.heap.size, 1, none⟩ = some (.slice a1 f.np c1) ∧ w'.cell? ⟨w.heap.size, 2, none⟩ = some (.slice (some ⟨bb, off, none⟩) f.nb c2) ∧ w'.cell? ⟨wb.heap.size, 0, none⟩ = some (.string yn) ∧ w'.cell? ⟨wb.heap.size, 1, none⟩ = some (.slice (some ⟨pb, po, none⟩) pn pc) ∧ w'.cell? ⟨wb.heap.size, 2, none⟩ = some (.slice qa qn qc) ∧ w'.cell? ⟨wb.heap.size, 3, none⟩ = some (.int .i64 yk) ∧ w'.cell? ⟨wb.heap.size, 4, none⟩ = some (.int .i64 yv) ∧ w'.cell? ⟨wb.heap.size, 5, none⟩ = some (.int .i64 y0) ∧ w'.cell? ⟨wb.heap.size, 6, none⟩ = some (.int .i64 y1) ∧ w'.cell? ⟨wd.heap.size, 0, none⟩ = some (.int .i64 pdst) ∧ w'.cell? ⟨wd.heap.size, 1, none⟩ = some (.slice (some ⟨ra, ro, none⟩) pna va1) ∧ w'.cell? ⟨wd.heap.size, 2, none⟩ = some (.slice ub pnf va2))) (by kernel_rfl) ?pbhSs (fun hHeld => ?_)
        case pbhSs => exact ⟨l0, l1, l2, m0, m1, m2, m3, m4, m5, m6, q0, q1, q2⟩
        clear l0 l1 l2 m0 m1 m2 m3 m4 m5 m6 q0 q1 q2
        replace Bl := kept (Bl.out.keep ((Keeps.refl _ []).drew) (by simp))
        replace Bm := kept (Bm.out.keep ((Keeps.refl _ []).drew) (by simp))
        replace Bq := kept (Bq.out.keep ((Keeps.refl _ []).drew) (by simp))
        replace HK := kept (HK.out.drew)
        generalize World.drew _ = X0 at *
        obtain ⟨l0, l1, l2⟩ := Bl.out.c3
        obtain ⟨m0, m1, m2, m3, m4, m5, m6⟩ := Bm.out.c7
        obtain ⟨q0, q1, q2⟩ := Bq.out.c3
        simp at l0 l1 l2 m0 m1 m2 m3 m4 m5 m6 q0 q1 q2
        refine tp 0 36 rfl hHeld ?_
        refine tp 1 37 rfl hHeld ?_
        refine tp 3 39 rfl hHeld ?_
        refine tp 4 40 rfl hHeld ?_
        refine tp 5 41 rfl hHeld ?_
        refine wpAnyH_ready (rs := [2]) (by kernel_rfl) (by simp) ?_
        refine AllReadyH.cons rfl (fun K hK => ?_) AllReadyH.nil
        go_simp
        (with_reducible refine (C4.out _ (HF.out.keep (TW0.out.and_then (TWB.out.and_then (TWP.out.and_then HK.out))))).mono ?_)
        rintro e wx ⟨rfl, k3⟩
        show K _ _
        clear hHeld
        clear l0 l1 l2 m0 m1 m2 m3 m4 m5 m6 q0 q1 q2
        replace Bl := kept (Bl.out.keep k3 (by simp))
        replace Bm := kept (Bm.out.keep k3 (by simp))
        replace Bq := kept (Bq.out.keep k3 (by simp))
        replace HK := kept (HK.out.and_then k3)
        obtain ⟨l0, l1, l2⟩ := Bl.out.c3
        obtain ⟨m0, m1, m2, m3, m4, m5, m6⟩ := Bm.out.c7
        obtain ⟨q0, q1, q2⟩ := Bq.out.c3
        simp at l0 l1 l2 m0 m1 m2 m3 m4 m5 m6 q0 q1 q2
        clear k3
        refine hK.out _ _ ?pbhS2 (fun hHeld => ?_)
        case pbhS2 => exact ⟨l0, l1, l2, m0, m1, m2, m3, m4, m5, m6, q0, q1, q2⟩
        clear hK K
        try simp only [Act.put, sA, sB, sC]
        refine wpAnyH_ready (rs := [6]) (by kernel_rfl) (by simp) ?_
        refine AllReadyH.cons rfl (fun K hK => ?_) AllReadyH.nil
        go_simp
        (with_reducible refine (CD.out _ (HF.out.keep (TW0.out.and_then (TWB.out.and_then (TWP.out.and_then HK.out))))).mono ?_)
        rintro e wx ⟨rfl, k3⟩
        show K _ _
        clear hHeld
        clear l0 l1 l2 m0 m1 m2 m3 m4 m5 m6 q0 q1 q2
        replace Bl := kept (Bl.out.keep k3 (by simp))
        replace Bm := kept (Bm.out.keep k3 (by simp))
        replace Bq := kept (Bq.out.keep k3 (by simp))
        replace HK := kept (HK.out.and_then k3)
        obtain ⟨l0, l1, l2⟩ := Bl.out.c3
        obtain ⟨m0, m1, m2, m3, m4, m5, m6⟩ := Bm.out.c7
        obtain ⟨q0, q1, q2⟩ := Bq.out.c3
        simp at l0 l1 l2 m0 m1 m2 m3 m4 m5 m6 q0 q1 q2
        clear k3
        refine hK.out _ _ ?pbhS6 (fun hHeld => ?_)
        case pbhS6 => exact ⟨l0, l1, l2, m0, m1, m2, m3, m4, m5, m6, q0, q1, q2⟩
        clear hK K
        try simp only [Act.put, sA, sB, sC]
        refine tp 7 43 rfl hHeld ?_
        refine wpAnyH_done (by kernel_rfl) ?_ _
        clear hHeld
        go_wp2
        go_roundw
        case rel =>
         refine ⟨i2 + 1, by omega, by go_num, HK.out, (show Hid _ from fun q hq2 => ?_)⟩
         by_cases e : q = i2
         ·subst e; rw [HZA.out, HTA.out]; exact hq
         ·exact A4.out q (by omega)
        case measure => simp [intOf]; omega
      ·have hlt2z : ¬ (i2 : Int) < (pna : Int) := by omega
       obtain rfl : pna = i2 := by omega
       go_wp2
       go_roundw
       case rel =>
        refine ⟨j + 1, by omega, by go_num, (TWP.out.and_then HK.out), (show Hid _ from fun q hq2 => ?_)⟩
        by_cases e : q = j
        ·subst e; rw [HP.out]; exact tp_yes (fun j hj => by rw [HDD.out, HTD.out]; exact A4.out j (by rw [← HPA.out]; exact hj))
        ·exact A3.out q (by omega)
       case measure => simp [intOf]; omega
    ·have hltjz : ¬ (j : Int) < (pn : Int) := by omega
     obtain rfl : pn = j := by omega
     have P6 := A3
     go_wp2
     clear A3 hltjz hltj hj
     go_loopw [49] (fun i wr => ∃ j : Nat, j ≤ qn ∧ i = .int .i64 j ∧ Keeps WB wr [] ∧ Hid (∀ q, q < j → tinstB f y.insts.2[q]! = true)) (fun i _ => qn - (intOf i).toNat)
     case atStart => exact ⟨0, Nat.zero_le _, rfl, HK.out, fun j hj => absurd hj (Nat.not_lt_zero _)⟩
     case round =>
      obtain ⟨j, hj, rfl, hr, A3⟩ := hrel
      obtain ⟨we, hwe⟩ : ∃ we : World, we = wr := ⟨_, rfl⟩
      subst hwe
      clear l0 l1 l2 m0 m1 m2 m3 m4 m5 m6
      clear Bl Bm HK
      have HK := kept hr
      have Bl := kept (Bl_WB.out.keep hr (by simp))
      have Bm := kept (Bm_WB.out.keep hr (by simp))
      clear hr
      obtain ⟨l0, l1, l2⟩ := Bl.out.c3
      obtain ⟨m0, m1, m2, m3, m4, m5, m6⟩ := Bm.out.c7
      simp at l0 l1 l2 m0 m1 m2 m3 m4 m5 m6
      by_cases hltj : j < qn
      ·have hltjz : (j : Int) < (qn : Int) := by omega
       obtain ⟨pb, po, rfl, hpb, hpcell⟩ := HQC.out j hltj
       have n0 := (KB.out.and_then HK.out).cellOf (hpcell 0 _ rfl)
       have n1 := (KB.out.and_then HK.out).cellOf (hpcell 1 _ rfl)
       have n2 := (KB.out.and_then HK.out).cellOf (hpcell 2 _ rfl)
       have n3 := (KB.out.and_then HK.out).cellOf (hpcell 3 _ rfl)
       simp only [Nat.add_zero] at n0
       have hpa := Row.keep (HYB.out.inst _ (bang_mem (l := y.insts.2) (k := j) (by rw [HQN.out]; exact hltj))) (KB.out.and_then HK.out)
       have hps := HSI.out _ (bang_mem (l := y.insts.2) (k := j) (by rw [HQN.out]; exact hltj))
       clear hpcell
       generalize hp : y.insts.2[j]! = p at *
       have HP := kept hp
       clear hp
       have HPI := kept hps
       obtain ⟨hop, hln, hin, hdi⟩ := inst_parts hps
       have HIN := kept hin
       have HDI := kept hdi
       clear hps hin hdi
       obtain ⟨ua, va1, e1, -, -, hz1⟩ := IntsAt.open_ hpa
       rw [e1] at n2
       have HZ1 := kept hz1
       clear e1 hpa hz1
       obtain ⟨kk, hkk⟩ : ∃ kk : Nat, p.op = (kk : Int) := ⟨p.op.toNat, by omega⟩
       have HPO := kept hkk
       rw [hkk] at hop hln n0
       clear hkk
       have hkk : kk < 27 := by omega
       have hkkI : (kk : Int) < 27 := by omega
       have hkk0 : (0 : Int) ≤ (kk : Int) := by omega
       rw [show ntk (kk : Int) = (ktakes kk).size from rfl] at hln
       have hnaB : (ktakes kk).size ≤ 100 := (takes_small kk hkk).1
       rw [hln] at n2 HZ1
       have HPA := kept hln
       clear hln
       have CD0 := kept (fun v W h1 h2 => CO.out v W h1 h2)
       generalize hdd : p.dst = pdst at *
       have HDD := kept hdd
       clear hdd
       generalize p.num = pnum at *
       clear l0 l1 l2 m0 m1 m2 m3 m4 m5 m6
       have bmx := Blk.new we 43 #[.int .i64 (kk : Int), .int .i64 pdst, .slice ua (ktakes kk).size va1, .int .i64 pnum]
       have k3 : Keeps we (we.alloc (.cells #[.int .i64 (kk : Int), .int .i64 pdst, .slice ua (ktakes kk).size va1, .int .i64 pnum] 43)) [] := (Keeps.refl we []).alloc _
       replace Bl := kept (Bl.out.keep k3 (by simp))
       replace Bm := kept (Bm.out.keep k3 (by simp))
       replace HK := kept (HK.out.and_then k3)
       clear k3
       have Bq := kept bmx
       clear bmx
       obtain ⟨l0, l1, l2⟩ := Bl.out.c3
       obtain ⟨m0, m1, m2, m3, m4, m5, m6⟩ := Bm.out.c7
       obtain ⟨q0, q1, q2, q3⟩ := Bq.out.c4
       simp at l0 l1 l2 m0 m1 m2 m3 m4 m5 m6 q0 q1 q2 q3
       have CRW := kept (fun w => rows_at kk hkk w)
       have TPW0 : Hid (Keeps we (we.alloc (.cells #[.int .i64 (kk : Int), .int .i64 pdst, .slice ua (ktakes kk).size va1, .int .i64 pnum] 43)) []) := (Keeps.refl we []).alloc _
       go_wp2_with fail
       clear n0 n1 n2 n3
       clear l0 l1 l2 m0 m1 m2 m3 m4 m5 m6 q0 q1 q2 q3
       generalize we.alloc (.cells #[.int .i64 (kk : Int), .int .i64 pdst, .slice ua (ktakes kk).size va1, .int .i64 pnum] 43) = WQ at *
       have Bl_WQ := Bl
       have Bm_WQ := Bm
       have Bq_WQ := Bq
       have TWQ := HK
       clear HK
       have HK := kept (Keeps.refl WQ [])
       obtain ⟨l0, l1, l2⟩ := Bl.out.c3
       obtain ⟨m0, m1, m2, m3, m4, m5, m6⟩ := Bm.out.c7
       obtain ⟨q0, q1, q2, q3⟩ := Bq.out.c4
       simp at l0 l1 l2 m0 m1 m2 m3 m4 m5 m6 q0 q1 q2 q3
       go_upto_region 17 with (fail)
       go_cut [11] from 53 to 57 (fun t19 wx => ∃ rb : Nat, t19 = .pointer (some ⟨rb, 0, none⟩) ∧ Keeps WQ wx [] ∧ Blk wx rb 110 #[.string (kword kk), .string (ktakes kk), .string (kmakes kk)])
       case first =>
        refine wp_region_held_drew (S := (fun w' => w'.cell? ⟨we.heap.size, 0, none⟩ = some (.int .i64 (kk : Int)))) (by kernel_rfl) ?zhSs (fun hHeld => ?_)
        case zhSs => exact q0
        clear l0 l1 l2 m0 m1 m2 m3 m4 m5 m6 q0 q1 q2 q3
        have KX := kept ((Keeps.refl WQ []).drew)
        generalize World.drew _ = X0 at *
        have q0 := (Bq.out.keep KX.out (by simp)).cell 0
        simp at q0
        refine tp 1 54 rfl hHeld ?_
        refine tp 2 55 rfl hHeld ?_
        refine wpAnyH_ready (rs := [0, 5]) (by kernel_rfl) (by simp) ?_
        refine AllReadyH.cons rfl (fun K hK => ?_) ?_
        ·clear hHeld
         go_simp
         (with_reducible refine (CRW.out _).mono ?_)
         rintro e X3 ⟨g, rfl, k3, hr0, hr1, hr2⟩
         show K _ _
         have KXx := kept (KX.out.and_then k3)
         have RR := kept (And.intro hr0 (And.intro hr1 hr2))
         clear k3 hr0 hr1 hr2 KX q0
         have KX := KXx
         clear KXx
         have q0 := (Bq.out.keep KX.out (by simp)).cell 0
         simp at q0
         refine hK.out _ _ ?z3S (fun hHeld => ?_)
         case z3S => exact q0
         clear hK K
         try simp only [Act.put, sA, sB, sC]
         refine tp 3 56 rfl hHeld ?_
         refine wpAnyH_ready (rs := [4, 5]) (by kernel_rfl) (by simp) ?_
         refine AllReadyH.cons rfl (fun K hK => ?_) ?_
         ·clear hHeld
          obtain ⟨r0, r1, r2⟩ := RR.out
          go_simp
          clear r0 r1 r2
          refine hK.out _ _ ?z5S (fun hHeld => ?_)
          case z5S => exact q0
          clear hK K
          try simp only [Act.put, sA, sB, sC]
          refine wpAnyH_ready (rs := [5]) (by kernel_rfl) (by simp) ?_
          refine AllReadyH.cons rfl (fun K hK => ?_) ?_
          ·clear hHeld
           go_simp
           have k3 : Keeps X3 (X3.alloc (.cells #[.string ⟨#[]⟩, .string ⟨#[]⟩, .string ⟨#[]⟩] 110)) [] := (Keeps.refl X3 []).alloc _
           have BRx := kept (Blk.new X3 110 #[.string ⟨#[]⟩, .string ⟨#[]⟩, .string ⟨#[]⟩])
           have HGE := kept KX.out.size
           have KXx := kept (KX.out.and_then k3)
           have RRx := kept (And.intro (k3.cellOf RR.out.1) (And.intro (k3.cellOf RR.out.2.1) (k3.cellOf RR.out.2.2)))
           clear RR
           have RR := RRx
           clear RRx
           clear k3 KX q0
           generalize X3.alloc (.cells #[.string ⟨#[]⟩, .string ⟨#[]⟩, .string ⟨#[]⟩] 110) = X6 at *
           generalize X3.heap.size = rb at *
           have KX := KXx
           have BR := BRx
           clear BRx
           clear KXx
           have q0 := (Bq.out.keep KX.out (by simp)).cell 0
           simp at q0
           refine hK.out _ _ ?z6S (fun hHeld => ?_)
           case z6S => exact q0
           clear hK K
           try simp only [Act.put, sA, sB, sC]
           refine wpAnyH_ready (rs := [6]) (by kernel_rfl) (by simp) ?_
           refine AllReadyH.cons rfl (fun K hK => ?_) ?_
           ·clear hHeld
            have b0 := BR.out.cell 0
            have f0 := BR.out.frozen 0
            have b1 := BR.out.cell 1
            have f1 := BR.out.frozen 1
            have b2 := BR.out.cell 2
            have f2 := BR.out.frozen 2
            simp at b0 b1 b2
            go_simp
            have BRx := kept (blk_three (a := .string (kword kk)) (b := .string (ktakes kk)) (c := .string (kmakes kk)) BR.out)
            have KXx := kept (keeps_three (a := .string (kword kk)) (b := .string (ktakes kk)) (c := .string (kmakes kk)) KX.out HGE.out)
            clear b0 b1 b2 f0 f1 f2 KX BR RR q0
            generalize (((X6.setCell ⟨rb, 0, none⟩ (.string (kword kk))).setCell ⟨rb, 1, none⟩ (.string (ktakes kk))).setCell ⟨rb, 2, none⟩ (.string (kmakes kk))) = X7 at *
            have KX := KXx
            have BR := BRx
            clear BRx
            clear KXx
            have q0 := (Bq.out.keep KX.out (by simp)).cell 0
            simp at q0
            refine hK.out _ _ ?z7S (fun hHeld => ?_)
            case z7S => exact q0
            clear hK K
            try simp only [Act.put, sA, sB, sC]
            refine wpAnyH_done (by kernel_rfl) ?_ _
            go_wp2
            go_meet
            exact ⟨_, rfl, KX.out, BR.out⟩
           exact t4
          exact t4
         refine AllReadyH.cons rfl (fun K hK => ?_) ?_
         ·clear hHeld
          go_simp
          have k3 : Keeps X3 (X3.alloc (.cells #[.string ⟨#[]⟩, .string ⟨#[]⟩, .string ⟨#[]⟩] 110)) [] := (Keeps.refl X3 []).alloc _
          have BRx := kept (Blk.new X3 110 #[.string ⟨#[]⟩, .string ⟨#[]⟩, .string ⟨#[]⟩])
          have HGE := kept KX.out.size
          have KXx := kept (KX.out.and_then k3)
          have RRx := kept (And.intro (k3.cellOf RR.out.1) (And.intro (k3.cellOf RR.out.2.1) (k3.cellOf RR.out.2.2)))
          clear RR
          have RR := RRx
          clear RRx
          clear k3 KX q0
          generalize X3.alloc (.cells #[.string ⟨#[]⟩, .string ⟨#[]⟩, .string ⟨#[]⟩] 110) = X8 at *
          generalize X3.heap.size = rb at *
          have KX := KXx
          have BR := BRx
          clear BRx
          clear KXx
          have q0 := (Bq.out.keep KX.out (by simp)).cell 0
          simp at q0
          refine hK.out _ _ ?z8S (fun hHeld => ?_)
          case z8S => exact q0
          clear hK K
          try simp only [Act.put, sA, sB, sC]
          refine wpAnyH_ready (rs := [4]) (by kernel_rfl) (by simp) ?_
          refine AllReadyH.cons rfl (fun K hK => ?_) ?_
          ·clear hHeld
           obtain ⟨r0, r1, r2⟩ := RR.out
           go_simp
           clear r0 r1 r2
           refine hK.out _ _ ?z9S (fun hHeld => ?_)
           case z9S => exact q0
           clear hK K
           try simp only [Act.put, sA, sB, sC]
           refine wpAnyH_ready (rs := [6]) (by kernel_rfl) (by simp) ?_
           refine AllReadyH.cons rfl (fun K hK => ?_) ?_
           ·clear hHeld
            have b0 := BR.out.cell 0
            have f0 := BR.out.frozen 0
            have b1 := BR.out.cell 1
            have f1 := BR.out.frozen 1
            have b2 := BR.out.cell 2
            have f2 := BR.out.frozen 2
            simp at b0 b1 b2
            go_simp
            have BRx := kept (blk_three (a := .string (kword kk)) (b := .string (ktakes kk)) (c := .string (kmakes kk)) BR.out)
            have KXx := kept (keeps_three (a := .string (kword kk)) (b := .string (ktakes kk)) (c := .string (kmakes kk)) KX.out HGE.out)
            clear b0 b1 b2 f0 f1 f2 KX BR RR q0
            generalize (((X8.setCell ⟨rb, 0, none⟩ (.string (kword kk))).setCell ⟨rb, 1, none⟩ (.string (ktakes kk))).setCell ⟨rb, 2, none⟩ (.string (kmakes kk))) = X10 at *
            have KX := KXx
            have BR := BRx
            clear BRx
            clear KXx
            have q0 := (Bq.out.keep KX.out (by simp)).cell 0
            simp at q0
            refine hK.out _ _ ?z10S (fun hHeld => ?_)
            case z10S => exact q0
            clear hK K
            try simp only [Act.put, sA, sB, sC]
            refine wpAnyH_done (by kernel_rfl) ?_ _
            go_wp2
            go_meet
            exact ⟨_, rfl, KX.out, BR.out⟩
           exact t4
          exact t4
         exact t4
        refine AllReadyH.cons rfl (fun K hK => ?_) ?_
        ·clear hHeld
         go_simp
         have k3 : Keeps X0 (X0.alloc (.cells #[.string ⟨#[]⟩, .string ⟨#[]⟩, .string ⟨#[]⟩] 110)) [] := (Keeps.refl X0 []).alloc _
         have BRx := kept (Blk.new X0 110 #[.string ⟨#[]⟩, .string ⟨#[]⟩, .string ⟨#[]⟩])
         have HGE := kept KX.out.size
         have KXx := kept (KX.out.and_then k3)
         clear k3 KX q0
         generalize X0.alloc (.cells #[.string ⟨#[]⟩, .string ⟨#[]⟩, .string ⟨#[]⟩] 110) = X11 at *
         generalize X0.heap.size = rb at *
         have KX := KXx
         have BR := BRx
         clear BRx
         clear KXx
         have q0 := (Bq.out.keep KX.out (by simp)).cell 0
         simp at q0
         refine hK.out _ _ ?z11S (fun hHeld => ?_)
         case z11S => exact q0
         clear hK K
         try simp only [Act.put, sA, sB, sC]
         refine wpAnyH_ready (rs := [0]) (by kernel_rfl) (by simp) ?_
         refine AllReadyH.cons rfl (fun K hK => ?_) ?_
         ·clear hHeld
          go_simp
          (with_reducible refine (CRW.out _).mono ?_)
          rintro e X12 ⟨g, rfl, k3, hr0, hr1, hr2⟩
          show K _ _
          have KXx := kept (KX.out.and_then k3)
          have BRx := kept (BR.out.keep k3 (by simp))
          have RR := kept (And.intro hr0 (And.intro hr1 hr2))
          clear k3 hr0 hr1 hr2 KX q0 BR
          have KX := KXx
          have BR := BRx
          clear BRx
          clear KXx
          have q0 := (Bq.out.keep KX.out (by simp)).cell 0
          simp at q0
          refine hK.out _ _ ?z12S (fun hHeld => ?_)
          case z12S => exact q0
          clear hK K
          try simp only [Act.put, sA, sB, sC]
          refine tp 3 56 rfl hHeld ?_
          refine wpAnyH_ready (rs := [4]) (by kernel_rfl) (by simp) ?_
          refine AllReadyH.cons rfl (fun K hK => ?_) ?_
          ·clear hHeld
           obtain ⟨r0, r1, r2⟩ := RR.out
           go_simp
           clear r0 r1 r2
           refine hK.out _ _ ?z14S (fun hHeld => ?_)
           case z14S => exact q0
           clear hK K
           try simp only [Act.put, sA, sB, sC]
           refine wpAnyH_ready (rs := [6]) (by kernel_rfl) (by simp) ?_
           refine AllReadyH.cons rfl (fun K hK => ?_) ?_
           ·clear hHeld
            have b0 := BR.out.cell 0
            have f0 := BR.out.frozen 0
            have b1 := BR.out.cell 1
            have f1 := BR.out.frozen 1
            have b2 := BR.out.cell 2
            have f2 := BR.out.frozen 2
            simp at b0 b1 b2
            go_simp
            have BRx := kept (blk_three (a := .string (kword kk)) (b := .string (ktakes kk)) (c := .string (kmakes kk)) BR.out)
            have KXx := kept (keeps_three (a := .string (kword kk)) (b := .string (ktakes kk)) (c := .string (kmakes kk)) KX.out HGE.out)
            clear b0 b1 b2 f0 f1 f2 KX BR RR q0
            generalize (((X12.setCell ⟨rb, 0, none⟩ (.string (kword kk))).setCell ⟨rb, 1, none⟩ (.string (ktakes kk))).setCell ⟨rb, 2, none⟩ (.string (kmakes kk))) = X15 at *
            have KX := KXx
            have BR := BRx
            clear BRx
            clear KXx
            have q0 := (Bq.out.keep KX.out (by simp)).cell 0
            simp at q0
            refine hK.out _ _ ?z15S (fun hHeld => ?_)
            case z15S => exact q0
            clear hK K
            try simp only [Act.put, sA, sB, sC]
            refine wpAnyH_done (by kernel_rfl) ?_ _
            go_wp2
            go_meet
            exact ⟨_, rfl, KX.out, BR.out⟩
           exact t4
          exact t4
         exact t4
        exact t4
       case rest =>
        obtain ⟨rb, rfl, k3, hbr⟩ := hcut
        clear l0 l1 l2 m0 m1 m2 m3 m4 m5 m6 q0 q1 q2 q3
        replace Bl := kept (Bl.out.keep k3 (by simp))
        replace Bm := kept (Bm.out.keep k3 (by simp))
        replace Bq := kept (Bq.out.keep k3 (by simp))
        replace HK := kept (HK.out.and_then k3)
        obtain ⟨l0, l1, l2⟩ := Bl.out.c3
        obtain ⟨m0, m1, m2, m3, m4, m5, m6⟩ := Bm.out.c7
        obtain ⟨q0, q1, q2, q3⟩ := Bq.out.c4
        simp at l0 l1 l2 m0 m1 m2 m3 m4 m5 m6 q0 q1 q2 q3
        clear k3
        have Br := kept hbr
        clear hbr
        obtain ⟨r0, r1, r2⟩ := Br.out.c3
        simp at r0 r1 r2
        have hkw := kword1 kk hkk
        have hkm := kmakes0 kk hkk
        have HTA := kept (fun j h => takes_at kk j h)
        have HMP := kept (fun h => makes_pos kk h)
        have HMA := kept (fun h => makes_at kk h)
        generalize hwd : kword kk = wd' at *
        generalize htk : ktakes kk = tk' at *
        generalize hmk : kmakes kk = mk' at *
        clear hwd htk hmk
        generalize hMK : mk1 (kk : Int) = MK at *
        have HMK := kept hMK
        clear hMK
        generalize hE1 : decide (kk = 1) = K1 at *
        have HE1 := kept hE1
        clear hE1
        have HC1 := kept (show ∀ i : Nat, (if p.op = 1 then f.tyI p.dst else tkT p.op i) = if K1 = true then f.tyI pdst else tkT (kk : Int) i from fun i => by
         rw [HPO.out, HDD.out]
         by_cases h1 : kk = 1
         ·rw [if_pos (by omega), if_pos (by rw [← HE1.out, decide_eq_true h1])]
         ·rw [if_neg (by omega), if_neg (by rw [← HE1.out, decide_eq_false h1]; decide)])
        have HC2 := kept (show (mk1 p.op && !(p.op == 1) && !(f.tyI p.dst == mkT p.op)) = (MK && !K1 && !(f.tyI pdst == mkT (kk : Int))) by
         rw [HPO.out, HDD.out, HMK.out, show ((kk : Int) == 1) = K1 by rw [← HE1.out, Bool.eq_iff_iff]; simp; try omega])
        have HKR := HK
        obtain ⟨WR, hWR⟩ := nameWorld HKR.out
        subst hWR
        clear l0 l1 l2 m0 m1 m2 m3 m4 m5 m6 q0 q1 q2 q3 r0 r1 r2
        have Bl_WR := Bl
        have Bm_WR := Bm
        have Bq_WR := Bq
        have Br_WR := Br
        have TWR := HK
        clear HK
        have HK := kept (Keeps.refl WR [])
        obtain ⟨l0, l1, l2⟩ := Bl.out.c3
        obtain ⟨m0, m1, m2, m3, m4, m5, m6⟩ := Bm.out.c7
        obtain ⟨q0, q1, q2, q3⟩ := Bq.out.c4
        obtain ⟨r0, r1, r2⟩ := Br.out.c3
        simp at l0 l1 l2 m0 m1 m2 m3 m4 m5 m6 q0 q1 q2 q3 r0 r1 r2
        cases K1 with
        | true =>
         have HIF := kept (show ∀ i : Nat, (if p.op = 1 then f.tyI p.dst else tkT p.op i) = f.tyI pdst from fun i => by rw [HC1.out]; rfl)
         go_wp2
         go_loopw [61] (fun i wr => ∃ i2 : Nat, i2 ≤ tk'.size ∧ i = .int .i64 i2 ∧ Keeps WR wr [] ∧ Hid (∀ q, q < i2 → (f.tyI p.args.2[q]! == f.tyI pdst) = true)) (fun i _ => tk'.size - (intOf i).toNat)
         case atStart => exact ⟨0, Nat.zero_le _, rfl, Keeps.refl _ _, fun j hj => absurd hj (Nat.not_lt_zero _)⟩
         case round =>
          obtain ⟨i2, hi2, rfl, hr, A4⟩ := hrel
          clear l0 l1 l2 m0 m1 m2 m3 m4 m5 m6 q0 q1 q2 q3 r0 r1 r2
          clear Bl Bm Bq Br HK
          have HK := kept hr
          have Bl := kept (Bl_WR.out.keep hr (by simp))
          have Bm := kept (Bm_WR.out.keep hr (by simp))
          have Bq := kept (Bq_WR.out.keep hr (by simp))
          have Br := kept (Br_WR.out.keep hr (by simp))
          clear hr
          obtain ⟨l0, l1, l2⟩ := Bl.out.c3
          obtain ⟨m0, m1, m2, m3, m4, m5, m6⟩ := Bm.out.c7
          obtain ⟨q0, q1, q2, q3⟩ := Bq.out.c4
          obtain ⟨r0, r1, r2⟩ := Br.out.c3
          simp at l0 l1 l2 m0 m1 m2 m3 m4 m5 m6 q0 q1 q2 q3 r0 r1 r2
          by_cases hlt2 : i2 < tk'.size
          ·have hlt2z : (i2 : Int) < (tk'.size : Int) := by omega
           rcases HZ1.out with hz | ⟨ra, ro, rfl, -, hra⟩
           ·omega
           have N0 := kept (TPW0.out.cellOf (hra i2 hlt2))
           clear hra
           have hmemA := HIN.out _ (bang_mem (l := p.args.2) (k := i2) (by rw [HPA.out]; exact hlt2))
           have C4 := kept (fun W h => CO.out p.args.2[i2]! W h hmemA)
           clear hmemA
           generalize hza : p.args.2[i2]! = za at *
           have HZA := kept hza
           clear hza
           generalize hta : f.tyI za = ta at *
           have HTAa := kept hta
           clear hta
           have o0 := (TWR.out.and_then HK.out).cellOf N0.out
           have CDD := kept (fun W h => CO.out pdst W h (by exact HDI.out (by rw [HPO.out, show kk = 1 by simpa using HE1.out]; decide +kernel)))
           generalize htd : f.tyI pdst = td at *
           have CTy := kept (fun w => reftype_any ((tk'[i2]'hlt2).toNat : Int) w)
           have HTD := kept htd
           clear htd
           have hne : (ta != td) = !(ta == td) := rfl
           cases hq : (ta == td) with
           | false =>
            rw [hq] at hne
            go_wp2_with (first | (go_at_call 78; refine (CTy.out _).mono ?_; rintro e w3 ⟨rfl, rfl⟩) | (go_at_call 77; refine (CDD.out _ (HF.out.keep (TW0.out.and_then (TWB.out.and_then (TWQ.out.and_then (TWR.out.and_then HK.out)))))).mono ?_; rintro e w6 ⟨rfl, k3⟩; clear l0 l1 l2 m0 m1 m2 m3 m4 m5 m6 q0 q1 q2 q3 r0 r1 r2 o0; replace Bl := kept (Bl.out.keep k3 (by simp)); replace Bm := kept (Bm.out.keep k3 (by simp)); replace Bq := kept (Bq.out.keep k3 (by simp)); replace Br := kept (Br.out.keep k3 (by simp)); replace HK := kept (HK.out.and_then k3); obtain ⟨l0, l1, l2⟩ := Bl.out.c3; obtain ⟨m0, m1, m2, m3, m4, m5, m6⟩ := Bm.out.c7; obtain ⟨q0, q1, q2, q3⟩ := Bq.out.c4; obtain ⟨r0, r1, r2⟩ := Br.out.c3; simp at l0 l1 l2 m0 m1 m2 m3 m4 m5 m6 q0 q1 q2 q3 r0 r1 r2; have o0 := (TWR.out.and_then HK.out).cellOf N0.out; clear k3) | fail)
            refine wp_region_held_drew (S := (fun w' => w'.cell? ⟨w.heap.size, 0, none⟩ = some (.slice a0 f.nv c0) ∧ w'.cell? ⟨w.heap.size, 1, none⟩ = some (.slice a1 f.np c1) ∧ w'.cell? ⟨w.heap.size, 2, none⟩ = some (.slice (some ⟨bb, off, none⟩) f.nb c2) ∧ w'.cell? ⟨wb.heap.size, 0, none⟩ = some (.string yn) ∧ w'.cell? ⟨wb.heap.size, 1, none⟩ = some (.slice pa pn pc) ∧ w'.cell? ⟨wb.heap.size, 2, none⟩ = some (.slice (some ⟨pb, po, none⟩) qn qc) ∧ w'.cell? ⟨wb.heap.size, 3, none⟩ = some (.int .i64 yk) ∧ w'.cell? ⟨wb.heap.size, 4, none⟩ = some (.int .i64 yv) ∧ w'.cell? ⟨wb.heap.size, 5, none⟩ = some (.int .i64 y0) ∧ w'.cell? ⟨wb.heap.size, 6, none⟩ = some (.int .i64 y1) ∧ w'.cell? ⟨we.heap.size, 0, none⟩ = some (.int .i64 (kk : Int)) ∧ w'.cell? ⟨we.heap.size, 1, none⟩ = some (.int .i64 pdst) ∧ w'.cell? ⟨we.heap.size, 2, none⟩ = some (.slice (some ⟨ra, ro, none⟩) tk'.size va1) ∧ w'.cell? ⟨we.heap.size, 3, none⟩ = some (.int .i64 pnum) ∧ w'.cell? ⟨rb, 0, none⟩ = some (.string wd') ∧ w'.cell? ⟨rb, 1, none⟩ = some (.string tk') ∧ w'.cell? ⟨rb, 2, none⟩ = some (.string mk') ∧ w'.cell? ⟨ra, ro + i2, none⟩ = some (.int .i64 za))) (by kernel_rfl) ?ia1hSs (fun hHeld => ?_)
            case ia1hSs => exact ⟨l0, l1, l2, m0, m1, m2, m3, m4, m5, m6, q0, q1, q2, q3, r0, r1, r2, o0⟩
            clear l0 l1 l2 m0 m1 m2 m3 m4 m5 m6 q0 q1 q2 q3 r0 r1 r2 o0
            replace Bl := kept (Bl.out.keep ((Keeps.refl _ []).drew) (by simp))
            replace Bm := kept (Bm.out.keep ((Keeps.refl _ []).drew) (by simp))
            replace Bq := kept (Bq.out.keep ((Keeps.refl _ []).drew) (by simp))
            replace Br := kept (Br.out.keep ((Keeps.refl _ []).drew) (by simp))
            replace HK := kept (HK.out.drew)
            generalize World.drew _ = X0 at *
            obtain ⟨l0, l1, l2⟩ := Bl.out.c3
            obtain ⟨m0, m1, m2, m3, m4, m5, m6⟩ := Bm.out.c7
            obtain ⟨q0, q1, q2, q3⟩ := Bq.out.c4
            obtain ⟨r0, r1, r2⟩ := Br.out.c3
            simp at l0 l1 l2 m0 m1 m2 m3 m4 m5 m6 q0 q1 q2 q3 r0 r1 r2
            have o0 := (TWR.out.and_then HK.out).cellOf N0.out
            refine tp 0 76 rfl hHeld ?_
            refine tp 1 77 rfl hHeld ?_
            refine tp 2 78 rfl hHeld ?_
            refine tp 3 79 rfl hHeld ?_
            refine tp 4 80 rfl hHeld ?_
            refine tp 5 81 rfl hHeld ?_
            refine tp 7 83 rfl hHeld ?_
            refine wpAnyH_ready (rs := [6]) (by kernel_rfl) (by simp) ?_
            refine AllReadyH.cons rfl (fun K hK => ?_) AllReadyH.nil
            go_simp
            (with_reducible refine (C4.out _ (HF.out.keep (TW0.out.and_then (TWB.out.and_then (TWQ.out.and_then (TWR.out.and_then HK.out)))))).mono ?_)
            rintro e wx ⟨rfl, k3⟩
            show K _ _
            clear hHeld
            clear l0 l1 l2 m0 m1 m2 m3 m4 m5 m6 q0 q1 q2 q3 r0 r1 r2 o0
            replace Bl := kept (Bl.out.keep k3 (by simp))
            replace Bm := kept (Bm.out.keep k3 (by simp))
            replace Bq := kept (Bq.out.keep k3 (by simp))
            replace Br := kept (Br.out.keep k3 (by simp))
            replace HK := kept (HK.out.and_then k3)
            obtain ⟨l0, l1, l2⟩ := Bl.out.c3
            obtain ⟨m0, m1, m2, m3, m4, m5, m6⟩ := Bm.out.c7
            obtain ⟨q0, q1, q2, q3⟩ := Bq.out.c4
            obtain ⟨r0, r1, r2⟩ := Br.out.c3
            simp at l0 l1 l2 m0 m1 m2 m3 m4 m5 m6 q0 q1 q2 q3 r0 r1 r2
            have o0 := (TWR.out.and_then HK.out).cellOf N0.out
            clear k3
            refine hK.out _ _ ?ia1hS6 (fun hHeld => ?_)
            case ia1hS6 => exact ⟨l0, l1, l2, m0, m1, m2, m3, m4, m5, m6, q0, q1, q2, q3, r0, r1, r2, o0⟩
            clear hK K
            try simp only [Act.put, sA, sB, sC]
            refine tp 8 84 rfl hHeld ?_
            refine wpAnyH_done (by kernel_rfl) ?_ _
            clear hHeld
            go_wp2
            go_ret
            exact ⟨ret_bool (by rw [← HRB.out]; exact (tb_no1 hlt (by rw [HY.out]; exact (tb_no3 (by rw [HQN.out]; exact hltj) (by rw [HP.out]; exact ti_no1 (i := i2) HPI.out (by rw [HPA.out]; exact hlt2) (by rw [HZA.out, HIF.out, HTAa.out]; exact hq))))).symm), (TW0.out.and_then (TWB.out.and_then (TWQ.out.and_then (TWR.out.and_then HK.out))))⟩
           | true =>
            rw [hq] at hne
            go_wp2_with (first | (go_at_call 78; refine (CTy.out _).mono ?_; rintro e w3 ⟨rfl, rfl⟩) | (go_at_call 77; refine (CDD.out _ (HF.out.keep (TW0.out.and_then (TWB.out.and_then (TWQ.out.and_then (TWR.out.and_then HK.out)))))).mono ?_; rintro e w6 ⟨rfl, k3⟩; clear l0 l1 l2 m0 m1 m2 m3 m4 m5 m6 q0 q1 q2 q3 r0 r1 r2 o0; replace Bl := kept (Bl.out.keep k3 (by simp)); replace Bm := kept (Bm.out.keep k3 (by simp)); replace Bq := kept (Bq.out.keep k3 (by simp)); replace Br := kept (Br.out.keep k3 (by simp)); replace HK := kept (HK.out.and_then k3); obtain ⟨l0, l1, l2⟩ := Bl.out.c3; obtain ⟨m0, m1, m2, m3, m4, m5, m6⟩ := Bm.out.c7; obtain ⟨q0, q1, q2, q3⟩ := Bq.out.c4; obtain ⟨r0, r1, r2⟩ := Br.out.c3; simp at l0 l1 l2 m0 m1 m2 m3 m4 m5 m6 q0 q1 q2 q3 r0 r1 r2; have o0 := (TWR.out.and_then HK.out).cellOf N0.out; clear k3) | fail)
            refine wp_region_held_drew (S := (fun w' => w'.cell? ⟨w.heap.size, 0, none⟩ = some (.slice a0 f.nv c0) ∧ w'.cell? ⟨w.heap.size, 1, none⟩ = some (.slice a1 f.np c1) ∧ w'.cell? ⟨w.heap.size, 2, none⟩ = some (.slice (some ⟨bb, off, none⟩) f.nb c2) ∧ w'.cell? ⟨wb.heap.size, 0, none⟩ = some (.string yn) ∧ w'.cell? ⟨wb.heap.size, 1, none⟩ = some (.slice pa pn pc) ∧ w'.cell? ⟨wb.heap.size, 2, none⟩ = some (.slice (some ⟨pb, po, none⟩) qn qc) ∧ w'.cell? ⟨wb.heap.size, 3, none⟩ = some (.int .i64 yk) ∧ w'.cell? ⟨wb.heap.size, 4, none⟩ = some (.int .i64 yv) ∧ w'.cell? ⟨wb.heap.size, 5, none⟩ = some (.int .i64 y0) ∧ w'.cell? ⟨wb.heap.size, 6, none⟩ = some (.int .i64 y1) ∧ w'.cell? ⟨we.heap.size, 0, none⟩ = some (.int .i64 (kk : Int)) ∧ w'.cell? ⟨we.heap.size, 1, none⟩ = some (.int .i64 pdst) ∧ w'.cell? ⟨we.heap.size, 2, none⟩ = some (.slice (some ⟨ra, ro, none⟩) tk'.size va1) ∧ w'.cell? ⟨we.heap.size, 3, none⟩ = some (.int .i64 pnum) ∧ w'.cell? ⟨rb, 0, none⟩ = some (.string wd') ∧ w'.cell? ⟨rb, 1, none⟩ = some (.string tk') ∧ w'.cell? ⟨rb, 2, none⟩ = some (.string mk') ∧ w'.cell? ⟨ra, ro + i2, none⟩ = some (.int .i64 za))) (by kernel_rfl) ?ib1hSs (fun hHeld => ?_)
            case ib1hSs => exact ⟨l0, l1, l2, m0, m1, m2, m3, m4, m5, m6, q0, q1, q2, q3, r0, r1, r2, o0⟩
            clear l0 l1 l2 m0 m1 m2 m3 m4 m5 m6 q0 q1 q2 q3 r0 r1 r2 o0
            replace Bl := kept (Bl.out.keep ((Keeps.refl _ []).drew) (by simp))
            replace Bm := kept (Bm.out.keep ((Keeps.refl _ []).drew) (by simp))
            replace Bq := kept (Bq.out.keep ((Keeps.refl _ []).drew) (by simp))
            replace Br := kept (Br.out.keep ((Keeps.refl _ []).drew) (by simp))
            replace HK := kept (HK.out.drew)
            generalize World.drew _ = X0 at *
            obtain ⟨l0, l1, l2⟩ := Bl.out.c3
            obtain ⟨m0, m1, m2, m3, m4, m5, m6⟩ := Bm.out.c7
            obtain ⟨q0, q1, q2, q3⟩ := Bq.out.c4
            obtain ⟨r0, r1, r2⟩ := Br.out.c3
            simp at l0 l1 l2 m0 m1 m2 m3 m4 m5 m6 q0 q1 q2 q3 r0 r1 r2
            have o0 := (TWR.out.and_then HK.out).cellOf N0.out
            refine tp 0 76 rfl hHeld ?_
            refine tp 1 77 rfl hHeld ?_
            refine tp 2 78 rfl hHeld ?_
            refine tp 3 79 rfl hHeld ?_
            refine tp 4 80 rfl hHeld ?_
            refine tp 5 81 rfl hHeld ?_
            refine tp 7 83 rfl hHeld ?_
            refine wpAnyH_ready (rs := [6]) (by kernel_rfl) (by simp) ?_
            refine AllReadyH.cons rfl (fun K hK => ?_) AllReadyH.nil
            go_simp
            (with_reducible refine (C4.out _ (HF.out.keep (TW0.out.and_then (TWB.out.and_then (TWQ.out.and_then (TWR.out.and_then HK.out)))))).mono ?_)
            rintro e wx ⟨rfl, k3⟩
            show K _ _
            clear hHeld
            clear l0 l1 l2 m0 m1 m2 m3 m4 m5 m6 q0 q1 q2 q3 r0 r1 r2 o0
            replace Bl := kept (Bl.out.keep k3 (by simp))
            replace Bm := kept (Bm.out.keep k3 (by simp))
            replace Bq := kept (Bq.out.keep k3 (by simp))
            replace Br := kept (Br.out.keep k3 (by simp))
            replace HK := kept (HK.out.and_then k3)
            obtain ⟨l0, l1, l2⟩ := Bl.out.c3
            obtain ⟨m0, m1, m2, m3, m4, m5, m6⟩ := Bm.out.c7
            obtain ⟨q0, q1, q2, q3⟩ := Bq.out.c4
            obtain ⟨r0, r1, r2⟩ := Br.out.c3
            simp at l0 l1 l2 m0 m1 m2 m3 m4 m5 m6 q0 q1 q2 q3 r0 r1 r2
            have o0 := (TWR.out.and_then HK.out).cellOf N0.out
            clear k3
            refine hK.out _ _ ?ib1hS6 (fun hHeld => ?_)
            case ib1hS6 => exact ⟨l0, l1, l2, m0, m1, m2, m3, m4, m5, m6, q0, q1, q2, q3, r0, r1, r2, o0⟩
            clear hK K
            try simp only [Act.put, sA, sB, sC]
            refine tp 8 84 rfl hHeld ?_
            refine wpAnyH_done (by kernel_rfl) ?_ _
            clear hHeld
            go_wp2
            go_roundw
            case rel =>
             refine ⟨i2 + 1, by omega, by go_num, HK.out, (show Hid _ from fun q hq2 => ?_)⟩
             by_cases e : q = i2
             ·subst e; rw [HZA.out, HTAa.out]; exact hq
             ·exact A4.out q (by omega)
            case measure => simp [intOf]; omega
          ·have hlt2z : ¬ (i2 : Int) < (tk'.size : Int) := by omega
           have hi3 : i2 = tk'.size := by omega
           subst hi3
           have PA := kept (show ∀ i, i < p.args.2.length → (f.tyI p.args.2[i]! == if p.op = 1 then f.tyI p.dst else tkT p.op i) = true from fun i hi => by rw [HIF.out]; exact A4.out i (by rw [← HPA.out]; exact hi))
           cases MK with
           | false =>
            rw [Bool.not_false] at hkm
            go_wp2_with fail
            refine wp_region_held_drew (S := (fun w' => w'.cell? ⟨w.heap.size, 0, none⟩ = some (.slice a0 f.nv c0) ∧ w'.cell? ⟨w.heap.size, 1, none⟩ = some (.slice a1 f.np c1) ∧ w'.cell? ⟨w.heap.size, 2, none⟩ = some (.slice (some ⟨bb, off, none⟩) f.nb c2) ∧ w'.cell? ⟨wb.heap.size, 0, none⟩ = some (.string yn) ∧ w'.cell? ⟨wb.heap.size, 1, none⟩ = some (.slice pa pn pc) ∧ w'.cell? ⟨wb.heap.size, 2, none⟩ = some (.slice (some ⟨pb, po, none⟩) qn qc) ∧ w'.cell? ⟨wb.heap.size, 3, none⟩ = some (.int .i64 yk) ∧ w'.cell? ⟨wb.heap.size, 4, none⟩ = some (.int .i64 yv) ∧ w'.cell? ⟨wb.heap.size, 5, none⟩ = some (.int .i64 y0) ∧ w'.cell? ⟨wb.heap.size, 6, none⟩ = some (.int .i64 y1) ∧ w'.cell? ⟨we.heap.size, 0, none⟩ = some (.int .i64 (kk : Int)) ∧ w'.cell? ⟨we.heap.size, 1, none⟩ = some (.int .i64 pdst) ∧ w'.cell? ⟨we.heap.size, 2, none⟩ = some (.slice ua tk'.size va1) ∧ w'.cell? ⟨we.heap.size, 3, none⟩ = some (.int .i64 pnum) ∧ w'.cell? ⟨rb, 0, none⟩ = some (.string wd') ∧ w'.cell? ⟨rb, 1, none⟩ = some (.string tk') ∧ w'.cell? ⟨rb, 2, none⟩ = some (.string mk'))) (by kernel_rfl) ?ma1hSs (fun hHeld => ?_)
            case ma1hSs => exact ⟨l0, l1, l2, m0, m1, m2, m3, m4, m5, m6, q0, q1, q2, q3, r0, r1, r2⟩
            clear l0 l1 l2 m0 m1 m2 m3 m4 m5 m6 q0 q1 q2 q3 r0 r1 r2
            replace Bl := kept (Bl.out.keep ((Keeps.refl _ []).drew) (by simp))
            replace Bm := kept (Bm.out.keep ((Keeps.refl _ []).drew) (by simp))
            replace Bq := kept (Bq.out.keep ((Keeps.refl _ []).drew) (by simp))
            replace Br := kept (Br.out.keep ((Keeps.refl _ []).drew) (by simp))
            replace HK := kept (HK.out.drew)
            generalize World.drew _ = X0 at *
            obtain ⟨l0, l1, l2⟩ := Bl.out.c3
            obtain ⟨m0, m1, m2, m3, m4, m5, m6⟩ := Bm.out.c7
            obtain ⟨q0, q1, q2, q3⟩ := Bq.out.c4
            obtain ⟨r0, r1, r2⟩ := Br.out.c3
            simp at l0 l1 l2 m0 m1 m2 m3 m4 m5 m6 q0 q1 q2 q3 r0 r1 r2
            refine tp 0 86 rfl hHeld ?_
            refine tp 1 87 rfl hHeld ?_
            refine tp 2 88 rfl hHeld ?_
            refine tp 3 89 rfl hHeld ?_
            refine tu 4 ⟨some 90, .fieldAddr 110 (.tmp 11) 0, _, _, _, _⟩ rfl hHeld ?_
            refine tu 5 ⟨some 91, .load 9 (.tmp 90), _, _, _, _⟩ rfl hHeld ?_
            refine tu 6 ⟨some 92, .binOp BinOp.neq 9 (.tmp 91) (.const (Value.string { data := #[99, 111, 112, 121] })) 9, _, _, _, _⟩ rfl hHeld ?_
            refine tp 7 93 rfl hHeld ?_
            refine tp 8 94 rfl hHeld ?_
            refine tu 9 ⟨some 95, .load 26 (.tmp 1), _, _, _, _⟩ rfl hHeld ?_
            refine tu 10 ⟨some 96, .fieldAddr 43 (.tmp 10) 1, _, _, _, _⟩ rfl hHeld ?_
            refine tu 11 ⟨some 97, .load 3 (.tmp 96), _, _, _, _⟩ rfl hHeld ?_
            refine tu 12 ⟨some 98, .call ⟨.value (.func 77), #[.tmp 95, .tmp 97], #[26, 3]⟩, _, _, _, _⟩ rfl hHeld ?_
            refine tu 13 ⟨some 99, .fieldAddr 110 (.tmp 11) 2, _, _, _, _⟩ rfl hHeld ?_
            refine tu 14 ⟨some 100, .load 9 (.tmp 99), _, _, _, _⟩ rfl hHeld ?_
            refine tu 15 ⟨some 101, .index 9 (.tmp 100) (.const (Value.int IntKind.i64 0)), _, _, _, _⟩ rfl hHeld ?_
            refine tu 16 ⟨some 102, .call ⟨.value (.func 78), #[.tmp 101], #[5]⟩, _, _, _, _⟩ rfl hHeld ?_
            refine tu 17 ⟨some 103, .binOp BinOp.neq 3 (.tmp 98) (.tmp 102) 3, _, _, _, _⟩ rfl hHeld ?_
            refine tp 18 104 rfl hHeld ?_
            refine wpAnyH_done (by kernel_rfl) ?_ _
            clear hHeld
            go_wp2
            go_roundw
            case rel =>
             refine ⟨j + 1, by omega, by go_num, (TWQ.out.and_then (TWR.out.and_then HK.out)), (show Hid _ from fun q hq2 => ?_)⟩
             by_cases e : q = j
             ·subst e; rw [HP.out]; exact ti_yes HPI.out PA.out (by rw [HC2.out]; rfl)
             ·exact A3.out q (by omega)
            case measure => simp [intOf]; omega
           | true =>
            rw [Bool.not_true] at hkm
            go_wp2_with fail
            refine wp_region_held_drew (S := (fun w' => w'.cell? ⟨w.heap.size, 0, none⟩ = some (.slice a0 f.nv c0) ∧ w'.cell? ⟨w.heap.size, 1, none⟩ = some (.slice a1 f.np c1) ∧ w'.cell? ⟨w.heap.size, 2, none⟩ = some (.slice (some ⟨bb, off, none⟩) f.nb c2) ∧ w'.cell? ⟨wb.heap.size, 0, none⟩ = some (.string yn) ∧ w'.cell? ⟨wb.heap.size, 1, none⟩ = some (.slice pa pn pc) ∧ w'.cell? ⟨wb.heap.size, 2, none⟩ = some (.slice (some ⟨pb, po, none⟩) qn qc) ∧ w'.cell? ⟨wb.heap.size, 3, none⟩ = some (.int .i64 yk) ∧ w'.cell? ⟨wb.heap.size, 4, none⟩ = some (.int .i64 yv) ∧ w'.cell? ⟨wb.heap.size, 5, none⟩ = some (.int .i64 y0) ∧ w'.cell? ⟨wb.heap.size, 6, none⟩ = some (.int .i64 y1) ∧ w'.cell? ⟨we.heap.size, 0, none⟩ = some (.int .i64 (kk : Int)) ∧ w'.cell? ⟨we.heap.size, 1, none⟩ = some (.int .i64 pdst) ∧ w'.cell? ⟨we.heap.size, 2, none⟩ = some (.slice ua tk'.size va1) ∧ w'.cell? ⟨we.heap.size, 3, none⟩ = some (.int .i64 pnum) ∧ w'.cell? ⟨rb, 0, none⟩ = some (.string wd') ∧ w'.cell? ⟨rb, 1, none⟩ = some (.string tk') ∧ w'.cell? ⟨rb, 2, none⟩ = some (.string mk'))) (by kernel_rfl) ?mb1hSs (fun hHeld => ?_)
            case mb1hSs => exact ⟨l0, l1, l2, m0, m1, m2, m3, m4, m5, m6, q0, q1, q2, q3, r0, r1, r2⟩
            clear l0 l1 l2 m0 m1 m2 m3 m4 m5 m6 q0 q1 q2 q3 r0 r1 r2
            replace Bl := kept (Bl.out.keep ((Keeps.refl _ []).drew) (by simp))
            replace Bm := kept (Bm.out.keep ((Keeps.refl _ []).drew) (by simp))
            replace Bq := kept (Bq.out.keep ((Keeps.refl _ []).drew) (by simp))
            replace Br := kept (Br.out.keep ((Keeps.refl _ []).drew) (by simp))
            replace HK := kept (HK.out.drew)
            generalize World.drew _ = X0 at *
            obtain ⟨l0, l1, l2⟩ := Bl.out.c3
            obtain ⟨m0, m1, m2, m3, m4, m5, m6⟩ := Bm.out.c7
            obtain ⟨q0, q1, q2, q3⟩ := Bq.out.c4
            obtain ⟨r0, r1, r2⟩ := Br.out.c3
            simp at l0 l1 l2 m0 m1 m2 m3 m4 m5 m6 q0 q1 q2 q3 r0 r1 r2
            refine tp 0 86 rfl hHeld ?_
            refine tp 1 87 rfl hHeld ?_
            refine tp 2 88 rfl hHeld ?_
            refine tp 3 89 rfl hHeld ?_
            refine tp 4 90 rfl hHeld ?_
            refine tp 5 91 rfl hHeld ?_
            refine tp 6 92 rfl hHeld ?_
            refine tp 7 93 rfl hHeld ?_
            refine tp 8 94 rfl hHeld ?_
            refine tu 9 ⟨some 95, .load 26 (.tmp 1), _, _, _, _⟩ rfl hHeld ?_
            refine tu 10 ⟨some 96, .fieldAddr 43 (.tmp 10) 1, _, _, _, _⟩ rfl hHeld ?_
            refine tu 11 ⟨some 97, .load 3 (.tmp 96), _, _, _, _⟩ rfl hHeld ?_
            refine tu 12 ⟨some 98, .call ⟨.value (.func 77), #[.tmp 95, .tmp 97], #[26, 3]⟩, _, _, _, _⟩ rfl hHeld ?_
            refine tu 13 ⟨some 99, .fieldAddr 110 (.tmp 11) 2, _, _, _, _⟩ rfl hHeld ?_
            refine tu 14 ⟨some 100, .load 9 (.tmp 99), _, _, _, _⟩ rfl hHeld ?_
            refine tu 15 ⟨some 101, .index 9 (.tmp 100) (.const (Value.int IntKind.i64 0)), _, _, _, _⟩ rfl hHeld ?_
            refine tu 16 ⟨some 102, .call ⟨.value (.func 78), #[.tmp 101], #[5]⟩, _, _, _, _⟩ rfl hHeld ?_
            refine tu 17 ⟨some 103, .binOp BinOp.neq 3 (.tmp 98) (.tmp 102) 3, _, _, _, _⟩ rfl hHeld ?_
            refine tp 18 104 rfl hHeld ?_
            refine wpAnyH_done (by kernel_rfl) ?_ _
            clear hHeld
            go_wp2
            go_roundw
            case rel =>
             refine ⟨j + 1, by omega, by go_num, (TWQ.out.and_then (TWR.out.and_then HK.out)), (show Hid _ from fun q hq2 => ?_)⟩
             by_cases e : q = j
             ·subst e; rw [HP.out]; exact ti_yes HPI.out PA.out (by rw [HC2.out]; rfl)
             ·exact A3.out q (by omega)
            case measure => simp [intOf]; omega
        | false =>
         have HIF := kept (show ∀ i : Nat, (if p.op = 1 then f.tyI p.dst else tkT p.op i) = tkT (kk : Int) i from fun i => by rw [HC1.out]; rfl)
         go_wp2
         go_loopw [61] (fun i wr => ∃ i2 : Nat, i2 ≤ tk'.size ∧ i = .int .i64 i2 ∧ Keeps WR wr [] ∧ Hid (∀ q, q < i2 → (f.tyI p.args.2[q]! == tkT (kk : Int) q) = true)) (fun i _ => tk'.size - (intOf i).toNat)
         case atStart => exact ⟨0, Nat.zero_le _, rfl, Keeps.refl _ _, fun j hj => absurd hj (Nat.not_lt_zero _)⟩
         case round =>
          obtain ⟨i2, hi2, rfl, hr, A4⟩ := hrel
          clear l0 l1 l2 m0 m1 m2 m3 m4 m5 m6 q0 q1 q2 q3 r0 r1 r2
          clear Bl Bm Bq Br HK
          have HK := kept hr
          have Bl := kept (Bl_WR.out.keep hr (by simp))
          have Bm := kept (Bm_WR.out.keep hr (by simp))
          have Bq := kept (Bq_WR.out.keep hr (by simp))
          have Br := kept (Br_WR.out.keep hr (by simp))
          clear hr
          obtain ⟨l0, l1, l2⟩ := Bl.out.c3
          obtain ⟨m0, m1, m2, m3, m4, m5, m6⟩ := Bm.out.c7
          obtain ⟨q0, q1, q2, q3⟩ := Bq.out.c4
          obtain ⟨r0, r1, r2⟩ := Br.out.c3
          simp at l0 l1 l2 m0 m1 m2 m3 m4 m5 m6 q0 q1 q2 q3 r0 r1 r2
          by_cases hlt2 : i2 < tk'.size
          ·have hlt2z : (i2 : Int) < (tk'.size : Int) := by omega
           rcases HZ1.out with hz | ⟨ra, ro, rfl, -, hra⟩
           ·omega
           have N0 := kept (TPW0.out.cellOf (hra i2 hlt2))
           clear hra
           have hmemA := HIN.out _ (bang_mem (l := p.args.2) (k := i2) (by rw [HPA.out]; exact hlt2))
           have C4 := kept (fun W h => CO.out p.args.2[i2]! W h hmemA)
           clear hmemA
           generalize hza : p.args.2[i2]! = za at *
           have HZA := kept hza
           clear hza
           generalize hta : f.tyI za = ta at *
           have HTAa := kept hta
           clear hta
           have o0 := (TWR.out.and_then HK.out).cellOf N0.out
           have CTy := kept (fun w => reftype_any ((tk'[i2]'hlt2).toNat : Int) w)
           rw [HTA.out i2 hlt2] at CTy
           generalize htd : tkT (kk : Int) i2 = td at *
           have HTD := kept htd
           clear htd
           have hne : (ta != td) = !(ta == td) := rfl
           cases hq : (ta == td) with
           | false =>
            rw [hq] at hne
            go_wp2_with (first | (go_at_call 78; refine (CTy.out _).mono ?_; rintro e w3 ⟨rfl, rfl⟩) | fail)
            refine wp_region_held_drew (S := (fun w' => w'.cell? ⟨w.heap.size, 0, none⟩ = some (.slice a0 f.nv c0) ∧ w'.cell? ⟨w.heap.size, 1, none⟩ = some (.slice a1 f.np c1) ∧ w'.cell? ⟨w.heap.size, 2, none⟩ = some (.slice (some ⟨bb, off, none⟩) f.nb c2) ∧ w'.cell? ⟨wb.heap.size, 0, none⟩ = some (.string yn) ∧ w'.cell? ⟨wb.heap.size, 1, none⟩ = some (.slice pa pn pc) ∧ w'.cell? ⟨wb.heap.size, 2, none⟩ = some (.slice (some ⟨pb, po, none⟩) qn qc) ∧ w'.cell? ⟨wb.heap.size, 3, none⟩ = some (.int .i64 yk) ∧ w'.cell? ⟨wb.heap.size, 4, none⟩ = some (.int .i64 yv) ∧ w'.cell? ⟨wb.heap.size, 5, none⟩ = some (.int .i64 y0) ∧ w'.cell? ⟨wb.heap.size, 6, none⟩ = some (.int .i64 y1) ∧ w'.cell? ⟨we.heap.size, 0, none⟩ = some (.int .i64 (kk : Int)) ∧ w'.cell? ⟨we.heap.size, 1, none⟩ = some (.int .i64 pdst) ∧ w'.cell? ⟨we.heap.size, 2, none⟩ = some (.slice (some ⟨ra, ro, none⟩) tk'.size va1) ∧ w'.cell? ⟨we.heap.size, 3, none⟩ = some (.int .i64 pnum) ∧ w'.cell? ⟨rb, 0, none⟩ = some (.string wd') ∧ w'.cell? ⟨rb, 1, none⟩ = some (.string tk') ∧ w'.cell? ⟨rb, 2, none⟩ = some (.string mk') ∧ w'.cell? ⟨ra, ro + i2, none⟩ = some (.int .i64 za))) (by kernel_rfl) ?ia2hSs (fun hHeld => ?_)
            case ia2hSs => exact ⟨l0, l1, l2, m0, m1, m2, m3, m4, m5, m6, q0, q1, q2, q3, r0, r1, r2, o0⟩
            clear l0 l1 l2 m0 m1 m2 m3 m4 m5 m6 q0 q1 q2 q3 r0 r1 r2 o0
            replace Bl := kept (Bl.out.keep ((Keeps.refl _ []).drew) (by simp))
            replace Bm := kept (Bm.out.keep ((Keeps.refl _ []).drew) (by simp))
            replace Bq := kept (Bq.out.keep ((Keeps.refl _ []).drew) (by simp))
            replace Br := kept (Br.out.keep ((Keeps.refl _ []).drew) (by simp))
            replace HK := kept (HK.out.drew)
            generalize World.drew _ = X0 at *
            obtain ⟨l0, l1, l2⟩ := Bl.out.c3
            obtain ⟨m0, m1, m2, m3, m4, m5, m6⟩ := Bm.out.c7
            obtain ⟨q0, q1, q2, q3⟩ := Bq.out.c4
            obtain ⟨r0, r1, r2⟩ := Br.out.c3
            simp at l0 l1 l2 m0 m1 m2 m3 m4 m5 m6 q0 q1 q2 q3 r0 r1 r2
            have o0 := (TWR.out.and_then HK.out).cellOf N0.out
            refine tp 0 76 rfl hHeld ?_
            refine tp 1 77 rfl hHeld ?_
            refine tp 2 78 rfl hHeld ?_
            refine tp 3 79 rfl hHeld ?_
            refine tp 4 80 rfl hHeld ?_
            refine tp 5 81 rfl hHeld ?_
            refine tp 7 83 rfl hHeld ?_
            refine wpAnyH_ready (rs := [6]) (by kernel_rfl) (by simp) ?_
            refine AllReadyH.cons rfl (fun K hK => ?_) AllReadyH.nil
            go_simp
            (with_reducible refine (C4.out _ (HF.out.keep (TW0.out.and_then (TWB.out.and_then (TWQ.out.and_then (TWR.out.and_then HK.out)))))).mono ?_)
            rintro e wx ⟨rfl, k3⟩
            show K _ _
            clear hHeld
            clear l0 l1 l2 m0 m1 m2 m3 m4 m5 m6 q0 q1 q2 q3 r0 r1 r2 o0
            replace Bl := kept (Bl.out.keep k3 (by simp))
            replace Bm := kept (Bm.out.keep k3 (by simp))
            replace Bq := kept (Bq.out.keep k3 (by simp))
            replace Br := kept (Br.out.keep k3 (by simp))
            replace HK := kept (HK.out.and_then k3)
            obtain ⟨l0, l1, l2⟩ := Bl.out.c3
            obtain ⟨m0, m1, m2, m3, m4, m5, m6⟩ := Bm.out.c7
            obtain ⟨q0, q1, q2, q3⟩ := Bq.out.c4
            obtain ⟨r0, r1, r2⟩ := Br.out.c3
            simp at l0 l1 l2 m0 m1 m2 m3 m4 m5 m6 q0 q1 q2 q3 r0 r1 r2
            have o0 := (TWR.out.and_then HK.out).cellOf N0.out
            clear k3
            refine hK.out _ _ ?ia2hS6 (fun hHeld => ?_)
            case ia2hS6 => exact ⟨l0, l1, l2, m0, m1, m2, m3, m4, m5, m6, q0, q1, q2, q3, r0, r1, r2, o0⟩
            clear hK K
            try simp only [Act.put, sA, sB, sC]
            refine tp 8 84 rfl hHeld ?_
            refine wpAnyH_done (by kernel_rfl) ?_ _
            clear hHeld
            go_wp2
            go_ret
            exact ⟨ret_bool (by rw [← HRB.out]; exact (tb_no1 hlt (by rw [HY.out]; exact (tb_no3 (by rw [HQN.out]; exact hltj) (by rw [HP.out]; exact ti_no1 (i := i2) HPI.out (by rw [HPA.out]; exact hlt2) (by rw [HZA.out, HIF.out, HTAa.out, HTD.out]; exact hq))))).symm), (TW0.out.and_then (TWB.out.and_then (TWQ.out.and_then (TWR.out.and_then HK.out))))⟩
           | true =>
            rw [hq] at hne
            go_wp2_with (first | (go_at_call 78; refine (CTy.out _).mono ?_; rintro e w3 ⟨rfl, rfl⟩) | fail)
            refine wp_region_held_drew (S := (fun w' => w'.cell? ⟨w.heap.size, 0, none⟩ = some (.slice a0 f.nv c0) ∧ w'.cell? ⟨w.heap.size, 1, none⟩ = some (.slice a1 f.np c1) ∧ w'.cell? ⟨w.heap.size, 2, none⟩ = some (.slice (some ⟨bb, off, none⟩) f.nb c2) ∧ w'.cell? ⟨wb.heap.size, 0, none⟩ = some (.string yn) ∧ w'.cell? ⟨wb.heap.size, 1, none⟩ = some (.slice pa pn pc) ∧ w'.cell? ⟨wb.heap.size, 2, none⟩ = some (.slice (some ⟨pb, po, none⟩) qn qc) ∧ w'.cell? ⟨wb.heap.size, 3, none⟩ = some (.int .i64 yk) ∧ w'.cell? ⟨wb.heap.size, 4, none⟩ = some (.int .i64 yv) ∧ w'.cell? ⟨wb.heap.size, 5, none⟩ = some (.int .i64 y0) ∧ w'.cell? ⟨wb.heap.size, 6, none⟩ = some (.int .i64 y1) ∧ w'.cell? ⟨we.heap.size, 0, none⟩ = some (.int .i64 (kk : Int)) ∧ w'.cell? ⟨we.heap.size, 1, none⟩ = some (.int .i64 pdst) ∧ w'.cell? ⟨we.heap.size, 2, none⟩ = some (.slice (some ⟨ra, ro, none⟩) tk'.size va1) ∧ w'.cell? ⟨we.heap.size, 3, none⟩ = some (.int .i64 pnum) ∧ w'.cell? ⟨rb, 0, none⟩ = some (.string wd') ∧ w'.cell? ⟨rb, 1, none⟩ = some (.string tk') ∧ w'.cell? ⟨rb, 2, none⟩ = some (.string mk') ∧ w'.cell? ⟨ra, ro + i2, none⟩ = some (.int .i64 za))) (by kernel_rfl) ?ib2hSs (fun hHeld => ?_)
            case ib2hSs => exact ⟨l0, l1, l2, m0, m1, m2, m3, m4, m5, m6, q0, q1, q2, q3, r0, r1, r2, o0⟩
            clear l0 l1 l2 m0 m1 m2 m3 m4 m5 m6 q0 q1 q2 q3 r0 r1 r2 o0
            replace Bl := kept (Bl.out.keep ((Keeps.refl _ []).drew) (by simp))
            replace Bm := kept (Bm.out.keep ((Keeps.refl _ []).drew) (by simp))
            replace Bq := kept (Bq.out.keep ((Keeps.refl _ []).drew) (by simp))
            replace Br := kept (Br.out.keep ((Keeps.refl _ []).drew) (by simp))
            replace HK := kept (HK.out.drew)
            generalize World.drew _ = X0 at *
            obtain ⟨l0, l1, l2⟩ := Bl.out.c3
            obtain ⟨m0, m1, m2, m3, m4, m5, m6⟩ := Bm.out.c7
            obtain ⟨q0, q1, q2, q3⟩ := Bq.out.c4
            obtain ⟨r0, r1, r2⟩ := Br.out.c3
            simp at l0 l1 l2 m0 m1 m2 m3 m4 m5 m6 q0 q1 q2 q3 r0 r1 r2
            have o0 := (TWR.out.and_then HK.out).cellOf N0.out
            refine tp 0 76 rfl hHeld ?_
            refine tp 1 77 rfl hHeld ?_
            refine tp 2 78 rfl hHeld ?_
            refine tp 3 79 rfl hHeld ?_
            refine tp 4 80 rfl hHeld ?_
            refine tp 5 81 rfl hHeld ?_
            refine tp 7 83 rfl hHeld ?_
            refine wpAnyH_ready (rs := [6]) (by kernel_rfl) (by simp) ?_
            refine AllReadyH.cons rfl (fun K hK => ?_) AllReadyH.nil
            go_simp
            (with_reducible refine (C4.out _ (HF.out.keep (TW0.out.and_then (TWB.out.and_then (TWQ.out.and_then (TWR.out.and_then HK.out)))))).mono ?_)
            rintro e wx ⟨rfl, k3⟩
            show K _ _
            clear hHeld
            clear l0 l1 l2 m0 m1 m2 m3 m4 m5 m6 q0 q1 q2 q3 r0 r1 r2 o0
            replace Bl := kept (Bl.out.keep k3 (by simp))
            replace Bm := kept (Bm.out.keep k3 (by simp))
            replace Bq := kept (Bq.out.keep k3 (by simp))
            replace Br := kept (Br.out.keep k3 (by simp))
            replace HK := kept (HK.out.and_then k3)
            obtain ⟨l0, l1, l2⟩ := Bl.out.c3
            obtain ⟨m0, m1, m2, m3, m4, m5, m6⟩ := Bm.out.c7
            obtain ⟨q0, q1, q2, q3⟩ := Bq.out.c4
            obtain ⟨r0, r1, r2⟩ := Br.out.c3
            simp at l0 l1 l2 m0 m1 m2 m3 m4 m5 m6 q0 q1 q2 q3 r0 r1 r2
            have o0 := (TWR.out.and_then HK.out).cellOf N0.out
            clear k3
            refine hK.out _ _ ?ib2hS6 (fun hHeld => ?_)
            case ib2hS6 => exact ⟨l0, l1, l2, m0, m1, m2, m3, m4, m5, m6, q0, q1, q2, q3, r0, r1, r2, o0⟩
            clear hK K
            try simp only [Act.put, sA, sB, sC]
            refine tp 8 84 rfl hHeld ?_
            refine wpAnyH_done (by kernel_rfl) ?_ _
            clear hHeld
            go_wp2
            go_roundw
            case rel =>
             refine ⟨i2 + 1, by omega, by go_num, HK.out, (show Hid _ from fun q hq2 => ?_)⟩
             by_cases e : q = i2
             ·subst e; rw [HZA.out, HTAa.out, HTD.out]; exact hq
             ·exact A4.out q (by omega)
            case measure => simp [intOf]; omega
          ·have hlt2z : ¬ (i2 : Int) < (tk'.size : Int) := by omega
           have hi3 : i2 = tk'.size := by omega
           subst hi3
           have PA := kept (show ∀ i, i < p.args.2.length → (f.tyI p.args.2[i]! == if p.op = 1 then f.tyI p.dst else tkT p.op i) = true from fun i hi => by rw [HIF.out]; exact A4.out i (by rw [← HPA.out]; exact hi))
           cases MK with
           | false =>
            rw [Bool.not_false] at hkm
            go_wp2_with fail
            refine wp_region_held_drew (S := (fun w' => w'.cell? ⟨w.heap.size, 0, none⟩ = some (.slice a0 f.nv c0) ∧ w'.cell? ⟨w.heap.size, 1, none⟩ = some (.slice a1 f.np c1) ∧ w'.cell? ⟨w.heap.size, 2, none⟩ = some (.slice (some ⟨bb, off, none⟩) f.nb c2) ∧ w'.cell? ⟨wb.heap.size, 0, none⟩ = some (.string yn) ∧ w'.cell? ⟨wb.heap.size, 1, none⟩ = some (.slice pa pn pc) ∧ w'.cell? ⟨wb.heap.size, 2, none⟩ = some (.slice (some ⟨pb, po, none⟩) qn qc) ∧ w'.cell? ⟨wb.heap.size, 3, none⟩ = some (.int .i64 yk) ∧ w'.cell? ⟨wb.heap.size, 4, none⟩ = some (.int .i64 yv) ∧ w'.cell? ⟨wb.heap.size, 5, none⟩ = some (.int .i64 y0) ∧ w'.cell? ⟨wb.heap.size, 6, none⟩ = some (.int .i64 y1) ∧ w'.cell? ⟨we.heap.size, 0, none⟩ = some (.int .i64 (kk : Int)) ∧ w'.cell? ⟨we.heap.size, 1, none⟩ = some (.int .i64 pdst) ∧ w'.cell? ⟨we.heap.size, 2, none⟩ = some (.slice ua tk'.size va1) ∧ w'.cell? ⟨we.heap.size, 3, none⟩ = some (.int .i64 pnum) ∧ w'.cell? ⟨rb, 0, none⟩ = some (.string wd') ∧ w'.cell? ⟨rb, 1, none⟩ = some (.string tk') ∧ w'.cell? ⟨rb, 2, none⟩ = some (.string mk'))) (by kernel_rfl) ?ma2hSs (fun hHeld => ?_)
            case ma2hSs => exact ⟨l0, l1, l2, m0, m1, m2, m3, m4, m5, m6, q0, q1, q2, q3, r0, r1, r2⟩
            clear l0 l1 l2 m0 m1 m2 m3 m4 m5 m6 q0 q1 q2 q3 r0 r1 r2
            replace Bl := kept (Bl.out.keep ((Keeps.refl _ []).drew) (by simp))
            replace Bm := kept (Bm.out.keep ((Keeps.refl _ []).drew) (by simp))
            replace Bq := kept (Bq.out.keep ((Keeps.refl _ []).drew) (by simp))
            replace Br := kept (Br.out.keep ((Keeps.refl _ []).drew) (by simp))
            replace HK := kept (HK.out.drew)
            generalize World.drew _ = X0 at *
            obtain ⟨l0, l1, l2⟩ := Bl.out.c3
            obtain ⟨m0, m1, m2, m3, m4, m5, m6⟩ := Bm.out.c7
            obtain ⟨q0, q1, q2, q3⟩ := Bq.out.c4
            obtain ⟨r0, r1, r2⟩ := Br.out.c3
            simp at l0 l1 l2 m0 m1 m2 m3 m4 m5 m6 q0 q1 q2 q3 r0 r1 r2
            refine tp 0 86 rfl hHeld ?_
            refine tp 1 87 rfl hHeld ?_
            refine tp 2 88 rfl hHeld ?_
            refine tp 3 89 rfl hHeld ?_
            refine tu 4 ⟨some 90, .fieldAddr 110 (.tmp 11) 0, _, _, _, _⟩ rfl hHeld ?_
            refine tu 5 ⟨some 91, .load 9 (.tmp 90), _, _, _, _⟩ rfl hHeld ?_
            refine tu 6 ⟨some 92, .binOp BinOp.neq 9 (.tmp 91) (.const (Value.string { data := #[99, 111, 112, 121] })) 9, _, _, _, _⟩ rfl hHeld ?_
            refine tp 7 93 rfl hHeld ?_
            refine tp 8 94 rfl hHeld ?_
            refine tu 9 ⟨some 95, .load 26 (.tmp 1), _, _, _, _⟩ rfl hHeld ?_
            refine tu 10 ⟨some 96, .fieldAddr 43 (.tmp 10) 1, _, _, _, _⟩ rfl hHeld ?_
            refine tu 11 ⟨some 97, .load 3 (.tmp 96), _, _, _, _⟩ rfl hHeld ?_
            refine tu 12 ⟨some 98, .call ⟨.value (.func 77), #[.tmp 95, .tmp 97], #[26, 3]⟩, _, _, _, _⟩ rfl hHeld ?_
            refine tu 13 ⟨some 99, .fieldAddr 110 (.tmp 11) 2, _, _, _, _⟩ rfl hHeld ?_
            refine tu 14 ⟨some 100, .load 9 (.tmp 99), _, _, _, _⟩ rfl hHeld ?_
            refine tu 15 ⟨some 101, .index 9 (.tmp 100) (.const (Value.int IntKind.i64 0)), _, _, _, _⟩ rfl hHeld ?_
            refine tu 16 ⟨some 102, .call ⟨.value (.func 78), #[.tmp 101], #[5]⟩, _, _, _, _⟩ rfl hHeld ?_
            refine tu 17 ⟨some 103, .binOp BinOp.neq 3 (.tmp 98) (.tmp 102) 3, _, _, _, _⟩ rfl hHeld ?_
            refine tp 18 104 rfl hHeld ?_
            refine wpAnyH_done (by kernel_rfl) ?_ _
            clear hHeld
            go_wp2
            go_roundw
            case rel =>
             refine ⟨j + 1, by omega, by go_num, (TWQ.out.and_then (TWR.out.and_then HK.out)), (show Hid _ from fun q hq2 => ?_)⟩
             by_cases e : q = j
             ·subst e; rw [HP.out]; exact ti_yes HPI.out PA.out (by rw [HC2.out]; rfl)
             ·exact A3.out q (by omega)
            case measure => simp [intOf]; omega
           | true =>
            rw [Bool.not_true] at hkm
            have hm0 := HMP.out rfl
            have hm0I : (0 : Int) < (mk'.size : Int) := by omega
            have CDD := kept (fun W h => CO.out pdst W h (by exact HDI.out (by rw [HPO.out]; exact HMK.out)))
            have CTm := kept (fun w => reftype_any ((mk'[0]'hm0).toNat : Int) w)
            rw [HMA.out hm0] at CTm
            generalize htd : f.tyI pdst = td at *
            generalize htm : mkT (kk : Int) = tm at *
            have HTD := kept htd
            have HTM := kept htm
            clear htd htm
            have hne : (td != tm) = !(td == tm) := rfl
            cases hq : (td == tm) with
            | false =>
             rw [hq] at hne
             go_wp2_with fail
             refine wp_region_held_drew (S := (fun w' => w'.cell? ⟨w.heap.size, 0, none⟩ = some (.slice a0 f.nv c0) ∧ w'.cell? ⟨w.heap.size, 1, none⟩ = some (.slice a1 f.np c1) ∧ w'.cell? ⟨w.heap.size, 2, none⟩ = some (.slice (some ⟨bb, off, none⟩) f.nb c2) ∧ w'.cell? ⟨wb.heap.size, 0, none⟩ = some (.string yn) ∧ w'.cell? ⟨wb.heap.size, 1, none⟩ = some (.slice pa pn pc) ∧ w'.cell? ⟨wb.heap.size, 2, none⟩ = some (.slice (some ⟨pb, po, none⟩) qn qc) ∧ w'.cell? ⟨wb.heap.size, 3, none⟩ = some (.int .i64 yk) ∧ w'.cell? ⟨wb.heap.size, 4, none⟩ = some (.int .i64 yv) ∧ w'.cell? ⟨wb.heap.size, 5, none⟩ = some (.int .i64 y0) ∧ w'.cell? ⟨wb.heap.size, 6, none⟩ = some (.int .i64 y1) ∧ w'.cell? ⟨we.heap.size, 0, none⟩ = some (.int .i64 (kk : Int)) ∧ w'.cell? ⟨we.heap.size, 1, none⟩ = some (.int .i64 pdst) ∧ w'.cell? ⟨we.heap.size, 2, none⟩ = some (.slice ua tk'.size va1) ∧ w'.cell? ⟨we.heap.size, 3, none⟩ = some (.int .i64 pnum) ∧ w'.cell? ⟨rb, 0, none⟩ = some (.string wd') ∧ w'.cell? ⟨rb, 1, none⟩ = some (.string tk') ∧ w'.cell? ⟨rb, 2, none⟩ = some (.string mk'))) (by kernel_rfl) ?mc2hSs (fun hHeld => ?_)
             case mc2hSs => exact ⟨l0, l1, l2, m0, m1, m2, m3, m4, m5, m6, q0, q1, q2, q3, r0, r1, r2⟩
             clear l0 l1 l2 m0 m1 m2 m3 m4 m5 m6 q0 q1 q2 q3 r0 r1 r2
             replace Bl := kept (Bl.out.keep ((Keeps.refl _ []).drew) (by simp))
             replace Bm := kept (Bm.out.keep ((Keeps.refl _ []).drew) (by simp))
             replace Bq := kept (Bq.out.keep ((Keeps.refl _ []).drew) (by simp))
             replace Br := kept (Br.out.keep ((Keeps.refl _ []).drew) (by simp))
             replace HK := kept (HK.out.drew)
             generalize World.drew _ = X0 at *
             obtain ⟨l0, l1, l2⟩ := Bl.out.c3
             obtain ⟨m0, m1, m2, m3, m4, m5, m6⟩ := Bm.out.c7
             obtain ⟨q0, q1, q2, q3⟩ := Bq.out.c4
             obtain ⟨r0, r1, r2⟩ := Br.out.c3
             simp at l0 l1 l2 m0 m1 m2 m3 m4 m5 m6 q0 q1 q2 q3 r0 r1 r2
             refine tp 0 86 rfl hHeld ?_
             refine tp 1 87 rfl hHeld ?_
             refine tp 2 88 rfl hHeld ?_
             refine tp 3 89 rfl hHeld ?_
             refine tp 4 90 rfl hHeld ?_
             refine tp 5 91 rfl hHeld ?_
             refine tp 6 92 rfl hHeld ?_
             refine tp 7 93 rfl hHeld ?_
             refine tp 8 94 rfl hHeld ?_
             refine tp 9 95 rfl hHeld ?_
             refine tp 10 96 rfl hHeld ?_
             refine tp 11 97 rfl hHeld ?_
             refine tp 13 99 rfl hHeld ?_
             refine tp 14 100 rfl hHeld ?_
             refine tp 15 101 rfl hHeld ?_
             refine wpAnyH_ready (rs := [12]) (by kernel_rfl) (by simp) ?_
             refine AllReadyH.cons rfl (fun K hK => ?_) AllReadyH.nil
             go_simp
             (with_reducible refine (CDD.out _ (HF.out.keep (TW0.out.and_then (TWB.out.and_then (TWQ.out.and_then (TWR.out.and_then HK.out)))))).mono ?_)
             rintro e wx ⟨rfl, k3⟩
             show K _ _
             clear hHeld
             clear l0 l1 l2 m0 m1 m2 m3 m4 m5 m6 q0 q1 q2 q3 r0 r1 r2
             replace Bl := kept (Bl.out.keep k3 (by simp))
             replace Bm := kept (Bm.out.keep k3 (by simp))
             replace Bq := kept (Bq.out.keep k3 (by simp))
             replace Br := kept (Br.out.keep k3 (by simp))
             replace HK := kept (HK.out.and_then k3)
             obtain ⟨l0, l1, l2⟩ := Bl.out.c3
             obtain ⟨m0, m1, m2, m3, m4, m5, m6⟩ := Bm.out.c7
             obtain ⟨q0, q1, q2, q3⟩ := Bq.out.c4
             obtain ⟨r0, r1, r2⟩ := Br.out.c3
             simp at l0 l1 l2 m0 m1 m2 m3 m4 m5 m6 q0 q1 q2 q3 r0 r1 r2
             clear k3
             refine hK.out _ _ ?mc2hS12 (fun hHeld => ?_)
             case mc2hS12 => exact ⟨l0, l1, l2, m0, m1, m2, m3, m4, m5, m6, q0, q1, q2, q3, r0, r1, r2⟩
             clear hK K
             try simp only [Act.put, sA, sB, sC]
             refine wpAnyH_ready (rs := [16]) (by kernel_rfl) (by simp) ?_
             refine AllReadyH.cons rfl (fun K hK => ?_) AllReadyH.nil
             go_simp
             (with_reducible refine (CTm.out _).mono ?_)
             rintro e wx ⟨rfl, rfl⟩
             show K _ _
             clear hHeld
             refine hK.out _ _ ?mc2hS16 (fun hHeld => ?_)
             case mc2hS16 => exact ⟨l0, l1, l2, m0, m1, m2, m3, m4, m5, m6, q0, q1, q2, q3, r0, r1, r2⟩
             clear hK K
             try simp only [Act.put, sA, sB, sC]
             refine tp 17 103 rfl hHeld ?_
             refine tp 18 104 rfl hHeld ?_
             refine wpAnyH_done (by kernel_rfl) ?_ _
             clear hHeld
             go_wp2
             go_ret
             exact ⟨ret_bool (by rw [← HRB.out]; exact (tb_no1 hlt (by rw [HY.out]; exact (tb_no3 (by rw [HQN.out]; exact hltj) (by rw [HP.out]; exact ti_no2 HPI.out (by rw [HC2.out, hq]; rfl))))).symm), (TW0.out.and_then (TWB.out.and_then (TWQ.out.and_then (TWR.out.and_then HK.out))))⟩
            | true =>
             rw [hq] at hne
             go_wp2_with fail
             refine wp_region_held_drew (S := (fun w' => w'.cell? ⟨w.heap.size, 0, none⟩ = some (.slice a0 f.nv c0) ∧ w'.cell? ⟨w.heap.size, 1, none⟩ = some (.slice a1 f.np c1) ∧ w'.cell? ⟨w.heap.size, 2, none⟩ = some (.slice (some ⟨bb, off, none⟩) f.nb c2) ∧ w'.cell? ⟨wb.heap.size, 0, none⟩ = some (.string yn) ∧ w'.cell? ⟨wb.heap.size, 1, none⟩ = some (.slice pa pn pc) ∧ w'.cell? ⟨wb.heap.size, 2, none⟩ = some (.slice (some ⟨pb, po, none⟩) qn qc) ∧ w'.cell? ⟨wb.heap.size, 3, none⟩ = some (.int .i64 yk) ∧ w'.cell? ⟨wb.heap.size, 4, none⟩ = some (.int .i64 yv) ∧ w'.cell? ⟨wb.heap.size, 5, none⟩ = some (.int .i64 y0) ∧ w'.cell? ⟨wb.heap.size, 6, none⟩ = some (.int .i64 y1) ∧ w'.cell? ⟨we.heap.size, 0, none⟩ = some (.int .i64 (kk : Int)) ∧ w'.cell? ⟨we.heap.size, 1, none⟩ = some (.int .i64 pdst) ∧ w'.cell? ⟨we.heap.size, 2, none⟩ = some (.slice ua tk'.size va1) ∧ w'.cell? ⟨we.heap.size, 3, none⟩ = some (.int .i64 pnum) ∧ w'.cell? ⟨rb, 0, none⟩ = some (.string wd') ∧ w'.cell? ⟨rb, 1, none⟩ = some (.string tk') ∧ w'.cell? ⟨rb, 2, none⟩ = some (.string mk'))) (by kernel_rfl) ?md2hSs (fun hHeld => ?_)
             case md2hSs => exact ⟨l0, l1, l2, m0, m1, m2, m3, m4, m5, m6, q0, q1, q2, q3, r0, r1, r2⟩
             clear l0 l1 l2 m0 m1 m2 m3 m4 m5 m6 q0 q1 q2 q3 r0 r1 r2
             replace Bl := kept (Bl.out.keep ((Keeps.refl _ []).drew) (by simp))
             replace Bm := kept (Bm.out.keep ((Keeps.refl _ []).drew) (by simp))
             replace Bq := kept (Bq.out.keep ((Keeps.refl _ []).drew) (by simp))
             replace Br := kept (Br.out.keep ((Keeps.refl _ []).drew) (by simp))
             replace HK := kept (HK.out.drew)
             generalize World.drew _ = X0 at *
             obtain ⟨l0, l1, l2⟩ := Bl.out.c3
             obtain ⟨m0, m1, m2, m3, m4, m5, m6⟩ := Bm.out.c7
             obtain ⟨q0, q1, q2, q3⟩ := Bq.out.c4
             obtain ⟨r0, r1, r2⟩ := Br.out.c3
             simp at l0 l1 l2 m0 m1 m2 m3 m4 m5 m6 q0 q1 q2 q3 r0 r1 r2
             refine tp 0 86 rfl hHeld ?_
             refine tp 1 87 rfl hHeld ?_
             refine tp 2 88 rfl hHeld ?_
             refine tp 3 89 rfl hHeld ?_
             refine tp 4 90 rfl hHeld ?_
             refine tp 5 91 rfl hHeld ?_
             refine tp 6 92 rfl hHeld ?_
             refine tp 7 93 rfl hHeld ?_
             refine tp 8 94 rfl hHeld ?_
             refine tp 9 95 rfl hHeld ?_
             refine tp 10 96 rfl hHeld ?_
             refine tp 11 97 rfl hHeld ?_
             refine tp 13 99 rfl hHeld ?_
             refine tp 14 100 rfl hHeld ?_
             refine tp 15 101 rfl hHeld ?_
             refine wpAnyH_ready (rs := [12]) (by kernel_rfl) (by simp) ?_
             refine AllReadyH.cons rfl (fun K hK => ?_) AllReadyH.nil
             go_simp
             (with_reducible refine (CDD.out _ (HF.out.keep (TW0.out.and_then (TWB.out.and_then (TWQ.out.and_then (TWR.out.and_then HK.out)))))).mono ?_)
             rintro e wx ⟨rfl, k3⟩
             show K _ _
             clear hHeld
             clear l0 l1 l2 m0 m1 m2 m3 m4 m5 m6 q0 q1 q2 q3 r0 r1 r2
             replace Bl := kept (Bl.out.keep k3 (by simp))
             replace Bm := kept (Bm.out.keep k3 (by simp))
             replace Bq := kept (Bq.out.keep k3 (by simp))
             replace Br := kept (Br.out.keep k3 (by simp))
             replace HK := kept (HK.out.and_then k3)
             obtain ⟨l0, l1, l2⟩ := Bl.out.c3
             obtain ⟨m0, m1, m2, m3, m4, m5, m6⟩ := Bm.out.c7
             obtain ⟨q0, q1, q2, q3⟩ := Bq.out.c4
             obtain ⟨r0, r1, r2⟩ := Br.out.c3
             simp at l0 l1 l2 m0 m1 m2 m3 m4 m5 m6 q0 q1 q2 q3 r0 r1 r2
             clear k3
             refine hK.out _ _ ?md2hS12 (fun hHeld => ?_)
             case md2hS12 => exact ⟨l0, l1, l2, m0, m1, m2, m3, m4, m5, m6, q0, q1, q2, q3, r0, r1, r2⟩
             clear hK K
             try simp only [Act.put, sA, sB, sC]
             refine wpAnyH_ready (rs := [16]) (by kernel_rfl) (by simp) ?_
             refine AllReadyH.cons rfl (fun K hK => ?_) AllReadyH.nil
             go_simp
             (with_reducible refine (CTm.out _).mono ?_)
             rintro e wx ⟨rfl, rfl⟩
             show K _ _
             clear hHeld
             refine hK.out _ _ ?md2hS16 (fun hHeld => ?_)
             case md2hS16 => exact ⟨l0, l1, l2, m0, m1, m2, m3, m4, m5, m6, q0, q1, q2, q3, r0, r1, r2⟩
             clear hK K
             try simp only [Act.put, sA, sB, sC]
             refine tp 17 103 rfl hHeld ?_
             refine tp 18 104 rfl hHeld ?_
             refine wpAnyH_done (by kernel_rfl) ?_ _
             clear hHeld
             go_wp2
             go_roundw
             case rel =>
              refine ⟨j + 1, by omega, by go_num, (TWQ.out.and_then (TWR.out.and_then HK.out)), (show Hid _ from fun q hq2 => ?_)⟩
              by_cases e : q = j
              ·subst e; rw [HP.out]; exact ti_yes HPI.out PA.out (by rw [HC2.out, hq]; rfl)
              ·exact A3.out q (by omega)
             case measure => simp [intOf]; omega
      ·have hltjz : ¬ (j : Int) < (qn : Int) := by omega
       obtain rfl : qn = j := by omega
       have P8 := A3
       clear l0 l1 l2 m0 m1 m2 m3 m4 m5 m6
       obtain ⟨l0, l1, l2⟩ := Bl.out.c3
       obtain ⟨m0, m1, m2, m3, m4, m5, m6⟩ := Bm.out.c7
       simp at l0 l1 l2 m0 m1 m2 m3 m4 m5 m6
       have o3 := Bm.out.cell 3
       have o4 := Bm.out.cell 4
       have o5 := Bm.out.cell 5
       have o6 := Bm.out.cell 6
       simp at o3 o4 o5 o6
       clear l0 l1 l2 m0 m1 m2 m3 m4 m5 m6
       have bmx := Blk.new we 36 #[.int .i64 yk, .int .i64 yv, .int .i64 y0, .int .i64 y1]
       have k3 : Keeps we (we.alloc (.cells #[.int .i64 yk, .int .i64 yv, .int .i64 y0, .int .i64 y1] 36)) [] := (Keeps.refl we []).alloc _
       replace Bl := kept (Bl.out.keep k3 (by simp))
       replace Bm := kept (Bm.out.keep k3 (by simp))
       replace HK := kept (HK.out.and_then k3)
       clear k3
       have Bt := kept bmx
       clear bmx
       obtain ⟨l0, l1, l2⟩ := Bl.out.c3
       obtain ⟨m0, m1, m2, m3, m4, m5, m6⟩ := Bm.out.c7
       obtain ⟨t0, t1, t2, t3⟩ := Bt.out.c4
       simp at l0 l1 l2 m0 m1 m2 m3 m4 m5 m6 t0 t1 t2 t3
       obtain ⟨TB, hTB⟩ : ∃ B, ttermB f y = B := ⟨_, rfl⟩
       have HTB := kept hTB
       have HTBf := kept (fun h : TB = false => (tb_no4 (f := f) (y := y) (by rw [HTB.out]; exact h)))
       have HTBt := kept (fun h : TB = true => (tb_yes (f := f) (y := y) (fun j hj => P6.out j (by rw [← HPN.out]; exact hj)) (fun j hj => P8.out j (by rw [← HQN.out]; exact hj)) (by rw [HTB.out]; exact h)))
       have HTE := kept (show ttermB f y = if yk = 0 then !(y0 == 0) else if yk = 1 then (f.tyI yv == 1) && !(y0 == 0) && !(y1 == 0) else f.tyI yv == 0 by unfold ttermB typedTermB; rw [Hyk.out, Hyv.out, Hy0.out, Hy1.out]; rfl)
       have HTK := kept (show termB f yk yv y0 y1 = true from HST.out)
       clear hTB P6 P8 A3
       by_cases k0 : yk = 0
       ·subst k0
        rcases zero_or y0 with rfl | g0
        ·have hb : TB = false := by rw [← HTB.out, HTE.out]; rfl
         go_wp2
         go_ret
         exact ⟨ret_bool (by rw [← HRB.out]; exact (tb_no1 hlt (by rw [HY.out]; exact (HTBf.out hb))).symm), (TW0.out.and_then (TWB.out.and_then HK.out))⟩
        ·have HB9 := kept (HTBt.out (show TB = true by rw [← HTB.out, HTE.out]; rw [if_pos rfl, g0]; rfl))
         go_wp2
         go_roundw
         case rel =>
          refine ⟨k + 1, by omega, by go_num, (TWB.out.and_then HK.out), (show Hid _ from fun q hq2 => ?_)⟩
          by_cases e : q = k
          ·subst e; rw [HY.out]; exact HB9.out
          ·exact A.out q (by omega)
         case measure => simp [intOf]; omega
       have q0' : (yk == 0) = false := by simpa using k0
       have hvv : inB yv f.nv = true := term_var HTK.out k0
       have CV := kept (fun W h => CO.out yv W h hvv)
       clear hvv
       generalize f.tyI yv = ty at *
       by_cases k1 : yk = 1
       ·subst k1
        have hn1 : (ty != 1) = !(ty == 1) := rfl
        cases ht1 : (ty == 1) with
        | false =>
         rw [ht1] at hn1
         have hb : TB = false := by rw [← HTB.out, HTE.out]; rw [if_neg (by decide), if_pos rfl, ht1]; rfl
         go_wp2_with (first | (go_at_call 77; refine (CV.out _ (HF.out.keep (TW0.out.and_then (TWB.out.and_then HK.out)))).mono ?_; rintro e w6 ⟨rfl, k3⟩; clear l0 l1 l2 m0 m1 m2 m3 m4 m5 m6 t0 t1 t2 t3; replace Bl := kept (Bl.out.keep k3 (by simp)); replace Bm := kept (Bm.out.keep k3 (by simp)); replace Bt := kept (Bt.out.keep k3 (by simp)); replace HK := kept (HK.out.and_then k3); obtain ⟨l0, l1, l2⟩ := Bl.out.c3; obtain ⟨m0, m1, m2, m3, m4, m5, m6⟩ := Bm.out.c7; obtain ⟨t0, t1, t2, t3⟩ := Bt.out.c4; simp at l0 l1 l2 m0 m1 m2 m3 m4 m5 m6 t0 t1 t2 t3; clear k3))
         go_ret
         exact ⟨ret_bool (by rw [← HRB.out]; exact (tb_no1 hlt (by rw [HY.out]; exact (HTBf.out hb))).symm), (TW0.out.and_then (TWB.out.and_then HK.out))⟩
        | true =>
         rw [ht1] at hn1
         rcases zero_or y0 with rfl | g0
         ·have hb : TB = false := by rw [← HTB.out, HTE.out]; rw [if_neg (by decide), if_pos rfl, ht1]; rfl
          go_wp2_with (first | (go_at_call 77; refine (CV.out _ (HF.out.keep (TW0.out.and_then (TWB.out.and_then HK.out)))).mono ?_; rintro e w6 ⟨rfl, k3⟩; clear l0 l1 l2 m0 m1 m2 m3 m4 m5 m6 t0 t1 t2 t3; replace Bl := kept (Bl.out.keep k3 (by simp)); replace Bm := kept (Bm.out.keep k3 (by simp)); replace Bt := kept (Bt.out.keep k3 (by simp)); replace HK := kept (HK.out.and_then k3); obtain ⟨l0, l1, l2⟩ := Bl.out.c3; obtain ⟨m0, m1, m2, m3, m4, m5, m6⟩ := Bm.out.c7; obtain ⟨t0, t1, t2, t3⟩ := Bt.out.c4; simp at l0 l1 l2 m0 m1 m2 m3 m4 m5 m6 t0 t1 t2 t3; clear k3))
          go_ret
          exact ⟨ret_bool (by rw [← HRB.out]; exact (tb_no1 hlt (by rw [HY.out]; exact (HTBf.out hb))).symm), (TW0.out.and_then (TWB.out.and_then HK.out))⟩
         ·rcases zero_or y1 with rfl | g1
          ·have hb : TB = false := by rw [← HTB.out, HTE.out]; rw [if_neg (by decide), if_pos rfl, ht1, g0]; rfl
           go_wp2_with (first | (go_at_call 77; refine (CV.out _ (HF.out.keep (TW0.out.and_then (TWB.out.and_then HK.out)))).mono ?_; rintro e w6 ⟨rfl, k3⟩; clear l0 l1 l2 m0 m1 m2 m3 m4 m5 m6 t0 t1 t2 t3; replace Bl := kept (Bl.out.keep k3 (by simp)); replace Bm := kept (Bm.out.keep k3 (by simp)); replace Bt := kept (Bt.out.keep k3 (by simp)); replace HK := kept (HK.out.and_then k3); obtain ⟨l0, l1, l2⟩ := Bl.out.c3; obtain ⟨m0, m1, m2, m3, m4, m5, m6⟩ := Bm.out.c7; obtain ⟨t0, t1, t2, t3⟩ := Bt.out.c4; simp at l0 l1 l2 m0 m1 m2 m3 m4 m5 m6 t0 t1 t2 t3; clear k3))
           go_ret
           exact ⟨ret_bool (by rw [← HRB.out]; exact (tb_no1 hlt (by rw [HY.out]; exact (HTBf.out hb))).symm), (TW0.out.and_then (TWB.out.and_then HK.out))⟩
          ·have HB9 := kept (HTBt.out (show TB = true by rw [← HTB.out, HTE.out]; rw [if_neg (by decide), if_pos rfl, ht1, g0, g1]; rfl))
           go_wp2_with (first | (go_at_call 77; refine (CV.out _ (HF.out.keep (TW0.out.and_then (TWB.out.and_then HK.out)))).mono ?_; rintro e w6 ⟨rfl, k3⟩; clear l0 l1 l2 m0 m1 m2 m3 m4 m5 m6 t0 t1 t2 t3; replace Bl := kept (Bl.out.keep k3 (by simp)); replace Bm := kept (Bm.out.keep k3 (by simp)); replace Bt := kept (Bt.out.keep k3 (by simp)); replace HK := kept (HK.out.and_then k3); obtain ⟨l0, l1, l2⟩ := Bl.out.c3; obtain ⟨m0, m1, m2, m3, m4, m5, m6⟩ := Bm.out.c7; obtain ⟨t0, t1, t2, t3⟩ := Bt.out.c4; simp at l0 l1 l2 m0 m1 m2 m3 m4 m5 m6 t0 t1 t2 t3; clear k3))
           go_roundw
           case rel =>
            refine ⟨k + 1, by omega, by go_num, (TWB.out.and_then HK.out), (show Hid _ from fun q hq2 => ?_)⟩
            by_cases e : q = k
            ·subst e; rw [HY.out]; exact HB9.out
            ·exact A.out q (by omega)
           case measure => simp [intOf]; omega
       have q1' : (yk == 1) = false := by simpa using k1
       obtain rfl : yk = 2 := term_two HTK.out k0 k1
       have hn0 : (ty != 0) = !(ty == 0) := rfl
       cases ht0 : (ty == 0) with
       | false =>
        rw [ht0] at hn0
        have hb : TB = false := by rw [← HTB.out, HTE.out]; rw [if_neg (by decide), if_neg (by decide)]; exact ht0
        go_wp2_with (first | (go_at_call 77; refine (CV.out _ (HF.out.keep (TW0.out.and_then (TWB.out.and_then HK.out)))).mono ?_; rintro e w6 ⟨rfl, k3⟩; clear l0 l1 l2 m0 m1 m2 m3 m4 m5 m6 t0 t1 t2 t3; replace Bl := kept (Bl.out.keep k3 (by simp)); replace Bm := kept (Bm.out.keep k3 (by simp)); replace Bt := kept (Bt.out.keep k3 (by simp)); replace HK := kept (HK.out.and_then k3); obtain ⟨l0, l1, l2⟩ := Bl.out.c3; obtain ⟨m0, m1, m2, m3, m4, m5, m6⟩ := Bm.out.c7; obtain ⟨t0, t1, t2, t3⟩ := Bt.out.c4; simp at l0 l1 l2 m0 m1 m2 m3 m4 m5 m6 t0 t1 t2 t3; clear k3))
        go_ret
        exact ⟨ret_bool (by rw [← HRB.out]; exact (tb_no1 hlt (by rw [HY.out]; exact (HTBf.out hb))).symm), (TW0.out.and_then (TWB.out.and_then HK.out))⟩
       | true =>
        rw [ht0] at hn0
        have HB9 := kept (HTBt.out (show TB = true by rw [← HTB.out, HTE.out]; rw [if_neg (by decide), if_neg (by decide)]; exact ht0))
        go_wp2_with (first | (go_at_call 77; refine (CV.out _ (HF.out.keep (TW0.out.and_then (TWB.out.and_then HK.out)))).mono ?_; rintro e w6 ⟨rfl, k3⟩; clear l0 l1 l2 m0 m1 m2 m3 m4 m5 m6 t0 t1 t2 t3; replace Bl := kept (Bl.out.keep k3 (by simp)); replace Bm := kept (Bm.out.keep k3 (by simp)); replace Bt := kept (Bt.out.keep k3 (by simp)); replace HK := kept (HK.out.and_then k3); obtain ⟨l0, l1, l2⟩ := Bl.out.c3; obtain ⟨m0, m1, m2, m3, m4, m5, m6⟩ := Bm.out.c7; obtain ⟨t0, t1, t2, t3⟩ := Bt.out.c4; simp at l0 l1 l2 m0 m1 m2 m3 m4 m5 m6 t0 t1 t2 t3; clear k3))
        go_roundw
        case rel =>
         refine ⟨k + 1, by omega, by go_num, (TWB.out.and_then HK.out), (show Hid _ from fun q hq2 => ?_)⟩
         by_cases e : q = k
         ·subst e; rw [HY.out]; exact HB9.out
         ·exact A.out q (by omega)
        case measure => simp [intOf]; omega
  ·have hltz : ¬ (k : Int) < (f.nb : Int) := by omega
   obtain rfl : f.nb = k := by omega
   go_wp2
   go_ret
   exact ⟨ret_bool (by rw [← HRB.out]; exact (all_yes (p := tblockB f) (fun j hj => A.out j (by rw [← HNB.out]; exact hj))).symm), (TW0.out.and_then HK.out)⟩
end Go.Proofs.YtjllbchfojonhaaGreatDoor
