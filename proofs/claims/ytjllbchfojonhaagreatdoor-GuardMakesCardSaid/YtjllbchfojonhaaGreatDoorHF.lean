/- The document's Needs and Guarded; contracts. -/
import Derived.Test.YtjllbchfojonhaaGreatDoorHM
import Derived.Deep.CutBlock
import Derived.Deep.Cut
namespace Go.Proofs.YtjllbchfojonhaaGreatDoor
open Go.RowKit
set_option linter.unusedVariables false
set_option linter.unusedSimpArgs false
theorem kwordN : ∀ k : Nat, k < 27 → ((kword k).toList == [100, 105, 118]) = decide (k = 5) ∧ ((kword k).toList == [114, 101, 109]) = decide (k = 6) ∧ ((kword k).toList == [108, 111, 97, 100]) = decide (k = 13) ∧ ((kword k).toList == [115, 116, 111, 114, 101]) = decide (k = 14) ∧ ((kword k).toList == [108, 101, 110]) = decide (k = 12) ∧ ((kword k).toList == [110, 101, 119]) = decide (k = 15) := by
 intro k hk
 rw [ByteArray.toList_eq]
 revert hk k
 decide +kernel

set_option maxRecDepth 100000 in
set_option maxHeartbeats 200000000 in
theorem needs29_any (x : InstM) (k : Nat) (w : World) (hx : InstAt w x) (hk : k < 27) (ho : x.op = k) (hl : x.args.2.length = (ktakes k).size) : Calls Tryz.prog 29 #[.agg #[.int .i64 x.op, .int .i64 x.dst, x.args.1, .int .i64 x.num]] w fun e w' => (∃ v, e = .returned (.tuple #[.int .i64 (needC k).1, v, .bool (inL rawL (k : Int))]) ∧ NeedRet x k w' v) ∧ Keeps w w' [] := by
 obtain ⟨xa, xc, xe, hxl, hxm, hxc⟩ := Row.open_ (M := Int) (cells := intCells) (show Row w 1 x.args.1 (x.args.2.map intCells) from hx)
 have HX := kept (show Row w 1 x.args.1 (x.args.2.map intCells) from hx)
 rw [xe] at HX
 have CRW := kept (fun W => rows_at k hk W)
 have HNA := kept (show ∀ W v, IntsAt W (v, needA x k) → NeedRet x k W v from fun _ _ h => h)
 have HND := kept (show needA x k = (x.args.2.drop (needC k).2.1).take (needC k).2.2 from rfl)
 rw [xe, ho]
 obtain ⟨al, hal⟩ : ∃ al, x.args.2 = al := ⟨_, rfl⟩
 rw [hal] at hl hxl hxc HX HND ⊢
 have HXM := kept hxm
 have htB : (ktakes k).size ≤ 100 := (takes_small k hk).1
 have HTS0 := kept (show (ktakes k).size = (ktakes k).size from rfl)
 obtain ⟨xn, hts⟩ : ∃ z, (ktakes k).size = z := ⟨_, rfl⟩
 rw [hts] at hl htB
 rw [hl] at hxl hxc HX ⊢
 have HTS := kept hts
 have HAL := kept hl
 clear hts hl hx xe ho hal HTS0
 generalize x.dst = xd at *
 generalize x.num = xm at *
 obtain ⟨g5, g6, g13, g14, g12, g15⟩ := kwordN k hk
 have HG := kept (And.intro g5 (And.intro g6 (And.intro g13 (And.intro g14 (And.intro g12 g15)))))
 clear g5 g6 g13 g14 g12 g15
 generalize kword k = wd at *
 obtain ⟨HK, Bl⟩ := fbox w 43 #[.int .i64 (k : Nat), .int .i64 xd, .slice xa xn xc, .int .i64 xm]
 obtain ⟨l0, l1, l2, l3⟩ := Bl.out.c4
 simp at l0 l1 l2 l3
 go_enter Tryz.func29, Tryz.ntmps29
 go_upto_region 1 with (fail)
 clear l0 l1 l2 l3
 generalize (w.alloc (.cells #[.int .i64 (k : Nat), .int .i64 xd, .slice xa xn xc, .int .i64 xm] 43)) = W0 at *
 have Bl_W0 := Bl
 have TW0 := HK
 clear HK
 have HK := kept (Keeps.refl W0 [])
 obtain ⟨l0, l1, l2, l3⟩ := Bl.out.c4
 simp at l0 l1 l2 l3
 have hkz : (k : Int) < 27 := by omega
 refine wp_region_held_drew (S := (fun w' => w'.cell? ⟨w.heap.size, 0, none⟩ = some (.int .i64 (k : Nat)) ∧ w'.cell? ⟨w.heap.size, 1, none⟩ = some (.int .i64 xd) ∧ w'.cell? ⟨w.heap.size, 2, none⟩ = some (.slice xa xn xc) ∧ w'.cell? ⟨w.heap.size, 3, none⟩ = some (.int .i64 xm))) (by kernel_rfl) ?ahSs (fun hHeld => ?_)
 case ahSs => exact ⟨l0, l1, l2, l3⟩
 clear l0 l1 l2 l3
 replace Bl := kept (Bl.out.keep ((Keeps.refl _ []).drew) (by simp))
 replace HK := kept (HK.out.drew)
 generalize World.drew _ = X0 at *
 obtain ⟨l0, l1, l2, l3⟩ := Bl.out.c4
 simp at l0 l1 l2 l3
 refine tl 1 ⟨some 6, _, _, _, _, _⟩ rfl hHeld ?_
 refine tl 2 ⟨some 7, _, _, _, _, _⟩ rfl hHeld ?_
 refine t1 0 fun K hK => ?_
 go_simp
 (with_reducible refine (CRW.out _).mono ?_)
 rintro e wx ⟨rg, rfl, k3, hr0, -, -⟩
 have RR := kept hr0
 clear hr0
 show K _ _
 clear hHeld
 clear l0 l1 l2 l3
 replace Bl := kept (Bl.out.keep k3 (by simp))
 replace HK := kept (HK.out.and_then k3)
 obtain ⟨l0, l1, l2, l3⟩ := Bl.out.c4
 simp at l0 l1 l2 l3
 clear k3
 refine hK.out _ _ ?ahS0 (fun hHeld => ?_)
 case ahS0 => exact ⟨l0, l1, l2, l3⟩
 clear hK K
 try simp only [Act.put, sA, sB, sC]
 refine tl 3 ⟨some 8, _, _, _, _, _⟩ rfl hHeld ?_
 refine tl 4 ⟨some 9, _, _, _, _, _⟩ rfl hHeld ?_
 refine t1 5 fun K hK => ?_
 have r0 := RR.out
 go_simp
 show K _ _
 refine hK.out _ _ ?ahS5 (fun hHeld => ?_)
 case ahS5 => exact ⟨l0, l1, l2, l3⟩
 clear hK K
 try simp only [Act.put, sA, sB, sC]
 refine wpAnyH_done (by kernel_rfl) ?_ _
 clear hHeld
 obtain ⟨W5, hW5⟩ : ∃ W5 : World, W5 = wx := ⟨_, rfl⟩
 subst hW5
 clear RR CRW
 (try clear r0)
 clear l0 l1 l2 l3
 have Bl_W5 := Bl
 have TW5 := HK
 clear HK
 have HK := kept (Keeps.refl W5 [])
 obtain ⟨l0, l1, l2, l3⟩ := Bl.out.c4
 simp at l0 l1 l2 l3
 cases hrw : inL rawL (k : Int) with
 | false =>
  have HRW := kept hrw
  have hnk : k ≠ 5 ∧ k ≠ 6 ∧ k ≠ 12 ∧ k ≠ 13 ∧ k ≠ 14 ∧ k ≠ 15 := by refine ⟨?_, ?_, ?_, ?_, ?_, ?_⟩ <;> (intro h; subst h; revert hrw; decide)
  clear hrw
  have s5 : (wd.toList == [100, 105, 118]) = false := HG.out.1.trans (decide_eq_false (by omega))
  have s6 : (wd.toList == [114, 101, 109]) = false := HG.out.2.1.trans (decide_eq_false (by omega))
  have s13 : (wd.toList == [108, 111, 97, 100]) = false := HG.out.2.2.1.trans (decide_eq_false (by omega))
  have s14 : (wd.toList == [115, 116, 111, 114, 101]) = false := HG.out.2.2.2.1.trans (decide_eq_false (by omega))
  have s12 : (wd.toList == [108, 101, 110]) = false := HG.out.2.2.2.2.1.trans (decide_eq_false (by omega))
  have s15 : (wd.toList == [110, 101, 119]) = false := HG.out.2.2.2.2.2.trans (decide_eq_false (by omega))
  clear HG hnk
  go_wp2
  go_ret3
  exact ⟨⟨.slice none 0 0, by rw [needC_no HRW.out, HRW.out]; rfl, HNA.out _ _ (by rw [HND.out, needC_no HRW.out]; exact row_none)⟩, (TW0.out.and_then (TW5.out.and_then HK.out))⟩
 | true =>
  have HRW := kept hrw
  clear hrw
  have HRC := kept (raw_cases hk HRW.out)
  obtain ⟨ab, ao, rfl, -, -⟩ := hxc 0 (by have h9 := HRC.out; have h8 := HTS.out; rcases h9 with h | h | h | h | h | h <;> (subst h; rw [← h8]; decide))
  clear hxc
  rcases HRC.out with h | h | h | h | h | h
  ·subst h
   have hs : (ktakes 5).size = 2 := by decide
   have hxn2 : xn = 2 := by have h8 := HTS.out; omega
   subst hxn2
   have hb1 : (2 : Int) ≤ (xc : Int) := by omega
   have hb2 : ¬ xc = 1 := by omega
   have s5 : (wd.toList == [100, 105, 118]) = true := HG.out.1.trans (decide_eq_true (by omega))
   clear HG HRC
   go_wp2
   go_quiet (fail)
   go_wp2
   go_ret3
   exact ⟨⟨_, rfl, HNA.out _ _ (by rw [HND.out]; exact need_row (Row.keep HX.out (((TW0.out.and_then (TW5.out.and_then HK.out))).drewN _)) 1 1 (by omega) (by omega))⟩, ((TW0.out.and_then (TW5.out.and_then HK.out))).drewN _⟩
  ·subst h
   have hs : (ktakes 6).size = 2 := by decide
   have hxn2 : xn = 2 := by have h8 := HTS.out; omega
   subst hxn2
   have hb1 : (2 : Int) ≤ (xc : Int) := by omega
   have hb2 : ¬ xc = 1 := by omega
   have s5 : (wd.toList == [100, 105, 118]) = false := HG.out.1.trans (decide_eq_false (by omega))
   have s6 : (wd.toList == [114, 101, 109]) = true := HG.out.2.1.trans (decide_eq_true (by omega))
   clear HG HRC
   go_wp2
   go_quiet (fail)
   go_wp2
   go_ret3
   exact ⟨⟨_, rfl, HNA.out _ _ (by rw [HND.out]; exact need_row (Row.keep HX.out (((TW0.out.and_then (TW5.out.and_then HK.out))).drewN _)) 1 1 (by omega) (by omega))⟩, ((TW0.out.and_then (TW5.out.and_then HK.out))).drewN _⟩
  ·subst h
   have hs : (ktakes 12).size = 1 := by decide
   have hxn2 : xn = 1 := by have h8 := HTS.out; omega
   subst hxn2
   have hb1 : (1 : Int) ≤ (xc : Int) := by omega
   have hb2 : ¬ xc = 0 := by omega
   have s5 : (wd.toList == [100, 105, 118]) = false := HG.out.1.trans (decide_eq_false (by omega))
   have s6 : (wd.toList == [114, 101, 109]) = false := HG.out.2.1.trans (decide_eq_false (by omega))
   have s13 : (wd.toList == [108, 111, 97, 100]) = false := HG.out.2.2.1.trans (decide_eq_false (by omega))
   have s14 : (wd.toList == [115, 116, 111, 114, 101]) = false := HG.out.2.2.2.1.trans (decide_eq_false (by omega))
   have s12 : (wd.toList == [108, 101, 110]) = true := HG.out.2.2.2.2.1.trans (decide_eq_true (by omega))
   clear HG HRC
   go_wp2
   go_quiet (fail)
   go_wp2
   go_ret3
   exact ⟨⟨_, rfl, HNA.out _ _ (by rw [HND.out]; exact need_row (Row.keep HX.out (((TW0.out.and_then (TW5.out.and_then HK.out))).drewN _)) 0 1 (by omega) (by omega))⟩, ((TW0.out.and_then (TW5.out.and_then HK.out))).drewN _⟩
  ·subst h
   have hs : (ktakes 13).size = 2 := by decide
   have hxn2 : xn = 2 := by have h8 := HTS.out; omega
   subst hxn2
   have hb1 : (2 : Int) ≤ (xc : Int) := by omega
   have hb2 : ¬ xc = 0 := by omega
   have s5 : (wd.toList == [100, 105, 118]) = false := HG.out.1.trans (decide_eq_false (by omega))
   have s6 : (wd.toList == [114, 101, 109]) = false := HG.out.2.1.trans (decide_eq_false (by omega))
   have s13 : (wd.toList == [108, 111, 97, 100]) = true := HG.out.2.2.1.trans (decide_eq_true (by omega))
   clear HG HRC
   go_wp2
   go_quiet (fail)
   go_wp2
   go_ret3
   exact ⟨⟨_, rfl, HNA.out _ _ (by rw [HND.out]; exact need_row (Row.keep HX.out (((TW0.out.and_then (TW5.out.and_then HK.out))).drewN _)) 0 2 (by omega) (by omega))⟩, ((TW0.out.and_then (TW5.out.and_then HK.out))).drewN _⟩
  ·subst h
   have hs : (ktakes 14).size = 3 := by decide
   have hxn2 : xn = 3 := by have h8 := HTS.out; omega
   subst hxn2
   have hb1 : (2 : Int) ≤ (xc : Int) := by omega
   have hb2 : ¬ xc = 0 := by omega
   have s5 : (wd.toList == [100, 105, 118]) = false := HG.out.1.trans (decide_eq_false (by omega))
   have s6 : (wd.toList == [114, 101, 109]) = false := HG.out.2.1.trans (decide_eq_false (by omega))
   have s13 : (wd.toList == [108, 111, 97, 100]) = false := HG.out.2.2.1.trans (decide_eq_false (by omega))
   have s14 : (wd.toList == [115, 116, 111, 114, 101]) = true := HG.out.2.2.2.1.trans (decide_eq_true (by omega))
   clear HG HRC
   go_wp2
   go_quiet (fail)
   go_wp2
   go_ret3
   exact ⟨⟨_, rfl, HNA.out _ _ (by rw [HND.out]; exact need_row (Row.keep HX.out (((TW0.out.and_then (TW5.out.and_then HK.out))).drewN _)) 0 2 (by omega) (by omega))⟩, ((TW0.out.and_then (TW5.out.and_then HK.out))).drewN _⟩
  ·subst h
   have hs : (ktakes 15).size = 1 := by decide
   have hxn2 : xn = 1 := by have h8 := HTS.out; omega
   subst hxn2
   have hb1 : (1 : Int) ≤ (xc : Int) := by omega
   have hb2 : ¬ xc = 0 := by omega
   have s5 : (wd.toList == [100, 105, 118]) = false := HG.out.1.trans (decide_eq_false (by omega))
   have s6 : (wd.toList == [114, 101, 109]) = false := HG.out.2.1.trans (decide_eq_false (by omega))
   have s13 : (wd.toList == [108, 111, 97, 100]) = false := HG.out.2.2.1.trans (decide_eq_false (by omega))
   have s14 : (wd.toList == [115, 116, 111, 114, 101]) = false := HG.out.2.2.2.1.trans (decide_eq_false (by omega))
   have s12 : (wd.toList == [108, 101, 110]) = false := HG.out.2.2.2.2.1.trans (decide_eq_false (by omega))
   have s15 : (wd.toList == [110, 101, 119]) = true := HG.out.2.2.2.2.2.trans (decide_eq_true (by omega))
   clear HG HRC
   go_wp2
   go_quiet (fail)
   go_wp2
   go_ret3
   exact ⟨⟨_, rfl, HNA.out _ _ (by rw [HND.out]; exact need_row (Row.keep HX.out (((TW0.out.and_then (TW5.out.and_then HK.out))).drewN _)) 0 1 (by omega) (by omega))⟩, ((TW0.out.and_then (TW5.out.and_then HK.out))).drewN _⟩

set_option maxRecDepth 100000 in
set_option maxHeartbeats 200000000 in
theorem guarded19_any (f : FuncM) (th : List Bool) (g b pl : Nat) (w : World) (hf : FuncAt w f) (hB : Blk w g 4 (bitsR th)) (hR : ReachOK f th) (hT : typedE f = 0) (hfew : FewP f) (hb : b < f.nb) (hpl : pl < f.blocks.2[b]!.insts.2.length) :
  Calls Tryz.prog 19 #[f.val, .slice (some ⟨g, 0, none⟩) f.nb f.nb, .int .i64 (b : Nat), .int .i64 (pl : Nat)] w fun e w' => e = .returned (.bool (guardD f b pl)) ∧ Keeps w w' [] := by
 have GY := kept (fun h => guardD_yes (f := f) (b := b) (pl := pl) h)
 have GN := kept (fun h => guardD_no (f := f) (b := b) (pl := pl) h)
 have GP : Hid (GuardP f b pl ↔ (inL rawL f.blocks.2[b]!.insts.2[pl]!.op = false ∨ ¬ RWay (succF f) b ∨ GoodP f (needC f.blocks.2[b]!.insts.2[pl]!.op.toNat).1 (needA f.blocks.2[b]!.insts.2[pl]! f.blocks.2[b]!.insts.2[pl]!.op.toNat) b pl)) := kept Iff.rfl
 generalize guardD f b pl = R at *
 obtain ⟨hk, hl⟩ := inst_ok hT hb hpl
 have hnbF := hfew.nb
 have hilB := ((few_insts hfew).2 b hb).2
 have HTH := kept hR
 have CGo := kept (fun (code : Int) (q : IntsM) (W : World) (h1 : FuncAt W f) (h2 : IntsAt W q) => good14_any f code q b pl W h1 h2 (by omega) hb (Nat.le_of_lt hpl) (fun b hb => by have h9 := hfew.block b hb; omega))
 have t0 := bitR_cell hB (k := b) (by rw [hR.len]; exact hb)
 obtain ⟨a0, c0, e0, -, -, hc0⟩ := hf.vars.open_
 obtain ⟨a1, c1, e1, -, -, hc1⟩ := (show Row w 1 f.params.1 (f.params.2.map intCells) from hf.params).open_
 obtain ⟨a2, c2, e2, -, -, hc2⟩ := hf.blocks.open_
 have hval : f.val = .agg #[.slice a0 f.nv c0, .slice a1 f.np c1, .slice a2 f.nb c2] := by unfold FuncM.val FuncM.nv FuncM.np FuncM.nb; rw [e0, e1, e2]
 have h1 : #[f.vars.1, f.params.1, f.blocks.1] = #[.slice a0 f.nv c0, .slice a1 f.np c1, .slice a2 f.nb c2] := by unfold FuncM.nv FuncM.np FuncM.nb; rw [e0, e1, e2]
 have HF := kept hf
 have HC0 := kept hc0
 have HC1 := kept hc1
 have HC2 := kept hc2
 have HNV := kept (show f.vars.2.length = f.nv from rfl)
 have HNP := kept (show f.params.2.length = f.np from rfl)
 have HNB := kept (show f.blocks.2.length = f.nb from rfl)
 rw [hval] at CGo ⊢
 clear hval h1 e0 e1 e2 hc0 hc1 HC0 HC1 HC2
 have hyb := HF.out.block _ (bang_mem (l := f.blocks.2) (k := b) hb)
 obtain ⟨qa, qc, qe, -, hqm, hqc⟩ := hyb.insts.open_
 have hxa := hyb.inst _ (bang_mem (l := f.blocks.2[b]!.insts.2) (k := pl) hpl)
 obtain ⟨bb, off, e8, hbb, hbc⟩ := hc2 b (by rw [HNB.out]; exact hb)
 obtain ⟨ib, io, e7, hib, hic⟩ := hqc pl hpl
 have HIC := kept hic
 subst e8
 subst e7
 have hb2 := hbc 2 _ rfl
 rw [qe] at hb2
 obtain ⟨x, hx⟩ : ∃ x, f.blocks.2[b]!.insts.2[pl]! = x := ⟨_, rfl⟩
 rw [hx] at hk hl hxa HIC GP
 obtain ⟨k, hkk⟩ : ∃ k : Nat, x.op = k := ⟨x.op.toNat, by omega⟩
 rw [show x.op.toNat = k by rw [hkk, Int.toNat_natCast]] at hl GP
 rw [hkk] at GP
 have hk27 : k < 27 := by omega
 obtain ⟨xa, xc, xe, -, -, -⟩ := Row.open_ (M := Int) (cells := intCells) (show Row w 1 x.args.1 (x.args.2.map intCells) from hxa)
 have CNe := kept (fun (W : World) (hW : Keeps w W []) => needs29_any x k W (show InstAt W x from Row.keep (show Row w 1 x.args.1 (x.args.2.map intCells) from hxa) hW) hk27 hkk hl)
 rw [xe, hkk] at CNe
 have HIC2 : Hid (∀ (i : Nat) (z : Value), [.int .i64 (k : Nat), .int .i64 x.dst, .slice xa x.args.2.length xc, .int .i64 x.num][i]? = some z → w.cell? ⟨ib, io + pl * 4 + i, none⟩ = some z) := kept (fun i z hz => HIC.out i z (by unfold InstM.cells; rw [hkk, xe]; exact hz))
 have hbz : (b : Int) < (f.nb : Int) := by omega
 obtain ⟨il, hilE⟩ : ∃ z, f.blocks.2[b]!.insts.2.length = z := ⟨_, rfl⟩
 rw [hilE] at hb2 hpl hilB
 have hplz : (pl : Int) < (il : Int) := by omega
 generalize x.args.2.length = xn at *
 generalize x.dst = xd at *
 generalize x.num = xm at *
 have HB2 := kept hb2
 have HT0 := kept t0
 clear hilE hbc hqc hic hxa hyb hx HIC hT hfew hR xe qe hc2 hb2 t0 hkk hk hl hf hB
 obtain ⟨HK, Bl⟩ := fbox w 26 #[.slice a0 f.nv c0, .slice a1 f.np c1, .slice (some ⟨bb, off, none⟩) f.nb c2]
 obtain ⟨l0, l1, l2⟩ := Bl.out.c3
 simp at l0 l1 l2
 go_enter Tryz.func19, Tryz.ntmps19
 have m2 := HK.out.cellOf HB2.out
 have x0 := HK.out.cellOf (HIC2.out 0 _ rfl)
 have x1 := HK.out.cellOf (HIC2.out 1 _ rfl)
 have x2 := HK.out.cellOf (HIC2.out 2 _ rfl)
 have x3 := HK.out.cellOf (HIC2.out 3 _ rfl)
 simp only [Nat.add_zero] at x0
 have t0 := HK.out.cellOf HT0.out
 cases hrw : inL rawL (k : Int) with
 | false =>
  rw [hrw] at CNe
  have HRW := kept hrw
  clear hrw
  go_wp2_with (first | (go_at_call 29; refine (CNe.out _ HK.out).mono ?_; rintro e w3 ⟨⟨nv, rfl, hnr⟩, k3⟩; have HNR := kept hnr; clear hnr m2 x0 x1 x2 x3; replace t0 := k3.cellOf t0; clear l0 l1 l2; replace Bl := kept (Bl.out.keep k3 (by simp)); replace HK := kept (HK.out.and_then k3); obtain ⟨l0, l1, l2⟩ := Bl.out.c3; simp at l0 l1 l2; clear k3))
  go_ret
  exact ⟨ret_bool (GY.out (GP.out.2 (.inl HRW.out))).symm, HK.out⟩
 | true =>
  rw [hrw] at CNe
  have HRW := kept hrw
  clear hrw
  have HTP := kept (show th[b]! = th[b]! from rfl)
  generalize htp : th[b]! = tp at t0
  replace HTP := kept htp
  clear htp
  cases tp
  ·go_wp2_with (first | (go_at_call 29; refine (CNe.out _ HK.out).mono ?_; rintro e w3 ⟨⟨nv, rfl, hnr⟩, k3⟩; have HNR := kept hnr; clear hnr m2 x0 x1 x2 x3; replace t0 := k3.cellOf t0; clear l0 l1 l2; replace Bl := kept (Bl.out.keep k3 (by simp)); replace HK := kept (HK.out.and_then k3); obtain ⟨l0, l1, l2⟩ := Bl.out.c3; simp at l0 l1 l2; clear k3))
   go_ret
   exact ⟨ret_bool (GY.out (GP.out.2 (.inr (.inl fun hr => by have h9 := (HTH.out.mem b hb).2 hr; rw [HTP.out] at h9; cases h9)))).symm, HK.out⟩
  ·have HRR := kept ((HTH.out.mem b hb).1 HTP.out)
   go_wp2_with (first | (go_at_call 29; refine (CNe.out _ HK.out).mono ?_; rintro e w3 ⟨⟨nv, rfl, hnr⟩, k3⟩; have HNR := kept hnr; clear hnr m2 x0 x1 x2 x3; replace t0 := k3.cellOf t0; clear l0 l1 l2; replace Bl := kept (Bl.out.keep k3 (by simp)); replace HK := kept (HK.out.and_then k3); obtain ⟨l0, l1, l2⟩ := Bl.out.c3; simp at l0 l1 l2; clear k3) | (go_at_call 14; refine (CGo.out _ (nv, needA x k) _ (HF.out.keep HK.out) HNR.out).mono ?_; rintro e w3 ⟨⟨gv, rfl, hgv⟩, k3⟩; have HGV := kept hgv; clear hgv; clear l0 l1 l2; replace Bl := kept (Bl.out.keep k3 (by simp)); replace HK := kept (HK.out.and_then k3); obtain ⟨l0, l1, l2⟩ := Bl.out.c3; simp at l0 l1 l2; clear k3))
   go_ret
   exact ⟨ret_bool (by cases gv; exact (GN.out fun h => by rcases GP.out.1 h with h1 | h1 | h1; (rw [HRW.out] at h1; cases h1); exact h1 HRR.out; (have h2 := HGV.out.2 h1; cases h2)).symm; exact (GY.out (GP.out.2 (.inr (.inr (HGV.out.1 rfl))))).symm), HK.out⟩
end Go.Proofs.YtjllbchfojonhaaGreatDoor
