/- Which checks are good at a place (guard.Passed); the walk. -/
import Derived.Test.YtjllbchfojonhaaGreatDoorGW
import Derived.Test.YtjllbchfojonhaaGreatDoorGK
import Derived.Test.YtjllbchfojonhaaGreatDoorRefTy
import Derived.Deep.CutBlock
import Derived.Deep.Cut
namespace Go.Proofs.YtjllbchfojonhaaGreatDoor
open Go.RowKit Go.Shelf Go.Lib
set_option linter.unusedVariables false
set_option linter.unusedSimpArgs false
theorem few_insts {f : FuncM} (h : FewP f) : (instsF f).length ≤ 100000 ∧ ∀ b, b < f.nb → f.blocks.2[b]!.phis.2.length ≤ 100000 ∧ f.blocks.2[b]!.insts.2.length ≤ 100000 := by
 constructor
 ·have key : ∀ l : List BlockM, (∀ b ∈ l, b.insts.2.length ≤ 1000) → (l.flatMap fun b => b.insts.2).length ≤ 1000 * l.length := fun l => by
   induction l with
   | nil => intro _; simp
   | cons b l ih =>
    intro hb
    have h1 := hb b (List.mem_cons_self ..)
    have h2 := ih (fun c hc => hb c (List.mem_cons_of_mem _ hc))
    rw [List.flatMap_cons, List.length_append, List.length_cons]; omega
  have h1 := key f.blocks.2 (fun b hb => (h.block b hb).2)
  have h2 := h.nb
  have h3 : f.blocks.2.length = f.nb := rfl
  unfold instsF; omega
 ·intro b hb
  have := h.block _ (bang_mem hb)
  omega
theorem args_small {f : FuncM} (h : typedE f = 0) : ∀ c ∈ collectF f, c.args.2.length ≤ 100 := fun c hc => by
 obtain ⟨_, x, hx, rfl⟩ := collect_of _ c hc
 obtain ⟨b, hb, hx⟩ := List.mem_flatMap.1 hx
 obtain ⟨⟨h0, h27⟩, hl, _⟩ := inst_parts ((shaped_blocks (typed_shaped h).1 b hb).2.1 x hx)
 show x.args.2.length ≤ 100
 rw [hl]
 have := (takes_small x.op.toNat (by omega)).1
 unfold ntk; exact this
open Classical in
noncomputable def goodD (f : FuncM) (b pl : Nat) (c : CheckM) : Bool := decide (GoodP f c.op c.args.2 b pl)
def CheckM.key (c : CheckM) : Int × List Int := (c.op, c.args.2)
def PassOK (f : FuncM) (b p : Int) : Prop := typedE f = 0 ∧ 0 ≤ b ∧ b < (f.nb : Int) ∧ 0 ≤ p ∧ p ≤ (f.blocks.2[b.toNat]!.insts.2.length : Int) ∧ RWay (succF f) b.toNat
open Classical in
noncomputable def passedL (f : FuncM) (b p : Int) : List (Int × List Int) := if PassOK f b p then ((collectF f).filter (goodD f b.toNat p.toNat)).map CheckM.key else []
theorem passed_no {f : FuncM} {b p : Int} (h : ¬ PassOK f b p) : passedL f b p = [] := by unfold passedL; rw [if_neg h]
def CkRet (f : FuncM) (b p : Int) (w : World) (v : Value) : Prop := ∃ l : List CheckM, Row w 2 v (l.map CheckM.cells) ∧ (∀ d ∈ l, IntsAt w d.args) ∧ l.map CheckM.key = passedL f b p
theorem ck_nil {f : FuncM} {b p : Int} {w : World} (h : ¬ PassOK f b p) : CkRet f b p w (.slice none 0 0) := ⟨[], ⟨none, 0, rfl, Nat.le_refl _, Nat.zero_le _, .inl rfl⟩, by simp, (passed_no h).symm⟩
open Classical in
theorem thr_good {f : FuncM} {I : List (List Bool)} (hG : GoodI f I) {b pl i : Nat} (hi : i < (collectF f).length) (hr : RWay (succF f) b) : throughM f.blocks.2[b]! (collectF f)[i]!.op (collectF f)[i]!.args.2 pl (I[b]![i]!) = goodD f b pl (collectF f)[i]! := by
 have h := hG b i hi hr (throughM f.blocks.2[b]! (collectF f)[i]!.op (collectF f)[i]!.args.2 pl) (through_mono _ _ _ _)
 unfold goodD
 rw [Bool.eq_iff_iff, decide_eq_true_eq]
 exact h
theorem own_cell2 {w : World} {cs : List CheckM} {g n cap base : Nat} (h : w.ownsRow base 49 2 (.slice (some ⟨g, 0, none⟩) n cap) n (cellsC cs)) {i : Nat} (hi : i < cs.length) (hn : cs.length = n) : w.cell? ⟨g, i * 2, none⟩ = some (.int .i64 cs[i]!.op) ∧ w.cell? ⟨g, i * 2 + 1, none⟩ = some cs[i]!.args.1 := by
 have h0 := flat_get (cellsC_len cs) i 0 (by omega)
 have h1 := flat_get (cellsC_len cs) i 1 (by omega)
 rw [List.getElem?_map, List.getElem?_eq_getElem hi, ← getElem!_pos cs i hi] at h0 h1
 exact ⟨(own_cellAt h rfl (i := i * 2) (by omega)).1.trans h0, (own_cellAt h rfl (i := i * 2 + 1) (by omega)).1.trans h1⟩
set_option maxRecDepth 100000 in
set_option maxHeartbeats 200000000 in
theorem passed_any (f : FuncM) (b p : Int) (w : World) (ht : Tabs w) (hf : FuncAt w f) (hfew : FewP f) : Calls Tryz.prog 10 #[f.val, .int .i64 b, .int .i64 p] w fun e w' => (∃ v, e = .returned v ∧ CkRet f b p w' v) ∧ Keeps w w' [] := by
 obtain ⟨i49, hi49, he49⟩ := Option.map_eq_some_iff.1 info49
 simp only [Prod.mk.injEq] at he49
 obtain ⟨hz49, hs49, hb49⟩ := he49
 obtain ⟨hN, hbd⟩ := few_insts hfew
 have CT := kept (fun W h1 (h2 : FuncAt W f) => typedF_any f W h1 h2 hfew)
 have CLk := kept (fun (hT : typedE f = 0) W h1 (h2 : FuncAt W f) => look_any f W h1 h2 hfew hT hN hbd)
 have HTB := kept ht
 have HBD := kept hbd
 have HNC := kept (show (collectF f).length ≤ 100000 from Nat.le_trans (collect_len _) hN)
 have hnbF := hfew.nb
 obtain ⟨a0, c0, a1, c1, a2, c2, e0, e1, e2, hval, h1, HF, HC0, HC1, HC2, HNV, HNP, HNB⟩ := fopen hf
 rw [hval] at CT CLk ⊢
 clear hval h1 e0 e1 e2 hf HC0 HC1 ht hN hbd hfew
 obtain ⟨HK, Bl⟩ := fbox w 26 #[.slice a0 f.nv c0, .slice a1 f.np c1, .slice a2 f.nb c2]
 obtain ⟨l0, l1, l2⟩ := Bl.out.c3
 simp at l0 l1 l2
 go_enter Tryz.func10, Tryz.ntmps10
 by_cases hT : typedE f = 0
 ·have HTT := kept hT
  rw [hT] at CT
  have CLo := kept (CLk.out hT)
  clear CLk hT
  by_cases hb0 : b < 0
  ·go_wp2_with (first | (go_at_call 33; refine (CT.out _ (HTB.out.keep HK.out) (HF.out.keep HK.out)).mono ?_; rintro e w3 ⟨rfl, k3⟩; (try replace m2 := k3.cellOf m2); clear l0 l1 l2; replace Bl := kept (Bl.out.keep k3 (by simp)); replace HK := kept (HK.out.and_then k3); obtain ⟨l0, l1, l2⟩ := Bl.out.c3; simp at l0 l1 l2; clear k3))
   go_ret
   exact ⟨⟨_, rfl, ck_nil (fun h => by have h9 := h.2.1; omega)⟩, HK.out⟩
  by_cases hbn : (f.nb : Int) ≤ b
  ·go_wp2_with (first | (go_at_call 33; refine (CT.out _ (HTB.out.keep HK.out) (HF.out.keep HK.out)).mono ?_; rintro e w3 ⟨rfl, k3⟩; (try replace m2 := k3.cellOf m2); clear l0 l1 l2; replace Bl := kept (Bl.out.keep k3 (by simp)); replace HK := kept (HK.out.and_then k3); obtain ⟨l0, l1, l2⟩ := Bl.out.c3; simp at l0 l1 l2; clear k3))
   go_ret
   exact ⟨⟨_, rfl, ck_nil (fun h => by have h9 := h.2.2.1; omega)⟩, HK.out⟩
  by_cases hp0 : p < 0
  ·go_wp2_with (first | (go_at_call 33; refine (CT.out _ (HTB.out.keep HK.out) (HF.out.keep HK.out)).mono ?_; rintro e w3 ⟨rfl, k3⟩; (try replace m2 := k3.cellOf m2); clear l0 l1 l2; replace Bl := kept (Bl.out.keep k3 (by simp)); replace HK := kept (HK.out.and_then k3); obtain ⟨l0, l1, l2⟩ := Bl.out.c3; simp at l0 l1 l2; clear k3))
   go_ret
   exact ⟨⟨_, rfl, ck_nil (fun h => by have h9 := h.2.2.2.1; omega)⟩, HK.out⟩
  obtain ⟨bn, rfl⟩ : ∃ bn : Nat, b = bn := ⟨b.toNat, by omega⟩
  obtain ⟨pl, rfl⟩ : ∃ pl : Nat, p = pl := ⟨p.toNat, by omega⟩
  have hbl : bn < f.nb := by omega
  obtain ⟨bb, off, e8, hbb, hbc⟩ := HC2.out bn (by rw [HNB.out]; exact hbl)
  obtain rfl := e8
  have HBC := kept hbc
  clear hbc HC2
  obtain ⟨qa, qc, qe, -, hqm, -⟩ := (HF.out.block _ (bang_mem (l := f.blocks.2) (k := bn) hbl)).insts.open_
  obtain ⟨pa, pc, pe, -, -, -⟩ := (HF.out.block _ (bang_mem (l := f.blocks.2) (k := bn) hbl)).phis.open_
  have hil := (HBD.out bn hbl).2
  have HYC := kept (show (f.blocks.2[bn]!).cells = [.string (f.blocks.2[bn]!).name, .slice pa (f.blocks.2[bn]!).phis.2.length pc, .slice qa (f.blocks.2[bn]!).insts.2.length qc, .int .i64 (f.blocks.2[bn]!).kind, .int .i64 (f.blocks.2[bn]!).var, .int .i64 (f.blocks.2[bn]!).to0, .int .i64 (f.blocks.2[bn]!).to1] by unfold BlockM.cells; rw [pe, qe])
  have HBC2 : Hid (∀ (i : Nat) (x : Value), [.string (f.blocks.2[bn]!).name, .slice pa (f.blocks.2[bn]!).phis.2.length pc, .slice qa (f.blocks.2[bn]!).insts.2.length qc, .int .i64 (f.blocks.2[bn]!).kind, .int .i64 (f.blocks.2[bn]!).var, .int .i64 (f.blocks.2[bn]!).to0, .int .i64 (f.blocks.2[bn]!).to1][i]? = some x → w.cell? ⟨bb, off + bn * 7 + i, none⟩ = some x) := kept (fun i x hx => HBC.out i x (by rw [HYC.out]; exact hx))
  clear HBC pe qe
  have CTh := kept (fun (L : Nat) (th : List Bool) (I : List (List Bool)) (lv tv iv : Value) (vs : List Value) (W : World) (hF : FieldAt W L f (collectF f) th I lv tv iv vs) (hO : FieldOK f (collectF f) th I) (hpl : pl ≤ f.blocks.2[bn]!.insts.2.length) => through_any (collectF f) f.blocks.2[bn]! pl L lv tv iv f.vars.1 f.params.1 f.blocks.1 vs[bn]! I[bn]! W hF.box hF.row hF.la (bits_of_own (hF.ir bn (by rw [hO.li]; exact hbl))) (hO.lw bn hbl) hO.nc (hF.fn.block _ (bang_mem hbl)) hpl (hO.bd bn hbl) (hO.ok bn hbl))
  rw [show (f.blocks.2[bn]!).cells.toArray = #[.string (f.blocks.2[bn]!).name, .slice pa (f.blocks.2[bn]!).phis.2.length pc, .slice qa (f.blocks.2[bn]!).insts.2.length qc, .int .i64 (f.blocks.2[bn]!).kind, .int .i64 (f.blocks.2[bn]!).var, .int .i64 (f.blocks.2[bn]!).to0, .int .i64 (f.blocks.2[bn]!).to1] by rw [HYC.out]] at CTh
  clear HYC
  obtain ⟨yn, hyn⟩ : ∃ y, (f.blocks.2[bn]!).name = y := ⟨_, rfl⟩
  obtain ⟨pn, hpn⟩ : ∃ y, (f.blocks.2[bn]!).phis.2.length = y := ⟨_, rfl⟩
  obtain ⟨qn, hqn⟩ : ∃ y, (f.blocks.2[bn]!).insts.2.length = y := ⟨_, rfl⟩
  obtain ⟨yk, hyk⟩ : ∃ y, (f.blocks.2[bn]!).kind = y := ⟨_, rfl⟩
  obtain ⟨yv, hyv⟩ : ∃ y, (f.blocks.2[bn]!).var = y := ⟨_, rfl⟩
  obtain ⟨y0, hy0⟩ : ∃ y, (f.blocks.2[bn]!).to0 = y := ⟨_, rfl⟩
  obtain ⟨y1, hy1⟩ : ∃ y, (f.blocks.2[bn]!).to1 = y := ⟨_, rfl⟩
  simp only [hyn, hpn, hqn, hyk, hyv, hy0, hy1] at CTh HBC2
  rw [hqn] at hil
  have HQN := kept hqn
  clear hyn hpn hqn hyk hyv hy0 hy1
  have m2 := HK.out.cellOf (HBC2.out 2 _ rfl)
  by_cases hpq : (qn : Int) < (pl : Int)
  ·go_wp2_with (first | (go_at_call 33; refine (CT.out _ (HTB.out.keep HK.out) (HF.out.keep HK.out)).mono ?_; rintro e w3 ⟨rfl, k3⟩; (try replace m2 := k3.cellOf m2); clear l0 l1 l2; replace Bl := kept (Bl.out.keep k3 (by simp)); replace HK := kept (HK.out.and_then k3); obtain ⟨l0, l1, l2⟩ := Bl.out.c3; simp at l0 l1 l2; clear k3))
   go_ret
   exact ⟨⟨_, rfl, ck_nil (fun h => by have h9 := h.2.2.2.2.1; rw [Int.toNat_natCast, HQN.out] at h9; omega)⟩, HK.out⟩
  have hplq : pl ≤ qn := by omega
  go_upto_region 4 with (first | (go_at_call 33; refine (CT.out _ (HTB.out.keep HK.out) (HF.out.keep HK.out)).mono ?_; rintro e w3 ⟨rfl, k3⟩; (try replace m2 := k3.cellOf m2); clear l0 l1 l2; replace Bl := kept (Bl.out.keep k3 (by simp)); replace HK := kept (HK.out.and_then k3); obtain ⟨l0, l1, l2⟩ := Bl.out.c3; simp at l0 l1 l2; clear k3) | (go_at_call 34; refine (CLo.out _ (HTB.out.keep HK.out) (HF.out.keep HK.out)).mono ?_; rintro e w3 ⟨⟨L, rfl, hlk⟩, k3⟩; have HLK := kept hlk; clear hlk; (try clear m2); clear l0 l1 l2; replace Bl := kept (Bl.out.keep k3 (by simp)); replace HK := kept (HK.out.and_then k3); obtain ⟨l0, l1, l2⟩ := Bl.out.c3; simp at l0 l1 l2; clear k3))
  obtain ⟨th, I, lv, tv, iv, vs, hFI, hFO, hTH, hGI⟩ := HLK.out
  have HFI := kept hFI
  have HFO := kept hFO
  have HTH := kept hTH
  have HGI := kept hGI
  clear hFI hFO hTH hGI HLK
  obtain ⟨W5, hW5⟩ : ∃ W5 : World, W5 = w3 := ⟨_, rfl⟩
  subst hW5
  obtain ⟨tg, tc, e9, -, -, htc⟩ := own_at HFI.out.t (by rw [HFO.out.lt]; omega)
  rw [HFO.out.lt] at e9 htc
  obtain ⟨ia, ic, e7, -, -, hii⟩ := own_at HFI.out.i (by rw [HFO.out.li]; omega)
  rw [HFO.out.li] at e7 hii
  have t0 := (htc bn hbl).trans (bitV_at (by rw [HFO.out.lt]; exact hbl))
  have HIC := kept ((hii bn hbl).trans (getElem?_pos_bang (by have h9 := HFI.out.i.1; rw [HFO.out.li] at h9; omega)))
  clear htc hii
  subst e9
  subst e7
  obtain ⟨la, lc, rfl, -, -⟩ := own_form HFI.out.l
  have HL4 : Hid (W5.cell? ⟨L, 4, none⟩ = some (.slice (some ⟨tg, 0, none⟩) f.nb tc)) := kept (by have h9 := HFI.out.box.cell 4; simpa using h9)
  have HL5 : Hid (W5.cell? ⟨L, 5, none⟩ = some (.slice (some ⟨ia, 0, none⟩) f.nb ic)) := kept (by have h9 := HFI.out.box.cell 5; simpa using h9)
  have f4 := HL4.out
  have HTP := kept (show th[bn]! = th[bn]! from rfl)
  generalize htp : th[bn]! = tp at t0
  replace HTP := kept htp
  clear htp
  cases tp
  ·go_wp2
   go_ret
   exact ⟨⟨_, rfl, ck_nil (fun h => by have h9 := (HTH.out.mem bn hbl).2 (by have h8 := h.2.2.2.2.2; rwa [Int.toNat_natCast] at h8); rw [HTP.out] at h9; cases h9)⟩, HK.out⟩
  ·go_upto_region 7 with (fail)
   have HAS := kept (args_small HTT.out)
   have HRW := kept ((HTH.out.mem bn hbl).1 HTP.out)
   have HRG := kept (fun i (hi : i < (collectF f).length) => thr_good HGI.out (pl := pl) hi HRW.out)
   have HPOK := kept (show PassOK f (bn : Nat) (pl : Nat) from ⟨HTT.out, by omega, by omega, by omega, by rw [Int.toNat_natCast, HQN.out]; omega, by rw [Int.toNat_natCast]; exact HRW.out⟩)
   have CTp := kept (fun W (hW : Keeps W5 W []) => CTh.out L th I _ _ _ vs W (HFI.out.keep hW) HFO.out (by first | exact hplq | (rw [HQN.out]; exact hplq)))
   clear CTh CT CLo t0 f4 HTH HGI
   obtain ⟨cs, hcs⟩ : ∃ cs, collectF f = cs := ⟨_, rfl⟩
   have HCS := kept hcs
   simp only [hcs] at HRG CTp HNC HFI HAS
   clear hcs
   have HPL2 := kept (show passedL f (bn : Nat) (pl : Nat) = (cs.filter (goodD f bn pl)).map CheckM.key by unfold passedL; rw [if_pos HPOK.out, HCS.out, Int.toNat_natCast, Int.toNat_natCast])
   obtain ⟨nc, hnc⟩ : ∃ nc, cs.length = nc := ⟨_, rfl⟩
   have HN := kept hnc
   have hncB : nc ≤ 100000 := by have h9 := HNC.out; rw [hnc] at h9; exact h9
   rw [hnc] at CTp HRG HFI
   clear hnc HNC
   have HRT := kept (fun i (hi : i < nc) => show (throughL cs f.blocks.2[bn]! pl I[bn]!)[i]! = goodD f bn pl cs[i]! by unfold throughL; rw [range_at _ (by rw [HN.out]; exact hi)]; exact HRG.out i hi)
   have HRL := kept (throughL_len (cs := cs) (y := f.blocks.2[bn]!) (l := I[bn]!) pl)
   generalize throughL cs f.blocks.2[bn]! pl I[bn]! = R at *
   generalize vs[bn]! = vp at *
   clear HRG
   have HM0 := kept (HK.out.cellOf (HBC2.out 0 _ rfl))
   have HM1 := kept (HK.out.cellOf (HBC2.out 1 _ rfl))
   have HM2 := kept (HK.out.cellOf (HBC2.out 2 _ rfl))
   have HM3 := kept (HK.out.cellOf (HBC2.out 3 _ rfl))
   have HM4 := kept (HK.out.cellOf (HBC2.out 4 _ rfl))
   have HM5 := kept (HK.out.cellOf (HBC2.out 5 _ rfl))
   have HM6 := kept (HK.out.cellOf (HBC2.out 6 _ rfl))
   simp only [Nat.add_zero] at HM0
   clear HBC2
   clear l0 l1 l2
   have Bl_W5 := Bl
   have TW5 := HK
   clear HK
   have HK := kept (Keeps.refl W5 [])
   obtain ⟨l0, l1, l2⟩ := Bl.out.c3
   simp at l0 l1 l2
   clear l0 l1 l2
   obtain ⟨l0, l1, l2⟩ := Bl.out.c3
   simp at l0 l1 l2
   have f5 := HK.out.cellOf HL5.out
   have ip := HK.out.cellOf HIC.out
   have n0 := HK.out.cellOf HM0.out
   have n1 := HK.out.cellOf HM1.out
   have n2 := HK.out.cellOf HM2.out
   have n3 := HK.out.cellOf HM3.out
   have n4 := HK.out.cellOf HM4.out
   have n5 := HK.out.cellOf HM5.out
   have n6 := HK.out.cellOf HM6.out
   refine wp_region_held_drew (S := (fun w' => w'.cell? ⟨w.heap.size, 0, none⟩ = some (.slice a0 f.nv c0) ∧ w'.cell? ⟨w.heap.size, 1, none⟩ = some (.slice a1 f.np c1) ∧ w'.cell? ⟨w.heap.size, 2, none⟩ = some (.slice (some ⟨bb, off, none⟩) f.nb c2) ∧ w'.cell? ⟨L, 5, none⟩ = some (.slice (some ⟨ia, 0, none⟩) f.nb ic) ∧ w'.cell? ⟨ia, bn, none⟩ = some (vp) ∧ w'.cell? ⟨bb, off + bn * 7, none⟩ = some (.string yn) ∧ w'.cell? ⟨bb, off + bn * 7 + 1, none⟩ = some (.slice pa pn pc) ∧ w'.cell? ⟨bb, off + bn * 7 + 2, none⟩ = some (.slice qa qn qc) ∧ w'.cell? ⟨bb, off + bn * 7 + 3, none⟩ = some (.int .i64 yk) ∧ w'.cell? ⟨bb, off + bn * 7 + 4, none⟩ = some (.int .i64 yv) ∧ w'.cell? ⟨bb, off + bn * 7 + 5, none⟩ = some (.int .i64 y0) ∧ w'.cell? ⟨bb, off + bn * 7 + 6, none⟩ = some (.int .i64 y1))) (by kernel_rfl) ?bhSs (fun hHeld => ?_)
   case bhSs => exact ⟨l0, l1, l2, f5, ip, n0, n1, n2, n3, n4, n5, n6⟩
   clear l0 l1 l2 f5 ip n0 n1 n2 n3 n4 n5 n6
   replace Bl := kept (Bl.out.keep ((Keeps.refl _ []).drew) (by simp))
   replace HK := kept (HK.out.drew)
   generalize World.drew _ = X0 at *
   obtain ⟨l0, l1, l2⟩ := Bl.out.c3
   simp at l0 l1 l2
   have f5 := HK.out.cellOf HL5.out
   have ip := HK.out.cellOf HIC.out
   have n0 := HK.out.cellOf HM0.out
   have n1 := HK.out.cellOf HM1.out
   have n2 := HK.out.cellOf HM2.out
   have n3 := HK.out.cellOf HM3.out
   have n4 := HK.out.cellOf HM4.out
   have n5 := HK.out.cellOf HM5.out
   have n6 := HK.out.cellOf HM6.out
   refine tl 0 ⟨some 50, _, _, _, _, _⟩ rfl hHeld ?_
   refine tl 1 ⟨some 51, _, _, _, _, _⟩ rfl hHeld ?_
   refine tl 2 ⟨some 52, _, _, _, _, _⟩ rfl hHeld ?_
   refine tl 3 ⟨some 53, _, _, _, _, _⟩ rfl hHeld ?_
   refine tl 4 ⟨some 54, _, _, _, _, _⟩ rfl hHeld ?_
   refine tl 5 ⟨some 55, _, _, _, _, _⟩ rfl hHeld ?_
   refine tl 6 ⟨some 56, _, _, _, _, _⟩ rfl hHeld ?_
   refine tl 7 ⟨some 57, _, _, _, _, _⟩ rfl hHeld ?_
   refine tl 8 ⟨some 58, _, _, _, _, _⟩ rfl hHeld ?_
   refine tl 9 ⟨some 59, _, _, _, _, _⟩ rfl hHeld ?_
   refine tl 10 ⟨some 60, _, _, _, _, _⟩ rfl hHeld ?_
   refine tl 11 ⟨some 61, _, _, _, _, _⟩ rfl hHeld ?_
   refine tl 12 ⟨some 62, _, _, _, _, _⟩ rfl hHeld ?_
   refine tl 13 ⟨some 63, _, _, _, _, _⟩ rfl hHeld ?_
   refine tl 16 ⟨some 66, _, _, _, _, _⟩ rfl hHeld ?_
   refine t1 14 fun K hK => ?_
   go_simp
   (with_reducible refine (CTp.out _ HK.out).mono ?_)
   rintro e wx ⟨⟨rv, rfl, hown⟩, k3⟩
   obtain ⟨ra, rc, rfl, -, -⟩ := own_form hown
   have OR := kept (own_low (b := 0) hown (Nat.zero_le _))
   clear hown
   show K _ _
   clear hHeld
   clear l0 l1 l2 f5 ip n0 n1 n2 n3 n4 n5 n6
   replace Bl := kept (Bl.out.keep k3 (by simp))
   replace HK := kept (HK.out.and_then k3)
   obtain ⟨l0, l1, l2⟩ := Bl.out.c3
   simp at l0 l1 l2
   have f5 := HK.out.cellOf HL5.out
   have ip := HK.out.cellOf HIC.out
   have n0 := HK.out.cellOf HM0.out
   have n1 := HK.out.cellOf HM1.out
   have n2 := HK.out.cellOf HM2.out
   have n3 := HK.out.cellOf HM3.out
   have n4 := HK.out.cellOf HM4.out
   have n5 := HK.out.cellOf HM5.out
   have n6 := HK.out.cellOf HM6.out
   clear k3
   refine hK.out _ _ ?bhS14 (fun hHeld => ?_)
   case bhS14 => exact ⟨l0, l1, l2, f5, ip, n0, n1, n2, n3, n4, n5, n6⟩
   clear hK K
   try simp only [Act.put, sA, sB, sC]
   refine tl 15 ⟨some 65, _, _, _, _, _⟩ rfl hHeld ?_
   refine wpAnyH_done (by kernel_rfl) ?_ _
   clear hHeld
   have HFX := kept (HFI.out.keep HK.out)
   have HKT := kept (TW5.out.and_then HK.out)
   clear HFI Bl HK l0 l1 l2 f5 ip n0 n1 n2 n3 n4 n5 n6
   have HFI := HFX
   clear HFX
   go_wp2
   obtain ⟨W6, hW6⟩ : ∃ W6 : World, W6 = wx := ⟨_, rfl⟩
   subst hW6
   have HWT := kept HKT.out
   have HFIA := kept HFI.out
   have ORA := kept OR.out
   clear HFI OR HKT
   go_loopw [8, 66] (fun a' i' wx => ∃ (i : Nat) (l : List CheckM), i ≤ nc ∧ i' = .int .i64 i ∧ Hid (wx.ownsRow W6.heap.size 49 2 a' l.length (cellsC l)) ∧ Hid (∀ d ∈ l, wx.ownsRow 0 3 1 d.args.1 d.args.2.length (d.args.2.map (Value.int .i64))) ∧ Hid (l.map CheckM.key = ((cs.take i).filter (goodD f bn pl)).map CheckM.key) ∧ Hid (l.length ≤ i) ∧ Keeps W6 wx []) (fun _ i' _ => nc - (intOf i').toNat)
   case atStart => exact ⟨0, [], Nat.zero_le _, rfl, World.ownsRow_nil _ _ _ _, (show Hid _ from by show ∀ d ∈ ([] : List CheckM), _; simp), (show Hid _ from by show _ = _; simp), Nat.zero_le _, Keeps.refl _ _⟩
   case round =>
    obtain ⟨i, l, hi, rfl, hO, hLA, hKY, hLL, hr⟩ := hrel
    have OO := kept hO.out
    have OLA := kept hLA.out
    have HKY := kept hKY.out
    have HLL := kept hLL.out
    have HK := kept hr
    clear hO hLA hKY hLL hr
    obtain ⟨oa, oc, rfl, -, -⟩ := own_form OO.out
    by_cases hli : i < nc
    ·have hliz : (i : Int) < (nc : Int) := by omega
     have hic : i < cs.length := by rw [HN.out]; exact hli
     obtain ⟨rg, rc2, e1, -, -, hrc⟩ := own_at ORA.out (by omega)
     simp only [Value.slice.injEq] at e1
     obtain ⟨rfl, -, rfl⟩ := e1
     have r0 := HK.out.cellOf ((hrc i hli).trans (bitV_at (by rw [HRL.out, HN.out]; exact hli)))
     rw [HRT.out i hli] at r0
     clear hrc
     have HTK := kept (show (cs.take (i + 1)).filter (goodD f bn pl) = (cs.take i).filter (goodD f bn pl) ++ [cs[i]!].filter (goodD f bn pl) by rw [List.take_succ_eq_append_getElem hic, List.filter_append, getElem!_pos cs i hic])
     obtain ⟨cg, cc2, e1, -⟩ := own_cellC (show W6.ownsRow 0 49 2 (.slice la nc lc) nc (cellsC cs) from by have h9 := HFIA.out.l; rw [HN.out] at h9; exact h9) (by omega)
     simp only [Value.slice.injEq] at e1
     obtain ⟨rfl, -, rfl⟩ := e1
     have HCC := kept (own_cell2 (show W6.ownsRow 0 49 2 (.slice (some ⟨cg, 0, none⟩) nc lc) nc (cellsC cs) from by have h9 := HFIA.out.l; rw [HN.out] at h9; exact h9) hic HN.out)
     have hca := HFIA.out.la _ (bang_mem hic)
     obtain ⟨ua, uc, e1, -, -, -⟩ := Row.open_ (M := Int) (cells := intCells) hca
     have HCA := kept hca
     have HCE := kept e1
     rw [e1] at HCC
     clear hca e1
     cases hgd : goodD f bn pl cs[i]! with
     | false =>
      rw [hgd] at r0
      have HGD := kept hgd
      clear hgd
      go_wp2
      go_roundw
      case rel => exact ⟨i + 1, l, by omega, by go_num, OO.out, OLA.out, (show Hid _ from by show _ = _; rw [HTK.out, List.filter_cons_of_neg (by rw [HGD.out]; simp), List.filter_nil, List.append_nil]; exact HKY.out), kept (by have h9 := HLL.out; omega), HK.out⟩
      case measure => simp [intOf]; omega
     | true =>
      rw [hgd] at r0
      have HGD := kept hgd
      clear hgd
      have HCL := kept (fun W (h : IntsAt W cs[i]!.args) => clone_ints cs[i]!.args.1 cs[i]!.args.2 W h (by have h9 := HAS.out _ (bang_mem hic); omega))
      obtain ⟨cop, hcop⟩ : ∃ z, cs[i]!.op = z := ⟨_, rfl⟩
      obtain ⟨can, hcan⟩ : ∃ z, cs[i]!.args.2 = z := ⟨_, rfl⟩
      have HCK := kept (show cs[i]!.key = (cop, can) by unfold CheckM.key; rw [hcop, hcan])
      have HCT := kept (show cs[i]!.args.1 = .slice ua can.length uc by rw [HCE.out, hcan])
      rw [hcop, hcan] at HCC
      simp only [hcan] at HCL
      rw [HCT.out] at HCL
      have HCG := kept HGD.out
      clear hcop HCE HCG
      go_upto_region 11 with (fail)
      clear r0
      have f3 : wr.cell? ⟨L, 3, none⟩ = some (.slice (some ⟨cg, 0, none⟩) nc lc) := HK.out.cellOf (by have h9 := HFIA.out.box.cell 3; simpa using h9)
      have g0 := HK.out.cellOf HCC.out.1
      have g1 := HK.out.cellOf HCC.out.2
      refine wp_region_held_drew (S := (fun w' => w'.cell? ⟨L, 3, none⟩ = some (.slice (some ⟨cg, 0, none⟩) nc lc) ∧ w'.cell? ⟨cg, i * 2, none⟩ = some (.int .i64 cop) ∧ w'.cell? ⟨cg, i * 2 + 1, none⟩ = some (.slice ua can.length uc))) (by kernel_rfl) ?ghS (fun hHeld => ?_)
      case ghS => exact ⟨f3, g0, g1⟩
      clear f3 g0 g1
      replace OO := kept (own_keep OO.out ((Keeps.refl _ []).drew) (by simp))
      replace OLA := kept (fun d hd => own_keep (OLA.out d hd) ((Keeps.refl _ []).drew) (by simp))
      replace HK := kept (HK.out.drew)
      generalize World.drew _ = X0 at *
      have f3 : X0.cell? ⟨L, 3, none⟩ = some (.slice (some ⟨cg, 0, none⟩) nc lc) := HK.out.cellOf (by have h9 := HFIA.out.box.cell 3; simpa using h9)
      have g0 := HK.out.cellOf HCC.out.1
      have g1 := HK.out.cellOf HCC.out.2
      refine tl 0 ⟨some 72, _, _, _, _, _⟩ rfl hHeld ?_
      refine tl 1 ⟨some 73, _, _, _, _, _⟩ rfl hHeld ?_
      refine tl 2 ⟨some 74, _, _, _, _, _⟩ rfl hHeld ?_
      refine tl 3 ⟨some 75, _, _, _, _, _⟩ rfl hHeld ?_
      refine tl 4 ⟨some 76, _, _, _, _, _⟩ rfl hHeld ?_
      refine tl 5 ⟨some 77, _, _, _, _, _⟩ rfl hHeld ?_
      refine tl 6 ⟨some 78, _, _, _, _, _⟩ rfl hHeld ?_
      refine tl 7 ⟨some 79, _, _, _, _, _⟩ rfl hHeld ?_
      refine tl 8 ⟨some 80, _, _, _, _, _⟩ rfl hHeld ?_
      refine tl 9 ⟨some 81, _, _, _, _, _⟩ rfl hHeld ?_
      refine tl 10 ⟨some 82, _, _, _, _, _⟩ rfl hHeld ?_
      refine tl 11 ⟨some 83, _, _, _, _, _⟩ rfl hHeld ?_
      refine tl 12 ⟨some 84, _, _, _, _, _⟩ rfl hHeld ?_
      refine tl 13 ⟨some 85, _, _, _, _, _⟩ rfl hHeld ?_
      refine tl 14 ⟨some 86, _, _, _, _, _⟩ rfl hHeld ?_
      refine tl 15 ⟨some 87, _, _, _, _, _⟩ rfl hHeld ?_
      refine tl 16 ⟨some 88, _, _, _, _, _⟩ rfl hHeld ?_
      refine t2 [17] ?_
      refine t3 (fun K hK => ?_) ?_
      ·clear hHeld
       go_simp
       have hcx : IntsAt X0 cs[i]!.args := Row.keep HCA.out HK.out
       (with_reducible refine (HCL.out _ hcx).mono ?_)
       clear hcx
       rintro e Y1 ⟨⟨nv, rfl, hnv⟩, k3⟩
       obtain ⟨na, nd, rfl, -, -⟩ := own_form hnv
       have OV0 := kept (own_low (b := 0) hnv (Nat.zero_le _))
       clear hnv f3 g0 g1
       show K _ _
       replace OO := kept (own_keep OO.out k3 (by simp))
       replace OLA := kept (fun d hd => own_keep (OLA.out d hd) k3 (by simp))
       replace HK := kept (HK.out.and_then k3)
       have OV := OV0
       clear OV0 k3
       have f3 : Y1.cell? ⟨L, 3, none⟩ = some (.slice (some ⟨cg, 0, none⟩) nc lc) := HK.out.cellOf (by have h9 := HFIA.out.box.cell 3; simpa using h9)
       have g0 := HK.out.cellOf HCC.out.1
       have g1 := HK.out.cellOf HCC.out.2
       refine hK.out _ _ ?gh1 (fun hHeld => ?_)
       case gh1 => exact ⟨f3, g0, g1⟩
       clear hK K
       try simp only [Act.put, sA, sB, sC]
       refine tl 18 ⟨some 90, _, _, _, _, _⟩ rfl hHeld ?_
       refine t2 [19] ?_
       refine t3 (fun K hK => ?_) ?_
       ·clear hHeld
        go_simp
        clear f3 g0 g1
        have k3 : Keeps Y1 (Y1.alloc (.cells #[.int .i64 cop, .slice na can.length nd] 49)) [] := (Keeps.refl _ []).alloc _
        have BN0 := kept (Blk.new Y1 49 #[.int .i64 cop, .slice na can.length nd])
        replace OO := kept (own_keep OO.out k3 (by simp))
        replace OLA := kept (fun d hd => own_keep (OLA.out d hd) k3 (by simp))
        replace HK := kept (HK.out.and_then k3)
        try replace OV := kept (own_keep OV.out k3 (by simp))
        have BN := BN0
        clear BN0 k3
        generalize Y1.alloc (.cells #[.int .i64 cop, .slice na can.length nd] 49) = Y2 at *
        generalize Y1.heap.size = bnb at *
        show K _ _
        have f3 : Y2.cell? ⟨L, 3, none⟩ = some (.slice (some ⟨cg, 0, none⟩) nc lc) := HK.out.cellOf (by have h9 := HFIA.out.box.cell 3; simpa using h9)
        have g0 := HK.out.cellOf HCC.out.1
        have g1 := HK.out.cellOf HCC.out.2
        refine hK.out _ _ ?gh2 (fun hHeld => ?_)
        case gh2 => exact ⟨f3, g0, g1⟩
        clear hK K
        try simp only [Act.put, sA, sB, sC]
        refine t2 [20] ?_
        refine t3 (fun K hK => ?_) ?_
        ·clear hHeld
         clear f3 g0 g1
         refine step_row rfl (.tmp 72) (.tmp 91) 29 rfl W6.heap.size 49 i49 (.agg #[.int .i64 0, .slice none 0 0]) 2 32 Tryz.underlying29 hi49 hz49 hs49 hb49 rfl (by decide) (.slice oa l.length oc) l.length (cellsC l) rfl OO.out (.slice (some ⟨bnb, 0, none⟩) 1 1) [[.int .i64 cop, .slice na can.length nd]] rfl (row_single BN.out) (by simp) (by simp [Value.oneCell']) (by have h9 := HLL.out; simp; unfold maxLen; omega) (by have h9 := HLL.out; simp; omega) HK.out.size ?_
         intro v' Y3 hown hgrow
         have hK2 : Keeps W6 Y3 [] := HK.out.grown hgrow (fun z hz => .inr (own_lt OO.out hz).2)
         have hOLA2 := fun d hd => own_grown0 (OLA.out d hd) OO.out (by decide) hgrow
         have hOV2 := own_grown0 OV.out OO.out (by decide) hgrow
         show K _ _
         clear HK OLA OV BN hgrow
         have HK := kept hK2
         have OLA := kept hOLA2
         have OV := kept hOV2
         have OW := kept hown
         clear hK2 hOLA2 hOV2 hown OO
         have f3 : Y3.cell? ⟨L, 3, none⟩ = some (.slice (some ⟨cg, 0, none⟩) nc lc) := HK.out.cellOf (by have h9 := HFIA.out.box.cell 3; simpa using h9)
         have g0 := HK.out.cellOf HCC.out.1
         have g1 := HK.out.cellOf HCC.out.2
         refine hK.out _ _ ?gh3 (fun hHeld => ?_)
         case gh3 => exact ⟨f3, g0, g1⟩
         clear hK K
         try simp only [Act.put, sA, sB, sC]
         refine tl 21 ⟨some 8, _, _, _, _, _⟩ rfl hHeld ?_
         refine wpAnyH_done (by kernel_rfl) ?_ _
         clear hHeld
         clear f3 g0 g1
         go_wp2
         go_roundw
         case rel => exact ⟨i + 1, l ++ [⟨cop, (.slice na can.length nd, can)⟩], by omega, by go_num, kept (by have h9 := OW.out; rw [List.length_append, List.length_singleton, cellsC_snoc]; simpa [CheckM.cells] using h9), (show Hid _ from fun d hd => by rcases List.mem_append.1 hd with h | h; exact OLA.out d h; (rw [List.mem_singleton.1 h]; exact OV.out)), (show Hid _ from by show _ = _; rw [HTK.out, List.filter_cons_of_pos (by rw [HGD.out]), List.filter_nil, List.map_append, List.map_append, HKY.out, List.map_singleton, List.map_singleton, HCK.out]; rfl), kept (by have h9 := HLL.out; rw [List.length_append, List.length_singleton]; omega), HK.out⟩
         case measure => simp [intOf]; omega
        exact t4
       exact t4
      exact t4
    ·have hliz : ¬ (i : Int) < (nc : Int) := by omega
     obtain rfl : i = nc := by omega
     go_wp2
     go_ret
     exact ⟨⟨_, rfl, l, row_flat (cellsC_len _) (by omega) OO.out, fun d hd => ints_of_own (OLA.out d hd), by rw [HPL2.out]; have h9 := HKY.out; rwa [← HN.out, List.take_length] at h9⟩, HWT.out.and_then HK.out⟩
 ·have hT3 : typedE f = 3 := by unfold typedE at hT ⊢; split; (rename_i h; rw [if_pos h] at hT; exact absurd rfl hT); rfl
  have HTN := kept hT
  rw [hT3] at CT
  clear CLk hT hT3
  go_wp2_with (first | (go_at_call 33; refine (CT.out _ (HTB.out.keep HK.out) (HF.out.keep HK.out)).mono ?_; rintro e w3 ⟨rfl, k3⟩; (try replace m2 := k3.cellOf m2); clear l0 l1 l2; replace Bl := kept (Bl.out.keep k3 (by simp)); replace HK := kept (HK.out.and_then k3); obtain ⟨l0, l1, l2⟩ := Bl.out.c3; simp at l0 l1 l2; clear k3))
  go_ret
  exact ⟨⟨_, rfl, ck_nil (fun h => HTN.out h.1)⟩, HK.out⟩
end Go.Proofs.YtjllbchfojonhaaGreatDoor
