/- The document's guard: is a check good at a place? the walk. -/
import Derived.Test.YtjllbchfojonhaaGreatDoorGM
import Derived.Test.YtjllbchfojonhaaGreatDoorGoodLaw
import Derived.Deep.CutBlock
import Derived.Deep.Cut
import Derived.Deep.CutRange
namespace Go.Proofs.YtjllbchfojonhaaGreatDoor
open Go.RowKit
set_option linter.unusedVariables false
set_option linter.unusedSimpArgs false

def tF (f : FuncM) (op : Int) (l : List Int) (a : Nat) (g : Bool) : Bool := throughM f.blocks.2[a]! op l f.blocks.2[a]!.insts.2.length g
abbrev MarkF (f : FuncM) (op : Int) (l : List Int) (bd fn : List Bool) : Prop := MarkI (succF f) (tF f op l) f.nb bd fn
abbrev PassF (f : FuncM) (op : Int) (l : List Int) (bd0 fn0 bd fn : List Bool) (g : Bool) (a k y : Nat) : Prop := PassG (succF f) (tF f op l) f.nb bd0 fn0 bd fn g a k y
def GoodP (f : FuncM) (op : Int) (l : List Int) (b pl : Nat) : Prop := ∀ g, GWay (succF f) (tF f op l) b g → throughM f.blocks.2[b]! op l pl g = true
def iseq (x : Nat) (c : Int) : Bool := (x : Int) == c
theorem iseq_t {x : Nat} {c : Int} (h : (x : Int) = c) : iseq x c = true := by unfold iseq; simp [h]
theorem iseq_f {x : Nat} {c : Int} (h : (x : Int) ≠ c) : iseq x c = false := by unfold iseq; simp [h]
theorem bitR_cell {w : World} {g k : Nat} {l : List Bool} (h : Blk w g 4 (bitsR l)) (hk : k < l.length) : w.cell? ⟨g, k, none⟩ = some (.bool l[k]!) := by rw [h.cell k, bitsR_at hk]
theorem cntF_repl (n : Nat) : cntF (List.replicate n false) = n := by simp [cntF]
theorem cntF_le (l : List Bool) : cntF l ≤ l.length := List.length_filter_le _ _
theorem closed_at {f : FuncM} {op : Int} {l : List Int} {bd0 fn0 bd fn : List Bool} {g : Bool} (h : PassF f op l bd0 fn0 bd fn g f.nb 0 0) : g = false → ∀ a, a < f.nb → ∀ b, ClosedG (succF f) (tF f op l) bd fn a b := fun hg => (h.no hg).2.1
theorem kb0 : kb 0 = false := rfl
theorem kb1 : kb 1 = true := rfl

set_option maxRecDepth 100000 in
set_option maxHeartbeats 200000000 in
theorem good14_any (f : FuncM) (op : Int) (q : IntsM) (blk pl : Nat) (w : World) (hf : FuncAt w f) (hq : IntsAt w q) (hn : f.nb ≤ 1000) (hb : blk < f.nb) (hpl : pl ≤ f.blocks.2[blk]!.insts.2.length) (hbs : ∀ b ∈ f.blocks.2, b.phis.2.length ≤ 100000 ∧ b.insts.2.length ≤ 100000) :
    Calls Tryz.prog 14 #[f.val, .int .i64 op, q.1, .int .i64 (blk : Nat), .int .i64 (pl : Nat)] w fun e w' => (∃ v : Bool, e = .returned (.bool v) ∧ (v = true ↔ GoodP f op q.2 blk pl)) ∧ Keeps w w' [] := by
  have hp : 0 < f.nb := by omega
  have CL := kept (fun (a : Nat) (ha : a < f.nb) (b : Int) W h => leads_any f a b W h ha)
  have CT := kept (fun (a : Nat) (ha : a < f.nb) (pl : Nat) (was : Bool) W (h : FuncAt W f) hq hpl => through38_any f.blocks.2[a]! op q pl was W (h.block _ (bang_mem ha)) hq hpl (hbs _ (bang_mem ha)))
  have HPL := kept hpl
  have HQ := kept hq
  have hmk := make_bools f.nb hn
  obtain ⟨a0, c0, e0, -, -, hc0⟩ := hf.vars.open_
  obtain ⟨a1, c1, e1, -, -, hc1⟩ := (show Row w 1 f.params.1 (f.params.2.map intCells) from hf.params).open_
  obtain ⟨a2, c2, e2, -, -, hc2⟩ := hf.blocks.open_
  have hval : f.val = .agg #[.slice a0 f.nv c0, .slice a1 f.np c1, .slice a2 f.nb c2] := by unfold FuncM.val FuncM.nv FuncM.np FuncM.nb; rw [e0, e1, e2]
  have h1 : #[f.vars.1, f.params.1, f.blocks.1] = #[.slice a0 f.nv c0, .slice a1 f.np c1, .slice a2 f.nb c2] := by unfold FuncM.nv FuncM.np FuncM.nb; rw [e0, e1, e2]
  have HF := kept hf
  have HC0 := kept hc0
  have HC1 := kept hc1
  have HC2 := kept hc2
  have HNV := kept (show f.vars.2.length = f.nv from rfl)
  have HNP := kept (show f.params.2.length = f.np from rfl)
  have HNB := kept (show f.blocks.2.length = f.nb from rfl)
  simp only [hval] at CL
  rw [hval]
  clear hval h1 e0 e1 e2 hc0 hc1 hc2 hf HC0 HC1 hq hpl hbs
  have hk0 : Keeps w (w.alloc (.cells #[.slice a0 f.nv c0, .slice a1 f.np c1, .slice a2 f.nb c2] 26)) [] := (Keeps.refl _ []).alloc _
  have bb0 := Blk.new w 26 #[.slice a0 f.nv c0, .slice a1 f.np c1, .slice a2 f.nb c2]
  have Bl := kept bb0
  have HK := kept hk0
  obtain ⟨l0, l1, l2⟩ := Bl.out.c3
  simp at l0 l1 l2
  clear hk0 bb0
  go_enter Tryz.func14, Tryz.ntmps14
  go_upto_region 1 with (fail)
  have hszw : w.heap.size ≤ (w.alloc (.cells #[.slice a0 f.nv c0, .slice a1 f.np c1, .slice a2 f.nb c2] 26)).heap.size := by show _ ≤ (Array.push _ _).size; simp [Array.size_push]
  clear l0 l1 l2
  generalize (w.alloc (.cells #[.slice a0 f.nv c0, .slice a1 f.np c1, .slice a2 f.nb c2] 26)) = W0 at *
  have Bl_W0 := Bl
  have TW0 := HK
  clear HK
  have HK := kept (Keeps.refl W0 [])
  obtain ⟨l0, l1, l2⟩ := Bl.out.c3
  simp at l0 l1 l2
  have HSW := kept hszw
  clear hszw
  go_upto_region 2 with (fail)
  have k3 : Keeps W0 (W0.alloc (.cells (bitsR (List.replicate f.nb false)) 4)) [] := (Keeps.refl _ []).alloc _
  have bb := Blk.new W0 4 (bitsR (List.replicate f.nb false))
  have hs1 : (W0.alloc (.cells (bitsR (List.replicate f.nb false)) 4)).heap.size = W0.heap.size + 1 := size_alloc1 _ _
  clear l0 l1 l2
  replace Bl := kept (Bl.out.keep k3 (by simp))
  replace HK := kept (HK.out.and_then k3)
  obtain ⟨l0, l1, l2⟩ := Bl.out.c3
  simp at l0 l1 l2
  clear k3
  have BB := kept bb
  clear bb
  generalize (W0.alloc (.cells (bitsR (List.replicate f.nb false)) 4)) = W1 at *
  obtain ⟨gb, hgb⟩ : ∃ gb, gb = W0.heap.size := ⟨_, rfl⟩
  rw [← hgb] at BB hs1
  simp only [← hgb]
  have HGB := kept hgb
  clear hgb
  go_upto_region 3 with (fail)
  have k3 : Keeps W1 (W1.alloc (.cells (bitsR (List.replicate f.nb false)) 4)) [] := (Keeps.refl _ []).alloc _
  have bb := Blk.new W1 4 (bitsR (List.replicate f.nb false))
  replace BB := kept (BB.out.keep k3 (by simp))
  clear l0 l1 l2
  replace Bl := kept (Bl.out.keep k3 (by simp))
  replace HK := kept (HK.out.and_then k3)
  obtain ⟨l0, l1, l2⟩ := Bl.out.c3
  simp at l0 l1 l2
  clear k3
  rw [hs1] at bb
  have BF := kept bb
  clear bb
  generalize (W1.alloc (.cells (bitsR (List.replicate f.nb false)) 4)) = W2 at *
  have HNE := kept (show gb ≠ (gb + 1) by omega)
  have HGF := kept (show W0.heap.size ≤ (gb + 1) by have h9 := HGB.out; omega)
  clear hs1 hmk
  have b0 := bitR_cell BB.out (k := 0) (by simpa using hp)
  have b1 := BB.out.frozen 0
  go_upto_region 4 with (fail)
  have kz : Keeps W0 (W2.setCell ⟨gb, 0, none⟩ (.bool true)) [] := HK.out.setCell (.inr (by have h9 := HGB.out; show W0.heap.size ≤ gb; omega)) _
  have bz : Blk (W2.setCell ⟨gb, 0, none⟩ (.bool true)) gb 4 (bitsR ((List.replicate f.nb false).set 0 true)) := by rw [← bitsR_set]; exact BB.out.set_ 0 _
  have bf : Blk (W2.setCell ⟨gb, 0, none⟩ (.bool true)) (gb + 1) 4 (bitsR (List.replicate f.nb false)) := BF.out.keep ((Keeps.refl W2 [gb]).setCell (.inl (by simp)) _) (by simp)
  clear b0 b1
  clear l0 l1 l2
  clear Bl HK BB BF
  generalize (W2.setCell ⟨gb, 0, none⟩ (.bool true)) = W3 at *
  have HK := kept kz
  have Bl := kept (Bl_W0.out.keep kz (by simp))
  have BB := kept bz
  have BF := kept bf
  clear kz bz bf
  obtain ⟨l0, l1, l2⟩ := Bl.out.c3
  simp at l0 l1 l2
  go_wp2
  go_loopg [13] (1 + 2 * f.nb) (fun g a wx => ∃ (b : Bool) (bd fn : List Bool), a = .bool b ∧ Hid (MarkF f op q.2 bd fn) ∧ (b = true → cntF bd + cntF fn + 1 ≤ g) ∧ Hid (b = false → ∀ a, a < f.nb → ∀ b, ClosedG (succF f) (tF f op q.2) bd fn a b) ∧ Blk wx gb 4 (bitsR bd) ∧ Blk wx (gb + 1) 4 (bitsR fn) ∧ Keeps W0 wx [])
  case atStart => exact ⟨true, _, _, rfl, marks_start hp, fun _ => by have h9 := cntF_le ((List.replicate f.nb false).set 0 true); rw [cntF_repl]; simp at h9; omega, fun e => (by cases e), BB.out, BF.out, HK.out⟩
  case round =>
    obtain ⟨b, bd, fn, rfl, hI, hg, hcl, hB, hF2, hr⟩ := hrel
    have HI := kept hI.out
    have HCL := kept hcl.out
    clear hI hcl
    clear BB BF
    clear l0 l1 l2
    clear Bl HK
    have HK := kept hr
    have Bl := kept (Bl_W0.out.keep hr (by simp))
    clear hr
    obtain ⟨l0, l1, l2⟩ := Bl.out.c3
    simp at l0 l1 l2
    have BB := kept hB
    have BF := kept hF2
    clear hB hF2
    cases b
    · have HD := kept (fun b c => marks_done HI.out (fun a c hc => (succF_mem.1 hc).1) (HCL.out (by first | rfl | trivial)) hp (b := b) (c := c))
      have HA := kept (good_iff HD.out (throughM f.blocks.2[blk]! op q.2 pl) blk)
      clear HCL hg
      have hbz : (blk : Int) < (f.nb : Int) := by omega
      obtain ⟨yb, yo, e8, hyb, hbc⟩ := HC2.out blk (by rw [HNB.out]; exact hb)
      subst e8
      have c0 := bitR_cell BB.out (k := blk) (by rw [HI.out.lb]; exact hb)
      have c1 := bitR_cell BF.out (k := blk) (by rw [HI.out.lf]; exact hb)
      have CT0 := kept (CT.out blk hb pl false)
      have CT1 := kept (CT.out blk hb pl true)
      clear CT CL
      have y0 := (TW0.out.and_then HK.out).cellOf (hbc 0 _ rfl)
      have y1 := (TW0.out.and_then HK.out).cellOf (hbc 1 _ rfl)
      have y2 := (TW0.out.and_then HK.out).cellOf (hbc 2 _ rfl)
      have y3 := (TW0.out.and_then HK.out).cellOf (hbc 3 _ rfl)
      have y4 := (TW0.out.and_then HK.out).cellOf (hbc 4 _ rfl)
      have y5 := (TW0.out.and_then HK.out).cellOf (hbc 5 _ rfl)
      have y6 := (TW0.out.and_then HK.out).cellOf (hbc 6 _ rfl)
      simp only [Nat.add_zero] at y0
      clear hbc HC2
      have HDF := kept (show GoodP f op q.2 blk pl ↔ ∀ g, GWay (succF f) (tF f op q.2) blk g → throughM f.blocks.2[blk]! op q.2 pl g = true from Iff.rfl)
      have HYC := kept (show (f.blocks.2[blk]!).cells.toArray = #[.string (f.blocks.2[blk]!).name, (f.blocks.2[blk]!).phis.1, (f.blocks.2[blk]!).insts.1, .int .i64 (f.blocks.2[blk]!).kind, .int .i64 (f.blocks.2[blk]!).var, .int .i64 (f.blocks.2[blk]!).to0, .int .i64 (f.blocks.2[blk]!).to1] from rfl)
      rw [HYC.out] at CT0 CT1
      generalize throughM f.blocks.2[blk]! op q.2 pl false = tf at *
      generalize throughM f.blocks.2[blk]! op q.2 pl true = tt at *
      generalize (f.blocks.2[blk]!).name = yn at *
      generalize (f.blocks.2[blk]!).phis.1 = yp at *
      generalize (f.blocks.2[blk]!).insts.1 = yi at *
      generalize (f.blocks.2[blk]!).kind = yk at *
      generalize (f.blocks.2[blk]!).var = yv at *
      generalize (f.blocks.2[blk]!).to0 = yt0 at *
      generalize (f.blocks.2[blk]!).to1 = yt1 at *
      generalize bd[blk]! = b0 at *
      generalize fn[blk]! = b1 at *
      cases b0
      · cases b1
        · go_wp2
          go_ret
          exact ⟨⟨_, rfl, Iff.trans (by simp) HA.out⟩, (TW0.out.and_then HK.out)⟩
        · cases tt
          · go_wp2_with (first | (go_at_call 38; refine (CT1.out _ (HF.out.keep (TW0.out.and_then HK.out)) (Row.keep HQ.out (TW0.out.and_then HK.out)) HPL.out).mono ?_; rintro e w3 ⟨rfl, k3⟩; replace c0 := k3.cellOf c0; replace c1 := k3.cellOf c1; replace y0 := k3.cellOf y0; replace y1 := k3.cellOf y1; replace y2 := k3.cellOf y2; replace y3 := k3.cellOf y3; replace y4 := k3.cellOf y4; replace y5 := k3.cellOf y5; replace y6 := k3.cellOf y6; clear l0 l1 l2; replace Bl := kept (Bl.out.keep k3 (by simp)); replace HK := kept (HK.out.and_then k3); obtain ⟨l0, l1, l2⟩ := Bl.out.c3; simp at l0 l1 l2; clear k3))
            go_ret
            exact ⟨⟨_, rfl, Iff.trans (by simp) HA.out⟩, (TW0.out.and_then HK.out)⟩
          · go_wp2_with (first | (go_at_call 38; refine (CT1.out _ (HF.out.keep (TW0.out.and_then HK.out)) (Row.keep HQ.out (TW0.out.and_then HK.out)) HPL.out).mono ?_; rintro e w3 ⟨rfl, k3⟩; replace c0 := k3.cellOf c0; replace c1 := k3.cellOf c1; replace y0 := k3.cellOf y0; replace y1 := k3.cellOf y1; replace y2 := k3.cellOf y2; replace y3 := k3.cellOf y3; replace y4 := k3.cellOf y4; replace y5 := k3.cellOf y5; replace y6 := k3.cellOf y6; clear l0 l1 l2; replace Bl := kept (Bl.out.keep k3 (by simp)); replace HK := kept (HK.out.and_then k3); obtain ⟨l0, l1, l2⟩ := Bl.out.c3; simp at l0 l1 l2; clear k3))
            go_ret
            exact ⟨⟨_, rfl, Iff.trans (by simp) HA.out⟩, (TW0.out.and_then HK.out)⟩
      · cases tf
        · go_wp2_with (first | (go_at_call 38; have CX0 := CT0; clear CT0; refine (CX0.out _ (HF.out.keep (TW0.out.and_then HK.out)) (Row.keep HQ.out (TW0.out.and_then HK.out)) HPL.out).mono ?_; rintro e w3 ⟨rfl, k3⟩; replace c0 := k3.cellOf c0; replace c1 := k3.cellOf c1; replace y0 := k3.cellOf y0; replace y1 := k3.cellOf y1; replace y2 := k3.cellOf y2; replace y3 := k3.cellOf y3; replace y4 := k3.cellOf y4; replace y5 := k3.cellOf y5; replace y6 := k3.cellOf y6; clear l0 l1 l2; replace Bl := kept (Bl.out.keep k3 (by simp)); replace HK := kept (HK.out.and_then k3); obtain ⟨l0, l1, l2⟩ := Bl.out.c3; simp at l0 l1 l2; clear k3))
          go_ret
          exact ⟨⟨_, rfl, Iff.trans (by simp) HA.out⟩, (TW0.out.and_then HK.out)⟩
        · cases b1
          · go_wp2_with (first | (go_at_call 38; have CX0 := CT0; clear CT0; refine (CX0.out _ (HF.out.keep (TW0.out.and_then HK.out)) (Row.keep HQ.out (TW0.out.and_then HK.out)) HPL.out).mono ?_; rintro e w3 ⟨rfl, k3⟩; replace c0 := k3.cellOf c0; replace c1 := k3.cellOf c1; replace y0 := k3.cellOf y0; replace y1 := k3.cellOf y1; replace y2 := k3.cellOf y2; replace y3 := k3.cellOf y3; replace y4 := k3.cellOf y4; replace y5 := k3.cellOf y5; replace y6 := k3.cellOf y6; clear l0 l1 l2; replace Bl := kept (Bl.out.keep k3 (by simp)); replace HK := kept (HK.out.and_then k3); obtain ⟨l0, l1, l2⟩ := Bl.out.c3; simp at l0 l1 l2; clear k3))
            go_ret
            exact ⟨⟨_, rfl, Iff.trans (by simp) HA.out⟩, (TW0.out.and_then HK.out)⟩
          · cases tt
            · go_wp2_with (first | (go_at_call 38; have CX0 := CT0; clear CT0; refine (CX0.out _ (HF.out.keep (TW0.out.and_then HK.out)) (Row.keep HQ.out (TW0.out.and_then HK.out)) HPL.out).mono ?_; rintro e w3 ⟨rfl, k3⟩; replace c0 := k3.cellOf c0; replace c1 := k3.cellOf c1; replace y0 := k3.cellOf y0; replace y1 := k3.cellOf y1; replace y2 := k3.cellOf y2; replace y3 := k3.cellOf y3; replace y4 := k3.cellOf y4; replace y5 := k3.cellOf y5; replace y6 := k3.cellOf y6; clear l0 l1 l2; replace Bl := kept (Bl.out.keep k3 (by simp)); replace HK := kept (HK.out.and_then k3); obtain ⟨l0, l1, l2⟩ := Bl.out.c3; simp at l0 l1 l2; clear k3) | (go_at_call 38; refine (CT1.out _ (HF.out.keep (TW0.out.and_then HK.out)) (Row.keep HQ.out (TW0.out.and_then HK.out)) HPL.out).mono ?_; rintro e w3 ⟨rfl, k3⟩; replace c0 := k3.cellOf c0; replace c1 := k3.cellOf c1; replace y0 := k3.cellOf y0; replace y1 := k3.cellOf y1; replace y2 := k3.cellOf y2; replace y3 := k3.cellOf y3; replace y4 := k3.cellOf y4; replace y5 := k3.cellOf y5; replace y6 := k3.cellOf y6; clear l0 l1 l2; replace Bl := kept (Bl.out.keep k3 (by simp)); replace HK := kept (HK.out.and_then k3); obtain ⟨l0, l1, l2⟩ := Bl.out.c3; simp at l0 l1 l2; clear k3))
              go_ret
              exact ⟨⟨_, rfl, Iff.trans (by simp) HA.out⟩, (TW0.out.and_then HK.out)⟩
            · go_wp2_with (first | (go_at_call 38; have CX0 := CT0; clear CT0; refine (CX0.out _ (HF.out.keep (TW0.out.and_then HK.out)) (Row.keep HQ.out (TW0.out.and_then HK.out)) HPL.out).mono ?_; rintro e w3 ⟨rfl, k3⟩; replace c0 := k3.cellOf c0; replace c1 := k3.cellOf c1; replace y0 := k3.cellOf y0; replace y1 := k3.cellOf y1; replace y2 := k3.cellOf y2; replace y3 := k3.cellOf y3; replace y4 := k3.cellOf y4; replace y5 := k3.cellOf y5; replace y6 := k3.cellOf y6; clear l0 l1 l2; replace Bl := kept (Bl.out.keep k3 (by simp)); replace HK := kept (HK.out.and_then k3); obtain ⟨l0, l1, l2⟩ := Bl.out.c3; simp at l0 l1 l2; clear k3) | (go_at_call 38; refine (CT1.out _ (HF.out.keep (TW0.out.and_then HK.out)) (Row.keep HQ.out (TW0.out.and_then HK.out)) HPL.out).mono ?_; rintro e w3 ⟨rfl, k3⟩; replace c0 := k3.cellOf c0; replace c1 := k3.cellOf c1; replace y0 := k3.cellOf y0; replace y1 := k3.cellOf y1; replace y2 := k3.cellOf y2; replace y3 := k3.cellOf y3; replace y4 := k3.cellOf y4; replace y5 := k3.cellOf y5; replace y6 := k3.cellOf y6; clear l0 l1 l2; replace Bl := kept (Bl.out.keep k3 (by simp)); replace HK := kept (HK.out.and_then k3); obtain ⟨l0, l1, l2⟩ := Bl.out.c3; simp at l0 l1 l2; clear k3))
              go_ret
              exact ⟨⟨_, rfl, Iff.trans (by simp) HA.out⟩, (TW0.out.and_then HK.out)⟩
    · have HGH := kept (hg rfl)
      clear hg HCL
      go_wp2
      go_loopw [13, 33] (fun a' i' wx => ∃ (x : Nat) (g' : Bool) (bd' fn' : List Bool), x ≤ f.nb ∧ i' = .int .i64 x ∧ a' = .bool g' ∧ Hid (PassF f op q.2 bd fn bd' fn' g' x 0 0) ∧ Blk wx gb 4 (bitsR bd') ∧ Blk wx (gb + 1) 4 (bitsR fn') ∧ Keeps W0 wx []) (fun _ i' _ => f.nb - (intOf i').toNat)
      case atStart => exact ⟨0, false, bd, fn, Nat.zero_le _, rfl, rfl, gp_start HI.out, BB.out, BF.out, HK.out⟩
      case round =>
        obtain ⟨x, g', bd', fn', hx, rfl, rfl, hPI, hB, hF2, hr⟩ := hrel
        have HPI := kept hPI.out
        clear hPI BB BF
        clear l0 l1 l2
        clear Bl HK
        have HK := kept hr
        have Bl := kept (Bl_W0.out.keep hr (by simp))
        clear hr
        obtain ⟨l0, l1, l2⟩ := Bl.out.c3
        simp at l0 l1 l2
        have BB := kept hB
        have BF := kept hF2
        clear hB hF2
        by_cases hlx : x < f.nb
        · have hlxz : (x : Int) < (f.nb : Int) := by omega
          obtain ⟨yb, yo, e8, hyb, hbc⟩ := HC2.out x (by rw [HNB.out]; exact hlx)
          obtain rfl := e8
          have y0 := (TW0.out.and_then HK.out).cellOf (hbc 0 _ rfl)
          have y1 := (TW0.out.and_then HK.out).cellOf (hbc 1 _ rfl)
          have y2 := (TW0.out.and_then HK.out).cellOf (hbc 2 _ rfl)
          have y3 := (TW0.out.and_then HK.out).cellOf (hbc 3 _ rfl)
          have y4 := (TW0.out.and_then HK.out).cellOf (hbc 4 _ rfl)
          have y5 := (TW0.out.and_then HK.out).cellOf (hbc 5 _ rfl)
          have y6 := (TW0.out.and_then HK.out).cellOf (hbc 6 _ rfl)
          simp only [Nat.add_zero] at y0
          clear hbc
          have CTx := kept (fun (was : Bool) W (h : FuncAt W f) hq => CT.out x hlx f.blocks.2[x]!.insts.2.length was W h hq (Nat.le_refl _))
          have CLx := kept (CL.out x hlx)
          have HTF := kept (fun g => show tF f op q.2 x g = throughM f.blocks.2[x]! op q.2 f.blocks.2[x]!.insts.2.length g from rfl)
          obtain ⟨qa, qc, e7, -, -, -⟩ := (HF.out.block _ (bang_mem hlx)).insts.open_
          rw [e7] at y2
          obtain ⟨pa, pc, e6, -, -, -⟩ := (HF.out.block _ (bang_mem hlx)).phis.open_
          rw [e6] at y1
          have HYC := kept (show (f.blocks.2[x]!).cells.toArray = #[.string (f.blocks.2[x]!).name, .slice pa (f.blocks.2[x]!).phis.2.length pc, .slice qa (f.blocks.2[x]!).insts.2.length qc, .int .i64 (f.blocks.2[x]!).kind, .int .i64 (f.blocks.2[x]!).var, .int .i64 (f.blocks.2[x]!).to0, .int .i64 (f.blocks.2[x]!).to1] by unfold BlockM.cells; rw [e6, e7])
          rw [HYC.out] at CTx
          clear HYC e6 e7 HC2
          obtain ⟨TH, hTH⟩ : ∃ TH : Bool → Bool, ∀ g, throughM f.blocks.2[x]! op q.2 f.blocks.2[x]!.insts.2.length g = TH g := ⟨_, fun _ => rfl⟩
          simp only [hTH] at CTx HTF
          clear hTH
          generalize (f.blocks.2[x]!).name = yn at *
          generalize (f.blocks.2[x]!).phis.2.length = pn at *
          generalize (f.blocks.2[x]!).insts.2.length = yil at *
          generalize (f.blocks.2[x]!).kind = yk at *
          generalize (f.blocks.2[x]!).var = yv at *
          generalize (f.blocks.2[x]!).to0 = yt0 at *
          generalize (f.blocks.2[x]!).to1 = yt1 at *
          go_upto_region 10 with (fail)
          clear y0 y1 y2 y3 y4 y5 y6
          have HBL := kept (show gb < wr.heap.size ∧ (gb + 1) < wr.heap.size from ⟨BB.out.lt, BF.out.lt⟩)
          have kx : Keeps wr (wr.alloc (.cells #[.string yn, .slice pa pn pc, .slice qa yil qc, .int .i64 yk, .int .i64 yv, .int .i64 yt0, .int .i64 yt1] 38)) [] := (Keeps.refl wr []).alloc _
          replace BB := kept (BB.out.keep kx (by simp))
          replace BF := kept (BF.out.keep kx (by simp))
          clear kx
          clear l0 l1 l2
          have bmx := Blk.new wr 38 #[.string yn, .slice pa pn pc, .slice qa yil qc, .int .i64 yk, .int .i64 yv, .int .i64 yt0, .int .i64 yt1]
          have k3 : Keeps wr (wr.alloc (.cells #[.string yn, .slice pa pn pc, .slice qa yil qc, .int .i64 yk, .int .i64 yv, .int .i64 yt0, .int .i64 yt1] 38)) [] := (Keeps.refl wr []).alloc _
          replace Bl := kept (Bl.out.keep k3 (by simp))
          replace HK := kept (HK.out.and_then k3)
          have Bx := kept bmx
          clear k3 bmx
          obtain ⟨l0, l1, l2⟩ := Bl.out.c3
          obtain ⟨x0, x1, x2, x3, x4, x5, x6⟩ := Bx.out.c7
          simp at l0 l1 l2 x0 x1 x2 x3 x4 x5 x6
          generalize hWX : (wr.alloc (.cells #[.string yn, .slice pa pn pc, .slice qa yil qc, .int .i64 yk, .int .i64 yv, .int .i64 yt0, .int .i64 yt1] 38)) = W4 at *
          clear hWX
          generalize wr.heap.size = bx at *
          clear l0 l1 l2 x0 x1 x2 x3 x4 x5 x6
          obtain ⟨l0, l1, l2⟩ := Bl.out.c3
          obtain ⟨x0, x1, x2, x3, x4, x5, x6⟩ := Bx.out.c7
          simp at l0 l1 l2 x0 x1 x2 x3 x4 x5 x6
          have HBX := kept (show gb ≠ bx ∧ (gb + 1) ≠ bx from ⟨fun e => by have h9 := HBL.out.1; omega, fun e => by have h9 := HBL.out.2; omega⟩)
          clear HBL
          go_wp2
          go_loopw [13, 38] (fun a' i' wx => ∃ (k : Nat) (g2 : Bool) (bd2 fn2 : List Bool), k ≤ 2 ∧ i' = .int .i64 k ∧ a' = .bool g2 ∧ Hid (PassF f op q.2 bd fn bd2 fn2 g2 x k 0) ∧ Blk wx gb 4 (bitsR bd2) ∧ Blk wx (gb + 1) 4 (bitsR fn2) ∧ Blk wx bx 38 #[.string yn, .slice pa pn pc, .slice qa yil qc, .int .i64 yk, .int .i64 yv, .int .i64 yt0, .int .i64 yt1] ∧ Keeps W0 wx []) (fun _ i' _ => 2 - (intOf i').toNat)
          case atStart => exact ⟨0, g', bd', fn', Nat.zero_le _, rfl, rfl, HPI.out, BB.out, BF.out, Bx.out, HK.out⟩
          case round =>
            obtain ⟨k, g2, bd2, fn2, hk, rfl, rfl, hPJ, hB, hF2, hX, hr⟩ := hrel
            have HPJ := kept hPJ.out
            clear hPJ BB BF
            clear l0 l1 l2 x0 x1 x2 x3 x4 x5 x6
            clear Bl Bx HK
            have HK := kept hr
            have Bl := kept (Bl_W0.out.keep hr (by simp))
            have Bx := kept hX
            clear hr hX
            obtain ⟨l0, l1, l2⟩ := Bl.out.c3
            obtain ⟨x0, x1, x2, x3, x4, x5, x6⟩ := Bx.out.c7
            simp at l0 l1 l2 x0 x1 x2 x3 x4 x5 x6
            have BB := kept hB
            have BF := kept hF2
            clear hB hF2
            by_cases hlk : k < 2
            · have hlkz : (k : Int) < 2 := by omega
              rcases (by omega : k = 0 ∨ k = 1) with hk0 | hk0
              · have HK0 := kept hk0
                have hiz : ((k : Int) == 0) = iseq k 0 := rfl
                have hz0 : iseq k 0 = true := iseq_t (by omega)
                have hio : ((k : Int) == 1) = iseq k 1 := rfl
                have hz1 : iseq k 1 = false := iseq_f (by omega)
                have hkb : kb k = false := by have e9 : k = 0 := (by omega); rw [e9]; rfl
                have HKB := kept hkb
                clear hkb
                have bx0 := bitR_cell BB.out (k := x) (by rw [HPJ.out.i.lb]; exact hlx)
                have HMK := kept (show mkd bd2 fn2 (kb k) x = bd2[x]! by rw [HKB.out]; rfl)
                generalize bd2[x]! = mb at bx0 HMK
                cases mb
                · go_wp2
                  go_roundw
                  case rel => exact ⟨k + 1, g2, bd2, fn2, by omega, by go_num, by first | rfl | trivial, gp_skip HPJ.out HMK.out, BB.out, BF.out, Bx.out, HK.out⟩
                  case measure => simp [intOf]; omega
                · have HMK2 := kept HMK.out
                  clear HMK
                  have CTy := kept (CTx.out false)
                  clear CTx
                  have HTG := kept (show tF f op q.2 x (kb k) = TH false by rw [HKB.out]; exact HTF.out _)
                  generalize TH false = gd at *
                  go_upto_region 15 with (first | (go_at_call 38; refine (CTy.out _ (HF.out.keep (TW0.out.and_then HK.out)) (Row.keep HQ.out (TW0.out.and_then HK.out))).mono ?_; rintro e w3 ⟨rfl, k3⟩; replace BB := kept (BB.out.keep k3 (by simp)); replace BF := kept (BF.out.keep k3 (by simp)); clear l0 l1 l2 x0 x1 x2 x3 x4 x5 x6; replace Bl := kept (Bl.out.keep k3 (by simp)); replace Bx := kept (Bx.out.keep k3 (by simp)); replace HK := kept (HK.out.and_then k3); obtain ⟨l0, l1, l2⟩ := Bl.out.c3; obtain ⟨x0, x1, x2, x3, x4, x5, x6⟩ := Bx.out.c7; simp at l0 l1 l2 x0 x1 x2 x3 x4 x5 x6; clear k3))
                  try clear bx0
                  go_wp2
                  go_loopw [13, 73] (fun a' i' wx => ∃ (y : Nat) (g3 : Bool) (bd3 fn3 : List Bool), y ≤ f.nb ∧ i' = .int .i64 y ∧ a' = .bool g3 ∧ Hid (PassF f op q.2 bd fn bd3 fn3 g3 x k y) ∧ Hid (mkd bd3 fn3 (kb k) x = true) ∧ Blk wx gb 4 (bitsR bd3) ∧ Blk wx (gb + 1) 4 (bitsR fn3) ∧ Blk wx bx 38 #[.string yn, .slice pa pn pc, .slice qa yil qc, .int .i64 yk, .int .i64 yv, .int .i64 yt0, .int .i64 yt1] ∧ Keeps W0 wx []) (fun _ i' _ => f.nb - (intOf i').toNat)
                  case atStart => exact ⟨0, g2, bd2, fn2, Nat.zero_le _, rfl, rfl, HPJ.out, HMK2.out, BB.out, BF.out, Bx.out, HK.out⟩
                  case round =>
                    obtain ⟨y, g3, bd3, fn3, hy, rfl, rfl, hPK, hMK, hB, hF2, hX, hr⟩ := hrel
                    have HPK := kept hPK.out
                    have HMK := kept hMK.out
                    clear hPK hMK BB BF HPJ HMK2
                    clear l0 l1 l2 x0 x1 x2 x3 x4 x5 x6
                    clear Bl Bx HK
                    have HK := kept hr
                    have Bl := kept (Bl_W0.out.keep hr (by simp))
                    have Bx := kept hX
                    clear hr hX
                    obtain ⟨l0, l1, l2⟩ := Bl.out.c3
                    obtain ⟨x0, x1, x2, x3, x4, x5, x6⟩ := Bx.out.c7
                    simp at l0 l1 l2 x0 x1 x2 x3 x4 x5 x6
                    have BB := kept hB
                    have BF := kept hF2
                    clear hB hF2
                    by_cases hly : y < f.nb
                    · have hlyz : (y : Int) < (f.nb : Int) := by omega
                      have CLy := kept (CLx.out (y : Int))
                      clear CLx
                      have HLD := kept (show leadsM f.blocks.2[x]! (y : Int) = leadsM f.blocks.2[x]! (y : Int) from rfl)
                      generalize hld : leadsM f.blocks.2[x]! (y : Int) = ld at CLy
                      have HLE := kept hld
                      clear hld HLD
                      cases ld
                      · go_wp2_with (first | (go_at_call 39; refine (CLy.out _ (HF.out.keep (TW0.out.and_then HK.out))).mono ?_; rintro e w3 ⟨rfl, k3⟩; replace BB := kept (BB.out.keep k3 (by simp)); replace BF := kept (BF.out.keep k3 (by simp)); clear l0 l1 l2 x0 x1 x2 x3 x4 x5 x6; replace Bl := kept (Bl.out.keep k3 (by simp)); replace Bx := kept (Bx.out.keep k3 (by simp)); replace HK := kept (HK.out.and_then k3); obtain ⟨l0, l1, l2⟩ := Bl.out.c3; obtain ⟨x0, x1, x2, x3, x4, x5, x6⟩ := Bx.out.c7; simp at l0 l1 l2 x0 x1 x2 x3 x4 x5 x6; clear k3))
                        go_roundw
                        case rel => exact ⟨y + 1, g3, bd3, fn3, by omega, by go_num, by first | rfl | trivial, gp_same HPK.out (fun e => by have h9 := (succF_mem.1 e).2; rw [HLE.out] at h9; cases h9), HMK.out, BB.out, BF.out, Bx.out, HK.out⟩
                        case measure => simp [intOf]; omega
                      · go_upto_region 19 with (first | (go_at_call 39; refine (CLy.out _ (HF.out.keep (TW0.out.and_then HK.out))).mono ?_; rintro e w3 ⟨rfl, k3⟩; replace BB := kept (BB.out.keep k3 (by simp)); replace BF := kept (BF.out.keep k3 (by simp)); clear l0 l1 l2 x0 x1 x2 x3 x4 x5 x6; replace Bl := kept (Bl.out.keep k3 (by simp)); replace Bx := kept (Bx.out.keep k3 (by simp)); replace HK := kept (HK.out.and_then k3); obtain ⟨l0, l1, l2⟩ := Bl.out.c3; obtain ⟨x0, x1, x2, x3, x4, x5, x6⟩ := Bx.out.c7; simp at l0 l1 l2 x0 x1 x2 x3 x4 x5 x6; clear k3))
                        have HS := kept (show y ∈ succF f x from succF_mem.2 ⟨hly, HLE.out⟩)
                        cases gd
                        · have by0 := bitR_cell BB.out (k := y) (by rw [HPK.out.i.lb]; exact hly)
                          have by1 := BB.out.frozen y
                          have HBQ := kept (show bd3[y]! = bd3[y]! from rfl)
                          generalize hbq : bd3[y]! = bq at by0
                          replace HBQ := kept hbq
                          clear hbq
                          cases bq
                          · go_wp2
                            go_roundw
                            case rel => exact ⟨y + 1, true, (bd3.set y true), fn3, by omega, by go_num, by first | rfl | trivial, gp_bad HPK.out HMK.out HS.out hly HTG.out HBQ.out, (mkd_bad_keep (by rw [HPK.out.i.lb]; exact hly) HMK.out), (by rw [← bitsR_set]; exact BB.out.set_ y _), (BF.out.keep ((Keeps.refl _ [gb]).setCell (.inl (by simp)) _) (by simp)), (Bx.out.keep ((Keeps.refl _ [gb]).setCell (.inl (by simp)) _) (by simp; exact fun e => HBX.out.1 e.symm)), (HK.out.setCell (.inr (by have h9 := HGB.out; show W0.heap.size ≤ gb; omega)) _)⟩
                            case measure => simp [intOf]; omega
                          · go_wp2
                            go_roundw
                            case rel => exact ⟨y + 1, g3, bd3, fn3, by omega, by go_num, by first | rfl | trivial, gp_same HPK.out (fun _ => by rw [HTG.out]; unfold mkd; simpa using HBQ.out), HMK.out, BB.out, BF.out, Bx.out, HK.out⟩
                            case measure => simp [intOf]; omega
                        · have by0 := bitR_cell BF.out (k := y) (by rw [HPK.out.i.lf]; exact hly)
                          have by1 := BF.out.frozen y
                          have HBQ := kept (show fn3[y]! = fn3[y]! from rfl)
                          generalize hbq : fn3[y]! = bq at by0
                          replace HBQ := kept hbq
                          clear hbq
                          cases bq
                          · go_wp2
                            go_roundw
                            case rel => exact ⟨y + 1, true, bd3, (fn3.set y true), by omega, by go_num, by first | rfl | trivial, gp_fine HPK.out HMK.out HS.out hly HTG.out HBQ.out, (mkd_fine_keep (by rw [HPK.out.i.lf]; exact hly) HMK.out), (BB.out.keep ((Keeps.refl _ [gb + 1]).setCell (.inl (by simp)) _) (by simp)), (by rw [← bitsR_set]; exact BF.out.set_ y _), (Bx.out.keep ((Keeps.refl _ [gb + 1]).setCell (.inl (by simp)) _) (by simp; exact fun e => HBX.out.2 e.symm)), (HK.out.setCell (.inr (HGF.out)) _)⟩
                            case measure => simp [intOf]; omega
                          · go_wp2
                            go_roundw
                            case rel => exact ⟨y + 1, g3, bd3, fn3, by omega, by go_num, by first | rfl | trivial, gp_same HPK.out (fun _ => by rw [HTG.out]; unfold mkd; simpa using HBQ.out), HMK.out, BB.out, BF.out, Bx.out, HK.out⟩
                            case measure => simp [intOf]; omega
                    · have hlyz : ¬ (y : Int) < (f.nb : Int) := by omega
                      obtain rfl : y = f.nb := by omega
                      go_wp2
                      go_roundw
                      case rel => exact ⟨k + 1, g3, bd3, fn3, by omega, by go_num, by first | rfl | trivial, gp_mark HPK.out (fun c hc => (succF_mem.1 hc).1), BB.out, BF.out, Bx.out, HK.out⟩
                      case measure => simp [intOf]; omega
              · have HK0 := kept hk0
                have hiz : ((k : Int) == 0) = iseq k 0 := rfl
                have hz0 : iseq k 0 = false := iseq_f (by omega)
                have hio : ((k : Int) == 1) = iseq k 1 := rfl
                have hz1 : iseq k 1 = true := iseq_t (by omega)
                have hkb : kb k = true := by have e9 : k = 1 := (by omega); rw [e9]; rfl
                have HKB := kept hkb
                clear hkb
                have bx0 := bitR_cell BF.out (k := x) (by rw [HPJ.out.i.lf]; exact hlx)
                have HMK := kept (show mkd bd2 fn2 (kb k) x = fn2[x]! by rw [HKB.out]; rfl)
                generalize fn2[x]! = mb at bx0 HMK
                cases mb
                · go_wp2
                  go_roundw
                  case rel => exact ⟨k + 1, g2, bd2, fn2, by omega, by go_num, by first | rfl | trivial, gp_skip HPJ.out HMK.out, BB.out, BF.out, Bx.out, HK.out⟩
                  case measure => simp [intOf]; omega
                · have HMK2 := kept HMK.out
                  clear HMK
                  have CTy := kept (CTx.out true)
                  clear CTx
                  have HTG := kept (show tF f op q.2 x (kb k) = TH true by rw [HKB.out]; exact HTF.out _)
                  generalize TH true = gd at *
                  go_upto_region 15 with (first | (go_at_call 38; refine (CTy.out _ (HF.out.keep (TW0.out.and_then HK.out)) (Row.keep HQ.out (TW0.out.and_then HK.out))).mono ?_; rintro e w3 ⟨rfl, k3⟩; replace BB := kept (BB.out.keep k3 (by simp)); replace BF := kept (BF.out.keep k3 (by simp)); clear l0 l1 l2 x0 x1 x2 x3 x4 x5 x6; replace Bl := kept (Bl.out.keep k3 (by simp)); replace Bx := kept (Bx.out.keep k3 (by simp)); replace HK := kept (HK.out.and_then k3); obtain ⟨l0, l1, l2⟩ := Bl.out.c3; obtain ⟨x0, x1, x2, x3, x4, x5, x6⟩ := Bx.out.c7; simp at l0 l1 l2 x0 x1 x2 x3 x4 x5 x6; clear k3))
                  try clear bx0
                  go_wp2
                  go_loopw [13, 73] (fun a' i' wx => ∃ (y : Nat) (g3 : Bool) (bd3 fn3 : List Bool), y ≤ f.nb ∧ i' = .int .i64 y ∧ a' = .bool g3 ∧ Hid (PassF f op q.2 bd fn bd3 fn3 g3 x k y) ∧ Hid (mkd bd3 fn3 (kb k) x = true) ∧ Blk wx gb 4 (bitsR bd3) ∧ Blk wx (gb + 1) 4 (bitsR fn3) ∧ Blk wx bx 38 #[.string yn, .slice pa pn pc, .slice qa yil qc, .int .i64 yk, .int .i64 yv, .int .i64 yt0, .int .i64 yt1] ∧ Keeps W0 wx []) (fun _ i' _ => f.nb - (intOf i').toNat)
                  case atStart => exact ⟨0, g2, bd2, fn2, Nat.zero_le _, rfl, rfl, HPJ.out, HMK2.out, BB.out, BF.out, Bx.out, HK.out⟩
                  case round =>
                    obtain ⟨y, g3, bd3, fn3, hy, rfl, rfl, hPK, hMK, hB, hF2, hX, hr⟩ := hrel
                    have HPK := kept hPK.out
                    have HMK := kept hMK.out
                    clear hPK hMK BB BF HPJ HMK2
                    clear l0 l1 l2 x0 x1 x2 x3 x4 x5 x6
                    clear Bl Bx HK
                    have HK := kept hr
                    have Bl := kept (Bl_W0.out.keep hr (by simp))
                    have Bx := kept hX
                    clear hr hX
                    obtain ⟨l0, l1, l2⟩ := Bl.out.c3
                    obtain ⟨x0, x1, x2, x3, x4, x5, x6⟩ := Bx.out.c7
                    simp at l0 l1 l2 x0 x1 x2 x3 x4 x5 x6
                    have BB := kept hB
                    have BF := kept hF2
                    clear hB hF2
                    by_cases hly : y < f.nb
                    · have hlyz : (y : Int) < (f.nb : Int) := by omega
                      have CLy := kept (CLx.out (y : Int))
                      clear CLx
                      have HLD := kept (show leadsM f.blocks.2[x]! (y : Int) = leadsM f.blocks.2[x]! (y : Int) from rfl)
                      generalize hld : leadsM f.blocks.2[x]! (y : Int) = ld at CLy
                      have HLE := kept hld
                      clear hld HLD
                      cases ld
                      · go_wp2_with (first | (go_at_call 39; refine (CLy.out _ (HF.out.keep (TW0.out.and_then HK.out))).mono ?_; rintro e w3 ⟨rfl, k3⟩; replace BB := kept (BB.out.keep k3 (by simp)); replace BF := kept (BF.out.keep k3 (by simp)); clear l0 l1 l2 x0 x1 x2 x3 x4 x5 x6; replace Bl := kept (Bl.out.keep k3 (by simp)); replace Bx := kept (Bx.out.keep k3 (by simp)); replace HK := kept (HK.out.and_then k3); obtain ⟨l0, l1, l2⟩ := Bl.out.c3; obtain ⟨x0, x1, x2, x3, x4, x5, x6⟩ := Bx.out.c7; simp at l0 l1 l2 x0 x1 x2 x3 x4 x5 x6; clear k3))
                        go_roundw
                        case rel => exact ⟨y + 1, g3, bd3, fn3, by omega, by go_num, by first | rfl | trivial, gp_same HPK.out (fun e => by have h9 := (succF_mem.1 e).2; rw [HLE.out] at h9; cases h9), HMK.out, BB.out, BF.out, Bx.out, HK.out⟩
                        case measure => simp [intOf]; omega
                      · go_upto_region 19 with (first | (go_at_call 39; refine (CLy.out _ (HF.out.keep (TW0.out.and_then HK.out))).mono ?_; rintro e w3 ⟨rfl, k3⟩; replace BB := kept (BB.out.keep k3 (by simp)); replace BF := kept (BF.out.keep k3 (by simp)); clear l0 l1 l2 x0 x1 x2 x3 x4 x5 x6; replace Bl := kept (Bl.out.keep k3 (by simp)); replace Bx := kept (Bx.out.keep k3 (by simp)); replace HK := kept (HK.out.and_then k3); obtain ⟨l0, l1, l2⟩ := Bl.out.c3; obtain ⟨x0, x1, x2, x3, x4, x5, x6⟩ := Bx.out.c7; simp at l0 l1 l2 x0 x1 x2 x3 x4 x5 x6; clear k3))
                        have HS := kept (show y ∈ succF f x from succF_mem.2 ⟨hly, HLE.out⟩)
                        cases gd
                        · have by0 := bitR_cell BB.out (k := y) (by rw [HPK.out.i.lb]; exact hly)
                          have by1 := BB.out.frozen y
                          have HBQ := kept (show bd3[y]! = bd3[y]! from rfl)
                          generalize hbq : bd3[y]! = bq at by0
                          replace HBQ := kept hbq
                          clear hbq
                          cases bq
                          · go_wp2
                            go_roundw
                            case rel => exact ⟨y + 1, true, (bd3.set y true), fn3, by omega, by go_num, by first | rfl | trivial, gp_bad HPK.out HMK.out HS.out hly HTG.out HBQ.out, (mkd_bad_keep (by rw [HPK.out.i.lb]; exact hly) HMK.out), (by rw [← bitsR_set]; exact BB.out.set_ y _), (BF.out.keep ((Keeps.refl _ [gb]).setCell (.inl (by simp)) _) (by simp)), (Bx.out.keep ((Keeps.refl _ [gb]).setCell (.inl (by simp)) _) (by simp; exact fun e => HBX.out.1 e.symm)), (HK.out.setCell (.inr (by have h9 := HGB.out; show W0.heap.size ≤ gb; omega)) _)⟩
                            case measure => simp [intOf]; omega
                          · go_wp2
                            go_roundw
                            case rel => exact ⟨y + 1, g3, bd3, fn3, by omega, by go_num, by first | rfl | trivial, gp_same HPK.out (fun _ => by rw [HTG.out]; unfold mkd; simpa using HBQ.out), HMK.out, BB.out, BF.out, Bx.out, HK.out⟩
                            case measure => simp [intOf]; omega
                        · have by0 := bitR_cell BF.out (k := y) (by rw [HPK.out.i.lf]; exact hly)
                          have by1 := BF.out.frozen y
                          have HBQ := kept (show fn3[y]! = fn3[y]! from rfl)
                          generalize hbq : fn3[y]! = bq at by0
                          replace HBQ := kept hbq
                          clear hbq
                          cases bq
                          · go_wp2
                            go_roundw
                            case rel => exact ⟨y + 1, true, bd3, (fn3.set y true), by omega, by go_num, by first | rfl | trivial, gp_fine HPK.out HMK.out HS.out hly HTG.out HBQ.out, (mkd_fine_keep (by rw [HPK.out.i.lf]; exact hly) HMK.out), (BB.out.keep ((Keeps.refl _ [gb + 1]).setCell (.inl (by simp)) _) (by simp)), (by rw [← bitsR_set]; exact BF.out.set_ y _), (Bx.out.keep ((Keeps.refl _ [gb + 1]).setCell (.inl (by simp)) _) (by simp; exact fun e => HBX.out.2 e.symm)), (HK.out.setCell (.inr (HGF.out)) _)⟩
                            case measure => simp [intOf]; omega
                          · go_wp2
                            go_roundw
                            case rel => exact ⟨y + 1, g3, bd3, fn3, by omega, by go_num, by first | rfl | trivial, gp_same HPK.out (fun _ => by rw [HTG.out]; unfold mkd; simpa using HBQ.out), HMK.out, BB.out, BF.out, Bx.out, HK.out⟩
                            case measure => simp [intOf]; omega
                    · have hlyz : ¬ (y : Int) < (f.nb : Int) := by omega
                      obtain rfl : y = f.nb := by omega
                      go_wp2
                      go_roundw
                      case rel => exact ⟨k + 1, g3, bd3, fn3, by omega, by go_num, by first | rfl | trivial, gp_mark HPK.out (fun c hc => (succF_mem.1 hc).1), BB.out, BF.out, Bx.out, HK.out⟩
                      case measure => simp [intOf]; omega
            · have hlkz : ¬ (k : Int) < 2 := by omega
              obtain hk2 : k = 2 := by omega
              have HPB := kept (gp_block (hk2 ▸ HPJ.out))
              go_wp2
              go_roundw
              case rel => exact ⟨x + 1, g2, bd2, fn2, by omega, by go_num, by first | rfl | trivial, HPB.out, BB.out, BF.out, HK.out⟩
              case measure => simp [intOf]; omega
        · have hlxz : ¬ (x : Int) < (f.nb : Int) := by omega
          obtain rfl : x = f.nb := by omega
          go_wp2
          obtain ⟨gq, rfl⟩ : ∃ gq, gk = gq + 1 := ⟨gk - 1, by have h9 := HGH.out; omega⟩
          go_roundg gq
          case measure => omega
          case rel => exact ⟨g', bd', fn', rfl, HPI.out.i, fun e => by have h9 := HGH.out; have h8 := HPI.out.yes e; omega, closed_at HPI.out, BB.out, BF.out, HK.out⟩
end Go.Proofs.YtjllbchfojonhaaGreatDoor
