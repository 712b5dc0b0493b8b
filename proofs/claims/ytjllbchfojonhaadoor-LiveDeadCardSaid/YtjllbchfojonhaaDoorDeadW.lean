/- The law 'LiveDead': the walk, with the contracts of what it calls. -/
import Derived.Test.YtjllbchfojonhaaDoorFlat
import Derived.Deep.CutBlock
import Derived.Deep.Cut
import Derived.Deep.CutRange
import Derived.Deep.RegionHeld3
namespace Go.Proofs.YtjllbchfojonhaaDoor
open Go.RowKit
set_option linter.unusedVariables false
set_option linter.unusedSimpArgs false

theorem info39 : (Tryd.prog.info? 39).map (fun i => (i.zero, i.size, i.bytes)) = some (some (.agg #[.string ⟨#[]⟩, .slice none 0 0, .slice none 0 0, .int .i64 0, .int .i64 0, .int .i64 0, .int .i64 0]), 7, 96) := by kernel_rfl
theorem info42 : (Tryd.prog.info? 42).map (fun i => (i.zero, i.size, i.bytes)) = some (some (.agg #[.int .i64 0, .int .i64 0, .slice none 0 0, .int .i64 0]), 4, 48) := by kernel_rfl
theorem ty_here {f : FuncM} {k : Nat} (hk : k < f.nv) : f.ty k = f.vars.2[k]!.type := by
 have hk2 : k < f.vars.2.length := hk
 unfold FuncM.ty
 rw [List.getElem?_eq_getElem hk2, getElem!_pos f.vars.2 k hk2]; rfl
theorem int1_at {w : World} {g : Nat} {ty : TypeId} {z : Int} (h : Blk w g ty #[.int .i64 z]) : IntsAt w (.slice (some ⟨g, 0, none⟩) 1 1, [z]) := by
 refine ⟨some ⟨g, 0, none⟩, 1, rfl, Nat.le_refl _, by simp [maxLen], .inr ⟨g, 0, rfl, h.lt, fun j e he i x hx => ?_⟩⟩
 cases j with
 | zero =>
  simp [intCells] at he
  subst he
  cases i with
  | zero => simp at hx; subst hx; exact h.cell 0
  | succ i => simp at hx
 | succ j => simp at he
theorem blocks_put (l : List BlockM) (b : Nat) (hb : b < l.length) (vi : Value) (z : List InstM) : (l.map BlockM.cells).flatten.set (b * 7 + 2) vi = ((l.set b { l[b]! with insts := (vi, z) }).map BlockM.cells).flatten := by
 rw [flat_set (blocks_len l) b 2 (by decide) (by simpa using hb), List.map_set]
 congr 2
 rw [getElem!_pos (l.map BlockM.cells) b (by simpa using hb), List.getElem_map, getElem!_pos l b hb]
 rfl
theorem row_blk4 {w : World} {g : Nat} {x : InstM} (h : Blk w g 42 #[.int .i64 x.op, .int .i64 x.dst, x.args.1, .int .i64 x.num]) : Row w 4 (.slice (some ⟨g, 0, none⟩) 1 1) ([x].map InstM.cells) := by
 refine ⟨some ⟨g, 0, none⟩, 1, rfl, Nat.le_refl _, by simp [maxLen], .inr ⟨g, 0, rfl, h.lt, fun j e he i y hy => ?_⟩⟩
 cases j with
 | zero =>
  simp at he
  subst he
  have := h.cell i
  rw [show 0 + 0 * 4 + i = i by omega, this]
  rw [← hy]
  simp [InstM.cells]
 | succ j => simp at he
theorem rem401 (m : Nat) (hm : m < 65536) : ((m : Int).tmod 401 = ((m % 401 : Nat) : Int)) := by
 rw [Int.tmod_eq_emod_of_nonneg (by omega)]; omega
theorem ints_none (w : World) : IntsAt w (.slice none 0 0, []) := ⟨none, 0, rfl, Nat.le_refl _, by simp [maxLen], .inl rfl⟩

set_option maxRecDepth 100000 in
set_option maxHeartbeats 200000000 in
theorem dead_walk (f : FuncM) (i0 i1 : Value) (v b p : Int) (m : Nat) (w : World) (hf : FuncAt w f) (hm : m < 65536) (sl sm : Bool) (rz : Int) (lq : List Int)
 (h20 : ∀ W, Keeps w W [] → Calls Tryd.prog 20 #[] W fun e w' => e = .returned (.bool true) ∧ Keeps W w' [])
 (h21 : ∀ W, Keeps w W [] → Calls Tryd.prog 21 #[f.val] W fun e w' => e = .returned (.bool sl) ∧ Keeps W w' [])
 (h24 : ∀ W, Keeps w W [] → Calls Tryd.prog 24 #[.agg #[i0, i1]] W fun e w' => e = .returned (.bool sm) ∧ Keeps W w' [])
 (h25 : sl = true → sm = true → ∀ W, Keeps w W [] → Calls Tryd.prog 25 #[f.val, .agg #[i0, i1]] W fun e w' => e = .returned (.int .i64 rz) ∧ Keeps W w' [])
 (h22 : sl = true → ∀ W, Keeps w W [] → Calls Tryd.prog 22 #[f.val, .int .i64 b, .int .i64 p] W fun e w' => (∃ q : IntsM, e = .returned q.1 ∧ q.2 = lq ∧ IntsAt w' q) ∧ Keeps W w' [])
 (hbd : sl = true → f.nb ≤ 64 ∧ lq.length ≤ 1000 ∧ ∀ y ∈ f.blocks.2, y.insts.2.length ≤ 1000)
 (h28 : sl = true → sm = true → rz = 0 → ∀ (k n pl : Nat), v = k → b = n → p = pl → k < f.nv → n < f.nb → pl ≤ f.blocks.2[n]!.insts.2.length → ¬ (k : Int) ∈ lq → ∀ W vi vb va, Keeps w W [] → FuncAt W (f.putF n pl (xOf f k va (.slice none 0 0)) vi vb) → Calls Tryd.prog 28 #[f.val, .agg #[f.vars.1, f.params.1, vb], .agg #[i0, i1], .int .i64 (m % 401 : Nat)] W fun e w' => e = .returned (.bool true) ∧ Keeps W w' []) :
 Calls Tryd.prog 7 #[f.val, .agg #[i0, i1], .int .i64 v, .int .i64 b, .int .i64 p, .int .u16 (m : Nat)] w fun e w' => e = .returned (.bool true) ∧ Keeps w w' [] := by
 have C20 := kept h20
 have C28 := kept h28
 have C22 := kept h22
 have C25 := kept h25
 have HBD := kept hbd
 obtain ⟨a0, c0, e0, -, -, hc0⟩ := hf.vars.open_
 obtain ⟨a1, c1, e1, -, -, hc1⟩ := (show Row w 1 f.params.1 (f.params.2.map intCells) from hf.params).open_
 obtain ⟨a2, c2, e2, -, -, hc2⟩ := hf.blocks.open_
 have hval : f.val = .agg #[.slice a0 f.nv c0, .slice a1 f.np c1, .slice a2 f.nb c2] := by unfold FuncM.val FuncM.nv FuncM.np FuncM.nb; rw [e0, e1, e2]
 have h1 : #[f.vars.1, f.params.1, f.blocks.1] = #[.slice a0 f.nv c0, .slice a1 f.np c1, .slice a2 f.nb c2] := by unfold FuncM.nv FuncM.np FuncM.nb; rw [e0, e1, e2]
 have HF := kept hf
 have HC0 := kept hc0
 have HC1 := kept hc1
 have HC2 := kept hc2
 have HNV := kept (show f.vars.2.length = f.nv from rfl)
 have HNP := kept (show f.params.2.length = f.np from rfl)
 have HNB := kept (show f.blocks.2.length = f.nb from rfl)
 have HBR := kept (show Row w 7 (.slice a2 f.nb c2) (f.blocks.2.map BlockM.cells) from by have h := hf.blocks; rw [e2] at h; exact h)
 have E01 := kept (And.intro e0 (And.intro e1 e2))
 simp only [hval] at C28 C22 C25
 rw [hval] at h21
 rw [e0, e1] at C28
 rw [show f.vars.2.length = f.nv from rfl, show f.params.2.length = f.np from rfl] at C28
 rw [hval]
 have C21 := kept h21
 have C24 := kept h24
 clear hval h1 h20 h21 h22 h24 h25 h28 hbd hc0 hc1 hc2 e0 e1 e2 hf
 have hk0 : Keeps w (w.alloc (.cells #[.slice a0 f.nv c0, .slice a1 f.np c1, .slice a2 f.nb c2] 26)) [] := (Keeps.refl _ []).alloc _
 have bb0 := Blk.new w 26 #[.slice a0 f.nv c0, .slice a1 f.np c1, .slice a2 f.nb c2]
 have hk1 : Keeps (w.alloc (.cells #[.slice a0 f.nv c0, .slice a1 f.np c1, .slice a2 f.nb c2] 26)) ((w.alloc (.cells #[.slice a0 f.nv c0, .slice a1 f.np c1, .slice a2 f.nb c2] 26)).alloc (.cells #[i0, i1] 53)) [] := (Keeps.refl _ []).alloc _
 have bb1 := Blk.new (w.alloc (.cells #[.slice a0 f.nv c0, .slice a1 f.np c1, .slice a2 f.nb c2] 26)) 53 #[i0, i1]
 rw [show (w.alloc (.cells #[.slice a0 f.nv c0, .slice a1 f.np c1, .slice a2 f.nb c2] 26)).heap.size = w.heap.size + 1 by show (Array.push _ _).size = _; simp [Array.size_push]] at bb1
 have Bl := kept (bb0.keep hk1 (by simp))
 have Bm := kept bb1
 have HK := kept (hk0.and_then hk1)
 obtain ⟨l0, l1, l2⟩ := Bl.out.c3
 obtain ⟨m0, m1⟩ := Bm.out.c2
 simp at l0 l1 l2 m0 m1
 clear hk0 hk1 bb0 bb1
 go_enter Tryd.func7, Tryd.ntmps7
 cases sl with
 | false =>
  go_wp2_with (first | (go_at_call 20; refine (C20.out _ HK.out).mono ?_; rintro e w3 ⟨rfl, k3⟩; clear l0 l1 l2 m0 m1; replace Bl := kept (Bl.out.keep k3 (by simp)); replace Bm := kept (Bm.out.keep k3 (by simp)); replace HK := kept (HK.out.and_then k3); obtain ⟨l0, l1, l2⟩ := Bl.out.c3; obtain ⟨m0, m1⟩ := Bm.out.c2; simp at l0 l1 l2 m0 m1; clear k3) | (go_at_call 21; refine (C21.out _ HK.out).mono ?_; rintro e w3 ⟨rfl, k3⟩; clear l0 l1 l2 m0 m1; replace Bl := kept (Bl.out.keep k3 (by simp)); replace Bm := kept (Bm.out.keep k3 (by simp)); replace HK := kept (HK.out.and_then k3); obtain ⟨l0, l1, l2⟩ := Bl.out.c3; obtain ⟨m0, m1⟩ := Bm.out.c2; simp at l0 l1 l2 m0 m1; clear k3))
  go_ret
  exact ⟨rfl, HK.out⟩
 | true =>
  obtain ⟨hnb64, hlq, hil⟩ := HBD.out rfl
  have HIL := kept hil
  have HLQB := kept hlq
  clear hil hlq HBD
  cases sm with
  | false =>
   go_wp2_with (first | (go_at_call 20; refine (C20.out _ HK.out).mono ?_; rintro e w3 ⟨rfl, k3⟩; clear l0 l1 l2 m0 m1; replace Bl := kept (Bl.out.keep k3 (by simp)); replace Bm := kept (Bm.out.keep k3 (by simp)); replace HK := kept (HK.out.and_then k3); obtain ⟨l0, l1, l2⟩ := Bl.out.c3; obtain ⟨m0, m1⟩ := Bm.out.c2; simp at l0 l1 l2 m0 m1; clear k3) | (go_at_call 21; refine (C21.out _ HK.out).mono ?_; rintro e w3 ⟨rfl, k3⟩; clear l0 l1 l2 m0 m1; replace Bl := kept (Bl.out.keep k3 (by simp)); replace Bm := kept (Bm.out.keep k3 (by simp)); replace HK := kept (HK.out.and_then k3); obtain ⟨l0, l1, l2⟩ := Bl.out.c3; obtain ⟨m0, m1⟩ := Bm.out.c2; simp at l0 l1 l2 m0 m1; clear k3) | (go_at_call 24; refine (C24.out _ HK.out).mono ?_; rintro e w3 ⟨rfl, k3⟩; clear l0 l1 l2 m0 m1; replace Bl := kept (Bl.out.keep k3 (by simp)); replace Bm := kept (Bm.out.keep k3 (by simp)); replace HK := kept (HK.out.and_then k3); obtain ⟨l0, l1, l2⟩ := Bl.out.c3; obtain ⟨m0, m1⟩ := Bm.out.c2; simp at l0 l1 l2 m0 m1; clear k3))
   go_ret
   exact ⟨rfl, HK.out⟩
  | true =>
   have C25x := kept (C25.out rfl rfl)
   have C22x := kept (C22.out rfl)
   have C28x := kept (C28.out rfl rfl)
   clear C25 C22 C28
   by_cases hR : rz = 0
   ·subst hR
    have C28y := kept (C28x.out rfl)
    clear C28x
    go_upto_region 3 with (first | (go_at_call 20; refine (C20.out _ HK.out).mono ?_; rintro e w3 ⟨rfl, k3⟩; clear l0 l1 l2 m0 m1; replace Bl := kept (Bl.out.keep k3 (by simp)); replace Bm := kept (Bm.out.keep k3 (by simp)); replace HK := kept (HK.out.and_then k3); obtain ⟨l0, l1, l2⟩ := Bl.out.c3; obtain ⟨m0, m1⟩ := Bm.out.c2; simp at l0 l1 l2 m0 m1; clear k3) | (go_at_call 21; refine (C21.out _ HK.out).mono ?_; rintro e w3 ⟨rfl, k3⟩; clear l0 l1 l2 m0 m1; replace Bl := kept (Bl.out.keep k3 (by simp)); replace Bm := kept (Bm.out.keep k3 (by simp)); replace HK := kept (HK.out.and_then k3); obtain ⟨l0, l1, l2⟩ := Bl.out.c3; obtain ⟨m0, m1⟩ := Bm.out.c2; simp at l0 l1 l2 m0 m1; clear k3) | (go_at_call 24; refine (C24.out _ HK.out).mono ?_; rintro e w3 ⟨rfl, k3⟩; clear l0 l1 l2 m0 m1; replace Bl := kept (Bl.out.keep k3 (by simp)); replace Bm := kept (Bm.out.keep k3 (by simp)); replace HK := kept (HK.out.and_then k3); obtain ⟨l0, l1, l2⟩ := Bl.out.c3; obtain ⟨m0, m1⟩ := Bm.out.c2; simp at l0 l1 l2 m0 m1; clear k3) | (go_at_call 25; refine (C25x.out _ HK.out).mono ?_; rintro e w3 ⟨rfl, k3⟩; clear l0 l1 l2 m0 m1; replace Bl := kept (Bl.out.keep k3 (by simp)); replace Bm := kept (Bm.out.keep k3 (by simp)); replace HK := kept (HK.out.and_then k3); obtain ⟨l0, l1, l2⟩ := Bl.out.c3; obtain ⟨m0, m1⟩ := Bm.out.c2; simp at l0 l1 l2 m0 m1; clear k3))
    by_cases hv0 : v < 0
    ·go_wp2
     go_ret
     exact ⟨rfl, HK.out⟩
    by_cases hvn : (f.nv : Int) ≤ v
    ·go_wp2
     go_ret
     exact ⟨rfl, HK.out⟩
    by_cases hb0 : b < 0
    ·go_wp2
     go_ret
     exact ⟨rfl, HK.out⟩
    by_cases hbn : (f.nb : Int) ≤ b
    ·go_wp2
     go_ret
     exact ⟨rfl, HK.out⟩
    by_cases hp0 : p < 0
    ·go_wp2
     go_ret
     exact ⟨rfl, HK.out⟩
    obtain ⟨vk, rfl⟩ : ∃ vk : Nat, v = vk := ⟨v.toNat, by omega⟩
    obtain ⟨bn, rfl⟩ : ∃ bn : Nat, b = bn := ⟨b.toNat, by omega⟩
    obtain ⟨pl, rfl⟩ : ∃ pl : Nat, p = pl := ⟨p.toNat, by omega⟩
    have hvl : vk < f.nv := by omega
    have hbl : bn < f.nb := by omega
    obtain ⟨vb, vo, e9, hvb, hvc⟩ := HC0.out vk (by rw [HNV.out]; exact hvl)
    subst e9
    have HTY := kept (ty_here hvl)
    have HTC := kept (hvc 1 _ rfl)
    generalize f.vars.2[vk]!.type = tv at *
    clear hvc
    obtain ⟨bb, off, e8, hbb, hbc⟩ := HC2.out bn (by rw [HNB.out]; exact hbl)
    subst e8
    have hyb := HF.out.block _ (bang_mem (l := f.blocks.2) (k := bn) hbl)
    obtain ⟨qa, qc, qe, hqc1, hqc2, -⟩ := hyb.insts.open_
    have HIR := kept (show Row w 4 (.slice qa f.blocks.2[bn]!.insts.2.length qc) (f.blocks.2[bn]!.insts.2.map InstM.cells) from by have h := hyb.insts; rw [qe] at h; exact h)
    have HIA := kept hyb.inst
    have hqL := HIL.out _ (bang_mem (l := f.blocks.2) (k := bn) hbl)
    have HIC := kept (show w.cell? ⟨bb, off + bn * 7 + 2, none⟩ = some (.slice qa f.blocks.2[bn]!.insts.2.length qc) from by have h := hbc 2 _ rfl; rw [qe] at h; exact h)
    clear hbc qe hyb
    have C28z := kept (C28y.out vk bn pl rfl rfl rfl hvl hbl)
    clear C28y
    have HQN := kept (show f.blocks.2[bn]!.insts.2.length = f.blocks.2[bn]!.insts.2.length from rfl)
    generalize hqn : f.blocks.2[bn]!.insts.2.length = qn at HQN HIR HIC hqc1 hqc2 hqL C28z
    have HQN' := kept hqn
    clear hqn HQN
    have n2 := HK.out.cellOf HIC.out
    have tc := HK.out.cellOf HTC.out
    by_cases hpq : (qn : Int) < (pl : Int)
    ·go_wp2
     go_ret
     exact ⟨rfl, HK.out⟩
    have hplq : pl ≤ qn := by omega
    have HPL := kept hplq
    have HQC := kept (And.intro hqc1 hqc2)
    clear hqc1 hqc2
    go_wp2_with (first | (go_at_call 22; refine (C22x.out _ HK.out).mono ?_; rintro e w3 ⟨⟨⟨lva, lvl⟩, rfl, hlv, hla⟩, k3⟩; obtain ⟨xa, xc, ex, -, -, hxc⟩ := Row.open_ (M := Int) (cells := intCells) (show Row w3 1 lva (lvl.map intCells) from hla); subst ex; have HLV := kept (show lvl = lq from hlv); have HXC := kept hxc; clear hlv hla hxc; clear l0 l1 l2 m0 m1 n2 tc; replace Bl := kept (Bl.out.keep k3 (by simp)); replace Bm := kept (Bm.out.keep k3 (by simp)); replace HK := kept (HK.out.and_then k3); obtain ⟨l0, l1, l2⟩ := Bl.out.c3; obtain ⟨m0, m1⟩ := Bm.out.c2; simp at l0 l1 l2 m0 m1; have n2 := HK.out.cellOf HIC.out; have tc := HK.out.cellOf HTC.out; clear k3))
    clear l0 l1 l2 m0 m1 n2 tc
    have Bl_w3 := Bl
    have Bm_w3 := Bm
    have Tw3 := HK
    clear HK
    have HK := kept (Keeps.refl w3 [])
    obtain ⟨l0, l1, l2⟩ := Bl.out.c3
    obtain ⟨m0, m1⟩ := Bm.out.c2
    simp at l0 l1 l2 m0 m1
    have n2 := (Tw3.out.and_then HK.out).cellOf HIC.out
    have tc := (Tw3.out.and_then HK.out).cellOf HTC.out
    have hnlb : lvl.length ≤ 1000 := by rw [HLV.out]; exact HLQB.out
    generalize hnl : lvl.length = nl at *
    have HNL := kept hnl
    clear hnl
    go_loopw [77] (fun j' wx => ∃ j : Nat, j ≤ nl ∧ j' = .int .i64 j ∧ w3 = wx ∧ Hid (∀ q, q < j → ¬ lvl[q]! = (vk : Int))) (fun j' _ => nl - (intOf j').toNat)
    case atStart => exact ⟨0, Nat.zero_le _, rfl, rfl, fun q hq => absurd hq (Nat.not_lt_zero _)⟩
    case round =>
     obtain ⟨j, hj, rfl, rfl, hno⟩ := hrel
     have HNO := kept hno.out
     clear hno
     by_cases hlj : j < nl
     ·have hljz : (j : Int) < (nl : Int) := by omega
      obtain ⟨xb, xo, rfl, hxb, hxcell⟩ := HXC.out j (by first | exact hlj | (rw [HNL.out]; exact hlj))
      have x0 := hxcell 0 _ rfl
      simp only [Nat.mul_one, Nat.add_zero] at x0
      clear hxcell HXC
      have HZ := kept (show lvl[j]! = lvl[j]! from rfl)
      generalize hz : lvl[j]! = zj at x0
      have HZJ := kept hz
      clear hz HZ
      by_cases hzv : zj = (vk : Int)
      ·subst hzv
       go_wp2
       go_ret
       exact ⟨rfl, (Tw3.out.and_then HK.out)⟩
      ·have hzb : (zj == (vk : Int)) = false := by simpa using hzv
       go_wp2
       go_roundw
       case rel => exact ⟨j + 1, by omega, by go_num, by first | rfl | trivial, fun q hq => by rcases Nat.lt_succ_iff_lt_or_eq.1 hq with h | h; exact HNO.out q h; rw [h, HZJ.out]; exact hzv⟩
       case measure => simp [intOf]; omega
     ·have hljz : ¬ (j : Int) < (nl : Int) := by omega
      have HNI := kept (show ¬ (vk : Int) ∈ lq from fun hmem => by rw [← HLV.out] at hmem; obtain ⟨q, hq, e⟩ := List.mem_iff_getElem.1 hmem; exact HNO.out q (by rw [HNL.out] at hq; omega) (by rw [getElem!_pos lvl q hq]; exact e))
      have C28w := kept (C28z.out hplq HNI.out)
      clear C28z HNO HXC HLV HNI
      have hv1 : (vk : Int) < (f.nv : Int) := by omega
      have hb1 : (bn : Int) < (f.nb : Int) := by omega
      go_upto_region 12 with (fail)
      clear l0 l1 l2 m0 m1 n2 tc
      have bmx := Blk.new w3 42 #[.int .i64 0, .int .i64 (vk : Nat), .slice none 0 0, .int .i64 77]
      have k3 : Keeps w3 (w3.alloc (.cells #[.int .i64 0, .int .i64 (vk : Nat), .slice none 0 0, .int .i64 77] 42)) [] := (Keeps.refl w3 []).alloc _
      replace Bl := kept (Bl.out.keep k3 (by simp))
      replace Bm := kept (Bm.out.keep k3 (by simp))
      replace HK := kept (HK.out.and_then k3)
      have Bx := kept bmx
      clear k3 bmx
      obtain ⟨l0, l1, l2⟩ := Bl.out.c3
      obtain ⟨m0, m1⟩ := Bm.out.c2
      obtain ⟨x0, x1, x2, x3⟩ := Bx.out.c4
      simp at l0 l1 l2 m0 m1 x0 x1 x2 x3
      have n2 := (Tw3.out.and_then HK.out).cellOf HIC.out
      have tc := (Tw3.out.and_then HK.out).cellOf HTC.out
      generalize hW1 : w3.alloc (.cells #[.int .i64 0, .int .i64 (vk : Nat), .slice none 0 0, .int .i64 77] 42) = W1 at *
      clear hW1
      clear x0 x1 x2 x3
      obtain ⟨x0, x1, x2, x3⟩ := Bx.out.c4
      simp at x0 x1 x2 x3
      go_upto_block 2 with (fail)
      go_cut [93] from 93 to 102 (fun _ wx => ∃ va : Value, Keeps w3 wx [] ∧ InstAt wx (xOf f vk va (.slice none 0 0)) ∧ Blk wx w3.heap.size 42 (xOf f vk va (.slice none 0 0)).cells.toArray)
      case first =>
       by_cases h1 : tv = 1
       ·subst h1
        have BX1 := kept (Bx.out.keep ((Keeps.refl W1 []).alloc (.cells #[.int .i64 (vk : Nat)] 3)) (by simp))
        obtain ⟨y0, y1, y2, y3⟩ := BX1.out.c4
        have fy0 := BX1.out.frozen 0
        have fy1 := BX1.out.frozen 1
        have fy2 := BX1.out.frozen 2
        have fy3 := BX1.out.frozen 3
        simp at y0 y1 y2 y3
        go_wp2
        go_meet
        have hkk : Keeps w3 (((((W1.alloc (.cells #[.int .i64 (vk : Nat)] 3)).setCell ⟨w3.heap.size, 0, none⟩ (.int .i64 10)).setCell ⟨w3.heap.size, 1, none⟩ (.int .i64 (vk : Nat))).setCell ⟨w3.heap.size, 2, none⟩ (.slice (some ⟨W1.heap.size, 0, none⟩) 1 1)).setCell ⟨w3.heap.size, 3, none⟩ (.int .i64 0)) [] := ((((HK.out.alloc (.cells #[.int .i64 (vk : Nat)] 3)).setCell (p := ⟨w3.heap.size, 0, none⟩) (.inr (Nat.le_refl _)) _).setCell (p := ⟨w3.heap.size, 1, none⟩) (.inr (Nat.le_refl _)) _).setCell (p := ⟨w3.heap.size, 2, none⟩) (.inr (Nat.le_refl _)) _).setCell (p := ⟨w3.heap.size, 3, none⟩) (.inr (Nat.le_refl _)) _
        have hbb := ((((BX1.out.set_ 0 (.int .i64 10)).set_ 1 (.int .i64 (vk : Nat))).set_ 2 (.slice (some ⟨W1.heap.size, 0, none⟩) 1 1)).set_ 3 (.int .i64 0))
        simp only [List.setIfInBounds_toArray, List.set_cons_zero, List.set_cons_succ] at hbb
        have hnb := ((((Blk.new W1 3 #[.int .i64 (vk : Nat)]).keep (S := [w3.heap.size]) (((((Keeps.refl _ [w3.heap.size]).setCell (p := ⟨w3.heap.size, 0, none⟩) (.inl (by simp)) (.int .i64 10)).setCell (p := ⟨w3.heap.size, 1, none⟩) (.inl (by simp)) (.int .i64 (vk : Nat))).setCell (p := ⟨w3.heap.size, 2, none⟩) (.inl (by simp)) (.slice (some ⟨W1.heap.size, 0, none⟩) 1 1)).setCell (p := ⟨w3.heap.size, 3, none⟩) (.inl (by simp)) (.int .i64 0)) (by have := Bx.out.lt; simp; omega))))
        refine ⟨.slice (some ⟨W1.heap.size, 0, none⟩) 1 1, hkk, ?_, ?_⟩
        ·unfold xOf; rw [HTY.out, if_pos rfl]; exact int1_at hnb
        ·unfold xOf; rw [HTY.out, if_pos rfl]; exact hbb
       ·have h1b : (tv == 1) = false := by simpa using h1
        by_cases h2 : tv = 2
        ·subst h2
         have fx0 := Bx.out.frozen 0
         have fx1 := Bx.out.frozen 1
         have fx2 := Bx.out.frozen 2
         have fx3 := Bx.out.frozen 3
         go_wp2
         go_meet
         have hkk : Keeps w3 ((((W1.setCell ⟨w3.heap.size, 0, none⟩ (.int .i64 16)).setCell ⟨w3.heap.size, 1, none⟩ (.int .i64 (vk : Nat))).setCell ⟨w3.heap.size, 2, none⟩ (.slice none 0 0)).setCell ⟨w3.heap.size, 3, none⟩ (.int .i64 0)) [] := ((((HK.out).setCell (p := ⟨w3.heap.size, 0, none⟩) (.inr (Nat.le_refl _)) _).setCell (p := ⟨w3.heap.size, 1, none⟩) (.inr (Nat.le_refl _)) _).setCell (p := ⟨w3.heap.size, 2, none⟩) (.inr (Nat.le_refl _)) _).setCell (p := ⟨w3.heap.size, 3, none⟩) (.inr (Nat.le_refl _)) _
         have hbb := ((((Bx.out.set_ 0 (.int .i64 16)).set_ 1 (.int .i64 (vk : Nat))).set_ 2 (.slice none 0 0)).set_ 3 (.int .i64 0))
         simp only [List.setIfInBounds_toArray, List.set_cons_zero, List.set_cons_succ] at hbb
         refine ⟨.slice none 0 0, hkk, ?_, ?_⟩
         ·unfold xOf; rw [HTY.out, if_neg (by decide), if_pos rfl]; exact ints_none _
         ·unfold xOf; rw [HTY.out, if_neg (by decide), if_pos rfl]; exact hbb
        ·have h2b : (tv == 2) = false := by simpa using h2
         go_wp2
         go_meet
         refine ⟨.slice none 0 0, HK.out, ?_, ?_⟩
         ·unfold xOf; rw [HTY.out, if_neg h1, if_neg h2]; exact ints_none _
         ·unfold xOf; rw [HTY.out, if_neg h1, if_neg h2]; exact Bx.out
      case rest =>
       obtain ⟨va, hk, hia, hbx⟩ := hcut
       clear x0 x1 x2 x3 Bx
       clear l0 l1 l2 m0 m1 n2 tc
       clear Bl Bm HK
       have HK := kept hk
       have Bl := kept (Bl_w3.out.keep hk (by simp))
       have Bm := kept (Bm_w3.out.keep hk (by simp))
       clear hk
       obtain ⟨l0, l1, l2⟩ := Bl.out.c3
       obtain ⟨m0, m1⟩ := Bm.out.c2
       simp at l0 l1 l2 m0 m1
       have n2 := (Tw3.out.and_then HK.out).cellOf HIC.out
       have tc := (Tw3.out.and_then HK.out).cellOf HTC.out
       have C28v := kept (fun W vi vb => C28w.out W vi vb va)
       clear C28w
       generalize hxm : (xOf f vk va (.slice none 0 0)) = xm at *
       clear hxm
       have HIX := kept hia
       have Bx := kept (show Blk wc w3.heap.size 42 #[.int .i64 xm.op, .int .i64 xm.dst, xm.args.1, .int .i64 xm.num] from hbx)
       clear hia hbx
       obtain ⟨x0, x1, x2, x3⟩ := Bx.out.c4
       simp at x0 x1 x2 x3
       clear l0 l1 l2 m0 m1 x0 x1 x2 x3 n2 tc
       have Bl_wc := Bl
       have Bm_wc := Bm
       have Bx_wc := Bx
       have Twc := HK
       clear HK
       have HK := kept (Keeps.refl wc [])
       obtain ⟨l0, l1, l2⟩ := Bl.out.c3
       obtain ⟨m0, m1⟩ := Bm.out.c2
       obtain ⟨x0, x1, x2, x3⟩ := Bx.out.c4
       simp at l0 l1 l2 m0 m1 x0 x1 x2 x3
       have n2 := (Tw3.out.and_then (Twc.out.and_then HK.out)).cellOf HIC.out
       have tc := (Tw3.out.and_then (Twc.out.and_then HK.out)).cellOf HTC.out
       obtain ⟨i39, hi9, he9⟩ := Option.map_eq_some_iff.1 info39
       simp only [Prod.mk.injEq] at he9
       obtain ⟨hz9, hs9, hb9⟩ := he9
       obtain ⟨iA, hiA, heA⟩ := Option.map_eq_some_iff.1 info42
       simp only [Prod.mk.injEq] at heA
       obtain ⟨hzA, hsA, hbA⟩ := heA
       go_upto_region 18 with (fail)
       clear l0 l1 l2 m0 m1 x0 x1 x2 x3 n2 tc
       have bmx := Blk.new wc 26 #[.slice (some ⟨vb, vo, none⟩) f.nv c0, .slice a1 f.np c1, .slice (some ⟨bb, off, none⟩) f.nb c2]
       have k3 : Keeps wc (wc.alloc (.cells #[.slice (some ⟨vb, vo, none⟩) f.nv c0, .slice a1 f.np c1, .slice (some ⟨bb, off, none⟩) f.nb c2] 26)) [] := (Keeps.refl wc []).alloc _
       replace Bl := kept (Bl.out.keep k3 (by simp))
       replace Bm := kept (Bm.out.keep k3 (by simp))
       replace Bx := kept (Bx.out.keep k3 (by simp))
       replace HK := kept (HK.out.and_then k3)
       have Bg := kept bmx
       clear k3 bmx
       obtain ⟨l0, l1, l2⟩ := Bl.out.c3
       obtain ⟨m0, m1⟩ := Bm.out.c2
       obtain ⟨x0, x1, x2, x3⟩ := Bx.out.c4
       obtain ⟨g0, g1, g2⟩ := Bg.out.c3
       simp at l0 l1 l2 m0 m1 x0 x1 x2 x3 g0 g1 g2
       have n2 := (Tw3.out.and_then (Twc.out.and_then HK.out)).cellOf HIC.out
       have tc := (Tw3.out.and_then (Twc.out.and_then HK.out)).cellOf HTC.out
       have HWW0 := kept (show wc.heap.size < (wc.alloc (.cells #[.slice (some ⟨vb, vo, none⟩) f.nv c0, .slice a1 f.np c1, .slice (some ⟨bb, off, none⟩) f.nb c2] 26)).heap.size from by show _ < (Array.push _ _).size; simp [Array.size_push])
       generalize hW2 : wc.alloc (.cells #[.slice (some ⟨vb, vo, none⟩) f.nv c0, .slice a1 f.np c1, .slice (some ⟨bb, off, none⟩) f.nb c2] 26) = W2 at *
       clear hW2
       have HWW := HWW0
       clear HWW0
       clear l0 l1 l2 m0 m1 x0 x1 x2 x3 g0 g1 g2 n2 tc
       obtain ⟨l0, l1, l2⟩ := Bl.out.c3
       obtain ⟨m0, m1⟩ := Bm.out.c2
       obtain ⟨x0, x1, x2, x3⟩ := Bx.out.c4
       obtain ⟨g0, g1, g2⟩ := Bg.out.c3
       simp at l0 l1 l2 m0 m1 x0 x1 x2 x3 g0 g1 g2
       have n2 := (Tw3.out.and_then (Twc.out.and_then HK.out)).cellOf HIC.out
       have tc := (Tw3.out.and_then (Twc.out.and_then HK.out)).cellOf HTC.out
       have l2a := ((Keeps.refl W2 []).alloc (.cells #[] 39)).cellOf l2
       go_upto_region 19 with (first | (at_builtin; go_must (refine wpList_append_row rfl (.tmp 104) (.tmp 106) 24 rfl W2.heap.size 39 i39 (.agg #[.string ⟨#[]⟩, .slice none 0 0, .slice none 0 0, .int .i64 0, .int .i64 0, .int .i64 0, .int .i64 0]) 7 96 Tryd.underlying24 hi9 hz9 hs9 hb9 rfl (by decide) (.slice (some ⟨W2.heap.size, 0, none⟩) 0 0) 0 [] rfl (own_empty (Blk.new W2 39 #[])) (.slice (some ⟨bb, off, none⟩) f.nb c2) (f.blocks.2.map BlockM.cells) rfl (Row.keep HBR.out (Keeps.alloc (Tw3.out.and_then (Twc.out.and_then HK.out)) _)) (blocks_len _) (blocks_one HF.out.block) (by rw [List.length_map]; have h : f.blocks.2.length = f.nb := rfl; unfold maxLen; omega) (by rw [List.length_map]; have h : f.blocks.2.length = f.nb := rfl; omega) (by rw [show (W2.alloc (.cells #[] 39)).heap.size = W2.heap.size + 1 by show (Array.push _ _).size = _; simp [Array.size_push]]; omega) ?_); intro v1 w4 hown hgrow; have k3 : Keeps W2 w4 [] := ((Keeps.refl W2 []).alloc _).grown hgrow (fun k hk => by simp [Value.ownBlock] at hk; exact .inr (by omega)); have OB := kept (show w4.ownsRow W2.heap.size 39 7 v1 f.nb (f.blocks.2.map BlockM.cells).flatten from by have h := hown; rw [Nat.zero_add, List.length_map, List.nil_append] at h; exact h); obtain ⟨gb, gc, rfl, hgb, hgo, hgc1, hgc2, hglt, hgcell, hgfz⟩ := own_cellC OB.out (by omega); have HGB := kept hgb; have HGO := kept hgo; have HGL := kept hglt; have HGC := kept (And.intro hgc1 hgc2); clear hown hgrow hgb hgo hgc1 hgc2 hglt hgcell hgfz; clear l0 l1 l2 m0 m1 x0 x1 x2 x3 g0 g1 g2 n2 tc; replace Bl := kept (Bl.out.keep k3 (by simp)); replace Bm := kept (Bm.out.keep k3 (by simp)); replace Bx := kept (Bx.out.keep k3 (by simp)); replace Bg := kept (Bg.out.keep k3 (by simp)); replace HK := kept (HK.out.and_then k3); obtain ⟨l0, l1, l2⟩ := Bl.out.c3; obtain ⟨m0, m1⟩ := Bm.out.c2; obtain ⟨x0, x1, x2, x3⟩ := Bx.out.c4; obtain ⟨g0, g1, g2⟩ := Bg.out.c3; simp at l0 l1 l2 m0 m1 x0 x1 x2 x3 g0 g1 g2; have n2 := (Tw3.out.and_then (Twc.out.and_then HK.out)).cellOf HIC.out; have tc := (Tw3.out.and_then (Twc.out.and_then HK.out)).cellOf HTC.out; clear k3; have fg2 := Bg.out.frozen 2))
       clear l2a
       clear l0 l1 l2 m0 m1 x0 x1 x2 x3 g0 g1 g2 n2 tc
       have kS : Keeps w4 (w4.setCell ⟨wc.heap.size, 2, none⟩ (.slice (some ⟨gb, 0, none⟩) f.nb gc)) [wc.heap.size] := (Keeps.refl w4 _).setCell (.inl (by simp)) _
       have hl1 := Bl_wc.out.lt
       have hl2 := Bm_wc.out.lt
       have hl3 := Bx_wc.out.lt
       have OBx := kept (own_keep OB.out kS (fun b hb e => own_ne OB.out Bg.out (by decide) (by rw [hb, List.mem_singleton.1 e])))
       replace OB := OBx
       clear OBx
       have bg := Bg.out.set_ 2 (.slice (some ⟨gb, 0, none⟩) f.nb gc)
       simp only [List.setIfInBounds_toArray, List.set_cons_zero, List.set_cons_succ] at bg
       replace Bl := kept (Bl.out.keep kS (by simp; omega))
       replace Bm := kept (Bm.out.keep kS (by simp; omega))
       replace Bx := kept (Bx.out.keep kS (by simp; omega))
       have hkx : Keeps wc (w4.setCell ⟨wc.heap.size, 2, none⟩ (.slice (some ⟨gb, 0, none⟩) f.nb gc)) [] := HK.out.setCell (p := ⟨wc.heap.size, 2, none⟩) (.inr (Nat.le_refl _)) _
       replace HK := kept hkx
       replace Bg := kept bg
       have hglx : gb < (w4.setCell ⟨wc.heap.size, 2, none⟩ (.slice (some ⟨gb, 0, none⟩) f.nb gc)).heap.size := by have := HGL.out; have := kS.size; omega
       replace HGL := kept hglx
       clear kS hl1 hl2 hl3 bg hkx hglx
       generalize (w4.setCell ⟨wc.heap.size, 2, none⟩ (.slice (some ⟨gb, 0, none⟩) f.nb gc)) = X1 at *
       obtain ⟨l0, l1, l2⟩ := Bl.out.c3
       obtain ⟨m0, m1⟩ := Bm.out.c2
       obtain ⟨x0, x1, x2, x3⟩ := Bx.out.c4
       obtain ⟨g0, g1, g2⟩ := Bg.out.c3
       simp at l0 l1 l2 m0 m1 x0 x1 x2 x3 g0 g1 g2
       have n2 := (Tw3.out.and_then (Twc.out.and_then HK.out)).cellOf HIC.out
       have tc := (Tw3.out.and_then (Twc.out.and_then HK.out)).cellOf HTC.out
       have HGX := kept Bg.out.lt
       have HTK := kept (show ((f.blocks.2[bn]!.insts.2.map InstM.cells).take pl).length = pl by rw [List.length_take, List.length_map, HQN'.out]; have := HPL.out; omega)
       have hqq := HQC.out
       have hpq2 := HPL.out
       have hpz : (pl : Int) ≤ (qc : Int) := by omega
       have hpz0 : ¬ (qc : Int) < (pl : Int) := by omega
       have l2a := ((Keeps.refl X1 []).alloc (.cells #[] 42)).cellOf l2
       have n2a := ((Keeps.refl X1 []).alloc (.cells #[] 42)).cellOf n2
       go_upto_region 20 with (first | (at_builtin; go_must (refine wpList_append_row rfl (.tmp 109) (.tmp 117) 33 rfl X1.heap.size 42 iA (.agg #[.int .i64 0, .int .i64 0, .slice none 0 0, .int .i64 0]) 4 48 Tryd.underlying33 hiA hzA hsA hbA rfl (by decide) (.slice (some ⟨X1.heap.size, 0, none⟩) 0 0) 0 [] rfl (own_empty (Blk.new X1 42 #[])) (.slice qa pl qc) ((f.blocks.2[bn]!.insts.2.map InstM.cells).take pl) rfl (Row.keep (HIR.out.first pl qc (by omega) (by omega) (by omega)) (Keeps.alloc (Tw3.out.and_then (Twc.out.and_then HK.out)) _)) (fun l hl => insts_len _ l (List.mem_of_mem_take hl)) (fun l hl => insts_one HIA.out l (List.mem_of_mem_take hl)) (by rw [HTK.out]; unfold maxLen; omega) (by rw [HTK.out]; omega) (by rw [show (X1.alloc (.cells #[] 42)).heap.size = X1.heap.size + 1 by show (Array.push _ _).size = _; simp [Array.size_push]]; omega) ?_); intro v2 w5 hown hgrow; have k3 : Keeps X1 w5 [] := ((Keeps.refl X1 []).alloc _).grown hgrow (fun k hk => by simp [Value.ownBlock] at hk; exact .inr (by omega)); have OIS := kept (show X1.heap.size ≤ w5.heap.size from k3.size); have OI := kept (show w5.ownsRow X1.heap.size 42 4 v2 pl ((f.blocks.2[bn]!.insts.2.map InstM.cells).take pl).flatten from by have h := hown; rw [Nat.zero_add, HTK.out, List.nil_append] at h; exact h); obtain ⟨ia, ic, rfl, -, -⟩ := own_form OI.out; replace OB := kept (own_keep OB.out k3 (by simp)); clear hown hgrow; clear l0 l1 l2 m0 m1 x0 x1 x2 x3 g0 g1 g2 n2 tc; replace Bl := kept (Bl.out.keep k3 (by simp)); replace Bm := kept (Bm.out.keep k3 (by simp)); replace Bx := kept (Bx.out.keep k3 (by simp)); replace Bg := kept (Bg.out.keep k3 (by simp)); replace HK := kept (HK.out.and_then k3); obtain ⟨l0, l1, l2⟩ := Bl.out.c3; obtain ⟨m0, m1⟩ := Bm.out.c2; obtain ⟨x0, x1, x2, x3⟩ := Bx.out.c4; obtain ⟨g0, g1, g2⟩ := Bg.out.c3; simp at l0 l1 l2 m0 m1 x0 x1 x2 x3 g0 g1 g2; have n2 := (Tw3.out.and_then (Twc.out.and_then HK.out)).cellOf HIC.out; have tc := (Tw3.out.and_then (Twc.out.and_then HK.out)).cellOf HTC.out; clear k3))
       clear l2a n2a
       go_upto_region 21 with (first | (at_builtin; go_must (refine wpList_append_row rfl (.tmp 119) (.tmp 121) 33 rfl X1.heap.size 42 iA (.agg #[.int .i64 0, .int .i64 0, .slice none 0 0, .int .i64 0]) 4 48 Tryd.underlying33 hiA hzA hsA hbA rfl (by decide) (.slice ia pl ic) pl ((f.blocks.2[bn]!.insts.2.map InstM.cells).take pl).flatten rfl (own_keep OI.out ((Keeps.refl w5 []).alloc (.cells #[.int .i64 xm.op, .int .i64 xm.dst, xm.args.1, .int .i64 xm.num] 42)) (by simp)) (.slice (some ⟨w5.heap.size, 0, none⟩) 1 1) ([xm].map InstM.cells) rfl (row_blk4 (Blk.new w5 42 #[.int .i64 xm.op, .int .i64 xm.dst, xm.args.1, .int .i64 xm.num])) (insts_len _) (insts_one (w := wc) (fun y hy => by rw [List.mem_singleton.1 hy]; exact HIX.out)) (by simp only [List.length_map, List.length_cons, List.length_nil]; unfold maxLen; omega) (by simp only [List.length_map, List.length_cons, List.length_nil]; omega) (by rw [show (w5.alloc (.cells #[.int .i64 xm.op, .int .i64 xm.dst, xm.args.1, .int .i64 xm.num] 42)).heap.size = w5.heap.size + 1 by show (Array.push _ _).size = _; simp [Array.size_push]]; have h1 := OIS.out; omega) ?_); intro v3 w6 hown hgrow; have hS := kept (show ∀ k, (Value.slice ia pl ic).ownBlock = some k → X1.heap.size ≤ k from fun k hk => (own_lt OI.out hk).2); have kk : Keeps w5 w6 ((Value.slice ia pl ic).ownBlock.toList) := ((Keeps.refl w5 _).alloc _).grown hgrow (fun k hk => .inl (by rw [hk]; simp)); have hkx : Keeps wc w6 [] := (HK.out.alloc (.cells #[.int .i64 xm.op, .int .i64 xm.dst, xm.args.1, .int .i64 xm.num] 42)).grown hgrow (fun k hk => .inr (by have h1 := hS.out k hk; have h2 := HGX.out; omega)); have OJ := kept (show w6.ownsRow X1.heap.size 42 4 v3 (pl + 1) (((f.blocks.2[bn]!.insts.2.take pl) ++ [xm]).map InstM.cells).flatten from by have h := hown; rw [← List.flatten_append, List.length_map] at h; rw [List.map_append, List.map_take]; exact h); obtain ⟨ja, jc, rfl, -, -⟩ := own_form OJ.out; have OIS6 := kept (show X1.heap.size ≤ w6.heap.size from by have h1 := OIS.out; have h2 := kk.size; omega); have hb1 := HGL.out; have hb2 := HGO.out; replace OB := kept (own_keep OB.out kk (fun b hb e => by have h1 := hS.out b (by simpa using e); rw [hb2] at hb; simp only [Option.some.injEq] at hb; omega)); clear l0 l1 l2 m0 m1 x0 x1 x2 x3 g0 g1 g2 n2 tc; replace Bg := kept (Bg.out.keep kk (fun h => by have h1 := hS.out _ (by simpa using h); have h2 := HGX.out; omega)); replace HK := kept hkx; replace Bl := kept (Bl_wc.out.keep hkx (by simp)); replace Bm := kept (Bm_wc.out.keep hkx (by simp)); replace Bx := kept (Bx_wc.out.keep hkx (by simp)); obtain ⟨l0, l1, l2⟩ := Bl.out.c3; obtain ⟨m0, m1⟩ := Bm.out.c2; obtain ⟨x0, x1, x2, x3⟩ := Bx.out.c4; obtain ⟨g0, g1, g2⟩ := Bg.out.c3; simp at l0 l1 l2 m0 m1 x0 x1 x2 x3 g0 g1 g2; have n2 := (Tw3.out.and_then (Twc.out.and_then HK.out)).cellOf HIC.out; have tc := (Tw3.out.and_then (Twc.out.and_then HK.out)).cellOf HTC.out; clear hown hgrow hS kk hkx hb1 hb2 OI))
       have hbz : (bn : Int) < (f.nb : Int) := by omega
       have hpz3 : (pl : Int) ≤ (qn : Int) := by have := HPL.out; omega
       have hpz4 : (qn : Int) ≤ (qc : Int) := by omega
       refine wp_region_held_drew (S := (fun w' => w'.cell? ⟨wc.heap.size, 2, none⟩ = some (.slice (some ⟨gb, 0, none⟩) f.nb gc) ∧ w'.cell? ⟨w.heap.size, 2, none⟩ = some (.slice (some ⟨bb, off, none⟩) f.nb c2) ∧ w'.cell? ⟨bb, off + bn * 7 + 2, none⟩ = some (.slice qa qn qc))) (by kernel_rfl) ⟨g2, l2, n2⟩ (fun hHeld => ?_)
       clear l0 l1 l2 m0 m1 x0 x1 x2 x3 g0 g1 g2 n2 tc
       replace Bl := kept (Bl.out.keep ((Keeps.refl w6 []).drew) (by simp))
       replace Bm := kept (Bm.out.keep ((Keeps.refl w6 []).drew) (by simp))
       replace Bx := kept (Bx.out.keep ((Keeps.refl w6 []).drew) (by simp))
       replace Bg := kept (Bg.out.keep ((Keeps.refl w6 []).drew) (by simp))
       replace HK := kept (HK.out.drew)
       replace OB := kept (own_keep OB.out ((Keeps.refl w6 []).drew) (by simp))
       replace OJ := kept (own_keep OJ.out ((Keeps.refl w6 []).drew) (by simp))
       have HW67 := kept (show w6.heap.size ≤ (World.drew w6).heap.size from Nat.le_refl _)
       have HGL7 := kept (show gb < (World.drew w6).heap.size from by have h := (own_lt OB.out HGO.out).1; exact h)
       generalize World.drew w6 = X7 at *
       refine tl 0 ⟨some 123, .fieldAddr 26 (.tmp 16) 2, 0, "law.go:127", #[], none⟩ rfl hHeld ?_
       refine tl 1 ⟨some 124, .load 24 (.tmp 123), 24, "law.go:127", #[⟨0, .data⟩], none⟩ rfl hHeld ?_
       refine tl 2 ⟨some 125, .move (.tmp 3), 3, "law.go:127", #[], none⟩ rfl hHeld ?_
       refine tl 3 ⟨some 126, .move (.tmp 17), 33, "law.go:127", #[], none⟩ rfl hHeld ?_
       refine tl 4 ⟨some 127, .fieldAddr 26 (.tmp 6) 2, 0, "law.go:127", #[], none⟩ rfl hHeld ?_
       refine tl 5 ⟨some 128, .load 24 (.tmp 127), 24, "law.go:127", #[⟨4, .data⟩], none⟩ rfl hHeld ?_
       refine tl 6 ⟨some 129, .move (.tmp 3), 3, "law.go:127", #[], none⟩ rfl hHeld ?_
       refine tl 7 ⟨some 130, .indexAddr 24 (.tmp 128) (.tmp 129), 0, "law.go:127", #[⟨5, .data⟩, ⟨6, .data⟩], none⟩ rfl hHeld ?_
       refine tl 8 ⟨some 131, .fieldAddr 39 (.tmp 130) 2, 0, "law.go:127", #[⟨7, .data⟩], none⟩ rfl hHeld ?_
       refine tl 9 ⟨some 132, .load 33 (.tmp 131), 33, "law.go:127", #[⟨8, .data⟩], none⟩ rfl hHeld ?_
       refine tl 10 ⟨some 133, .move (.tmp 4), 3, "law.go:127", #[], none⟩ rfl hHeld ?_
       refine tl 11 ⟨some 134, .slice 33 (.tmp 132) (some (.tmp 133)) none none, 33, "law.go:127", #[⟨9, .data⟩, ⟨10, .data⟩], none⟩ rfl hHeld ?_
       have HDL := kept (show ((f.blocks.2[bn]!.insts.2.map InstM.cells).drop pl).length = qn - pl by rw [List.length_drop, List.length_map, HQN'.out])
       have hqL2 := hqL
       have hpq3 := HPL.out
       refine wpAnyH_ready (rs := [12]) (by kernel_rfl) (by simp) ?_
       refine AllReadyH.cons (o := ⟨some 135, .call ⟨.builtin .append, #[.tmp 126, .tmp 134], #[33, 33]⟩, 33, "law.go:127", #[⟨3, .data⟩, ⟨11, .data⟩], none⟩) rfl (fun K hK => ?_) AllReadyH.nil
       clear hHeld
       refine wp_append_row (.tmp 126) (.tmp 134) 33 rfl X1.heap.size 42 iA (.agg #[.int .i64 0, .int .i64 0, .slice none 0 0, .int .i64 0]) 4 48 Tryd.underlying33 hiA hzA hsA hbA rfl (by decide) (.slice ja (pl + 1) jc) (pl + 1) _ rfl OJ.out _ ((f.blocks.2[bn]!.insts.2.map InstM.cells).drop pl) rfl (Row.keep (HIR.out.rest pl (by omega)) (Tw3.out.and_then (Twc.out.and_then HK.out))) (fun l hl => insts_len _ l (List.mem_of_mem_drop hl)) (fun l hl => insts_one HIA.out l (List.mem_of_mem_drop hl)) (by rw [HDL.out]; unfold maxLen; omega) (by rw [HDL.out]; omega) (by have h1 := OIS6.out; have h2 := HW67.out; omega) ?_
       intro v4 w8 hown hgrow
       have hS := kept (show ∀ k, (Value.slice ja (pl + 1) jc).ownBlock = some k → X1.heap.size ≤ k from fun k hk => (own_lt OJ.out hk).2)
       have kk : Keeps X7 w8 ((Value.slice ja (pl + 1) jc).ownBlock.toList) := (Keeps.refl X7 _).grown hgrow (fun k hk => .inl (by rw [hk]; simp))
       have hkx : Keeps wc w8 [] := HK.out.grown hgrow (fun k hk => .inr (by have h1 := hS.out k hk; have h2 := HGX.out; omega))
       have OKK := kept (show w8.ownsRow X1.heap.size 42 4 v4 (pl + 1 + (qn - pl)) ((f.blocks.2[bn]!.insts.2.take pl ++ xm :: f.blocks.2[bn]!.insts.2.drop pl).map InstM.cells).flatten from by have h := hown; rw [HDL.out] at h; rw [← List.flatten_append, ← List.map_drop, ← List.map_append, List.append_assoc] at h; exact h)
       obtain ⟨ka, kc, rfl, -, -⟩ := own_form OKK.out
       replace OB := kept (own_keep OB.out kk (fun b hb e => by have h1 := hS.out b (by simpa using e); have hb2 := HGO.out; have hb3 := HGL.out; rw [hb2] at hb; simp only [Option.some.injEq] at hb; omega))
       replace Bg := kept (Bg.out.keep kk (fun h => by have h1 := hS.out _ (by simpa using h); have h2 := HGX.out; omega))
       replace HK := kept hkx
       replace Bl := kept (Bl_wc.out.keep hkx (by simp))
       replace Bm := kept (Bm_wc.out.keep hkx (by simp))
       replace Bx := kept (Bx_wc.out.keep hkx (by simp))
       obtain ⟨l0, l1, l2⟩ := Bl.out.c3
       obtain ⟨m0, m1⟩ := Bm.out.c2
       obtain ⟨x0, x1, x2, x3⟩ := Bx.out.c4
       obtain ⟨g0, g1, g2⟩ := Bg.out.c3
       simp at l0 l1 l2 m0 m1 x0 x1 x2 x3 g0 g1 g2
       have n2 := (Tw3.out.and_then (Twc.out.and_then HK.out)).cellOf HIC.out
       have tc := (Tw3.out.and_then (Twc.out.and_then HK.out)).cellOf HTC.out
       clear hown hgrow hS kk hkx OJ HDL HGL7
       refine hK.out _ _ ⟨g2, l2, n2⟩ (fun hHeld => ?_)
       clear hK K
       try simp only [Act.put, sA, sB, sC]
       clear l0 l1 l2 m0 m1 x0 x1 x2 x3 g0 g1 g2 n2 tc
       refine tl 13 ⟨some 136, .indexAddr 24 (.tmp 124) (.tmp 125), 0, "law.go:127", #[⟨1, .data⟩, ⟨2, .data⟩, ⟨0, .phase⟩, ⟨1, .phase⟩, ⟨2, .phase⟩, ⟨3, .phase⟩, ⟨4, .phase⟩, ⟨5, .phase⟩, ⟨6, .phase⟩, ⟨7, .phase⟩, ⟨8, .phase⟩, ⟨9, .phase⟩, ⟨10, .phase⟩, ⟨11, .phase⟩, ⟨12, .phase⟩], none⟩ rfl hHeld ?_
       refine tl 14 ⟨some 137, .fieldAddr 39 (.tmp 136) 2, 0, "law.go:127", #[⟨13, .data⟩, ⟨0, .phase⟩, ⟨1, .phase⟩, ⟨2, .phase⟩, ⟨3, .phase⟩, ⟨4, .phase⟩, ⟨5, .phase⟩, ⟨6, .phase⟩, ⟨7, .phase⟩, ⟨8, .phase⟩, ⟨9, .phase⟩, ⟨10, .phase⟩, ⟨11, .phase⟩, ⟨12, .phase⟩], none⟩ rfl hHeld ?_
       refine wpAnyH_ready (rs := [15]) (by kernel_rfl) (by simp) ?_
       refine AllReadyH.cons (o := ⟨none, .store 33 (.tmp 137) (.tmp 135), 0, "law.go:127", #[⟨14, .data⟩, ⟨12, .data⟩, ⟨12, .chain⟩, ⟨0, .phase⟩, ⟨1, .phase⟩, ⟨2, .phase⟩, ⟨3, .phase⟩, ⟨4, .phase⟩, ⟨5, .phase⟩, ⟨6, .phase⟩, ⟨7, .phase⟩, ⟨8, .phase⟩, ⟨9, .phase⟩, ⟨10, .phase⟩, ⟨11, .phase⟩, ⟨12, .phase⟩], none⟩) rfl (fun K hK => ?_) AllReadyH.nil
       clear hHeld
       have hci := own_cellAt OB.out HGO.out (i := bn * 7 + 2) (by omega)
       have hcu : ∃ u, (f.blocks.2.map BlockM.cells).flatten[bn * 7 + 2]? = some u := ⟨_, List.getElem?_eq_getElem (by rw [flat_len (blocks_len _), List.length_map]; have h : f.blocks.2.length = f.nb := rfl; omega)⟩
       obtain ⟨u, hu⟩ := hcu
       rw [hu] at hci
       obtain ⟨hc1, hc2⟩ := hci
       clear hu
       go_simp
       clear hc1 hc2
       have kT : Keeps w8 (w8.setCell ⟨gb, bn * 7 + 2, none⟩ (.slice ka (pl + 1 + (qn - pl)) kc)) [gb] := (Keeps.refl w8 [gb]).setCell (.inl (by simp)) _
       have hk9 : Keeps wc (w8.setCell ⟨gb, bn * 7 + 2, none⟩ (.slice ka (pl + 1 + (qn - pl)) kc)) [] := HK.out.setCell (p := ⟨gb, bn * 7 + 2, none⟩) (.inr (by show wc.heap.size ≤ gb; have h1 := HGB.out; have h2 := HWW.out; omega)) _
       have ob9 := own_setC OB.out HGO.out (bn * 7 + 2) (.slice ka (pl + 1 + (qn - pl)) kc)
       rw [blocks_put f.blocks.2 bn hbl _ (f.blocks.2[bn]!.insts.2.take pl ++ xm :: f.blocks.2[bn]!.insts.2.drop pl)] at ob9
       have ok9 := own_keep OKK.out kT (fun b hb e => by have h := own_apart OB.out OKK.out (by decide) HGO.out; rw [List.mem_singleton.1 e] at hb; exact h hb)
       have bg9 := Bg.out.keep kT (by have h1 := HGB.out; have h2 := HWW.out; simp; omega)
       replace HK := kept hk9
       replace OB := kept ob9
       replace OKK := kept ok9
       replace Bg := kept bg9
       replace Bl := kept (Bl_wc.out.keep hk9 (by simp))
       replace Bm := kept (Bm_wc.out.keep hk9 (by simp))
       replace Bx := kept (Bx_wc.out.keep hk9 (by simp))
       clear kT hk9 ob9 ok9 bg9
       generalize (w8.setCell ⟨gb, bn * 7 + 2, none⟩ (.slice ka (pl + 1 + (qn - pl)) kc)) = X9 at *
       obtain ⟨l0, l1, l2⟩ := Bl.out.c3
       obtain ⟨m0, m1⟩ := Bm.out.c2
       obtain ⟨x0, x1, x2, x3⟩ := Bx.out.c4
       obtain ⟨g0, g1, g2⟩ := Bg.out.c3
       simp at l0 l1 l2 m0 m1 x0 x1 x2 x3 g0 g1 g2
       have n2 := (Tw3.out.and_then (Twc.out.and_then HK.out)).cellOf HIC.out
       have tc := (Tw3.out.and_then (Twc.out.and_then HK.out)).cellOf HTC.out
       refine hK.out _ _ ⟨g2, l2, n2⟩ (fun hHeld => ?_)
       clear hK K
       try simp only [Act.put, sA, sB, sC]
       refine wpAnyH_done (by kernel_rfl) ?_ _
       clear hHeld
       have hr1 := rem401 m hm
       have hr2 : IntKind.u16.wrap ((m % 401 : Nat) : Int) = ((m % 401 : Nat) : Int) := by rw [show IntKind.u16.wrap ((m % 401 : Nat) : Int) = ((m % 401 : Nat) : Int) % 65536 from rfl]; omega
       have hr3 : IntKind.i64.wrap ((m % 401 : Nat) : Int) = ((m % 401 : Nat) : Int) := IntWalk.i64_in _ (by omega)
       have hfa : FuncAt X9 (f.putF bn pl xm (.slice ka (pl + 1 + (qn - pl)) kc) (.slice (some ⟨gb, 0, none⟩) f.nb gc)) := put_at_mem (HF.out.keep (Tw3.out.and_then (Twc.out.and_then HK.out))) hbl (Row.keep HIX.out HK.out) (row_flat (insts_len _) (by decide) OKK.out) (row_flat (blocks_len _) (by decide) OB.out)
       have CB := kept (C28v.out X9 _ _ (Tw3.out.and_then (Twc.out.and_then HK.out)) hfa)
       clear hfa C28v
       go_wp2_with (first | (go_at_call 28; refine CB.out.mono ?_; rintro e w10 ⟨rfl, k10⟩))
       all_goals (go_ret; exact ⟨rfl, (Tw3.out.and_then (Twc.out.and_then HK.out)).and_then k10⟩)
   ·have hRb : (rz == 0) = false := by simpa using hR
    go_wp2_with (first | (go_at_call 20; refine (C20.out _ HK.out).mono ?_; rintro e w3 ⟨rfl, k3⟩; clear l0 l1 l2 m0 m1; replace Bl := kept (Bl.out.keep k3 (by simp)); replace Bm := kept (Bm.out.keep k3 (by simp)); replace HK := kept (HK.out.and_then k3); obtain ⟨l0, l1, l2⟩ := Bl.out.c3; obtain ⟨m0, m1⟩ := Bm.out.c2; simp at l0 l1 l2 m0 m1; clear k3) | (go_at_call 21; refine (C21.out _ HK.out).mono ?_; rintro e w3 ⟨rfl, k3⟩; clear l0 l1 l2 m0 m1; replace Bl := kept (Bl.out.keep k3 (by simp)); replace Bm := kept (Bm.out.keep k3 (by simp)); replace HK := kept (HK.out.and_then k3); obtain ⟨l0, l1, l2⟩ := Bl.out.c3; obtain ⟨m0, m1⟩ := Bm.out.c2; simp at l0 l1 l2 m0 m1; clear k3) | (go_at_call 24; refine (C24.out _ HK.out).mono ?_; rintro e w3 ⟨rfl, k3⟩; clear l0 l1 l2 m0 m1; replace Bl := kept (Bl.out.keep k3 (by simp)); replace Bm := kept (Bm.out.keep k3 (by simp)); replace HK := kept (HK.out.and_then k3); obtain ⟨l0, l1, l2⟩ := Bl.out.c3; obtain ⟨m0, m1⟩ := Bm.out.c2; simp at l0 l1 l2 m0 m1; clear k3) | (go_at_call 25; refine (C25x.out _ HK.out).mono ?_; rintro e w3 ⟨rfl, k3⟩; clear l0 l1 l2 m0 m1; replace Bl := kept (Bl.out.keep k3 (by simp)); replace Bm := kept (Bm.out.keep k3 (by simp)); replace HK := kept (HK.out.and_then k3); obtain ⟨l0, l1, l2⟩ := Bl.out.c3; obtain ⟨m0, m1⟩ := Bm.out.c2; simp at l0 l1 l2 m0 m1; clear k3))
    go_ret
    exact ⟨rfl, HK.out⟩
end Go.Proofs.YtjllbchfojonhaaDoor
