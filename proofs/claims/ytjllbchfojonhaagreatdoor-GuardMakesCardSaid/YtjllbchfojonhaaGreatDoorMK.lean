/- A program with the checks that it lacks (the document's Make); contract. -/
import Derived.Test.YtjllbchfojonhaaGreatDoorMK0
import Derived.Test.YtjllbchfojonhaaGreatDoorCQ
import Derived.Deep.CutBlock
import Derived.Deep.Cut
namespace Go.Proofs.YtjllbchfojonhaaGreatDoor
open Go.RowKit Go.Shelf Go.Lib
set_option linter.unusedVariables false
set_option linter.unusedSimpArgs false

theorem blk_grownN {W W3 : World} {g : Nat} {t : TypeId} {cs : Array Value} {v2 : Value} {o : Obj} (h : Blk W g t cs) (hg : (W.alloc o).grownBy W3 v2.ownBlock) (hne : v2.ownBlock ≠ some g) : Blk W3 g t cs := (blk_kept hg hne h.lt).1.trans h
set_option maxRecDepth 100000 in
set_option maxHeartbeats 200000000 in
theorem make30_any (f : FuncM) (w : World) (hf : FuncAt w f) (hT : typedE f = 0) (hfew : FewP f) (hp : 0 < f.nb) : Calls Tryz.prog 30 #[f.val] w fun e w' => (∃ c : FuncM, e = .returned c.val ∧ FuncAt w' c ∧ ProgS (madeI f) f c) ∧ Keeps w w' [] := by
 have HFEW := kept hfew
 have HNB40 := kept hfew.nb
 have CRE := kept (fun W (hW : FuncAt W f) => reached11_any f W hW hp (by have h9 := hfew.nb; omega))
 have CGU := kept (fun (th : List Bool) (g b pl : Nat) W (hW : FuncAt W f) hB hR hb hpl => guarded19_any f th g b pl W hW hB hR hT hfew hb hpl)
 have HOKI := kept (fun (b pl : Nat) (hb : b < f.nb) (hpl : pl < f.blocks.2[b]!.insts.2.length) => inst_ok hT hb hpl)
 have HLB := kept (fun (b : Nat) (hb : b < f.nb) => (hfew.block _ (bang_mem (l := f.blocks.2) (k := b) hb)).2)
 obtain ⟨a0, c0, a1, c1, a2, c2, e0, e1, e2, hval, h1, HF, HC0, HC1, HC2, HNV, HNP, HNB⟩ := fopen hf
 rw [hval] at CRE CGU
 rw [hval]
 rw [HNV.out] at e0
 rw [HNP.out] at e1
 have HE0 := kept e0
 have HE1 := kept e1
 clear hval h1 e0 e1 e2 hf hfew hT HC0 HC1
 have hk0 : Keeps w (w.alloc (.cells #[.slice a0 f.nv c0, .slice a1 f.np c1, .slice a2 f.nb c2] 26)) [] := (Keeps.refl _ []).alloc _
 have bb0 := Blk.new w 26 #[.slice a0 f.nv c0, .slice a1 f.np c1, .slice a2 f.nb c2]
 have hk1 : Keeps (w.alloc (.cells #[.slice a0 f.nv c0, .slice a1 f.np c1, .slice a2 f.nb c2] 26)) ((w.alloc (.cells #[.slice a0 f.nv c0, .slice a1 f.np c1, .slice a2 f.nb c2] 26)).alloc (.cells #[.slice none 0 0, .slice none 0 0, .slice none 0 0] 26)) [] := (Keeps.refl _ []).alloc _
 have bb1 := Blk.new (w.alloc (.cells #[.slice a0 f.nv c0, .slice a1 f.np c1, .slice a2 f.nb c2] 26)) 26 #[.slice none 0 0, .slice none 0 0, .slice none 0 0]
 rw [show (w.alloc (.cells #[.slice a0 f.nv c0, .slice a1 f.np c1, .slice a2 f.nb c2] 26)).heap.size = w.heap.size + 1 by show (Array.push _ _).size = _; simp [Array.size_push]] at bb1
 have Bl := kept (bb0.keep hk1 (by simp))
 have Br := kept bb1
 have HK := kept (hk0.and_then hk1)
 obtain ⟨l0, l1, l2⟩ := Bl.out.c3
 obtain ⟨r0, r1, r2⟩ := Br.out.c3
 simp at l0 l1 l2 r0 r1 r2
 clear hk0 hk1 bb0 bb1
 go_enter Tryz.func30, Tryz.ntmps30
 go_upto_region 1 with (fail)
 clear l0 l1 l2 r0 r1 r2
 generalize ((w.alloc (.cells #[.slice a0 f.nv c0, .slice a1 f.np c1, .slice a2 f.nb c2] 26)).alloc (.cells #[.slice none 0 0, .slice none 0 0, .slice none 0 0] 26)) = W0 at *
 have Bl_W0 := Bl
 have Br_W0 := Br
 have TW0 := HK
 clear HK
 have HK := kept (Keeps.refl W0 [])
 obtain ⟨l0, l1, l2⟩ := Bl.out.c3
 obtain ⟨r0, r1, r2⟩ := Br.out.c3
 simp at l0 l1 l2 r0 r1 r2
 have HWS := kept (show w.heap.size + 1 < W0.heap.size from Br.out.lt)
 go_upto_region 4 with (first | (go_at_call 11; refine (CRE.out _ (HF.out.keep (TW0.out.and_then HK.out))).mono ?_; rintro e w3 ⟨⟨g, rfl, th, hg, hro⟩, k3⟩; have HTB := kept hg; have HRO := kept hro; clear hg hro CRE; clear l0 l1 l2 r0 r1 r2; replace Bl := kept (Bl.out.keep k3 (by simp)); replace Br := kept (Br.out.keep k3 (by simp)); replace HK := kept (HK.out.and_then k3); obtain ⟨l0, l1, l2⟩ := Bl.out.c3; obtain ⟨r0, r1, r2⟩ := Br.out.c3; simp at l0 l1 l2 r0 r1 r2; clear k3))
 clear l0 l1 l2 r0 r1 r2
 have k5 : Keeps w3 (w3.alloc (.cells #[.slice a0 f.nv c0, .slice a1 f.np c1, .slice none 0 0] 26)) [] := (Keeps.refl _ []).alloc _
 have B40 := Blk.new w3 26 #[.slice a0 f.nv c0, .slice a1 f.np c1, .slice none 0 0]
 have hlow := HK.out.size
 have HMI := kept (MakeI.mk (W0 := W0) (f := f) (zs := []) (by rw [HE0.out, HE1.out]; exact B40) (HTB.out.keep k5 (by simp)) (World.ownsRow_nil _ _ _ _) (fun k hk => absurd hk (Nat.not_lt_zero _)) (fun k hk => absurd hk (Nat.not_lt_zero _)) (fun k hk => absurd hk (Nat.not_lt_zero _)) (fun k hk => absurd hk (Nat.not_lt_zero _)) hlow (HK.out.and_then k5))
 clear hlow B40 k5 HTB HK Bl Br
 generalize w3.alloc (.cells #[.slice a0 f.nv c0, .slice a1 f.np c1, .slice none 0 0] 26) = W1 at *
 generalize w3.heap.size = L4 at *
 have Bl := kept (Bl_W0.out.keep HMI.out.k (by simp))
 have Br := kept (Br_W0.out.keep HMI.out.k (by simp))
 obtain ⟨l0, l1, l2⟩ := Bl.out.c3
 simp at l0 l1 l2
 obtain ⟨i43, hi43, he43⟩ := Option.map_eq_some_iff.1 info43c
 simp only [Prod.mk.injEq] at he43
 obtain ⟨hz43, hs43, hb43⟩ := he43
 obtain ⟨i38, hi38, he38⟩ := Option.map_eq_some_iff.1 info38
 simp only [Prod.mk.injEq] at he38
 obtain ⟨hz38, hs38, hb38⟩ := he38
 go_wp2
 clear l0 l1 l2
 go_loopw [20] (fun i' wx => ∃ (b : Nat) (bv : Value) (zs : List BlockM), b ≤ f.nb ∧ zs.length = b ∧ i' = .int .i64 b ∧ MakeI W0 wx L4 bv g th f zs) (fun i' _ => f.nb - (intOf i').toNat)
 case atStart => exact ⟨0, _, [], Nat.zero_le _, rfl, rfl, HMI.out⟩
 case round =>
  obtain ⟨b, bv, zs, hb, hzl, rfl, hci⟩ := hrel
  clear HMI Bl Br
  have HMI := kept hci
  clear hci
  obtain ⟨ba, bc, rfl, -, -⟩ := own_form HMI.out.rows
  rw [hzl] at HMI
  have Bl := kept (Bl_W0.out.keep HMI.out.k (by simp))
  have Br := kept (Br_W0.out.keep HMI.out.k (by simp))
  obtain ⟨l0, l1, l2⟩ := Bl.out.c3
  simp at l0 l1 l2
  by_cases hlb : b < f.nb
  ·have hlbz : (b : Int) < (f.nb : Int) := by omega
   obtain ⟨yb, yo, e8, hyb, hbc⟩ := HC2.out b (by rw [HNB.out]; exact hlb)
   obtain rfl := e8
   have HBA := kept (HF.out.block _ (bang_mem (l := f.blocks.2) (k := b) hlb))
   obtain ⟨pa, pc, pe, -, -, hpc⟩ := HBA.out.phis.open_
   obtain ⟨qa, qc, qe, -, -, hqc⟩ := HBA.out.insts.open_
   have HQC := kept hqc
   have HBI := kept (HLB.out b hlb)
   have HKW := kept (TW0.out.and_then HMI.out.k)
   have HPE := kept pe
   have CGB := kept (fun (pl : Nat) (hpl : pl < f.blocks.2[b]!.insts.2.length) W (hW : FuncAt W f) hB => CGU.out th g b pl W hW hB HRO.out hlb hpl)
   have HOB := kept (fun pl hpl => HOKI.out b pl hlb hpl)
   have HJN := kept (fun j h => mkJ_no (f := f) (b := b) (j := j) h)
   have HJY := kept (fun j h => mkJ_yes (f := f) (b := b) (j := j) h)
   have HJA := kept (mkJ_all f b)
   have SNO := kept (fun (o : Obj) (W3 W : World) (bv' : Value) (z : BlockM) (h : MakeI W0 W L4 (.slice ba b bc) g th f zs) h1 h2 (h3 : z.phis = f.blocks.2[b]!.phis) (h4 : BlkS (madeI f b) f.blocks.2[b]! z) h5 h6 => MakeI.snoc (o := o) (W3 := W3) (bv' := bv') h (z := z) h1 h2 (by rw [hzl]; exact h3) (by rw [hzl]; exact h4) h5 h6)
   have n0 := HKW.out.cellOf (hbc 0 _ rfl)
   have n1 := HKW.out.cellOf (hbc 1 _ rfl)
   have n2 := HKW.out.cellOf (hbc 2 _ rfl)
   have n3 := HKW.out.cellOf (hbc 3 _ rfl)
   have n4 := HKW.out.cellOf (hbc 4 _ rfl)
   have n5 := HKW.out.cellOf (hbc 5 _ rfl)
   have n6 := HKW.out.cellOf (hbc 6 _ rfl)
   simp only [Nat.add_zero] at n0
   rw [pe] at n1
   rw [qe] at n2
   have YIN := kept (show ∀ W, FuncAt W f → ∀ j, j < f.blocks.2[b]!.insts.2.length → InstAt W f.blocks.2[b]!.insts.2[j]! from fun W hW j hj => (hW.block _ (bang_mem (l := f.blocks.2) (k := b) hlb)).inst _ (bang_mem hj))
   clear hbc pe qe hpc hqc
   obtain ⟨y, hy⟩ : ∃ y, f.blocks.2[b]! = y := ⟨_, rfl⟩
   rw [hy] at n0 n1 n2 n3 n4 n5 n6 HBA HQC HBI SNO HPE CGB HOB HJN HJY HJA YIN
   clear hy
   obtain ⟨pn, hpn⟩ : ∃ pn, y.phis.2.length = pn := ⟨_, rfl⟩
   rw [hpn] at n1 HPE
   clear hpn
   obtain ⟨qn, hqn⟩ : ∃ qn, y.insts.2.length = qn := ⟨_, rfl⟩
   rw [hqn] at n2 HQC HBI CGB HOB HJA
   have HQN := kept hqn
   clear hqn
   obtain ⟨Wb, hWb⟩ : ∃ Wb : World, Wb = wr := ⟨_, rfl⟩
   subst hWb
   have HWB := HMI
   clear HMI
   have TB := HKW
   clear HKW
   go_upto_region 9 with (fail)
   clear n0 n1 n2 n3 n4 n5 n6 l0 l1 l2
   have k5 : Keeps Wb (Wb.alloc (.cells #[.string y.name, .slice pa pn pc, .slice qa qn qc, .int .i64 y.kind, .int .i64 y.var, .int .i64 y.to0, .int .i64 y.to1] 38)) [] := (Keeps.refl _ []).alloc _
   have B50 := Blk.new Wb 38 #[.string y.name, .slice pa pn pc, .slice qa qn qc, .int .i64 y.kind, .int .i64 y.var, .int .i64 y.to0, .int .i64 y.to1]
   have k6 : Keeps (Wb.alloc (.cells #[.string y.name, .slice pa pn pc, .slice qa qn qc, .int .i64 y.kind, .int .i64 y.var, .int .i64 y.to0, .int .i64 y.to1] 38)) ((Wb.alloc (.cells #[.string y.name, .slice pa pn pc, .slice qa qn qc, .int .i64 y.kind, .int .i64 y.var, .int .i64 y.to0, .int .i64 y.to1] 38)).alloc (.cells #[.string y.name, .slice pa pn pc, .slice none 0 0, .int .i64 y.kind, .int .i64 y.var, .int .i64 y.to0, .int .i64 y.to1] 38)) [] := (Keeps.refl _ []).alloc _
   have B60 := Blk.new (Wb.alloc (.cells #[.string y.name, .slice pa pn pc, .slice qa qn qc, .int .i64 y.kind, .int .i64 y.var, .int .i64 y.to0, .int .i64 y.to1] 38)) 38 #[.string y.name, .slice pa pn pc, .slice none 0 0, .int .i64 y.kind, .int .i64 y.var, .int .i64 y.to0, .int .i64 y.to1]
   rw [show (Wb.alloc (.cells #[.string y.name, .slice pa pn pc, .slice qa qn qc, .int .i64 y.kind, .int .i64 y.var, .int .i64 y.to0, .int .i64 y.to1] 38)).heap.size = Wb.heap.size + 1 by show (Array.push _ _).size = _; simp [Array.size_push]] at B60
   have B5 := kept (B50.keep k6 (by simp))
   have B6 := kept B60
   have HK := kept (k5.and_then k6)
   clear k5 k6 B50 B60
   generalize (Wb.alloc (.cells #[.string y.name, .slice pa pn pc, .slice qa qn qc, .int .i64 y.kind, .int .i64 y.var, .int .i64 y.to0, .int .i64 y.to1] 38)).alloc (.cells #[.string y.name, .slice pa pn pc, .slice none 0 0, .int .i64 y.kind, .int .i64 y.var, .int .i64 y.to0, .int .i64 y.to1] 38) = W2 at *
   obtain ⟨L5, hL5⟩ : ∃ L5, Wb.heap.size = L5 := ⟨_, rfl⟩
   obtain ⟨L6, hL6⟩ : ∃ L6, Wb.heap.size + 1 = L6 := ⟨_, rfl⟩
   have HL := kept (show Wb.heap.size ≤ L5 ∧ Wb.heap.size ≤ L6 ∧ L5 ≠ L6 by omega)
   rw [hL5] at B5
   rw [hL6] at B6
   simp only [hL6]
   simp only [hL5]
   clear hL5 hL6
   have HIN := kept (show InsQ f Wb.heap.size W2 (.slice none 0 0) (mkJ f b 0) [] from ⟨World.ownsRow_nil _ _ _ _, fun p hp => absurd hp List.not_mem_nil, rfl, fun k hk => absurd hk (Nat.not_lt_zero _)⟩)
   obtain ⟨g0, g1, g2, g3, g4, g5, g6⟩ := B5.out.c7
   simp at g0 g1 g2 g3 g4 g5 g6
   clear g0 g1 g3 g4 g5 g6 Bl Br
   go_wp2
   clear g2
   go_loopw [30] (fun i' wx => ∃ (j : Nat) (inv : Value) (xs : List InstM), j ≤ qn ∧ i' = .int .i64 j ∧ Blk wx L5 38 #[.string y.name, .slice pa pn pc, .slice qa qn qc, .int .i64 y.kind, .int .i64 y.var, .int .i64 y.to0, .int .i64 y.to1] ∧ Blk wx L6 38 #[.string y.name, .slice pa pn pc, inv, .int .i64 y.kind, .int .i64 y.var, .int .i64 y.to0, .int .i64 y.to1] ∧ InsQ f Wb.heap.size wx inv (mkJ f b j) xs ∧ Keeps Wb wx []) (fun i' _ => qn - (intOf i').toNat)
   case atStart => exact ⟨0, _, [], Nat.zero_le _, rfl, B5.out, B6.out, HIN.out, HK.out⟩
   case round =>
    obtain ⟨j, inv, xs, hj, rfl, hB5, hB6, hIN, hr⟩ := hrel
    clear B5 B6 HIN HK
    have B5 := kept hB5
    have B6 := kept hB6
    have HIN := kept hIN
    have HK := kept hr
    clear hB5 hB6 hIN hr
    obtain ⟨va2, vc2, rfl, -, -⟩ := own_form HIN.out.row
    obtain ⟨xn, hxn⟩ : ∃ xn, xs.length = xn := ⟨_, rfl⟩
    have HXL := kept hxn
    rw [hxn] at B6
    clear hxn
    by_cases hlj : j < qn
    ·have hljz : (j : Int) < (qn : Int) := by omega
     have hqb : qn ≤ 1000 := HBI.out
     have hxb : xn ≤ 2 * j := by have h9 := HIN.out.len; have h8 := HXL.out; have h7 := mkJ_len f b j; omega
     have hjp : j < y.insts.2.length := by rw [HQN.out]; exact hlj
     obtain ⟨xb, xo, e8, -, hcx⟩ := HQC.out j (by first | exact hlj | exact hjp)
     obtain rfl := e8
     have hxx := HBA.out.inst _ (bang_mem hjp)
     have hok := HOB.out j hlj
     obtain ⟨xa, xc, ex, -, -, -⟩ := IntsAt.open_ hxx
     have HKX := kept (TB.out.and_then HK.out)
     have n0 := HKX.out.cellOf (hcx 0 _ rfl)
     have n1 := HKX.out.cellOf (hcx 1 _ rfl)
     have n2 := HKX.out.cellOf (hcx 2 _ rfl)
     have n3 := HKX.out.cellOf (hcx 3 _ rfl)
     simp only [Nat.add_zero] at n0
     rw [ex] at n2
     have HXA := kept (show ∀ W, FuncAt W f → InstAt W y.insts.2[j]! from fun W hW => YIN.out W hW j hjp)
     have HEX := kept ex
     clear hcx hxx ex
     have CG := kept (fun W hW hB => CGB.out j hlj W hW hB)
     have HNO := kept (HJN.out j)
     have HYE := kept (HJY.out j)
     obtain ⟨x, hx⟩ : ∃ x, y.insts.2[j]! = x := ⟨_, rfl⟩
     rw [hx] at n0 n1 n2 n3 HXA HEX hok HNO HYE
     clear hx
     obtain ⟨xl, hxl⟩ : ∃ xl, x.args.2.length = xl := ⟨_, rfl⟩
     rw [hxl] at n2 HEX
     have HXN := kept hxl
     clear hxl
     go_upto_region 12 with (fail)
     clear n0 n1 n2 n3
     have HN9 := kept (show (Value.slice va2 xn vc2).ownBlock ≠ some wr.heap.size from fun e => by have h8 := HIN.out.row; rw [HXL.out] at h8; have h9 := (own_lt h8 e).1; omega)
     have k8 : Keeps wr (wr.alloc (.cells #[.int .i64 x.op, .int .i64 x.dst, .slice xa xl xc, .int .i64 x.num] 43)) [] := (Keeps.refl _ []).alloc _
     have B9 := kept (Blk.new wr 43 #[.int .i64 x.op, .int .i64 x.dst, .slice xa xl xc, .int .i64 x.num])
     replace B5 := kept (B5.out.keep k8 (by simp))
     replace B6 := kept (B6.out.keep k8 (by simp))
     replace HIN := kept (HIN.out.keep k8)
     replace HK := kept (HK.out.and_then k8)
     clear k8
     generalize wr.alloc (.cells #[.int .i64 x.op, .int .i64 x.dst, .slice xa xl xc, .int .i64 x.num] 43) = W3 at *
     generalize wr.heap.size = L9 at *
     have HCN := kept (fun W (hW : FuncAt W f) => needs29R_any x x.op.toNat W (HXA.out W hW) (by omega) (by omega) hok.2)
     clear hok
     rw [HEX.out] at HCN
     have Bl := kept (Bl_W0.out.keep (HWB.out.k.and_then HK.out) (by simp))
     obtain ⟨l0, l1, l2⟩ := Bl.out.c3
     simp at l0 l1 l2
     have HKW3 := kept (TB.out.and_then HK.out)
     cases hgd : guardD f b j with
     | true =>
      rw [hgd] at CG
      have HGD := kept hgd
      clear hgd HCN HYE
      go_upto_region 15 with (first | (go_at_call 19; refine (CG.out _ (HF.out.keep (TB.out.and_then HK.out)) (HWB.out.tb.keep HK.out (by simp))).mono ?_; rintro e wA ⟨rfl, k3⟩; clear l0 l1 l2 Bl; replace B5 := kept (B5.out.keep k3 (by simp)); replace B6 := kept (B6.out.keep k3 (by simp)); replace B9 := kept (B9.out.keep k3 (by simp)); replace HIN := kept (HIN.out.keep k3); replace HK := kept (HK.out.and_then k3); clear k3))
      have HRXa := kept (show World.ownsRow wA Wb.heap.size 43 4 (.slice va2 (xn) vc2) (xn) (xs.map InstM.cells).flatten by have h9 := HIN.out.row; rw [HXL.out] at h9; exact h9)
      have q2 : wA.cell? ⟨L6, 2, none⟩ = some (.slice va2 (xn) vc2) := (B6.out.cell 2).trans rfl
      obtain ⟨w0, w1, w2, w3x⟩ := B9.out.c4
      simp at w0 w1 w2 w3x
      go_wp2_with (first | (at_builtin; go_must (refine wpList_append_row rfl (.tmp 56) (.tmp 58) 32 rfl Wb.heap.size 43 i43 (.agg #[.int .i64 0, .int .i64 0, .slice none 0 0, .int .i64 0]) 4 48 Tryz.underlying32 hi43 hz43 hs43 hb43 rfl (by decide) (.slice va2 (xn) vc2) (xn) (xs.map InstM.cells).flatten rfl (own_keep HRXa.out ((Keeps.refl wA []).alloc _) (by simp)) (.slice (some ⟨wA.heap.size, 0, none⟩) 1 1) [[.int .i64 x.op, .int .i64 x.dst, .slice xa xl xc, .int .i64 x.num]] rfl (row_single (Blk.new wA 43 _)) (by simp) (by simp [Value.oneCell']) (by simp; unfold maxLen; omega) (by simp; omega) (by rw [size_alloc1]; have h9 := HK.out.size; omega) ?_); intro v1 wg hown hgrow; obtain ⟨uaa, uca, rfl, -, -⟩ := own_form hown; have OWa := kept hown; have GRa := kept hgrow; clear hown hgrow q2 w0 w1 w2 w3x; have B6a := kept (blk_grown B6.out HRXa.out (by decide) GRa.out); have q2 := B6a.out.cell 2; simp at q2; have f6 := B6a.out.frozen 2))
      clear q2 f6
      have kaa := (Keeps.refl wA []).alloc (.cells #[.int .i64 x.op, .int .i64 x.dst, .slice xa xl xc, .int .i64 x.num] 43)
      have hrwa := own_keep HRXa.out kaa (by simp)
      have k9a : Keeps wg (wg.setCell ⟨L6, 2, none⟩ (.slice uaa (xn + 1) uca)) [L6] := (Keeps.refl wg [L6]).setCell (.inl (by simp)) _
      have B5a := (blk_grown B5.out HRXa.out (by decide) GRa.out).keep k9a (by have h9 := HL.out.2.2; simp; exact h9)
      have B6na := B6a.out.set_ 2 (.slice uaa (xn + 1) uca)
      have HKna : Keeps Wb (wg.setCell ⟨L6, 2, none⟩ (.slice uaa (xn + 1) uca)) [] := (keeps_grown HK.out HRXa.out (Nat.le_refl _) GRa.out).setCell (.inr HL.out.2.1) _
      have OWna := own_tk OWa.out (tk_set (T := 43) (i := 2) (u := .slice uaa (xn + 1) uca) B6a.out (by decide))
      go_roundw
      case rel => exact ⟨j + 1, .slice uaa (xn + 1) uca, xs ++ [x], by omega, by go_num, B5a, by simpa using B6na, by rw [HNO.out HGD.out]; exact HIN.out.snoc (by have h9 := OWna; rw [HXL.out, show x.cells = [.int .i64 x.op, .int .i64 x.dst, .slice xa xl xc, .int .i64 x.num] by unfold InstM.cells; rw [HEX.out]]; simpa using h9) (fun W hW => HXA.out W hW) (same_refl x), HKna⟩
      case measure => simp [intOf]; omega
     | false =>
      rw [hgd] at CG
      have HGD := kept hgd
      clear hgd HNO
      go_upto_region 13 with (first | (go_at_call 19; refine (CG.out _ (HF.out.keep (TB.out.and_then HK.out)) (HWB.out.tb.keep HK.out (by simp))).mono ?_; rintro e wA ⟨rfl, k3⟩; clear l0 l1 l2 Bl; replace B5 := kept (B5.out.keep k3 (by simp)); replace B6 := kept (B6.out.keep k3 (by simp)); replace B9 := kept (B9.out.keep k3 (by simp)); replace HIN := kept (HIN.out.keep k3); replace HK := kept (HK.out.and_then k3); clear k3))
      obtain ⟨v0, v1, v2, v3⟩ := B9.out.c4
      simp at v0 v1 v2 v3
      go_upto_region 14 with (first | (go_at_call 29; refine (HCN.out _ (HF.out.keep (TB.out.and_then HK.out))).mono ?_; rintro e wB ⟨⟨nv, rfl, hnw⟩, k3⟩; obtain ⟨na, nc, nve, -, -, -⟩ := IntsAt.open_ (hnw W3 (HXA.out W3 (HF.out.keep HKW3.out))); simp only at nve; subst nve; have HNW := kept hnw; clear hnw v0 v1 v2 v3; replace B5 := kept (B5.out.keep k3 (by simp)); replace B6 := kept (B6.out.keep k3 (by simp)); replace B9 := kept (B9.out.keep k3 (by simp)); replace HIN := kept (HIN.out.keep k3); replace HK := kept (HK.out.and_then k3); clear k3))
      have HRXb := kept (show World.ownsRow wB Wb.heap.size 43 4 (.slice va2 (xn) vc2) (xn) (xs.map InstM.cells).flatten by have h9 := HIN.out.row; rw [HXL.out] at h9; exact h9)
      have q2 : wB.cell? ⟨L6, 2, none⟩ = some (.slice va2 (xn) vc2) := (B6.out.cell 2).trans rfl
      obtain ⟨w0, w1, w2, w3x⟩ := B9.out.c4
      simp at w0 w1 w2 w3x
      clear w0 w1 w2 w3x
      go_upto_region 15 with (first | (at_builtin; go_must (refine wpList_append_row rfl (.tmp 48) (.tmp 52) 32 rfl Wb.heap.size 43 i43 (.agg #[.int .i64 0, .int .i64 0, .slice none 0 0, .int .i64 0]) 4 48 Tryz.underlying32 hi43 hz43 hs43 hb43 rfl (by decide) (.slice va2 (xn) vc2) (xn) (xs.map InstM.cells).flatten rfl (own_keep HRXb.out ((Keeps.refl wB []).alloc _) (by simp)) (.slice (some ⟨wB.heap.size, 0, none⟩) 1 1) [[.int .i64 (needC x.op.toNat).1, .int .i64 (-1), .slice na (needA x x.op.toNat).length nc, .int .i64 0]] rfl (row_single (Blk.new wB 43 _)) (by simp) (by simp [Value.oneCell']) (by simp; unfold maxLen; omega) (by simp; omega) (by rw [size_alloc1]; have h9 := HK.out.size; omega) ?_); intro v1 wh hown hgrow; obtain ⟨uab, ucb, rfl, -, -⟩ := own_form hown; have OWb := kept hown; have GRb := kept hgrow; clear hown hgrow q2; have B6b := kept (blk_grown B6.out HRXb.out (by decide) GRb.out); have q2 := B6b.out.cell 2; simp at q2; have f6 := B6b.out.frozen 2))
      clear q2 f6
      have kab := (Keeps.refl wB []).alloc (.cells #[.int .i64 (needC x.op.toNat).1, .int .i64 (-1), .slice na (needA x x.op.toNat).length nc, .int .i64 0] 43)
      have hrwb := own_keep HRXb.out kab (by simp)
      have k9b : Keeps wh (wh.setCell ⟨L6, 2, none⟩ (.slice uab (xn + 1) ucb)) [L6] := (Keeps.refl wh [L6]).setCell (.inl (by simp)) _
      have B5b := (blk_grown B5.out HRXb.out (by decide) GRb.out).keep k9b (by have h9 := HL.out.2.2; simp; exact h9)
      have B6nb := B6b.out.set_ 2 (.slice uab (xn + 1) ucb)
      have HKnb : Keeps Wb (wh.setCell ⟨L6, 2, none⟩ (.slice uab (xn + 1) ucb)) [] := (keeps_grown HK.out HRXb.out (Nat.le_refl _) GRb.out).setCell (.inr HL.out.2.1) _
      have OWnb := own_tk OWb.out (tk_set (T := 43) (i := 2) (u := .slice uab (xn + 1) ucb) B6b.out (by decide))
      have B9g := blk_grownN B9.out GRb.out HN9.out
      have B9b := B9g.keep k9b (by simp; exact blk_neT B9g B6b.out (by decide))
      have HALL : ∃ xs' : List InstM, xs'.length = xn + 1 ∧ InsQ f Wb.heap.size (wh.setCell ⟨L6, 2, none⟩ (.slice uab (xn + 1) ucb)) (.slice uab (xn + 1) ucb) (mkJ f b j ++ [needI x]) xs' := ⟨xs ++ [(⟨(needC x.op.toNat).1, -1, (.slice na (needA x x.op.toNat).length nc, needA x x.op.toNat), 0⟩ : InstM)], by rw [List.length_append, HXL.out]; rfl, HIN.out.snoc (by have h9 := OWnb; rw [HXL.out]; simpa [InstM.cells] using h9) (fun W hW => HNW.out W (HXA.out W hW)) ⟨rfl, rfl, rfl, rfl⟩⟩
      obtain ⟨xs', hxl', hin'⟩ := HALL
      clear B5 B6 HIN HK HXL HRXb OWb GRb B6b kab hrwb k9b OWnb B9 HCN HNW
      have B5 := kept B5b
      have B6 := kept B6nb
      simp at B6
      have HIN := kept hin'
      have HXL := kept hxl'
      have HK := kept HKnb
      have B9 := kept B9b
      clear B5b B6nb hin' hxl' HKnb B9b
      generalize wh.setCell ⟨L6, 2, none⟩ (.slice uab (xn + 1) ucb) = W6 at *
      have HRXa := kept (show World.ownsRow W6 Wb.heap.size 43 4 (.slice uab (xn + 1) ucb) (xn + 1) (xs'.map InstM.cells).flatten by have h9 := HIN.out.row; rw [HXL.out] at h9; exact h9)
      have q2 : W6.cell? ⟨L6, 2, none⟩ = some (.slice uab (xn + 1) ucb) := (B6.out.cell 2).trans rfl
      obtain ⟨w0, w1, w2, w3x⟩ := B9.out.c4
      simp at w0 w1 w2 w3x
      go_wp2_with (first | (at_builtin; go_must (refine wpList_append_row rfl (.tmp 56) (.tmp 58) 32 rfl Wb.heap.size 43 i43 (.agg #[.int .i64 0, .int .i64 0, .slice none 0 0, .int .i64 0]) 4 48 Tryz.underlying32 hi43 hz43 hs43 hb43 rfl (by decide) (.slice uab (xn + 1) ucb) (xn + 1) (xs'.map InstM.cells).flatten rfl (own_keep HRXa.out ((Keeps.refl W6 []).alloc _) (by simp)) (.slice (some ⟨W6.heap.size, 0, none⟩) 1 1) [[.int .i64 x.op, .int .i64 x.dst, .slice xa xl xc, .int .i64 x.num]] rfl (row_single (Blk.new W6 43 _)) (by simp) (by simp [Value.oneCell']) (by simp; unfold maxLen; omega) (by simp; omega) (by rw [size_alloc1]; have h9 := HK.out.size; omega) ?_); intro v1 wg hown hgrow; obtain ⟨uaa, uca, rfl, -, -⟩ := own_form hown; have OWa := kept hown; have GRa := kept hgrow; clear hown hgrow q2 w0 w1 w2 w3x; have B6a := kept (blk_grown B6.out HRXa.out (by decide) GRa.out); have q2 := B6a.out.cell 2; simp at q2; have f6 := B6a.out.frozen 2))
      clear q2 f6
      have kaa := (Keeps.refl W6 []).alloc (.cells #[.int .i64 x.op, .int .i64 x.dst, .slice xa xl xc, .int .i64 x.num] 43)
      have hrwa := own_keep HRXa.out kaa (by simp)
      have k9a : Keeps wg (wg.setCell ⟨L6, 2, none⟩ (.slice uaa (xn + 1 + 1) uca)) [L6] := (Keeps.refl wg [L6]).setCell (.inl (by simp)) _
      have B5a := (blk_grown B5.out HRXa.out (by decide) GRa.out).keep k9a (by have h9 := HL.out.2.2; simp; exact h9)
      have B6na := B6a.out.set_ 2 (.slice uaa (xn + 1 + 1) uca)
      have HKna : Keeps Wb (wg.setCell ⟨L6, 2, none⟩ (.slice uaa (xn + 1 + 1) uca)) [] := (keeps_grown HK.out HRXa.out (Nat.le_refl _) GRa.out).setCell (.inr HL.out.2.1) _
      have OWna := own_tk OWa.out (tk_set (T := 43) (i := 2) (u := .slice uaa (xn + 1 + 1) uca) B6a.out (by decide))
      go_roundw
      case rel => exact ⟨j + 1, .slice uaa (xn + 1 + 1) uca, xs' ++ [x], by omega, by go_num, B5a, by simpa using B6na, by rw [HYE.out HGD.out]; exact HIN.out.snoc (by have h9 := OWna; rw [HXL.out, show x.cells = [.int .i64 x.op, .int .i64 x.dst, .slice xa xl xc, .int .i64 x.num] by unfold InstM.cells; rw [HEX.out]]; simpa using h9) (fun W hW => HXA.out W hW) (same_refl x), HKna⟩
      case measure => simp [intOf]; omega
    ·have hljz : ¬ (j : Int) < (qn : Int) := by omega
     obtain rfl : qn = j := by omega
     clear HQC
     have HCW := kept (HWB.out.keep HK.out)
     have HRB := kept (show World.ownsRow wr W0.heap.size 38 7 (.slice ba b bc) b (zs.map BlockM.cells).flatten by have h9 := HCW.out.rows; rw [hzl] at h9; exact h9)
     have HOZ := kept (show World.ownsRow wr W0.heap.size 43 4 ((⟨y.name, y.phis, (.slice va2 xn vc2, xs), y.kind, y.var, y.to0, y.to1⟩ : BlockM)).insts.1 ((⟨y.name, y.phis, (.slice va2 xn vc2, xs), y.kind, y.var, y.to0, y.to1⟩ : BlockM)).insts.2.length (((⟨y.name, y.phis, (.slice va2 xn vc2, xs), y.kind, y.var, y.to0, y.to1⟩ : BlockM)).insts.2.map InstM.cells).flatten by have h9 := own_low HIN.out.row HWB.out.k.size; rw [HXL.out] at h9; show World.ownsRow _ _ _ _ _ xs.length _; rw [HXL.out]; exact h9)
     have HBS := kept (show BlkS (madeI f b) y (⟨y.name, y.phis, (.slice va2 xn vc2, xs), y.kind, y.var, y.to0, y.to1⟩ : BlockM) by rw [← HJA.out]; exact ⟨rfl, rfl, fun k hk => ⟨rfl, rfl, rfl⟩, HIN.out.len, fun k hk => HIN.out.same k hk, rfl, rfl, rfl, rfl⟩)
     have HZC := kept (show ((⟨y.name, y.phis, (.slice va2 xn vc2, xs), y.kind, y.var, y.to0, y.to1⟩ : BlockM)).cells = [.string y.name, .slice pa pn pc, .slice va2 xn vc2, .int .i64 y.kind, .int .i64 y.var, .int .i64 y.to0, .int .i64 y.to1] by unfold BlockM.cells; rw [HPE.out])
     obtain ⟨s0, s1, s2⟩ := HCW.out.box.c3
     simp at s0 s1 s2
     clear s0 s1
     obtain ⟨t0, t1, t2, t3, t4, t5, t6⟩ := B6.out.c7
     simp at t0 t1 t2 t3 t4 t5 t6
     have hzb : b ≤ 40 := by have h9 := HNB40.out; omega
     go_wp2_with (first | (at_builtin; go_must (refine wpList_append_row rfl (.tmp 63) (.tmp 65) 24 rfl W0.heap.size 38 i38 (.agg #[.string ⟨#[]⟩, .slice none 0 0, .slice none 0 0, .int .i64 0, .int .i64 0, .int .i64 0, .int .i64 0]) 7 96 Tryz.underlying24 hi38 hz38 hs38 hb38 rfl (by decide) (.slice ba b bc) b (zs.map BlockM.cells).flatten rfl (own_keep HRB.out ((Keeps.refl wr []).alloc _) (by simp)) (.slice (some ⟨wr.heap.size, 0, none⟩) 1 1) [[.string y.name, .slice pa pn pc, .slice va2 xn vc2, .int .i64 y.kind, .int .i64 y.var, .int .i64 y.to0, .int .i64 y.to1]] rfl (row_single (Blk.new wr 38 _)) (by simp) (by simp [Value.oneCell']) (by simp; unfold maxLen; omega) (by simp; omega) (by rw [size_alloc1]; have h9 := HCW.out.k.size; omega) ?_); intro v1 w4 hown hgrow; obtain ⟨ua, uc, rfl, -, -⟩ := own_form hown; have HOW := kept hown; have HGR := kept hgrow; clear hown hgrow s2 t0 t1 t2 t3 t4 t5 t6; have B34 := kept (blk_grown HCW.out.box HRB.out (by decide) HGR.out); have s2 := B34.out.cell 2; simp at s2; have f3 := B34.out.frozen 2))
     clear s2 f3
     go_roundw
     case rel => exact ⟨b + 1, .slice ua (b + 1) uc, zs ++ [(⟨y.name, y.phis, (.slice va2 xn vc2, xs), y.kind, y.var, y.to0, y.to1⟩ : BlockM)], by omega, by rw [List.length_append, hzl]; rfl, by go_num, SNO.out _ _ _ _ _ HCW.out HOZ.out HIN.out.arg rfl HBS.out HGR.out (by have h9 := HOW.out; rw [hzl, HZC.out]; simpa using h9)⟩
     case measure => simp [intOf]; omega
  ·have hlbz : ¬ (b : Int) < (f.nb : Int) := by omega
   obtain rfl : b = f.nb := by omega
   clear l0 l1 l2
   obtain ⟨s0, s1, s2⟩ := (show Blk wr L4 26 #[.slice a0 f.nv c0, .slice a1 f.np c1, .slice ba f.nb bc] by have h9 := HMI.out.box; rw [HE0.out, HE1.out] at h9; exact h9).c3
   simp at s0 s1 s2
   obtain ⟨r0, r1, r2⟩ := Br.out.c3
   simp at r0 r1 r2
   have f0 := Br.out.frozen 0
   have f1 := Br.out.frozen 1
   have f2 := Br.out.frozen 2
   go_wp2
   clear r0 r1 r2 f0 f1 f2 s0 s1 s2
   have kF : Keeps wr (((wr.setCell ⟨w.heap.size + 1, 0, none⟩ (.slice a0 f.nv c0)).setCell ⟨w.heap.size + 1, 1, none⟩ (.slice a1 f.np c1)).setCell ⟨w.heap.size + 1, 2, none⟩ (.slice ba f.nb bc)) [w.heap.size + 1] := ((((Keeps.refl wr _).setCell (.inl (by simp)) _).setCell (.inl (by simp)) _).setCell (.inl (by simp)) _)
   have BrF := ((Br.out.set_ 0 (.slice a0 f.nv c0)).set_ 1 (.slice a1 f.np c1)).set_ 2 (.slice ba f.nb bc)
   generalize (((wr.setCell ⟨w.heap.size + 1, 0, none⟩ (.slice a0 f.nv c0)).setCell ⟨w.heap.size + 1, 1, none⟩ (.slice a1 f.np c1)).setCell ⟨w.heap.size + 1, 2, none⟩ (.slice ba f.nb bc)) = Wf at *
   obtain ⟨r0, r1, r2⟩ := BrF.c3
   simp at r0 r1 r2
   have T := fun (T : TypeId) (h : T ≠ 26) => (show TyK T wr Wf from fun b cs hb => hb.keep kF (by simp; exact fun e => blk_neT hb Br.out h e))
   have HKF : Keeps w Wf [] := (TW0.out.and_then HMI.out.k).trans kF |>.mono (fun x hx => by simp at hx; subst hx; exact .inr (by omega))
   obtain ⟨hd1, hd2⟩ := HMI.out.done hzl (HF.out.keep HKF) (T 43 (by decide)) (T 38 (by decide))
   refine bodyPost_ret (v := .agg #[.slice a0 f.nv c0, .slice a1 f.np c1, .slice ba f.nb bc]) (by simp [results, Tryz.results30, go_sem, r0, r1, r2]) rfl ⟨⟨(⟨f.vars, f.params, (.slice ba f.nb bc, zs)⟩ : FuncM), ?_, hd1, hd2⟩, HKF⟩
   unfold FuncM.val; rw [HE0.out, HE1.out]
end Go.Proofs.YtjllbchfojonhaaGreatDoor
