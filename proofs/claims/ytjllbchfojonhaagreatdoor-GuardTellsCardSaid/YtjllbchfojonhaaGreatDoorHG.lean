/- The law 'GuardTells': the walk. -/
import Derived.Test.YtjllbchfojonhaaGreatDoorHF
import Derived.Deep.CutBlock
import Derived.Deep.Cut
namespace Go.Proofs.YtjllbchfojonhaaGreatDoor
open Go.RowKit Go.Shelf Go.Lib
set_option linter.unusedVariables false
set_option linter.unusedSimpArgs false

theorem lack_pre0 (f : FuncM) (b : Nat) : ∀ j n, j ≤ n → ∃ r, lackTo f b n = lackTo f b j ++ r := fun j n h => by
  induction n with
  | zero => obtain rfl : j = 0 := by omega
            exact ⟨[], by simp⟩
  | succ n ih =>
    by_cases hj : j = n + 1
    · subst hj; exact ⟨[], by simp⟩
    obtain ⟨r, hr⟩ := ih (by omega)
    cases hg : guardD f b n with
    | true => exact ⟨r, by rw [lack_same hg, hr]⟩
    | false => exact ⟨r ++ [(b, n)], by rw [lack_snoc hg, hr, List.append_assoc]⟩
theorem lack_pre (f : FuncM) : ∀ m b j, j ≤ f.blocks.2[b]!.insts.2.length → ∃ r, lackTo f (b + 1 + m) 0 = lackTo f b j ++ r := fun m => by
  induction m with
  | zero => intro b j hj
            rw [Nat.add_zero, lack_next]
            exact lack_pre0 f b j _ hj
  | succ m ih =>
    intro b j hj
    obtain ⟨r, hr⟩ := ih b j hj
    obtain ⟨r2, hr2⟩ := lack_pre0 f (b + 1 + m) 0 f.blocks.2[b + 1 + m]!.insts.2.length (Nat.zero_le _)
    exact ⟨r ++ r2, by rw [show b + 1 + (m + 1) = (b + 1 + m) + 1 by omega, lack_next, hr2, hr, List.append_assoc]⟩
theorem lack_take {f : FuncM} (hT : typedE f = 0) {b j : Nat} (hb : b < f.nb) (hj : j < f.blocks.2[b]!.insts.2.length) (h : guardD f b j = false) : (lackTo f b j).length < (placesL f).length ∧ (placesL f)[(lackTo f b j).length]! = (b, j) := by
  obtain ⟨r, hr⟩ := lack_pre f (f.nb - (b + 1)) b (j + 1) hj
  rw [show b + 1 + (f.nb - (b + 1)) = f.nb by omega, lack_snoc h, List.append_assoc] at hr
  have e : placesL f = lackTo f b j ++ ([(b, j)] ++ r) := by unfold placesL; rw [if_pos hT, hr]
  rw [e]
  constructor
  · simp
  · rw [getElem!_pos _ _ (by simp)]; simp
theorem places_no {f : FuncM} (h : ¬ typedE f = 0) : placesL f = [] := by unfold placesL; rw [if_neg h]
theorem guarded_no {f : FuncM} (h : ¬ typedE f = 0) : guardedB f = false := by unfold guardedB; rw [decide_eq_false h]; rfl
theorem guarded_yes {f : FuncM} (h : typedE f = 0) : guardedB f = decide ((placesL f).length = 0) := by unfold guardedB; rw [decide_eq_true h]; rfl
theorem pl_open {f : FuncM} {w : World} {v : Value} (h : PlRet f w v) : ∃ a n c, v = .slice a n c ∧ Row w 2 (.slice a n c) ((placesL f).map prC) ∧ n ≤ c ∧ c ≤ maxLen ∧ n = (placesL f).length := by
  obtain ⟨a, c, rfl, h1, h2, _⟩ := Row.open_ (M := Nat × Nat) (cells := prC) h
  exact ⟨a, _, c, rfl, h, h1, h2, rfl⟩

set_option maxRecDepth 100000 in
set_option maxHeartbeats 200000000 in
theorem walkGuardTells (f : FuncM) (w : World) (ht : Tabs w) (hf : FuncAt w f) : Calls Tryz.prog 4 #[f.val] w fun e w' => e = .returned (.bool true) ∧ Keeps w w' [] := by
  have CLv := kept (fun W h => lives8_any W h)
  have C16 := kept (fun W (h2 : FuncAt W f) => few_exact f W h2)
  have C9 := kept (fun W h1 (h2 : FuncAt W f) => typed10_any f W h1 h2)
  have C17 := kept (fun (hT : fewB f = true) W h1 (h2 : FuncAt W f) => places_any f W h1 h2 (few_p hT))
  have C18 := kept (fun (hT : fewB f = true) W h1 (h2 : FuncAt W f) => guarded18_any f W h1 h2 (few_p hT))
  have C10 := kept (fun (hT : fewB f = true) W h1 (h2 : FuncAt W f) => passed_any f 0 0 W h1 h2 (few_p hT))
  have C11 := kept (fun (hT : typed10 f = true) W (h2 : FuncAt W f) => reached11_any f W h2 (ends_ok (typed10_iff.1 hT).2 (few_p (typed10_iff.1 hT).1)).pos (ends_ok (typed10_iff.1 hT).2 (few_p (typed10_iff.1 hT).1)).nb)
  have C19 := kept (fun (hT : typed10 f = true) th g b pl W (h1 : FuncAt W f) (h2 : Blk W g 4 (bitsR th)) (h3 : ReachOK f th) (h4 : b < f.nb) (h5 : pl < f.blocks.2[b]!.insts.2.length) => guarded19_any f th g b pl W h1 h2 h3 (typed10_iff.1 hT).2 (few_p (typed10_iff.1 hT).1) h4 h5)
  have HTB := kept ht
  obtain ⟨a0, c0, e0, -, -, hc0⟩ := hf.vars.open_
  obtain ⟨a1, c1, e1, -, -, hc1⟩ := (show Row w 1 f.params.1 (f.params.2.map intCells) from hf.params).open_
  obtain ⟨a2, c2, e2, -, -, hc2⟩ := hf.blocks.open_
  have hval : f.val = .agg #[.slice a0 f.nv c0, .slice a1 f.np c1, .slice a2 f.nb c2] := by unfold FuncM.val FuncM.nv FuncM.np FuncM.nb; rw [e0, e1, e2]
  have h1 : #[f.vars.1, f.params.1, f.blocks.1] = #[.slice a0 f.nv c0, .slice a1 f.np c1, .slice a2 f.nb c2] := by unfold FuncM.nv FuncM.np FuncM.nb; rw [e0, e1, e2]
  have HF := kept hf
  have HC0 := kept hc0
  have HC1 := kept hc1
  have HC2 := kept hc2
  have HNV := kept (show f.vars.2.length = f.nv from rfl)
  have HNP := kept (show f.params.2.length = f.np from rfl)
  have HNB := kept (show f.blocks.2.length = f.nb from rfl)
  rw [hval] at C9 C10 C11 C16 C17 C18 C19 ⊢
  clear hval h1 e0 e1 e2 hc0 hc1 hc2 hf HC0 HC1 ht
  have hk0 : Keeps w (w.alloc (.cells #[.slice a0 f.nv c0, .slice a1 f.np c1, .slice a2 f.nb c2] 26)) [] := (Keeps.refl _ []).alloc _
  have bb0 := Blk.new w 26 #[.slice a0 f.nv c0, .slice a1 f.np c1, .slice a2 f.nb c2]
  have Bl := kept bb0
  have HK := kept hk0
  obtain ⟨l0, l1, l2⟩ := Bl.out.c3
  simp at l0 l1 l2
  clear hk0 bb0
  go_enter Tryz.func4, Tryz.ntmps4
  cases hfw : fewB f with
  | false =>
    rw [hfw] at C16
    clear C9 C10 C11 C17 C18 C19 hfw
    go_wp2_with (first | (go_at_call 8; refine (CLv.out _ (HTB.out.keep HK.out)).mono ?_; rintro e w3 ⟨rfl, k3⟩; clear l0 l1 l2; replace Bl := kept (Bl.out.keep k3 (by simp)); replace HK := kept (HK.out.and_then k3); obtain ⟨l0, l1, l2⟩ := Bl.out.c3; simp at l0 l1 l2; clear k3) | (go_at_call 16; refine (C16.out _ (HF.out.keep HK.out)).mono ?_; rintro e w3 ⟨rfl, k3⟩; clear l0 l1 l2; replace Bl := kept (Bl.out.keep k3 (by simp)); replace HK := kept (HK.out.and_then k3); obtain ⟨l0, l1, l2⟩ := Bl.out.c3; simp at l0 l1 l2; clear k3))
    go_ret
    exact ⟨rfl, HK.out⟩
  | true =>
    have HFE := kept hfw
    rw [hfw] at C16
    have C17x := kept (C17.out hfw)
    have C18x := kept (C18.out hfw)
    have C10x := kept (C10.out hfw)
    have HFW := kept (few_p hfw)
    clear C17 C18 C10 hfw
    cases hT : typed10 f with
    | false =>
      have hTE : ¬ typedE f = 0 := fun h => by rw [typed10_iff.2 ⟨HFE.out, h⟩] at hT; cases hT
      have HPZ := kept (places_no hTE)
      have HPN := kept (show (passedL f 0 0).length = 0 by rw [passed_no (fun h => hTE h.1)]; rfl)
      rw [guarded_no hTE] at C18x
      rw [hT] at C9
      have hz : (placesL f).length = 0 := by rw [HPZ.out]; rfl
      clear hT hTE C11 C19
      have HLZ := kept hz
      clear hz
      go_wp2_with (first | (go_at_call 8; refine (CLv.out _ (HTB.out.keep HK.out)).mono ?_; rintro e w3 ⟨rfl, k3⟩; clear l0 l1 l2; replace Bl := kept (Bl.out.keep k3 (by simp)); replace HK := kept (HK.out.and_then k3); obtain ⟨l0, l1, l2⟩ := Bl.out.c3; simp at l0 l1 l2; clear k3) | (go_at_call 16; refine (C16.out _ (HF.out.keep HK.out)).mono ?_; rintro e w3 ⟨rfl, k3⟩; clear l0 l1 l2; replace Bl := kept (Bl.out.keep k3 (by simp)); replace HK := kept (HK.out.and_then k3); obtain ⟨l0, l1, l2⟩ := Bl.out.c3; simp at l0 l1 l2; clear k3) | (go_at_call 17; refine (C17x.out _ (HTB.out.keep HK.out) (HF.out.keep HK.out)).mono ?_; rintro e w3 ⟨⟨pv, rfl, hpr⟩, k3⟩; obtain ⟨la, pn, lc, rfl, hrow, hpc, hlm, hpn⟩ := pl_open hpr; have HRW := kept hrow; have HPC := kept hpc; have HLM := kept hlm; have HPNN := kept hpn; clear hpr hrow hlm hpc; rw [HLZ.out] at hpn; subst hpn; clear l0 l1 l2; replace Bl := kept (Bl.out.keep k3 (by simp)); replace HK := kept (HK.out.and_then k3); obtain ⟨l0, l1, l2⟩ := Bl.out.c3; simp at l0 l1 l2; clear k3) | (go_at_call 9; refine (C9.out _ (HTB.out.keep HK.out) (HF.out.keep HK.out)).mono ?_; rintro e w3 ⟨rfl, k3⟩; clear l0 l1 l2; replace Bl := kept (Bl.out.keep k3 (by simp)); replace HK := kept (HK.out.and_then k3); obtain ⟨l0, l1, l2⟩ := Bl.out.c3; simp at l0 l1 l2; clear k3) | (go_at_call 18; refine (C18x.out _ (HTB.out.keep HK.out) (HF.out.keep HK.out)).mono ?_; rintro e w3 ⟨rfl, k3⟩; clear l0 l1 l2; replace Bl := kept (Bl.out.keep k3 (by simp)); replace HK := kept (HK.out.and_then k3); obtain ⟨l0, l1, l2⟩ := Bl.out.c3; simp at l0 l1 l2; clear k3) | (go_at_call 10; refine (C10x.out _ (HTB.out.keep HK.out) (HF.out.keep HK.out)).mono ?_; rintro e w3 ⟨⟨pv, rfl, hck⟩, k3⟩; obtain ⟨cka, ckc, rfl⟩ := ck_len hck HPN.out; clear hck; clear l0 l1 l2; replace Bl := kept (Bl.out.keep k3 (by simp)); replace HK := kept (HK.out.and_then k3); obtain ⟨l0, l1, l2⟩ := Bl.out.c3; simp at l0 l1 l2; clear k3))
      go_ret
      exact ⟨rfl, HK.out⟩
    | true =>
      have HTT := kept hT
      have HTE := kept (typed10_iff.1 hT).2
      have hTE0 := (typed10_iff.1 hT).2
      rw [guarded_yes hTE0] at C18x
      rw [hT] at C9
      have C11x := kept (C11.out hT)
      have C19x := kept (C19.out hT)
      clear C11 C19 C10x hT hTE0
      go_upto_region 8 with (first | (go_at_call 8; refine (CLv.out _ (HTB.out.keep HK.out)).mono ?_; rintro e w3 ⟨rfl, k3⟩; clear l0 l1 l2; replace Bl := kept (Bl.out.keep k3 (by simp)); replace HK := kept (HK.out.and_then k3); obtain ⟨l0, l1, l2⟩ := Bl.out.c3; simp at l0 l1 l2; clear k3) | (go_at_call 16; refine (C16.out _ (HF.out.keep HK.out)).mono ?_; rintro e w3 ⟨rfl, k3⟩; clear l0 l1 l2; replace Bl := kept (Bl.out.keep k3 (by simp)); replace HK := kept (HK.out.and_then k3); obtain ⟨l0, l1, l2⟩ := Bl.out.c3; simp at l0 l1 l2; clear k3) | (go_at_call 17; refine (C17x.out _ (HTB.out.keep HK.out) (HF.out.keep HK.out)).mono ?_; rintro e w3 ⟨⟨pv, rfl, hpr⟩, k3⟩; obtain ⟨la, pn, lc, rfl, hrow, hpc, hlm, hpn⟩ := pl_open hpr; have HRW := kept hrow; have HPC := kept hpc; have HLM := kept hlm; have HPNN := kept hpn; clear hpr hrow hlm hpc hpn; clear l0 l1 l2; replace Bl := kept (Bl.out.keep k3 (by simp)); replace HK := kept (HK.out.and_then k3); obtain ⟨l0, l1, l2⟩ := Bl.out.c3; simp at l0 l1 l2; clear k3) | (go_at_call 9; refine (C9.out _ (HTB.out.keep HK.out) (HF.out.keep HK.out)).mono ?_; rintro e w3 ⟨rfl, k3⟩; replace HRW := kept (Row.keep HRW.out k3); clear l0 l1 l2; replace Bl := kept (Bl.out.keep k3 (by simp)); replace HK := kept (HK.out.and_then k3); obtain ⟨l0, l1, l2⟩ := Bl.out.c3; simp at l0 l1 l2; clear k3) | (go_at_call 11; refine (C11x.out _ (HF.out.keep HK.out)).mono ?_; rintro e w3 ⟨⟨rg, rfl, th, hB, hR⟩, k3⟩; have BR := kept hB; have HR := kept hR; clear hB hR; replace HRW := kept (Row.keep HRW.out k3); clear l0 l1 l2; replace Bl := kept (Bl.out.keep k3 (by simp)); replace HK := kept (HK.out.and_then k3); obtain ⟨l0, l1, l2⟩ := Bl.out.c3; simp at l0 l1 l2; clear k3))
      clear CLv C16 C9 C17x C11x
      obtain ⟨W4, hW4⟩ : ∃ W4 : World, W4 = w3 := ⟨_, rfl⟩
      subst hW4
      clear l0 l1 l2
      have Bl_W4 := Bl
      have TW4 := HK
      clear HK
      have HK := kept (Keeps.refl W4 [])
      obtain ⟨l0, l1, l2⟩ := Bl.out.c3
      simp at l0 l1 l2
      have HBD := kept (few_insts HFW.out).2
      have hnbF := HFW.out.nb
      have HPM := kept (Nat.le_trans HPC.out HLM.out)
      rw [← HPNN.out] at C18x
      have HCB := kept HC2.out
      clear HC2
      go_wp2
      go_loopw [5, 40] (fun a' i' wx => ∃ (i at9 : Nat), i ≤ f.nb ∧ i' = .int .i64 i ∧ a' = .int .i64 at9 ∧ Hid (at9 = (lackTo f i 0).length) ∧ Keeps W4 wx []) (fun _ i' _ => f.nb - (intOf i').toNat)
      case atStart => exact ⟨0, 0, Nat.zero_le _, rfl, rfl, by rw [lack_zero]; rfl, HK.out⟩
      case round =>
        obtain ⟨i, at9, hi, rfl, rfl, hAT, hr⟩ := hrel
        have HAT := kept hAT.out
        clear hAT
        clear l0 l1 l2
        clear Bl HK
        have HK := kept hr
        have Bl := kept (Bl_W4.out.keep hr (by simp))
        clear hr
        obtain ⟨l0, l1, l2⟩ := Bl.out.c3
        simp at l0 l1 l2
        by_cases hli : i < f.nb
        · have hliz : (i : Int) < (f.nb : Int) := by omega
          obtain ⟨yb, yo, e8, hyb, hbc⟩ := HCB.out i (by rw [HNB.out]; exact hli)
          obtain rfl := e8
          have HYA := kept (HF.out.block _ (bang_mem (l := f.blocks.2) (k := i) hli))
          obtain ⟨ia, ic, ie, -, -, -⟩ := HYA.out.insts.open_
          have y2 := (TW4.out.and_then HK.out).cellOf (hbc 2 _ rfl)
          rw [ie] at y2
          clear hbc ie
          have hil := (HBD.out i hli).2
          have HPN := kept (lack_next (f := f) (b := i))
          have HPS := kept (fun k (h : guardD f i k = true) => lack_same (f := f) (b := i) (j := k) h)
          have HPT := kept (fun k (h : guardD f i k = false) => lack_snoc (f := f) (b := i) (j := k) h)
          have HPK := kept (fun k (hk : k < f.blocks.2[i]!.insts.2.length) (h : guardD f i k = false) => lack_take HTE.out hli hk h)
          have CGi := kept (fun k W (h1 : FuncAt W f) (h2 : Blk W rg 4 (bitsR th)) (hk : k < f.blocks.2[i]!.insts.2.length) => C19x.out th rg i k W h1 h2 HR.out hli hk)
          generalize hyl : f.blocks.2[i]!.insts.2.length = yil at *
          clear HYA hyl
          go_wp2
          go_loopw [5, 50] (fun a' i' wx => ∃ (k at9 : Nat), k ≤ yil ∧ i' = .int .i64 k ∧ a' = .int .i64 at9 ∧ Hid (at9 = (lackTo f i k).length) ∧ Keeps W4 wx []) (fun _ i' _ => yil - (intOf i').toNat)
          case atStart => exact ⟨0, at9, Nat.zero_le _, rfl, rfl, HAT.out, HK.out⟩
          case round =>
            obtain ⟨k, at9, hk, rfl, rfl, hAT, hr⟩ := hrel
            clear HAT
            have HAT := kept hAT.out
            clear hAT
            (try clear y2)
            clear l0 l1 l2
            clear Bl HK
            have HK := kept hr
            have Bl := kept (Bl_W4.out.keep hr (by simp))
            clear hr
            obtain ⟨l0, l1, l2⟩ := Bl.out.c3
            simp at l0 l1 l2
            by_cases hlk : k < yil
            · have hlkz : (k : Int) < (yil : Int) := by omega
              have CGk := kept (fun W h1 h2 => CGi.out k W h1 h2 hlk)
              cases hgd : guardD f i k with
              | true =>
                have HGD := kept hgd
                rw [hgd] at CGk
                clear hgd
                go_wp2_with (first | (go_at_call 19; refine (CGk.out _ (HF.out.keep (TW4.out.and_then HK.out)) (BR.out.keep HK.out (by simp))).mono ?_; rintro e w3 ⟨rfl, k3⟩; clear l0 l1 l2; replace Bl := kept (Bl.out.keep k3 (by simp)); replace HK := kept (HK.out.and_then k3); obtain ⟨l0, l1, l2⟩ := Bl.out.c3; simp at l0 l1 l2; clear k3))
                go_roundw
                case rel => exact ⟨k + 1, at9, by omega, by go_num, by first | rfl | trivial, (show Hid _ from by show at9 = _; rw [HPS.out k HGD.out]; exact HAT.out), HK.out⟩
                case measure => simp [intOf]; omega
              | false =>
                have HGD := kept hgd
                rw [hgd] at CGk
                clear hgd
                go_upto_region 15 with (first | (go_at_call 19; refine (CGk.out _ (HF.out.keep (TW4.out.and_then HK.out)) (BR.out.keep HK.out (by simp))).mono ?_; rintro e w3 ⟨rfl, k3⟩; clear l0 l1 l2; replace Bl := kept (Bl.out.keep k3 (by simp)); replace HK := kept (HK.out.and_then k3); obtain ⟨l0, l1, l2⟩ := Bl.out.c3; simp at l0 l1 l2; clear k3))
                clear CGk
                obtain ⟨hat1, hat2⟩ := HPK.out k hlk HGD.out
                rw [← HAT.out] at hat1 hat2
                rw [← HPNN.out] at hat1
                have hatz : (at9 : Int) < (pn : Int) := by omega
                have hatn : ¬ (pn : Int) ≤ (at9 : Int) := by omega
                have hpB : pn ≤ 9223372036854775807 := by have h8 := HPM.out; unfold maxLen at h8; omega
                obtain ⟨ra, rc2, re, -, hrm, hrc⟩ := Row.open_ (M := Nat × Nat) (cells := prC) HRW.out
                simp only [Value.slice.injEq] at re
                obtain ⟨rfl, -, rfl⟩ := re
                obtain ⟨db, dof, rfl, hdb, hdc⟩ := hrc at9 (by rw [← HPNN.out]; exact hat1)
                rw [hat2] at hdc
                have d0 := HK.out.cellOf (hdc 0 _ rfl)
                have d1 := HK.out.cellOf (hdc 1 _ rfl)
                simp only [Nat.add_zero] at d0
                dsimp only at d0 d1
                clear hdc hrc hat2
                have hte : ∀ w, (Op.equalIn 10000 34 (.agg #[.int .i64 (i : Int), .int .i64 (k : Int)]) (.agg #[.int .i64 (i : Int), .int .i64 (k : Int)])).run Tryz.prog w = .ok true w := fun w => by rw [two_eql]; simp
                go_wp2
                go_roundw
                case rel => exact ⟨k + 1, at9 + 1, by omega, by go_num, by go_num, (show Hid _ from by show at9 + 1 = _; rw [HPT.out k HGD.out, List.length_append, ← HAT.out]; rfl), HK.out⟩
                case measure => simp [intOf]; omega
            · have hlkz : ¬ (k : Int) < (yil : Int) := by omega
              obtain rfl : k = yil := by omega
              go_wp2
              go_roundw
              case rel => exact ⟨i + 1, at9, by omega, by go_num, by first | rfl | trivial, (show Hid _ from by show at9 = _; rw [HPN.out]; exact HAT.out), HK.out⟩
              case measure => simp [intOf]; omega
        · have hliz : ¬ (i : Int) < (f.nb : Int) := by omega
          obtain rfl : i = f.nb := by omega
          have hat : at9 = pn := by have h9 := HAT.out; rw [h9, HPNN.out]; unfold placesL; rw [if_pos HTE.out]
          subst hat
          have hpB : at9 ≤ 9223372036854775807 := by have h8 := HPM.out; unfold maxLen at h8; omega
          have hdz : decide (at9 = 0) = ((at9 : Int) == 0) := by rw [Bool.eq_iff_iff]; simp; try omega
          rw [hdz] at C18x
          generalize hZ : ((at9 : Int) == 0) = zz at *
          have HZ := kept hZ
          go_wp2_with (first | (go_at_call 18; refine (C18x.out _ (HTB.out.keep (TW4.out.and_then HK.out)) (HF.out.keep (TW4.out.and_then HK.out))).mono ?_; rintro e w3 ⟨rfl, k3⟩; clear l0 l1 l2; replace Bl := kept (Bl.out.keep k3 (by simp)); replace HK := kept (HK.out.and_then k3); obtain ⟨l0, l1, l2⟩ := Bl.out.c3; simp at l0 l1 l2; clear k3))
          go_ret
          exact ⟨ret_bool (by simp), (TW4.out.and_then HK.out)⟩
end Go.Proofs.YtjllbchfojonhaaGreatDoor
