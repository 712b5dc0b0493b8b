/- The law 'LiveTells': the walk. -/
import Derived.Test.YtjllbchfojonhaaDoorLiveThree
import Derived.Deep.CutBlock
import Derived.Deep.Cut
import Derived.Deep.CutRange
namespace Go.Proofs.YtjllbchfojonhaaDoor
open Go.RowKit Go.Shelf Go.Lib
set_option linter.unusedVariables false
set_option linter.unusedSimpArgs false

theorem rows_len {qs : List IntsM} {n : Nat} {P : Nat → List Int} (h : qs.map Prod.snd = (List.range n).map P) : qs.length = n := by
  have := congrArg List.length h
  rwa [List.length_map, List.length_map, List.length_range] at this
instance : Inhabited IntsM := ⟨(.slice none 0 0, [])⟩
theorem rows_bang {qs : List IntsM} {n : Nat} {P : Nat → List Int} (h : qs.map Prod.snd = (List.range n).map P) {b : Nat} (hb : b < n) : (qs[b]! : IntsM).2 = P b := by
  have hl := rows_len h
  have h2 : (qs.map Prod.snd)[b]? = ((List.range n).map P)[b]? := by rw [h]
  rw [List.getElem?_map, List.getElem?_map, List.getElem?_eq_getElem (by omega), List.getElem?_eq_getElem (by rw [List.length_range]; exact hb), List.getElem_range] at h2
  simp only [Option.map_some, Option.some.injEq] at h2
  rw [getElem!_pos qs b (by omega)]
  exact h2
theorem rows_open {w : World} {v : Value} {qs : List IntsM} (h : RowsAt w v qs) : ∃ a cap, v = .slice a qs.length cap ∧ ∀ k, k < qs.length → ∃ b off, a = some ⟨b, off, none⟩ ∧ w.cell? ⟨b, off + k, none⟩ = some (qs[k]! : IntsM).1 ∧ IntsAt w (qs[k]! : IntsM) := by
  obtain ⟨a, cap, e, -, -, hc⟩ := Row.open_ (cells := fun q : IntsM => [q.1]) h.1
  refine ⟨a, cap, e, fun k hk => ?_⟩
  obtain ⟨b, off, e1, _, h2⟩ := hc k hk
  refine ⟨b, off, e1, ?_, h.2 _ (bang_mem hk)⟩
  have := h2 0 _ rfl
  rwa [Nat.mul_one, Nat.add_zero] at this
theorem rows_empty {w : World} {v : Value} {qs : List IntsM} (h : RowsAt w v qs) (h2 : qs.map Prod.snd = []) : ∃ a cap, v = .slice a 0 cap := by
  obtain ⟨a, cap, e, _⟩ := rows_open h
  have : qs = [] := by simpa using h2
  subst this
  exact ⟨a, cap, e⟩

set_option maxRecDepth 100000 in
set_option maxHeartbeats 200000000 in
theorem walkLiveTells (f : FuncM) (w : World) (ht : TabsL w) (hf : FuncAt w f) : Calls Tryd.prog 8 #[f.val] w fun e w' => e = .returned (.bool true) ∧ Keeps w w' [] := by
  have CL := kept (fun W h => lives14_any W h)
  have CSL := kept (fun W h1 h2 => slot21_any f W h1 h2)
  have CFW := kept (fun W h => few_exact f W h)
  have CAT := kept (fun (hq : fewB f = true) W h1 h2 => at22_any f 0 0 W h1 h2 (fewB_p hq))
  have CIN := kept (fun (hq : fewB f = true) W h1 h2 => in29_any f W h1 h2 (fewB_p hq))
  have COU := kept (fun (hq : fewB f = true) W h1 h2 => out30_any f W h1 h2 (fewB_p hq))
  have HT := kept ht
  have CLV := kept (fun (hq : fewB f = true) (hs : (shapedB f && slotB f) = true) (v bn : Nat) (hb : bn < f.nb) (hv : v ≤ 1000000) W h => (show Calls Tryd.prog 23 #[f.val, .int .i64 (v : Nat), .int .i64 (bn : Nat), .int .i64 0] W fun e w' => e = .returned (.bool (liveB f.blk v bn 0)) ∧ Keeps W w' [] from live23_any f v bn 0 W h (slot_live hs (fewB_p hq)) (shaped_kind (by rw [Bool.and_eq_true] at hs; exact hs.1)) hb (Nat.zero_le _) hv))
  have COV := kept (fun (hq : fewB f = true) (hs : (shapedB f && slotB f) = true) (v bn : Nat) (hb : bn < f.nb) (hv : v ≤ 1000000) W h => out31_any f v bn W h (slot_live hs (fewB_p hq)) (shaped_kind (by rw [Bool.and_eq_true] at hs; exact hs.1)) hb hv)
  have HFW := kept (fun (hq : fewB f = true) => fewB_p hq)
  have HNB0 := kept (fun (hq : fewB f = true) (hs : (shapedB f && slotB f) = true) => (slot_live hs (fewB_p hq)).nb0)
  have HIL := kept (show inLs f = if (shapedB f && slotB f) = true then (List.range f.nb).map (fun b => liveL f b 0) else [] from rfl)
  have HOL := kept (show outLs f = if (shapedB f && slotB f) = true then (List.range f.nb).map (outL f) else [] from rfl)
  have HAO := kept (fun h => atL_no (f := f) (b := 0) (p := 0) h)
  obtain ⟨a0, c0, e0, -, -, hc0⟩ := hf.vars.open_
  obtain ⟨a1, c1, e1, -, -, hc1⟩ := (show Row w 1 f.params.1 (f.params.2.map intCells) from hf.params).open_
  obtain ⟨a2, c2, e2, -, -, hc2⟩ := hf.blocks.open_
  have hval : f.val = .agg #[.slice a0 f.nv c0, .slice a1 f.np c1, .slice a2 f.nb c2] := by unfold FuncM.val FuncM.nv FuncM.np FuncM.nb; rw [e0, e1, e2]
  have h1 : #[f.vars.1, f.params.1, f.blocks.1] = #[.slice a0 f.nv c0, .slice a1 f.np c1, .slice a2 f.nb c2] := by unfold FuncM.nv FuncM.np FuncM.nb; rw [e0, e1, e2]
  have HF := kept hf
  have HC0 := kept hc0
  have HC1 := kept hc1
  have HC2 := kept hc2
  have HNV := kept (show f.vars.2.length = f.nv from rfl)
  have HNP := kept (show f.params.2.length = f.np from rfl)
  have HNB := kept (show f.blocks.2.length = f.nb from rfl)
  rw [hval] at CSL CFW CAT CIN COU CLV COV ⊢
  clear e0 e1 e2 hval h1 hf hc0 hc1 hc2 HC0 HC1 HC2 ht
  have hk0 : Keeps w (w.alloc (.cells #[.slice a0 f.nv c0, .slice a1 f.np c1, .slice a2 f.nb c2] 26)) [] := (Keeps.refl _ []).alloc _
  have bb0 := Blk.new w 26 #[.slice a0 f.nv c0, .slice a1 f.np c1, .slice a2 f.nb c2]
  have Bl := kept bb0
  have HK := kept hk0
  have l0 := Bl.out.cell 0
  have l1 := Bl.out.cell 1
  have l2 := Bl.out.cell 2
  simp at l0 l1 l2
  clear hk0 bb0
  go_enter Tryd.func8, Tryd.ntmps8
  cases hFB : fewB f with
  | false =>
    rw [hFB] at CFW
    clear hFB
    go_wp2_with (first | (go_at_call 20; refine (CL.out _ (HT.out.keep HK.out)).mono ?_; rintro e w3 ⟨rfl, k3⟩; clear l0 l1 l2; have Blx := kept (Bl.out.keep k3 (by simp)); have HKx := kept (HK.out.and_then k3); clear Bl HK; have Bl := Blx; have HK := HKx; clear Blx HKx; have l0 := Bl.out.cell 0; have l1 := Bl.out.cell 1; have l2 := Bl.out.cell 2; simp at l0 l1 l2; clear k3) | (go_at_call 11; refine (CFW.out _ (HF.out.keep HK.out)).mono ?_; rintro e w4 ⟨rfl, k3⟩; clear l0 l1 l2; have Blx := kept (Bl.out.keep k3 (by simp)); have HKx := kept (HK.out.and_then k3); clear Bl HK; have Bl := Blx; have HK := HKx; clear Blx HKx; have l0 := Bl.out.cell 0; have l1 := Bl.out.cell 1; have l2 := Bl.out.cell 2; simp at l0 l1 l2; clear k3) | fail)
    go_ret
    exact ⟨rfl, HK.out⟩
  | true =>
    rw [hFB] at CFW CSL
    have HQ9 := kept hFB
    clear hFB
    rw [Bool.true_and] at CSL
    have hfew := HFW.out HQ9.out
    have hnvF := hfew.nv
    have hnbF := hfew.nb
    clear hfew
    have CIN2 := kept (CIN.out HQ9.out)
    have COU2 := kept (COU.out HQ9.out)
    have CAT2 := kept (CAT.out HQ9.out)
    clear CIN COU CAT
    go_upto_region 3 with (first | (go_at_call 20; refine (CL.out _ (HT.out.keep HK.out)).mono ?_; rintro e w3 ⟨rfl, k3⟩; clear l0 l1 l2; have Blx := kept (Bl.out.keep k3 (by simp)); have HKx := kept (HK.out.and_then k3); clear Bl HK; have Bl := Blx; have HK := HKx; clear Blx HKx; have l0 := Bl.out.cell 0; have l1 := Bl.out.cell 1; have l2 := Bl.out.cell 2; simp at l0 l1 l2; clear k3) | (go_at_call 11; refine (CFW.out _ (HF.out.keep HK.out)).mono ?_; rintro e w4 ⟨rfl, k3⟩; clear l0 l1 l2; have Blx := kept (Bl.out.keep k3 (by simp)); have HKx := kept (HK.out.and_then k3); clear Bl HK; have Bl := Blx; have HK := HKx; clear Blx HKx; have l0 := Bl.out.cell 0; have l1 := Bl.out.cell 1; have l2 := Bl.out.cell 2; simp at l0 l1 l2; clear k3) | fail)
    obtain ⟨wa, hwa⟩ : ∃ wa : World, wa = w4 := ⟨_, rfl⟩
    subst hwa
    refine wp_region_held_drew (S := (fun w' => w'.cell? ⟨w.heap.size, 0, none⟩ = some (.slice a0 f.nv c0) ∧ w'.cell? ⟨w.heap.size, 1, none⟩ = some (.slice a1 f.np c1) ∧ w'.cell? ⟨w.heap.size, 2, none⟩ = some (.slice a2 f.nb c2))) (by kernel_rfl) ?bhSs (fun hHeld => ?_)
    case bhSs => exact ⟨l0, l1, l2⟩
    have hkd : Keeps wa (World.drew wa) [] := (Keeps.refl wa []).drew
    have l0x := hkd.cellOf l0
    have l1x := hkd.cellOf l1
    have l2x := hkd.cellOf l2
    clear l0 l1 l2
    have l0 := l0x
    have l1 := l1x
    have l2 := l2x
    clear l0x l1x l2x
    have Blx := kept (Bl.out.keep hkd (by simp))
    have HKx := kept (HK.out.and_then hkd)
    clear hkd Bl HK
    have Bl := Blx
    have HK := HKx
    clear Blx HKx
    generalize World.drew wa = X1 at *
    have CI1 := kept (CIN2.out _ (HT.out.keep HK.out) (HF.out.keep HK.out))
    refine wpAnyH_take (i := 0) (oi := { dst := some 17, op := Op.load 26 (Operand.tmp 1), type := 26, pos := "law.go:26", after := #[], guard := none }) (v := ?bv0) rfl (by kernel_rfl) (by kernel_rfl) (by kernel_rfl) (fun _ _ _ h => h) (Or.inl ⟨by rfl, ?by0⟩) hHeld ?br0
    case by0 => (intro w hSw; (try dsimp only at hSw); go_simp; (try with_reducible rfl))
    try simp only [Act.put, List.setIfInBounds_toArray, List.set_cons_zero, List.set_cons_succ]
    refine wpAnyH_take (i := 2) (oi := { dst := some 19, op := Op.load 26 (Operand.tmp 1), type := 26, pos := "law.go:26", after := #[], guard := none }) (v := ?bv2) rfl (by kernel_rfl) (by kernel_rfl) (by kernel_rfl) (fun _ _ _ h => h) (Or.inl ⟨by rfl, ?by2⟩) hHeld ?br2
    case by2 => (intro w hSw; (try dsimp only at hSw); go_simp; (try with_reducible rfl))
    try simp only [Act.put, List.setIfInBounds_toArray, List.set_cons_zero, List.set_cons_succ]
    refine wpAnyH_ready (rs := [1]) (by kernel_rfl) (by simp) ?_
    refine AllReadyH.cons (o := { dst := some 18, op := Op.call { callee := Callee.value (Operand.func 29), args := #[Operand.tmp 17], argTypes := #[26] }, type := 72, pos := "law.go:26", after := #[{ on := 0, ground := Ground.data }], guard := none }) rfl (fun K hK => ?_) AllReadyH.nil
    go_simp
    (with_reducible refine (CI1.out).mono ?_)
    rintro e wx ⟨vI, qsI, rfl, hr9, hl9, k3⟩
    show K _ _
    clear hHeld
    have HRI := kept hr9
    have HLI := kept hl9
    have l0x := k3.cellOf l0
    have l1x := k3.cellOf l1
    have l2x := k3.cellOf l2
    clear l0 l1 l2
    have l0 := l0x
    have l1 := l1x
    have l2 := l2x
    clear l0x l1x l2x
    have Blx := kept (Bl.out.keep k3 (by simp))
    have HKx := kept (HK.out.and_then k3)
    clear k3 hr9 hl9 Bl HK
    have Bl := Blx
    have HK := HKx
    clear Blx HKx
    obtain ⟨wq, hwq⟩ : ∃ wq : World, wq = wx := ⟨_, rfl⟩
    subst hwq
    have CO1 := kept (COU2.out _ (HT.out.keep HK.out) (HF.out.keep HK.out))
    refine hK.out _ _ ?bhS1 (fun hHeld => ?_)
    case bhS1 => exact ⟨l0, l1, l2⟩
    clear hK K
    try simp only [Act.put, List.setIfInBounds_toArray, List.set_cons_zero, List.set_cons_succ]
    refine wpAnyH_ready (rs := [3]) (by kernel_rfl) (by simp) ?_
    refine AllReadyH.cons (o := { dst := some 20, op := Op.call { callee := Callee.value (Operand.func 30), args := #[Operand.tmp 19], argTypes := #[26] }, type := 72, pos := "law.go:26", after := #[{ on := 2, ground := Ground.data }, { on := 1, ground := Ground.chain }], guard := none }) rfl (fun K hK => ?_) AllReadyH.nil
    go_simp
    (with_reducible refine (CO1.out).mono ?_)
    rintro e wx ⟨vO, qsO, rfl, hr9, hl9, k3⟩
    show K _ _
    clear hHeld
    have HRO := kept hr9
    have HLO := kept hl9
    have l0x := k3.cellOf l0
    have l1x := k3.cellOf l1
    have l2x := k3.cellOf l2
    clear l0 l1 l2
    have l0 := l0x
    have l1 := l1x
    have l2 := l2x
    clear l0x l1x l2x
    have Blx := kept (Bl.out.keep k3 (by simp))
    have HKx := kept (HK.out.and_then k3)
    have HRIx := kept (HRI.out.keep k3)
    clear HRI
    have HRI := HRIx
    clear HRIx
    clear k3 hr9 hl9 Bl HK
    have Bl := Blx
    have HK := HKx
    clear Blx HKx
    refine hK.out _ _ ?bhS3 (fun hHeld => ?_)
    case bhS3 => exact ⟨l0, l1, l2⟩
    clear hK K
    try simp only [Act.put, List.setIfInBounds_toArray, List.set_cons_zero, List.set_cons_succ]
    refine wpAnyH_take (i := 4) (oi := { dst := some 3, op := Op.assign (Operand.tmp 18), type := 72, pos := "law.go:26", after := #[{ on := 1, ground := Ground.data }, { on := 3, ground := Ground.chain }, { on := 0, ground := Ground.phase }, { on := 1, ground := Ground.phase }, { on := 2, ground := Ground.textOnly Departure.lateStores }, { on := 3, ground := Ground.textOnly Departure.lateStoresUnsure }], guard := none }) (v := ?bv4) rfl (by kernel_rfl) (by kernel_rfl) (by kernel_rfl) (fun _ _ _ h => h) (Or.inl ⟨by rfl, ?by4⟩) hHeld ?br4
    case by4 => (intro w hSw; (try dsimp only at hSw); go_simp; (try with_reducible rfl))
    try simp only [Act.put, List.setIfInBounds_toArray, List.set_cons_zero, List.set_cons_succ]
    refine wpAnyH_take (i := 5) (oi := { dst := some 4, op := Op.assign (Operand.tmp 20), type := 72, pos := "law.go:26", after := #[{ on := 3, ground := Ground.data }, { on := 4, ground := Ground.chain }, { on := 0, ground := Ground.phase }, { on := 1, ground := Ground.phase }, { on := 2, ground := Ground.phase }, { on := 3, ground := Ground.phase }, { on := 4, ground := Ground.phase }], guard := none }) (v := ?bv5) rfl (by kernel_rfl) (by kernel_rfl) (by kernel_rfl) (fun _ _ _ h => h) (Or.inl ⟨by rfl, ?by5⟩) hHeld ?br5
    case by5 => (intro w hSw; (try dsimp only at hSw); go_simp; (try with_reducible rfl))
    try simp only [Act.put, List.setIfInBounds_toArray, List.set_cons_zero, List.set_cons_succ]
    refine wpAnyH_done (by kernel_rfl) ?_ _
    clear hHeld
    obtain ⟨wb, hwb⟩ : ∃ wb : World, wb = wx := ⟨_, rfl⟩
    subst hwb
    clear CIN2 COU2 CI1 CO1
    cases hSS : (shapedB f && slotB f) with
    | false =>
      as_aux_lemma =>
        rw [hSS] at CSL HIL HOL
        have HE : Hid (atL f 0 0 = []) := HAO.out (fun h => by rw [hSS] at h; cases h.1)
        have eI : qsI.map Prod.snd = [] := by rw [HLI.out, HIL.out]; rfl
        have eO : qsO.map Prod.snd = [] := by rw [HLO.out, HOL.out]; rfl
        obtain ⟨ai, ci, rfl⟩ := rows_empty HRI.out eI
        obtain ⟨ao, co, rfl⟩ := rows_empty HRO.out eO
        clear eI eO HRI HRO HLI HLO HIL HOL hSS
        go_wp2_with (first | (go_at_call 21; refine (CSL.out _ (HT.out.keep HK.out).tabs (HF.out.keep HK.out)).mono ?_; rintro e w7 ⟨rfl, k3⟩; clear l0 l1 l2; have Blx := kept (Bl.out.keep k3 (by simp)); have HKx := kept (HK.out.and_then k3); clear Bl HK; have Bl := Blx; have HK := HKx; clear Blx HKx; have l0 := Bl.out.cell 0; have l1 := Bl.out.cell 1; have l2 := Bl.out.cell 2; simp at l0 l1 l2; clear k3) | (go_at_call 22; refine (CAT2.out _ (HT.out.keep HK.out) (HF.out.keep HK.out)).mono ?_; rintro e w8 ⟨⟨⟨qv, ql⟩, rfl, hql, hqi⟩, k3⟩; have hq0 : ql = [] := (show ql = atL f 0 0 from hql).trans HE.out; subst hq0; obtain ⟨qa0, qc0, qe0, -, hqm, -⟩ := IntsAt.open_ hqi; simp only at qe0; subst qe0; clear hql hqi hqm; dsimp only; clear l0 l1 l2; have Blx := kept (Bl.out.keep k3 (by simp)); have HKx := kept (HK.out.and_then k3); clear Bl HK; have Bl := Blx; have HK := HKx; clear Blx HKx; have l0 := Bl.out.cell 0; have l1 := Bl.out.cell 1; have l2 := Bl.out.cell 2; simp at l0 l1 l2; clear k3) | fail)
        go_ret
        exact ⟨rfl, HK.out⟩
    | true =>
      as_aux_lemma =>
        rw [hSS] at CSL HIL HOL
        have HS9 := kept hSS
        have hnb0 := HNB0.out HQ9.out HS9.out
        have eI : qsI.map Prod.snd = (List.range f.nb).map (fun b => liveL f b 0) := by rw [HLI.out, HIL.out]; rfl
        have eO : qsO.map Prod.snd = (List.range f.nb).map (outL f) := by rw [HLO.out, HOL.out]; rfl
        have hlI := rows_len eI
        have hlO := rows_len eO
        have HBI := kept (fun b (hb : b < f.nb) => rows_bang eI hb)
        have HBO := kept (fun b (hb : b < f.nb) => rows_bang eO hb)
        obtain ⟨ai, ci, rfl, hcI⟩ := rows_open HRI.out
        obtain ⟨ao, co, rfl, hcO⟩ := rows_open HRO.out
        rw [hlI] at hcI ⊢
        rw [hlO] at hcO ⊢
        obtain ⟨gI, oI, rfl, -, -⟩ := hcI 0 hnb0
        obtain ⟨gO, oO, rfl, -, -⟩ := hcO 0 hnb0
        have HCI := kept hcI
        have HCO := kept hcO
        have CLV2 := kept (CLV.out HQ9.out HS9.out)
        have COV2 := kept (COV.out HQ9.out HS9.out)
        clear eI eO hlI hlO hcI hcO HRI HRO HLI HLO HIL HOL hSS CLV COV CAT2 HAO
        have HLD := kept (fun b => (show liveL f b 0 = natI ((List.range f.nv).filter fun v => liveB f.blk v b 0) from rfl))
        have HOD := kept (fun b => (show outL f b = natI ((List.range f.nv).filter fun v => outB f.blk v b) from rfl))
        have CSLb := kept (CSL.out _ (HT.out.keep HK.out).tabs (HF.out.keep HK.out))
        go_upto_region 8 with (first | (go_at_call 21; refine (CSLb.out).mono ?_; rintro e w7 ⟨rfl, k3⟩; have KQ := kept k3; clear l0 l1 l2; have Blx := kept (Bl.out.keep k3 (by simp)); have HKx := kept (HK.out.and_then k3); clear Bl HK; have Bl := Blx; have HK := HKx; clear Blx HKx; have l0 := Bl.out.cell 0; have l1 := Bl.out.cell 1; have l2 := Bl.out.cell 2; simp at l0 l1 l2; clear k3) | fail)
        obtain ⟨wf, hwf⟩ : ∃ wf : World, wf = w7 := ⟨_, rfl⟩
        subst hwf
        clear l0 l1 l2
        have Bl_wf := Bl
        have Twf := HK
        clear HK
        have HK := kept (Keeps.refl wf [])
        have l0 := Bl.out.cell 0
        have l1 := Bl.out.cell 1
        have l2 := Bl.out.cell 2
        simp at l0 l1 l2
        go_wp2
        go_loopw [55] (fun i wr => ∃ b : Nat, b ≤ f.nb ∧ i = .int .i64 b ∧ Keeps wf wr []) (fun i _ => f.nb - (intOf i).toNat)
        case atStart => exact ⟨0, Nat.zero_le _, rfl, HK.out⟩
        case round =>
          obtain ⟨b, hb, rfl, hr⟩ := hrel
          obtain ⟨wo, hwo⟩ : ∃ wo : World, wo = wr := ⟨_, rfl⟩
          subst hwo
          clear l0 l1 l2
          clear Bl HK
          have HK := kept hr
          have Bl := kept (Bl_wf.out.keep hr (by simp))
          clear hr
          have l0 := Bl.out.cell 0
          have l1 := Bl.out.cell 1
          have l2 := Bl.out.cell 2
          simp at l0 l1 l2
          by_cases hlt : b < f.nb
          · as_aux_lemma =>
              have hltz : (b : Int) < (f.nb : Int) := by omega
              obtain ⟨b1, o1, e1, hI1, hI2⟩ := HCI.out b hlt
              simp only [Option.some.injEq, Addr.mk.injEq, and_true] at e1
              obtain ⟨rfl, rfl⟩ := e1
              obtain ⟨b1, o1, e1, hO1, hO2⟩ := HCO.out b hlt
              simp only [Option.some.injEq, Addr.mk.injEq, and_true] at e1
              obtain ⟨rfl, rfl⟩ := e1
              have hbI := HBI.out b hlt
              have hbO := HBO.out b hlt
              rw [HLD.out b] at hbI
              rw [HOD.out b] at hbO
              have CLb := kept (fun (v : Nat) (hv : v < f.nv) => CLV2.out v b hlt (by omega))
              have COb := kept (fun (v : Nat) (hv : v < f.nv) => COV2.out v b hlt (by omega))
              generalize hPP : (fun v => liveB f.blk v b 0) = P at *
              have HPv := kept (fun v => show liveB f.blk v b 0 = P v from congrFun hPP v)
              generalize hQQ : (fun v => outB f.blk v b) = Q at *
              have HQv := kept (fun v => show outB f.blk v b = Q v from congrFun hQQ v)
              clear hPP hQQ
              generalize (qsI[b]! : IntsM) = qI at *
              generalize (qsO[b]! : IntsM) = qO at *
              obtain ⟨qIv, lI⟩ := qI
              obtain ⟨qOv, lO⟩ := qO
              simp only at hI1 hO1 hbI hbO
              obtain ⟨uI, xI, eIv, -, -, -⟩ := IntsAt.open_ hI2
              simp only at eIv
              subst eIv
              obtain ⟨uO, xO, eOv, -, -, -⟩ := IntsAt.open_ hO2
              simp only at eOv
              subst eOv
              have HI1 := kept hI1
              have HO1 := kept hO1
              have HI2 := kept hI2
              have HO2 := kept hO2
              have HbI := kept hbI
              have HbO := kept hbO
              have hlI : lI.length = cntP P f.nv := by rw [hbI, filt_len]
              have hlO : lO.length = cntP Q f.nv := by rw [hbO, filt_len]
              have HlI := kept hlI
              have HlO := kept hlO
              have hlI2 : lI.length ≤ 100 := by rw [hlI]; have := cntP_le P f.nv; omega
              have hlO2 : lO.length ≤ 100 := by rw [hlO]; have := cntP_le Q f.nv; omega
              clear hI1 hO1 hI2 hO2 hbI hbO hlI hlO
              have HI1f := kept (KQ.out.cellOf HI1.out)
              have HO1f := kept (KQ.out.cellOf HO1.out)
              have i0 := HK.out.cellOf HI1f.out
              have j0 := HK.out.cellOf HO1f.out
              go_wp2
              go_loopw [6, 7, 61] (fun a c i wr => ∃ v : Nat, v ≤ f.nv ∧ i = .int .i64 v ∧ a = .int .i64 (cntP P v : Nat) ∧ c = .int .i64 (cntP Q v : Nat) ∧ Keeps wf wr []) (fun _ _ i _ => f.nv - (intOf i).toNat)
              case atStart => exact ⟨0, Nat.zero_le _, rfl, rfl, rfl, HK.out⟩
              case round =>
                obtain ⟨v, hv, rfl, rfl, rfl, hr⟩ := hrel
                clear l0 l1 l2
                clear Bl HK
                have HK := kept hr
                have Bl := kept (Bl_wf.out.keep hr (by simp))
                clear hr
                have l0 := Bl.out.cell 0
                have l1 := Bl.out.cell 1
                have l2 := Bl.out.cell 2
                simp at l0 l1 l2
                have i0 := HK.out.cellOf HI1f.out
                have j0 := HK.out.cellOf HO1f.out
                by_cases hltv : v < f.nv
                · have hltvz : (v : Int) < (f.nv : Int) := by omega
                  have HCS := kept (cntP_succ P v)
                  have HCT := kept (cntP_succ Q v)
                  have hclP := cntP_le P v
                  have hclQ := cntP_le Q v
                  have CLv := kept (CLb.out v hltv)
                  rw [HPv.out v] at CLv
                  have COv := kept (COb.out v hltv)
                  rw [HQv.out v] at COv
                  have HFA := kept (fun h => filt_at (P := P) hltv h)
                  rw [← HbI.out] at HFA
                  have HFO := kept (fun h => filt_at (P := Q) hltv h)
                  rw [← HbO.out] at HFO
                  have hvv : ((v : Int) != (v : Int)) = false := by simp
                  cases hPI : P v with
                  | false =>
                    cases hPO : Q v with
                    | false =>
                      as_aux_lemma =>
                        rw [hPI] at CLv HCS
                        rw [hPO] at COv HCT
                        clear hPI hPO HFA HFO
                        generalize cntP P v = cP at *
                        generalize cntP Q v = cQ at *
                        go_wp2_with (first | (go_at_call 23; refine (CLv.out _ (HF.out.keep (Twf.out.and_then HK.out))).mono ?_; rintro e w9 ⟨rfl, k3⟩; clear i0 j0; clear l0 l1 l2; have Blx := kept (Bl.out.keep k3 (by simp)); have HKx := kept (HK.out.and_then k3); clear Bl HK; have Bl := Blx; have HK := HKx; clear Blx HKx; have l0 := Bl.out.cell 0; have l1 := Bl.out.cell 1; have l2 := Bl.out.cell 2; simp at l0 l1 l2; clear k3; have i0 := HK.out.cellOf HI1f.out; have j0 := HK.out.cellOf HO1f.out) | (go_at_call 31; refine (COv.out _ (HF.out.keep (Twf.out.and_then HK.out))).mono ?_; rintro e wA ⟨rfl, k3⟩; clear i0 j0; clear l0 l1 l2; have Blx := kept (Bl.out.keep k3 (by simp)); have HKx := kept (HK.out.and_then k3); clear Bl HK; have Bl := Blx; have HK := HKx; clear Blx HKx; have l0 := Bl.out.cell 0; have l1 := Bl.out.cell 1; have l2 := Bl.out.cell 2; simp at l0 l1 l2; clear k3; have i0 := HK.out.cellOf HI1f.out; have j0 := HK.out.cellOf HO1f.out) | fail)
                        go_roundw
                        case rel => exact ⟨v + 1, by omega, by go_num, by rw [HCS.out]; go_num, by rw [HCT.out]; go_num, HK.out⟩
                        case measure => simp [intOf] <;> omega
                    | true =>
                      as_aux_lemma =>
                        have hfaO := HFO.out hPO
                        obtain ⟨qa1, qc1, qe1, -, -, hqh⟩ := IntsAt.open_ HO2.out
                        simp only [Value.slice.injEq] at qe1
                        obtain ⟨rfl, -, rfl⟩ := qe1
                        rcases hqh with hqh | ⟨raO, roO, rfl, -, hra⟩
                        · exfalso; have := hfaO.1; simp only at hqh; omega
                        have ob := hra (cntP Q v) hfaO.1
                        simp only at ob
                        rw [hfaO.2] at ob
                        have HEO := kept (KQ.out.cellOf ob)
                        have hcqO : ((cntP Q v : Nat) : Int) < (lO.length : Int) := by have := hfaO.1; omega
                        clear hra ob hfaO
                        have zO := HK.out.cellOf HEO.out
                        rw [hPI] at CLv HCS
                        rw [hPO] at COv HCT
                        clear hPI hPO HFA HFO
                        generalize cntP P v = cP at *
                        generalize cntP Q v = cQ at *
                        go_wp2_with (first | (go_at_call 23; refine (CLv.out _ (HF.out.keep (Twf.out.and_then HK.out))).mono ?_; rintro e w9 ⟨rfl, k3⟩; clear i0 j0 zO; clear l0 l1 l2; have Blx := kept (Bl.out.keep k3 (by simp)); have HKx := kept (HK.out.and_then k3); clear Bl HK; have Bl := Blx; have HK := HKx; clear Blx HKx; have l0 := Bl.out.cell 0; have l1 := Bl.out.cell 1; have l2 := Bl.out.cell 2; simp at l0 l1 l2; clear k3; have i0 := HK.out.cellOf HI1f.out; have j0 := HK.out.cellOf HO1f.out; have zO := HK.out.cellOf HEO.out) | (go_at_call 31; refine (COv.out _ (HF.out.keep (Twf.out.and_then HK.out))).mono ?_; rintro e wA ⟨rfl, k3⟩; clear i0 j0 zO; clear l0 l1 l2; have Blx := kept (Bl.out.keep k3 (by simp)); have HKx := kept (HK.out.and_then k3); clear Bl HK; have Bl := Blx; have HK := HKx; clear Blx HKx; have l0 := Bl.out.cell 0; have l1 := Bl.out.cell 1; have l2 := Bl.out.cell 2; simp at l0 l1 l2; clear k3; have i0 := HK.out.cellOf HI1f.out; have j0 := HK.out.cellOf HO1f.out; have zO := HK.out.cellOf HEO.out) | fail)
                        go_roundw
                        case rel => exact ⟨v + 1, by omega, by go_num, by rw [HCS.out]; go_num, by rw [HCT.out]; go_num, HK.out⟩
                        case measure => simp [intOf] <;> omega
                  | true =>
                    cases hPO : Q v with
                    | false =>
                      as_aux_lemma =>
                        have hfaI := HFA.out hPI
                        obtain ⟨qa1, qc1, qe1, -, -, hqh⟩ := IntsAt.open_ HI2.out
                        simp only [Value.slice.injEq] at qe1
                        obtain ⟨rfl, -, rfl⟩ := qe1
                        rcases hqh with hqh | ⟨raI, roI, rfl, -, hra⟩
                        · exfalso; have := hfaI.1; simp only at hqh; omega
                        have ob := hra (cntP P v) hfaI.1
                        simp only at ob
                        rw [hfaI.2] at ob
                        have HEI := kept (KQ.out.cellOf ob)
                        have hcqI : ((cntP P v : Nat) : Int) < (lI.length : Int) := by have := hfaI.1; omega
                        clear hra ob hfaI
                        have zI := HK.out.cellOf HEI.out
                        rw [hPI] at CLv HCS
                        rw [hPO] at COv HCT
                        clear hPI hPO HFA HFO
                        generalize cntP P v = cP at *
                        generalize cntP Q v = cQ at *
                        go_wp2_with (first | (go_at_call 23; refine (CLv.out _ (HF.out.keep (Twf.out.and_then HK.out))).mono ?_; rintro e w9 ⟨rfl, k3⟩; clear i0 j0 zI; clear l0 l1 l2; have Blx := kept (Bl.out.keep k3 (by simp)); have HKx := kept (HK.out.and_then k3); clear Bl HK; have Bl := Blx; have HK := HKx; clear Blx HKx; have l0 := Bl.out.cell 0; have l1 := Bl.out.cell 1; have l2 := Bl.out.cell 2; simp at l0 l1 l2; clear k3; have i0 := HK.out.cellOf HI1f.out; have j0 := HK.out.cellOf HO1f.out; have zI := HK.out.cellOf HEI.out) | (go_at_call 31; refine (COv.out _ (HF.out.keep (Twf.out.and_then HK.out))).mono ?_; rintro e wA ⟨rfl, k3⟩; clear i0 j0 zI; clear l0 l1 l2; have Blx := kept (Bl.out.keep k3 (by simp)); have HKx := kept (HK.out.and_then k3); clear Bl HK; have Bl := Blx; have HK := HKx; clear Blx HKx; have l0 := Bl.out.cell 0; have l1 := Bl.out.cell 1; have l2 := Bl.out.cell 2; simp at l0 l1 l2; clear k3; have i0 := HK.out.cellOf HI1f.out; have j0 := HK.out.cellOf HO1f.out; have zI := HK.out.cellOf HEI.out) | fail)
                        go_roundw
                        case rel => exact ⟨v + 1, by omega, by go_num, by rw [HCS.out]; go_num, by rw [HCT.out]; go_num, HK.out⟩
                        case measure => simp [intOf] <;> omega
                    | true =>
                      as_aux_lemma =>
                        have hfaI := HFA.out hPI
                        obtain ⟨qa1, qc1, qe1, -, -, hqh⟩ := IntsAt.open_ HI2.out
                        simp only [Value.slice.injEq] at qe1
                        obtain ⟨rfl, -, rfl⟩ := qe1
                        rcases hqh with hqh | ⟨raI, roI, rfl, -, hra⟩
                        · exfalso; have := hfaI.1; simp only at hqh; omega
                        have ob := hra (cntP P v) hfaI.1
                        simp only at ob
                        rw [hfaI.2] at ob
                        have HEI := kept (KQ.out.cellOf ob)
                        have hcqI : ((cntP P v : Nat) : Int) < (lI.length : Int) := by have := hfaI.1; omega
                        clear hra ob hfaI
                        have zI := HK.out.cellOf HEI.out
                        have hfaO := HFO.out hPO
                        obtain ⟨qa1, qc1, qe1, -, -, hqh⟩ := IntsAt.open_ HO2.out
                        simp only [Value.slice.injEq] at qe1
                        obtain ⟨rfl, -, rfl⟩ := qe1
                        rcases hqh with hqh | ⟨raO, roO, rfl, -, hra⟩
                        · exfalso; have := hfaO.1; simp only at hqh; omega
                        have ob := hra (cntP Q v) hfaO.1
                        simp only at ob
                        rw [hfaO.2] at ob
                        have HEO := kept (KQ.out.cellOf ob)
                        have hcqO : ((cntP Q v : Nat) : Int) < (lO.length : Int) := by have := hfaO.1; omega
                        clear hra ob hfaO
                        have zO := HK.out.cellOf HEO.out
                        rw [hPI] at CLv HCS
                        rw [hPO] at COv HCT
                        clear hPI hPO HFA HFO
                        generalize cntP P v = cP at *
                        generalize cntP Q v = cQ at *
                        go_wp2_with (first | (go_at_call 23; refine (CLv.out _ (HF.out.keep (Twf.out.and_then HK.out))).mono ?_; rintro e w9 ⟨rfl, k3⟩; clear i0 j0 zI zO; clear l0 l1 l2; have Blx := kept (Bl.out.keep k3 (by simp)); have HKx := kept (HK.out.and_then k3); clear Bl HK; have Bl := Blx; have HK := HKx; clear Blx HKx; have l0 := Bl.out.cell 0; have l1 := Bl.out.cell 1; have l2 := Bl.out.cell 2; simp at l0 l1 l2; clear k3; have i0 := HK.out.cellOf HI1f.out; have j0 := HK.out.cellOf HO1f.out; have zI := HK.out.cellOf HEI.out; have zO := HK.out.cellOf HEO.out) | (go_at_call 31; refine (COv.out _ (HF.out.keep (Twf.out.and_then HK.out))).mono ?_; rintro e wA ⟨rfl, k3⟩; clear i0 j0 zI zO; clear l0 l1 l2; have Blx := kept (Bl.out.keep k3 (by simp)); have HKx := kept (HK.out.and_then k3); clear Bl HK; have Bl := Blx; have HK := HKx; clear Blx HKx; have l0 := Bl.out.cell 0; have l1 := Bl.out.cell 1; have l2 := Bl.out.cell 2; simp at l0 l1 l2; clear k3; have i0 := HK.out.cellOf HI1f.out; have j0 := HK.out.cellOf HO1f.out; have zI := HK.out.cellOf HEI.out; have zO := HK.out.cellOf HEO.out) | fail)
                        go_roundw
                        case rel => exact ⟨v + 1, by omega, by go_num, by rw [HCS.out]; go_num, by rw [HCT.out]; go_num, HK.out⟩
                        case measure => simp [intOf] <;> omega
                · have hltvz : ¬ (v : Int) < (f.nv : Int) := by omega
                  obtain rfl : f.nv = v := by omega
                  rw [← HlI.out, ← HlO.out]
                  have hii : ((lI.length : Int) != (lI.length : Int)) = false := by simp
                  have hoo : ((lO.length : Int) != (lO.length : Int)) = false := by simp
                  go_wp2
                  go_roundw
                  case rel => exact ⟨b + 1, by omega, by go_num, HK.out⟩
                  case measure => simp [intOf] <;> omega
          · have hltz : ¬ (b : Int) < (f.nb : Int) := by omega
            obtain rfl : f.nb = b := by omega
            go_wp2
            go_ret
            exact ⟨rfl, (Twf.out.and_then HK.out)⟩
end Go.Proofs.YtjllbchfojonhaaDoor
