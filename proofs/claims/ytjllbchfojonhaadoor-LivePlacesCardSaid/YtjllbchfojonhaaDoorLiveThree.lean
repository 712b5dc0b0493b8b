/- What is live, as lists; lists of sets; contract. ; live.At, In, Out; contracts. ; A row of numbers that is taken from the front and appended to: law. ; Is a variable live, by the document; contract. ; What is live behind an end, by the document; the chapter's example; contracts. ; What is live behind an end, by the document; is a program little and a slot program; contracts. ; A little program, exactly; contract. ; The law 'LivePlaces': the walk. -/
import Derived.Test.YtjllbchfojonhaaDoorLiveTwo
import Derived.Test.YtjllbchfojonhaaDoorLiveOne
import Derived.Test.YtjllbchfojonhaaDoorTypC
import Derived.Test.YtjllbchfojonhaaDoorRefTy
import Derived.Deep.CutBlock
import Derived.Deep.Cut
import Derived.Deep.CutRange
import Derived.ArgAppend
import Derived.Deep.LoopGhost
import Derived.Test.YtjllbchfojonhaaDoorLives6
import Derived.Test.YtjllbchfojonhaaDoorFew
import Derived.Test.YtjllbchfojonhaaDoorSlotL
namespace Go.Proofs.YtjllbchfojonhaaDoor
open Go.RowKit Go.Shelf Go.Lib
set_option linter.unusedVariables false
set_option linter.unusedSimpArgs false

theorem inst_inn {f : FuncM} {x : InstM} (h : instB f x = true) : InstIn f.nv x ∧ x.args.2.length ≤ 100 := by
  obtain ⟨h0, hl, ha, hd⟩ := inst_parts h
  refine ⟨⟨fun v hv => ?_, ?_⟩, ?_⟩
  · have := ha v hv
    unfold inB at this
    simpa using this
  · cases hm : mk1 x.op with
    | true =>
      have := hd hm
      unfold inB at this
      simp at this
      exact this.2
    | false =>
      unfold instB at h
      simp only [Bool.and_eq_true, hm] at h
      have h2 := h.1.2
      simp at h2
      rw [h2]; omega
  · rw [hl]
    have := (takes_small x.op.toNat (by omega)).1
    exact this
theorem live_p {f : FuncM} (hS : shapedB f = true) (hfew : FewP f) : LiveP f := by
  have hb := shaped_blocks hS
  have hnb : 1 ≤ f.nb := by
    unfold shapedB namesB at hS
    simp only [Bool.and_eq_true, decide_eq_true_eq] at hS
    omega
  refine ⟨by have := hfew.nv; omega, by omega, by have := hfew.nb; omega, fun b hlt => ?_⟩
  have hm : f.blocks.2[b]! ∈ f.blocks.2 := bang_mem hlt
  obtain ⟨h1, h2, h3⟩ := hb _ hm
  have hf := hfew.block _ hm
  generalize f.blocks.2[b]! = y at *
  refine ⟨⟨fun x hx => (inst_inn (h2 x hx)).1, fun hk => ?_⟩, fun x hx => by have := (inst_inn (h2 x hx)).2; omega, by omega, fun z hz => ?_⟩
  · have := term_var h3 hk
    unfold inB at this
    simpa using this
  · unfold termB at h3
    unfold endsM at hz
    by_cases h0 : y.kind = 0
    · rw [if_pos h0] at h3 hz
      simp only [Bool.and_eq_true] at h3
      have := h3.1.1
      unfold inB at this
      simp at this hz
      rw [hz]; omega
    · rw [if_neg h0] at h3 hz
      by_cases h1 : y.kind = 1
      · rw [if_pos h1] at h3 hz
        simp only [Bool.and_eq_true] at h3
        have ha := h3.1.2
        have hc := h3.2
        unfold inB at ha hc
        simp at ha hc
        split at hz
        · simp at hz; rw [hz]; omega
        · simp at hz
          rcases hz with rfl | rfl <;> omega
      · rw [if_neg h1] at hz; cases hz
theorem list_filter {ws : List Nat} {n : Nat} {P : Nat → Bool} (hn : n ≤ 64 * ws.length) (h1 : ∀ v, v < n → bitB ws v = P v) (h2 : ∀ v, n ≤ v → bitB ws v = false) : listB ws = (List.range n).filter P := by
  unfold listB
  obtain ⟨d, hd⟩ := Nat.le.dest hn
  rw [← hd, List.range_add, List.filter_append]
  have e1 : (List.range n).filter (bitB ws) = (List.range n).filter P := List.filter_congr (fun v hv => h1 v (List.mem_range.1 hv))
  have e2 : ((List.range d).map (n + ·)).filter (bitB ws) = [] := by
    rw [List.filter_eq_nil_iff]
    intro v hv
    obtain ⟨k, _, rfl⟩ := List.mem_map.1 hv
    rw [h2 _ (Nat.le_add_right _ _)]; exact Bool.false_ne_true
  rw [e1, e2, List.append_nil]
/-- what is live at a place, behind a block: rising -/
noncomputable def liveL (f : FuncM) (b p : Nat) : List Int := natI ((List.range f.nv).filter fun v => liveB f.blk v b p)
noncomputable def outL (f : FuncM) (b : Nat) : List Int := natI ((List.range f.nv).filter fun v => outB f.blk v b)
section
variable {f : FuncM} {I O : List (List Nat)}
theorem out_list (hp : LiveP f) (hI : FlowInv f.blk f.nb f.nv I O) (hF : FlowFix f.blk f.nb I O 0) {b : Nat} (hb : b < f.nb) : natI (listB O[b]!) = outL f b := by
  unfold outL
  congr 1
  refine list_filter (by rw [(hI.ow b hb).1]; omega) (fun v hv => ?_) (fun v hv => ?_)
  · rw [Bool.eq_iff_iff, outB_iff]
    exact (flow_done hI hp.succ hp.bin hF v hv).2 b hb
  · cases h : bitB O[b]! v with
    | false => rfl
    | true =>
      exfalso
      have h2 := hI.olive b hb v h
      obtain ⟨c, hc, hl⟩ := h2
      have hcl : c < f.nb := hp.succ b hb c hc
      have : ∀ c, LiveIn (gOf f.blk v) (sOf f.blk) c → c < f.nb → False := by
        intro c hc
        induction hc with
        | @here b h =>
          intro hlt
          have := thr_over (hp.bin b hlt) hv 0
          unfold gOf at h
          omega
        | @on b c h1 h2 h3 ih => intro hlt; exact ih (hp.succ b hlt c h2)
      exact this c hl hcl
theorem bit_no (hp : LiveP f) {b : Nat} (hb : b < f.nb) {ws : List Nat} (hl : ws.length = (f.nv + 63) / 64) (place v : Nat) (hv : f.nv ≤ v) (hw : bitB ws v = false) : bitB (backW (f.blk b) ws place) v = false := by
  cases h : bitB (backW (f.blk b) ws place) v with
  | false => rfl
  | true =>
    exfalso
    rw [back_live (hp.bin b hb) hl] at h
    have := thr_over (hp.bin b hb) hv place
    rcases h.2 with h2 | h2
    · omega
    · rw [hw] at h2; cases h2.2
theorem over_bits (hp : LiveP f) (hI : FlowInv f.blk f.nb f.nv I O) {b : Nat} (hb : b < f.nb) {v : Nat} (hv : f.nv ≤ v) : bitB O[b]! v = false := by
  cases h : bitB O[b]! v with
  | false => rfl
  | true =>
    exfalso
    obtain ⟨c, hc, hl⟩ := hI.olive b hb v h
    have : ∀ c, LiveIn (gOf f.blk v) (sOf f.blk) c → c < f.nb → False := by
      intro c hc
      induction hc with
      | @here b h =>
        intro hlt
        have := thr_over (hp.bin b hlt) hv 0
        unfold gOf at h
        omega
      | @on b c h1 h2 h3 ih => intro hlt; exact ih (hp.succ b hlt c h2)
    exact this c hl (hp.succ b hb c hc)
theorem back_list (hp : LiveP f) (hI : FlowInv f.blk f.nb f.nv I O) (hF : FlowFix f.blk f.nb I O 0) {b : Nat} (hb : b < f.nb) (place : Nat) : natI (listB (backW (f.blk b) O[b]! place)) = liveL f b place := by
  unfold liveL
  congr 1
  have hl := (hI.ow b hb).1
  refine list_filter (by rw [backW_len, hl]; omega) (fun v hv => ?_) (fun v hv => bit_no hp hb hl place v hv (over_bits hp hI hb hv))
  rw [Bool.eq_iff_iff, back_live (hp.bin b hb) hl, liveB_iff, (flow_done hI hp.succ hp.bin hF v hv).2 b hb]
  exact ⟨fun h => h.2, fun h => ⟨by omega, h⟩⟩
theorem in_list (hp : LiveP f) (hI : FlowInv f.blk f.nb f.nv I O) (hF : FlowFix f.blk f.nb I O 0) {b : Nat} (hb : b < f.nb) : natI (listB I[b]!) = liveL f b 0 := by
  rw [(hF b (Nat.zero_le _) hb).1]
  exact back_list hp hI hF hb 0
end
def RowsAt (w : World) (v : Value) (qs : List IntsM) : Prop := Row w 1 v (qs.map fun q => [q.1]) ∧ ∀ q ∈ qs, IntsAt w q
theorem RowsAt.keep {w w' : World} {v : Value} {qs : List IntsM} (h : RowsAt w v qs) (k : Keeps w w' []) : RowsAt w' v qs := ⟨Row.keep h.1 k, fun q hq => Row.keep (h.2 q hq) k⟩
def RowsRet (w : World) (ls : List (List Int)) (e : Ending) (w' : World) : Prop := ∃ v qs, e = .returned v ∧ RowsAt w' v qs ∧ qs.map Prod.snd = ls ∧ Keeps w w' []
theorem info23 : (Tryd.prog.info? 23).map (fun i => (i.zero, i.size, i.bytes)) = some (some (.slice none 0 0), 1, 24) := by kernel_rfl
def setL (s : SetM) : List Int := natI (listB s.ws)
theorem own_one {w : World} {base n size : Nat} {e : TypeId} {v : Value} {xs : List Value} (h : w.ownsRow base e size v n xs) : Hid (v.oneCell' = true) := by
  obtain ⟨a, c, e1, -, -⟩ := own_form h
  rw [e1]
  exact kept rfl
def OwnQ (w : World) (base : Nat) (q : IntsM) : Prop := w.ownsRow base 3 1 q.1 q.2.length (q.2.map (Value.int .i64))
theorem OwnQ.append {W W3 : World} {base base2 : Nat} {v x : Value} {xs : List Value} {n : Nat} {q : IntsM} (h : OwnQ W base q) (hr : W.ownsRow base2 23 1 v n xs) (hg : (W.alloc (.cells #[x] 23)).grownBy W3 v.ownBlock) : OwnQ W3 base q := by
  refine World.ownsRow.kept (own_keep h ((Keeps.refl W []).alloc _) (by simp)) hg ?_
  cases e : q.1.ownBlock with
  | none => exact .inl rfl
  | some k => exact .inr (fun e2 => own_apart h hr (by decide) e e2.symm)

set_option maxRecDepth 100000 in
set_option maxHeartbeats 200000000 in
theorem lists_any (v : Value) (A : List SetM) (base m : Nat) (w : World) (ht : TabsL w) (hr : w.ownsRow base 97 1 v A.length (A.map (SetM.val m))) (hb : ∀ s ∈ A, SetOK w base m s ∧ WordsOK s.ws) (hm : m ≤ 1000) (hn : A.length ≤ 64) :
    Calls Tryd.prog 55 #[v] w fun e w' => RowsRet w (A.map setL) e w' := by
  obtain ⟨i23, hi23, he23⟩ := Option.map_eq_some_iff.1 info23
  simp only [Prod.mk.injEq] at he23
  obtain ⟨hz23, hs23, hb23⟩ := he23
  obtain ⟨va, vc, rfl, hvc1, hvc2⟩ := own_form hr
  have HT := kept ht
  have HR := kept hr
  have HB := kept hb
  have HTK := kept (show (A.take A.length).map setL = A.map setL by rw [List.take_length])
  clear ht hr hb
  generalize hN : A.length = n at *
  have HN := kept hN
  clear hN
  generalize A.map setL = FIN at *
  go_enter Tryd.func55, Tryd.ntmps55
  go_wp2
  go_loopw [3, 8] (fun o i wr => ∃ (k : Nat) (qs : List IntsM), k ≤ n ∧ i = .int .i64 k ∧ wr.ownsRow w.heap.size 23 1 o k (qs.map Prod.fst) ∧ (∀ q ∈ qs, OwnQ wr w.heap.size q) ∧ Hid (qs.map Prod.snd = (A.take k).map setL) ∧ Keeps w wr []) (fun _ i _ => n - (intOf i).toNat)
  case atStart => exact ⟨0, [], Nat.zero_le _, rfl, World.ownsRow_nil _ _ _ _, by simp, (show Hid _ from by show _ = _; simp), Keeps.refl _ _⟩
  case round =>
    obtain ⟨k, qs, hk, rfl, hO, hQ, HQS, hK⟩ := hrel
    have HO := kept hO
    have HQ := kept hQ
    have HK := kept hK
    obtain ⟨oa, oc, rfl, hoc1, hoc2⟩ := own_form hO
    clear hO hQ hK
    by_cases hlt : k < n
    · have hltz : (k : Int) < (n : Int) := by omega
      have hr2 := own_keep HR.out HK.out (by simp)
      obtain ⟨G, c1, e1, hG, -, -⟩ := own_some hr2 (by omega)
      obtain ⟨rfl, rfl⟩ : va = some ⟨G, 0, none⟩ ∧ vc = c1 := by simpa using e1
      clear e1
      have c0 := hr2.cellAt k (by omega)
      have hkA : k < A.length := by rw [HN.out]; exact hlt
      rw [List.getElem?_map, List.getElem?_eq_getElem hkA, ← getElem!_pos A k hkA] at c0
      simp only [Option.map_some, SetM.val] at c0
      have hsk := HB.out _ (bang_mem hkA)
      have HTS := kept (show (A.take (k + 1)).map setL = (A.take k).map setL ++ [setL A[k]!] by rw [List.take_succ_eq_append_getElem hkA, List.map_append, getElem!_pos A k hkA]; rfl)
      clear hr2 hkA
      generalize A[k]! = s at *
      have CL := kept (list_any s.tl s.ws s.g s.cap wr (HT.out.keep HK.out) (hsk.1.2.1.keep HK.out (by simp)) hsk.2 (by rw [hsk.1.2.2]; exact hm))
      rw [hsk.1.2.2] at CL
      have HSL := kept (show natI (listB s.ws) = setL s from rfl)
      rw [HSL.out] at CL
      clear hsk
      have hsz1 := HK.out.size
      have hkm : k + 1 ≤ maxLen := by unfold maxLen; omega
      go_wp2_with (first | (at_builtin; go_must (refine wpList_append_own _ rfl (.tmp 12) (.tmp 15) 72 rfl w.heap.size 23 i23 (.slice none 0 0) 1 24 Tryd.underlying72 hi23 hz23 hs23 hb23 rfl (by decide) _ _ _ rfl (HO.out.alloc _) ⟨w5.heap.size, 0, none⟩ 1 1 [.slice xa (setL s).length xc] rfl rfl (news_one _ _ _) (ones_one rfl) hkm (by omega) (by simp; omega) ?_); go_must (intro v' w3 hown' hgrow3 _; have HQ3 := kept (fun q hq => OwnQ.append (HQ.out q hq) HO.out hgrow3); have HV3 := kept (OwnQ.append HV5.out HO.out hgrow3); have HK3 := kept (keeps_append hgrow3 HO.out HK.out (Nat.le_refl _)); have HO3 := kept hown'; clear hgrow3 hown' HO HQ HK HV5)) | (go_at_call 49; go_must (refine (CL.out).mono ?_; rintro e w5 ⟨⟨v5, rfl, hv5⟩, k3⟩; obtain ⟨xa, xc, rfl, -, -⟩ := own_form hv5; have HV5 : Hid (OwnQ w5 w.heap.size (.slice xa (setL s).length xc, setL s)) := own_base_ hv5 hsz1; have HOx := kept (own_keep HO.out k3 (by simp)); have HQx := kept (fun q hq => (own_keep (HQ.out q hq) k3 (by simp) : OwnQ w5 w.heap.size q)); have HKx := kept (HK.out.and_then k3); have hsz2 := k3.size; clear HO HQ HK hv5 k3 CL c0; have HO := HOx; have HQ := HQx; have HK := HKx; clear HOx HQx HKx)))
      go_roundw
      case rel =>
        refine ⟨k + 1, qs ++ [(.slice xa (setL s).length xc, setL s)], by omega, by go_num, ?_, fun q hq => ?_, (show Hid _ from ?_), HK3.out⟩
        · rw [List.map_append]; exact HO3.out
        · rcases List.mem_append.1 hq with h1 | h1
          · exact HQ3.out q h1
          · rw [List.mem_singleton.1 h1]; exact HV3.out
        · rw [List.map_append, HQS.out]; exact HTS.out.symm
      case measure => simp [intOf] <;> omega
    · have hltz : ¬ (k : Int) < (n : Int) := by omega
      obtain rfl : n = k := by omega
      go_wp2
      go_ret
      refine ⟨.slice oa n oc, qs, rfl, ⟨?_, fun q hq => ints_row (HQ.out q hq)⟩, HQS.out.trans HTK.out, HK.out⟩
      have h9 := row_of_own HO.out
      rw [List.map_map] at h9
      exact h9
end Go.Proofs.YtjllbchfojonhaaDoor
namespace Go.Proofs.YtjllbchfojonhaaDoor
open Go.RowKit Go.Shelf Go.Lib
set_option linter.unusedVariables false
set_option linter.unusedSimpArgs false

def IntsRet (w : World) (l : List Int) (e : Ending) (w' : World) : Prop := (∃ q : IntsM, e = .returned q.1 ∧ q.2 = l ∧ IntsAt w' q) ∧ Keeps w w' []
theorem ints_nil (w : World) : IntsAt w (.slice none 0 0, []) := ⟨none, 0, rfl, Nat.le_refl _, Nat.zero_le _, .inl rfl⟩
theorem rows_nil (w : World) : RowsAt w (.slice none 0 0) [] := ⟨⟨none, 0, rfl, Nat.le_refl _, Nat.zero_le _, .inl rfl⟩, by simp⟩
def PlaceOK (f : FuncM) (b p : Int) : Prop := 0 ≤ b ∧ b < (f.nb : Int) ∧ 0 ≤ p ∧ p ≤ (f.blocks.2[b.toNat]!.insts.2.length : Int)
instance (f : FuncM) (b p : Int) : Decidable (PlaceOK f b p) := by unfold PlaceOK; infer_instance
noncomputable def atL (f : FuncM) (b p : Int) : List Int := if (shapedB f && slotB f) = true ∧ PlaceOK f b p then liveL f b.toNat p.toNat else []
theorem atL_no {f : FuncM} {b p : Int} (h : ¬ ((shapedB f && slotB f) = true ∧ PlaceOK f b p)) : atL f b p = [] := by unfold atL; rw [if_neg h]

set_option maxRecDepth 100000 in
set_option maxHeartbeats 200000000 in
theorem at22_any (f : FuncM) (b p : Int) (w : World) (ht : TabsL w) (hf : FuncAt w f) (hfew : FewP f) : Calls Tryd.prog 22 #[f.val, .int .i64 b, .int .i64 p] w fun e w' => IntsRet w (atL f b p) e w' := by
  obtain ⟨a0, c0, e0, -, -, hc0⟩ := hf.vars.open_
  obtain ⟨a1, c1, e1, -, -, hc1⟩ := (show Row w 1 f.params.1 (f.params.2.map intCells) from hf.params).open_
  obtain ⟨a2, c2, e2, -, -, hc2⟩ := hf.blocks.open_
  have hval : f.val = .agg #[.slice a0 f.nv c0, .slice a1 f.np c1, .slice a2 f.nb c2] := by unfold FuncM.val FuncM.nv FuncM.np FuncM.nb; rw [e0, e1, e2]
  have h1 : #[f.vars.1, f.params.1, f.blocks.1] = #[.slice a0 f.nv c0, .slice a1 f.np c1, .slice a2 f.nb c2] := by unfold FuncM.nv FuncM.np FuncM.nb; rw [e0, e1, e2]
  have HF := kept hf
  have HC0 := kept hc0
  have HC1 := kept hc1
  have HC2 := kept hc2
  have HNV := kept (show f.vars.2.length = f.nv from rfl)
  have HNP := kept (show f.params.2.length = f.np from rfl)
  have HNB := kept (show f.blocks.2.length = f.nb from rfl)
  have HTL := kept ht
  have HTT := kept ht.tabs
  have CS := kept (fun W h1 h2 => slotF_any f W h1 h2 hfew)
  have CF := kept (fun (hS : shapedB f = true) W (h : FuncAt W f) => flow_any f W h (live_p hS hfew))
  have HSE := kept (show slotE f = if (shapedB f && slotB f) = true then 0 else 3 from rfl)
  have HLP := kept (fun hS : shapedB f = true => live_p hS hfew)
  rw [hval] at CS CF ⊢
  clear e0 e1 e2 hval h1 hf hc0 hc1 hc2 HC0 HC1 ht
  have hnbF := hfew.nb
  have hnvF := hfew.nv
  have HFB := kept hfew.block
  have HNO := kept (fun h => atL_no (f := f) (b := b) (p := p) h)
  have HAT := kept (show atL f b p = if (shapedB f && slotB f) = true ∧ PlaceOK f b p then liveL f b.toNat p.toNat else [] from rfl)
  generalize atL f b p = R at *
  have HPD := kept (show PlaceOK f b p ↔ (0 ≤ b ∧ b < (f.nb : Int) ∧ 0 ≤ p ∧ p ≤ (f.blocks.2[b.toNat]!.insts.2.length : Int)) from Iff.rfl)
  have hk0 : Keeps w (w.alloc (.cells #[.slice a0 f.nv c0, .slice a1 f.np c1, .slice a2 f.nb c2] 26)) [] := (Keeps.refl _ []).alloc _
  have bb0 := Blk.new w 26 #[.slice a0 f.nv c0, .slice a1 f.np c1, .slice a2 f.nb c2]
  have Bl := kept bb0
  have HK := kept hk0
  have l0 := Bl.out.cell 0
  have l1 := Bl.out.cell 1
  have l2 := Bl.out.cell 2
  simp at l0 l1 l2
  clear hk0 bb0
  go_enter Tryd.func22, Tryd.ntmps22
  cases hSB : (shapedB f && slotB f) with
  | false =>
    have HSB := kept hSB
    rw [hSB] at HSE
    obtain hse : slotE f = 3 := by have := HSE.out; simpa using this
    rw [hse] at CS
    clear hse hSB HSE
    go_wp2_with (first | (go_at_call 15; refine (CS.out _ (HTT.out.keep HK.out) (HF.out.keep HK.out)).mono ?_; rintro e w3 ⟨rfl, k3⟩; clear l0 l1 l2; have Blx := kept (Bl.out.keep k3 (by simp)); have HKx := kept (HK.out.and_then k3); clear Bl HK; have Bl := Blx; have HK := HKx; clear Blx HKx; have l0 := Bl.out.cell 0; have l1 := Bl.out.cell 1; have l2 := Bl.out.cell 2; simp at l0 l1 l2; clear k3) | fail)
    go_ret
    exact ⟨⟨(.slice none 0 0, []), rfl, (HNO.out (fun h => by rw [HSB.out] at h; cases h.1)).symm, ints_nil _⟩, HK.out⟩
  | true =>
    have HSB := kept hSB
    rw [hSB] at HSE
    obtain hse : slotE f = 0 := by have := HSE.out; simpa using this
    rw [hse] at CS
    clear hse hSB HSE
    have HSH : Hid (shapedB f = true) := by have := HSB.out; rw [Bool.and_eq_true] at this; exact this.1
    by_cases hb0 : b < 0
    · go_wp2_with (first | (go_at_call 15; refine (CS.out _ (HTT.out.keep HK.out) (HF.out.keep HK.out)).mono ?_; rintro e w3 ⟨rfl, k3⟩; clear l0 l1 l2; have Blx := kept (Bl.out.keep k3 (by simp)); have HKx := kept (HK.out.and_then k3); clear Bl HK; have Bl := Blx; have HK := HKx; clear Blx HKx; have l0 := Bl.out.cell 0; have l1 := Bl.out.cell 1; have l2 := Bl.out.cell 2; simp at l0 l1 l2; clear k3) | fail)
      go_ret
      exact ⟨⟨(.slice none 0 0, []), rfl, (HNO.out (fun h => by have := (HPD.out.1 h.2).1; omega)).symm, ints_nil _⟩, HK.out⟩
    by_cases hbn : (f.nb : Int) ≤ b
    · go_wp2_with (first | (go_at_call 15; refine (CS.out _ (HTT.out.keep HK.out) (HF.out.keep HK.out)).mono ?_; rintro e w3 ⟨rfl, k3⟩; clear l0 l1 l2; have Blx := kept (Bl.out.keep k3 (by simp)); have HKx := kept (HK.out.and_then k3); clear Bl HK; have Bl := Blx; have HK := HKx; clear Blx HKx; have l0 := Bl.out.cell 0; have l1 := Bl.out.cell 1; have l2 := Bl.out.cell 2; simp at l0 l1 l2; clear k3) | fail)
      go_ret
      exact ⟨⟨(.slice none 0 0, []), rfl, (HNO.out (fun h => by have := (HPD.out.1 h.2).2.1; omega)).symm, ints_nil _⟩, HK.out⟩
    by_cases hp0 : p < 0
    · go_wp2_with (first | (go_at_call 15; refine (CS.out _ (HTT.out.keep HK.out) (HF.out.keep HK.out)).mono ?_; rintro e w3 ⟨rfl, k3⟩; clear l0 l1 l2; have Blx := kept (Bl.out.keep k3 (by simp)); have HKx := kept (HK.out.and_then k3); clear Bl HK; have Bl := Blx; have HK := HKx; clear Blx HKx; have l0 := Bl.out.cell 0; have l1 := Bl.out.cell 1; have l2 := Bl.out.cell 2; simp at l0 l1 l2; clear k3) | fail)
      go_ret
      exact ⟨⟨(.slice none 0 0, []), rfl, (HNO.out (fun h => by have := (HPD.out.1 h.2).2.2.1; omega)).symm, ints_nil _⟩, HK.out⟩
    obtain ⟨bn, rfl⟩ : ∃ bn : Nat, b = bn := ⟨b.toNat, by omega⟩
    obtain ⟨pl, rfl⟩ : ∃ pl : Nat, p = pl := ⟨p.toNat, by omega⟩
    rw [Int.toNat_natCast] at HPD HAT
    have hbl : bn < f.nb := by omega
    obtain ⟨bb, off, e2, hbl2, hcell⟩ := HC2.out bn (by rw [HNB.out]; exact hbl)
    subst e2
    have HCL := kept hcell
    have hyb := HF.out.block _ (bang_mem (l := f.blocks.2) (k := bn) (by first | exact hbl | (rw [HNB.out]; exact hbl)))
    obtain ⟨pa, pc, pe, -, -, -⟩ := hyb.phis.open_
    obtain ⟨qa, qc, qe, -, -, -⟩ := hyb.insts.open_
    have HIL := kept ((HFB.out _ (bang_mem (l := f.blocks.2) (k := bn) (by first | exact hbl | (rw [HNB.out]; exact hbl)))).2)
    have HYB := kept hyb
    have HBK := kept (show f.blk bn = f.blocks.2[bn]! from rfl)
    generalize f.blocks.2[bn]! = y at *
    have HCLc := kept (show y.cells = [.string y.name, .slice pa y.phis.2.length pc, .slice qa y.insts.2.length qc, .int .i64 y.kind, .int .i64 y.var, .int .i64 y.to0, .int .i64 y.to1] by unfold BlockM.cells; rw [pe, qe])
    clear hyb pe qe hcell
    generalize hqn : y.insts.2.length = qn at *
    have HQN := kept hqn
    clear hqn
    generalize y.name = yn at *
    generalize y.kind = yk at *
    generalize y.var = yv at *
    generalize y.to0 = y0 at *
    generalize y.to1 = y1 at *
    generalize y.phis.2.length = pn at *
    have HCM : Hid (∀ (i : Nat) (x : Value), [.string yn, .slice pa pn pc, .slice qa qn qc, .int .i64 yk, .int .i64 yv, .int .i64 y0, .int .i64 y1][i]? = some x → w.cell? ⟨bb, off + bn * 7 + i, none⟩ = some x) := fun i x hx => HCL.out i x (by rw [HCLc.out]; exact hx)
    clear HCL
    have n0 := HK.out.cellOf (HCM.out 0 _ rfl)
    have n1 := HK.out.cellOf (HCM.out 1 _ rfl)
    have n2 := HK.out.cellOf (HCM.out 2 _ rfl)
    have n3 := HK.out.cellOf (HCM.out 3 _ rfl)
    have n4 := HK.out.cellOf (HCM.out 4 _ rfl)
    have n5 := HK.out.cellOf (HCM.out 5 _ rfl)
    have n6 := HK.out.cellOf (HCM.out 6 _ rfl)
    simp only [Nat.add_zero] at n0
    by_cases hpq : (qn : Int) < (pl : Int)
    · go_wp2_with (first | (go_at_call 15; refine (CS.out _ (HTT.out.keep HK.out) (HF.out.keep HK.out)).mono ?_; rintro e w3 ⟨rfl, k3⟩; have HNX := kept k3; clear n0 n1 n2 n3 n4 n5 n6; clear l0 l1 l2; have Blx := kept (Bl.out.keep k3 (by simp)); have HKx := kept (HK.out.and_then k3); clear Bl HK; have Bl := Blx; have HK := HKx; clear Blx HKx; have l0 := Bl.out.cell 0; have l1 := Bl.out.cell 1; have l2 := Bl.out.cell 2; simp at l0 l1 l2; clear k3; have n0 := HK.out.cellOf (HCM.out 0 _ rfl); have n1 := HK.out.cellOf (HCM.out 1 _ rfl); have n2 := HK.out.cellOf (HCM.out 2 _ rfl); have n3 := HK.out.cellOf (HCM.out 3 _ rfl); have n4 := HK.out.cellOf (HCM.out 4 _ rfl); have n5 := HK.out.cellOf (HCM.out 5 _ rfl); have n6 := HK.out.cellOf (HCM.out 6 _ rfl); simp only [Nat.add_zero] at n0; clear HNX) | fail)
      go_ret
      exact ⟨⟨(.slice none 0 0, []), rfl, (HNO.out (fun h => by have := (HPD.out.1 h.2).2.2.2; omega)).symm, ints_nil _⟩, HK.out⟩
    have hplq : pl ≤ qn := by omega
    have HRR : Hid (R = liveL f bn pl) := by show R = _; rw [HAT.out, if_pos ⟨HSB.out, HPD.out.2 ⟨by omega, by omega, by omega, by omega⟩⟩]; rfl
    clear HAT HNO HPD
    go_upto_region 4 with (first | (go_at_call 15; refine (CS.out _ (HTT.out.keep HK.out) (HF.out.keep HK.out)).mono ?_; rintro e w3 ⟨rfl, k3⟩; have HNX := kept k3; clear n0 n1 n2 n3 n4 n5 n6; clear l0 l1 l2; have Blx := kept (Bl.out.keep k3 (by simp)); have HKx := kept (HK.out.and_then k3); clear Bl HK; have Bl := Blx; have HK := HKx; clear Blx HKx; have l0 := Bl.out.cell 0; have l1 := Bl.out.cell 1; have l2 := Bl.out.cell 2; simp at l0 l1 l2; clear k3; have n0 := HK.out.cellOf (HCM.out 0 _ rfl); have n1 := HK.out.cellOf (HCM.out 1 _ rfl); have n2 := HK.out.cellOf (HCM.out 2 _ rfl); have n3 := HK.out.cellOf (HCM.out 3 _ rfl); have n4 := HK.out.cellOf (HCM.out 4 _ rfl); have n5 := HK.out.cellOf (HCM.out 5 _ rfl); have n6 := HK.out.cellOf (HCM.out 6 _ rfl); simp only [Nat.add_zero] at n0; clear HNX) | (go_at_call 47; go_must (refine (CF.out HSH.out _ (HF.out.keep HK.out)).mono ?_; rintro e w4 ⟨v1, v2, A, B, base, rfl, hbs, hS, hI, hX, k3⟩; have HS := kept hS; have HI := kept hI; have HX := kept hX; clear hS hI hX; obtain ⟨G2, d2, ev2, -, -, -⟩ := own_some HS.out.r2 (by have := HI.out.ol; rw [wsOf_len] at this; omega); subst ev2; clear n0 n1 n2 n3 n4 n5 n6; clear l0 l1 l2; have Blx := kept (Bl.out.keep k3 (by simp)); have HKx := kept (HK.out.and_then k3); clear Bl HK; have Bl := Blx; have HK := HKx; clear Blx HKx; have l0 := Bl.out.cell 0; have l1 := Bl.out.cell 1; have l2 := Bl.out.cell 2; simp at l0 l1 l2; clear k3; have n0 := HK.out.cellOf (HCM.out 0 _ rfl); have n1 := HK.out.cellOf (HCM.out 1 _ rfl); have n2 := HK.out.cellOf (HCM.out 2 _ rfl); have n3 := HK.out.cellOf (HCM.out 3 _ rfl); have n4 := HK.out.cellOf (HCM.out 4 _ rfl); have n5 := HK.out.cellOf (HCM.out 5 _ rfl); have n6 := HK.out.cellOf (HCM.out 6 _ rfl); simp only [Nat.add_zero] at n0)) | fail)
    have HBLn : Hid (B.length = f.nb) := by have h := HI.out.ol; rw [wsOf_len] at h; exact h
    obtain ⟨wf, hwf⟩ : ∃ wf : World, wf = w4 := ⟨_, rfl⟩
    subst hwf
    have HWB := kept (wsOf_at (l := B) (i := bn) (by rw [HBLn.out]; exact hbl))
    have HOK := kept (HI.out.ow bn hbl).2
    have HLL := kept (back_list (HLP.out HSH.out) HI.out HX.out hbl pl)
    rw [HWB.out] at HOK HLL
    rw [HBK.out] at HLL
    have HBIn : Hid (BlockIn f.nv y ∧ (∀ x ∈ y.insts.2, x.args.2.length ≤ 1000) ∧ y.insts.2.length ≤ 1000 ∧ ∀ z ∈ endsM y, 0 ≤ z ∧ z < (f.nb : Int)) := by have h := (HLP.out HSH.out).blk bn hbl; have e9 : f.blocks.2[bn]! = y := HBK.out; rw [e9] at h; exact h
    have hbB : (bn : Int) < (B.length : Int) := by have := HBLn.out; omega
    have r2 := HS.out.cell2 rfl rfl (show bn < B.length by have := HBLn.out; omega)
    have HBB := kept (HS.out.b2 _ (bang_mem (l := B) (k := bn) (by rw [HBLn.out]; exact hbl)))
    generalize B[bn]! = Bk at *
    simp only [SetM.val] at r2
    have hm1000 : (f.nv + 63) / 64 ≤ 1000 := by omega
    generalize hmm : (f.nv + 63) / 64 = m at *
    have HMM := kept hmm
    clear hmm
    have CB := kept (fun W (k : Keeps wf W []) => back_any y Bk.tl Bk.ws Bk.g Bk.cap f.nv pl W (HYB.out.keep (HK.out.and_then k)) (HBB.out.2.1.keep k (by simp)) HOK.out (by rw [HBB.out.2.2]; exact HMM.out.symm) (by omega) HBIn.out.1 HBIn.out.2.1 (by rw [HQN.out]; exact hplq) HBIn.out.2.2.1)
    simp only [HCLc.out, HBB.out.2.2] at CB
    refine wp_region_held_drew (S := (fun w' => w'.cell? ⟨w.heap.size, 2, none⟩ = some (.slice (some ⟨bb, off, none⟩) f.nb c2) ∧ w'.cell? ⟨bb, off + bn * 7, none⟩ = some (.string yn) ∧ w'.cell? ⟨bb, off + bn * 7 + 1, none⟩ = some (.slice pa pn pc) ∧ w'.cell? ⟨bb, off + bn * 7 + 2, none⟩ = some (.slice qa qn qc) ∧ w'.cell? ⟨bb, off + bn * 7 + 3, none⟩ = some (.int .i64 yk) ∧ w'.cell? ⟨bb, off + bn * 7 + 4, none⟩ = some (.int .i64 yv) ∧ w'.cell? ⟨bb, off + bn * 7 + 5, none⟩ = some (.int .i64 y0) ∧ w'.cell? ⟨bb, off + bn * 7 + 6, none⟩ = some (.int .i64 y1) ∧ w'.cell? ⟨G2, bn, none⟩ = some (.slice (some ⟨Bk.g, 0, none⟩) m Bk.cap))) (by kernel_rfl) ?bhSs (fun hHeld => ?_)
    case bhSs => exact ⟨l2, n0, n1, n2, n3, n4, n5, n6, r2⟩
    clear l0 l1
    have hkd : Keeps wf (World.drew wf) [] := (Keeps.refl wf []).drew
    have l2x := hkd.cellOf l2
    have r2x := hkd.cellOf r2
    have n0x := hkd.cellOf n0
    have n1x := hkd.cellOf n1
    have n2x := hkd.cellOf n2
    have n3x := hkd.cellOf n3
    have n4x := hkd.cellOf n4
    have n5x := hkd.cellOf n5
    have n6x := hkd.cellOf n6
    clear l2 r2 n0 n1 n2 n3 n4 n5 n6
    have l2 := l2x
    have r2 := r2x
    have n0 := n0x
    have n1 := n1x
    have n2 := n2x
    have n3 := n3x
    have n4 := n4x
    have n5 := n5x
    have n6 := n6x
    clear l2x r2x n0x n1x n2x n3x n4x n5x n6x
    have KD := kept hkd
    clear hkd
    have CBz := kept (CB.out _ KD.out)
    have HKd := kept (HK.out.and_then KD.out)
    generalize World.drew wf = X1 at *
    refine wpAnyH_take (i := 0) (oi := { dst := some 43, op := Op.fieldAddr 26 (Operand.tmp 3) 2, type := 0, pos := "live.go:114", after := #[], guard := none }) (v := ?bv0) rfl (by kernel_rfl) (by kernel_rfl) (by kernel_rfl) (fun _ _ _ h => h) (Or.inl ⟨by rfl, ?by0⟩) hHeld ?br0
    case by0 => (intro w hSw; (try dsimp only at hSw); go_simp; (try with_reducible rfl))
    try simp only [Act.put, List.setIfInBounds_toArray, List.set_cons_zero, List.set_cons_succ]
    refine wpAnyH_take (i := 1) (oi := { dst := some 44, op := Op.load 24 (Operand.tmp 43), type := 24, pos := "live.go:114", after := #[{ on := 0, ground := Ground.data }], guard := none }) (v := ?bv1) rfl (by kernel_rfl) (by kernel_rfl) (by kernel_rfl) (fun _ _ _ h => h) (Or.inl ⟨by rfl, ?by1⟩) hHeld ?br1
    case by1 => (intro w hSw; (try dsimp only at hSw); go_simp; (try with_reducible rfl))
    try simp only [Act.put, List.setIfInBounds_toArray, List.set_cons_zero, List.set_cons_succ]
    refine wpAnyH_take (i := 2) (oi := { dst := some 45, op := Op.move (Operand.tmp 1), type := 3, pos := "live.go:114", after := #[], guard := none }) (v := ?bv2) rfl (by kernel_rfl) (by kernel_rfl) (by kernel_rfl) (fun _ _ _ h => h) (Or.inl ⟨by rfl, ?by2⟩) hHeld ?br2
    case by2 => (intro w hSw; (try dsimp only at hSw); go_simp; (try with_reducible rfl))
    try simp only [Act.put, List.setIfInBounds_toArray, List.set_cons_zero, List.set_cons_succ]
    refine wpAnyH_take (i := 3) (oi := { dst := some 46, op := Op.indexAddr 24 (Operand.tmp 44) (Operand.tmp 45), type := 0, pos := "live.go:114", after := #[{ on := 1, ground := Ground.data }, { on := 2, ground := Ground.data }], guard := none }) (v := ?bv3) rfl (by kernel_rfl) (by kernel_rfl) (by kernel_rfl) (fun _ _ _ h => h) (Or.inl ⟨by rfl, ?by3⟩) hHeld ?br3
    case by3 => (intro w hSw; (try dsimp only at hSw); go_simp; (try with_reducible rfl))
    try simp only [Act.put, List.setIfInBounds_toArray, List.set_cons_zero, List.set_cons_succ]
    refine wpAnyH_take (i := 4) (oi := { dst := some 47, op := Op.load 39 (Operand.tmp 46), type := 39, pos := "live.go:114", after := #[{ on := 3, ground := Ground.data }], guard := none }) (v := ?bv4) rfl (by kernel_rfl) (by kernel_rfl) (by kernel_rfl) (fun _ _ _ h => h) (Or.inl ⟨by rfl, ?by4⟩) hHeld ?br4
    case by4 => (intro w hSw; (try dsimp only at hSw); go_simp; (try with_reducible rfl))
    try simp only [Act.put, List.setIfInBounds_toArray, List.set_cons_zero, List.set_cons_succ]
    refine wpAnyH_take (i := 5) (oi := { dst := some 48, op := Op.move (Operand.tmp 8), type := 93, pos := "live.go:114", after := #[], guard := none }) (v := ?bv5) rfl (by kernel_rfl) (by kernel_rfl) (by kernel_rfl) (fun _ _ _ h => h) (Or.inl ⟨by rfl, ?by5⟩) hHeld ?br5
    case by5 => (intro w hSw; (try dsimp only at hSw); go_simp; (try with_reducible rfl))
    try simp only [Act.put, List.setIfInBounds_toArray, List.set_cons_zero, List.set_cons_succ]
    refine wpAnyH_take (i := 6) (oi := { dst := some 49, op := Op.move (Operand.tmp 1), type := 3, pos := "live.go:114", after := #[], guard := none }) (v := ?bv6) rfl (by kernel_rfl) (by kernel_rfl) (by kernel_rfl) (fun _ _ _ h => h) (Or.inl ⟨by rfl, ?by6⟩) hHeld ?br6
    case by6 => (intro w hSw; (try dsimp only at hSw); go_simp; (try with_reducible rfl))
    try simp only [Act.put, List.setIfInBounds_toArray, List.set_cons_zero, List.set_cons_succ]
    refine wpAnyH_take (i := 7) (oi := { dst := some 50, op := Op.indexAddr 93 (Operand.tmp 48) (Operand.tmp 49), type := 0, pos := "live.go:114", after := #[{ on := 5, ground := Ground.data }, { on := 6, ground := Ground.data }], guard := none }) (v := ?bv7) rfl (by kernel_rfl) (by kernel_rfl) (by kernel_rfl) (fun _ _ _ h => h) (Or.inl ⟨by rfl, ?by7⟩) hHeld ?br7
    case by7 => (intro w hSw; (try dsimp only at hSw); go_simp; (try with_reducible rfl))
    try simp only [Act.put, List.setIfInBounds_toArray, List.set_cons_zero, List.set_cons_succ]
    refine wpAnyH_take (i := 8) (oi := { dst := some 51, op := Op.load 97 (Operand.tmp 50), type := 97, pos := "live.go:114", after := #[{ on := 7, ground := Ground.data }], guard := none }) (v := ?bv8) rfl (by kernel_rfl) (by kernel_rfl) (by kernel_rfl) (fun _ _ _ h => h) (Or.inl ⟨by rfl, ?by8⟩) hHeld ?br8
    case by8 => (intro w hSw; (try dsimp only at hSw); go_simp; (try with_reducible rfl))
    try simp only [Act.put, List.setIfInBounds_toArray, List.set_cons_zero, List.set_cons_succ]
    refine wpAnyH_take (i := 9) (oi := { dst := some 52, op := Op.move (Operand.tmp 2), type := 3, pos := "live.go:114", after := #[], guard := none }) (v := ?bv9) rfl (by kernel_rfl) (by kernel_rfl) (by kernel_rfl) (fun _ _ _ h => h) (Or.inl ⟨by rfl, ?by9⟩) hHeld ?br9
    case by9 => (intro w hSw; (try dsimp only at hSw); go_simp; (try with_reducible rfl))
    try simp only [Act.put, List.setIfInBounds_toArray, List.set_cons_zero, List.set_cons_succ]
    refine wpAnyH_ready (rs := [10]) (by kernel_rfl) (by simp) ?_
    refine AllReadyH.cons (o := { dst := some 53, op := Op.call { callee := Callee.value (Operand.func 48), args := #[Operand.tmp 47, Operand.tmp 51, Operand.tmp 52], argTypes := #[39, 97, 3] }, type := 97, pos := "live.go:114", after := #[{ on := 4, ground := Ground.data }, { on := 8, ground := Ground.data }, { on := 9, ground := Ground.data }], guard := none }) rfl (fun K hK => ?_) AllReadyH.nil
    go_simp
    (with_reducible refine (CBz.out).mono ?_)
    rintro e wx ⟨gn, cn, tn, rfl, hgn, hBn, k3⟩
    show K _ _
    clear hHeld
    have CL := kept (list_any tn (backW y Bk.ws pl) gn cn wx (HTL.out.keep (HKd.out.and_then k3)) hBn (backW_ok y HOK.out pl) (by rw [backW_len, HBB.out.2.2]; omega))
    rw [HLL.out, show (backW y Bk.ws pl).length = m from (backW_len y Bk.ws pl).trans HBB.out.2.2] at CL
    rw [show (backW y Bk.ws pl).length = m from (backW_len y Bk.ws pl).trans HBB.out.2.2]
    have l2x := k3.cellOf l2
    have r2x := k3.cellOf r2
    have n0x := k3.cellOf n0
    have n1x := k3.cellOf n1
    have n2x := k3.cellOf n2
    have n3x := k3.cellOf n3
    have n4x := k3.cellOf n4
    have n5x := k3.cellOf n5
    have n6x := k3.cellOf n6
    clear l2 r2 n0 n1 n2 n3 n4 n5 n6
    have l2 := l2x
    have r2 := r2x
    have n0 := n0x
    have n1 := n1x
    have n2 := n2x
    have n3 := n3x
    have n4 := n4x
    have n5 := n5x
    have n6 := n6x
    clear l2x r2x n0x n1x n2x n3x n4x n5x n6x
    have HKe := kept (HKd.out.and_then k3)
    clear hBn k3 hgn
    obtain ⟨wq, hwq⟩ : ∃ wq : World, wq = wx := ⟨_, rfl⟩
    subst hwq
    refine hK.out _ _ ?bhS10 (fun hHeld => ?_)
    case bhS10 => exact ⟨l2, n0, n1, n2, n3, n4, n5, n6, r2⟩
    clear hK K
    try simp only [Act.put, List.setIfInBounds_toArray, List.set_cons_zero, List.set_cons_succ]
    refine wpAnyH_ready (rs := [11]) (by kernel_rfl) (by simp) ?_
    refine AllReadyH.cons (o := { dst := some 54, op := Op.call { callee := Callee.value (Operand.func 49), args := #[Operand.tmp 53], argTypes := #[97] }, type := 23, pos := "live.go:114", after := #[{ on := 10, ground := Ground.data }, { on := 10, ground := Ground.chain }], guard := none }) rfl (fun K hK => ?_) AllReadyH.nil
    go_simp
    (with_reducible refine (CL.out).mono ?_)
    rintro e wx ⟨⟨vl, rfl, hvl⟩, k3⟩
    show K _ _
    clear hHeld
    have HQR := kept (ints_row hvl)
    have l2x := k3.cellOf l2
    have r2x := k3.cellOf r2
    have n0x := k3.cellOf n0
    have n1x := k3.cellOf n1
    have n2x := k3.cellOf n2
    have n3x := k3.cellOf n3
    have n4x := k3.cellOf n4
    have n5x := k3.cellOf n5
    have n6x := k3.cellOf n6
    clear l2 r2 n0 n1 n2 n3 n4 n5 n6
    have l2 := l2x
    have r2 := r2x
    have n0 := n0x
    have n1 := n1x
    have n2 := n2x
    have n3 := n3x
    have n4 := n4x
    have n5 := n5x
    have n6 := n6x
    clear l2x r2x n0x n1x n2x n3x n4x n5x n6x
    have HKg := kept (HKe.out.and_then k3)
    clear hvl k3
    refine hK.out _ _ ?bhS11 (fun hHeld => ?_)
    case bhS11 => exact ⟨l2, n0, n1, n2, n3, n4, n5, n6, r2⟩
    clear hK K
    try simp only [Act.put, List.setIfInBounds_toArray, List.set_cons_zero, List.set_cons_succ]
    refine wpAnyH_take (i := 12) (oi := { dst := some 6, op := Op.assign (Operand.tmp 54), type := 23, pos := "live.go:114", after := #[{ on := 11, ground := Ground.data }, { on := 11, ground := Ground.chain }, { on := 0, ground := Ground.phase }, { on := 1, ground := Ground.phase }, { on := 2, ground := Ground.phase }, { on := 3, ground := Ground.phase }, { on := 4, ground := Ground.phase }, { on := 5, ground := Ground.phase }, { on := 6, ground := Ground.phase }, { on := 7, ground := Ground.phase }, { on := 8, ground := Ground.phase }, { on := 9, ground := Ground.phase }, { on := 10, ground := Ground.phase }, { on := 11, ground := Ground.phase }], guard := none }) (v := ?bv12) rfl (by kernel_rfl) (by kernel_rfl) (by kernel_rfl) (fun _ _ _ h => h) (Or.inl ⟨by rfl, ?by12⟩) hHeld ?br12
    case by12 => (intro w hSw; (try dsimp only at hSw); go_simp; (try with_reducible rfl))
    try simp only [Act.put, List.setIfInBounds_toArray, List.set_cons_zero, List.set_cons_succ]
    refine wpAnyH_done (by kernel_rfl) ?_ _
    clear hHeld
    go_wp2
    go_ret
    exact ⟨⟨(vl, liveL f bn pl), rfl, HRR.out.symm, HQR.out⟩, HKg.out⟩

theorem sets_list {f : FuncM} {A : List SetM} (P : Nat → List Int) (hl : A.length = f.nb) (h : ∀ b, b < f.nb → setL A[b]! = P b) : A.map setL = (List.range f.nb).map P := by
  refine List.ext_getElem (by simp [hl]) fun k h1 h2 => ?_
  have hk : k < A.length := by simpa using h1
  have := h k (by omega)
  rw [getElem!_pos A k hk] at this
  simp only [List.getElem_map, List.getElem_range]
  exact this
noncomputable def inLs (f : FuncM) : List (List Int) := if (shapedB f && slotB f) = true then (List.range f.nb).map (fun b => liveL f b 0) else []
noncomputable def outLs (f : FuncM) : List (List Int) := if (shapedB f && slotB f) = true then (List.range f.nb).map (outL f) else []

set_option maxRecDepth 100000 in
set_option maxHeartbeats 200000000 in
theorem in29_any (f : FuncM) (w : World) (ht : TabsL w) (hf : FuncAt w f) (hfew : FewP f) : Calls Tryd.prog 29 #[f.val] w fun e w' => RowsRet w (inLs f) e w' := by
  obtain ⟨a0, c0, e0, -, -, hc0⟩ := hf.vars.open_
  obtain ⟨a1, c1, e1, -, -, hc1⟩ := (show Row w 1 f.params.1 (f.params.2.map intCells) from hf.params).open_
  obtain ⟨a2, c2, e2, -, -, hc2⟩ := hf.blocks.open_
  have hval : f.val = .agg #[.slice a0 f.nv c0, .slice a1 f.np c1, .slice a2 f.nb c2] := by unfold FuncM.val FuncM.nv FuncM.np FuncM.nb; rw [e0, e1, e2]
  have h1 : #[f.vars.1, f.params.1, f.blocks.1] = #[.slice a0 f.nv c0, .slice a1 f.np c1, .slice a2 f.nb c2] := by unfold FuncM.nv FuncM.np FuncM.nb; rw [e0, e1, e2]
  have HF := kept hf
  have HC0 := kept hc0
  have HC1 := kept hc1
  have HC2 := kept hc2
  have HNV := kept (show f.vars.2.length = f.nv from rfl)
  have HNP := kept (show f.params.2.length = f.np from rfl)
  have HNB := kept (show f.blocks.2.length = f.nb from rfl)
  have HTL := kept ht
  have HTT := kept ht.tabs
  have CS := kept (fun W h1 h2 => slotF_any f W h1 h2 hfew)
  have CF := kept (fun (hS : shapedB f = true) W (h : FuncAt W f) => flow_any f W h (live_p hS hfew))
  have HSE := kept (show slotE f = if (shapedB f && slotB f) = true then 0 else 3 from rfl)
  have HLP := kept (fun hS : shapedB f = true => live_p hS hfew)
  rw [hval] at CS CF ⊢
  clear e0 e1 e2 hval h1 hf hc0 hc1 hc2 HC0 HC1 ht
  have hnbF := hfew.nb
  have hnvF := hfew.nv
  have HNO := kept (fun h : (shapedB f && slotB f) = false => show inLs f = [] by unfold inLs; rw [if_neg (by rw [h]; simp)])
  have HYE := kept (fun h : (shapedB f && slotB f) = true => show inLs f = (List.range f.nb).map (fun b => liveL f b 0) by unfold inLs; rw [if_pos h])
  generalize inLs f = R at *
  have hk0 : Keeps w (w.alloc (.cells #[.slice a0 f.nv c0, .slice a1 f.np c1, .slice a2 f.nb c2] 26)) [] := (Keeps.refl _ []).alloc _
  have bb0 := Blk.new w 26 #[.slice a0 f.nv c0, .slice a1 f.np c1, .slice a2 f.nb c2]
  have Bl := kept bb0
  have HK := kept hk0
  have l0 := Bl.out.cell 0
  have l1 := Bl.out.cell 1
  have l2 := Bl.out.cell 2
  simp at l0 l1 l2
  clear hk0 bb0
  go_enter Tryd.func29, Tryd.ntmps29
  cases hSB : (shapedB f && slotB f) with
  | false =>
    have HSB := kept hSB
    rw [hSB] at HSE
    obtain hse : slotE f = 3 := by have := HSE.out; simpa using this
    rw [hse] at CS
    clear hse hSB HSE
    go_wp2_with (first | (go_at_call 15; refine (CS.out _ (HTT.out.keep HK.out) (HF.out.keep HK.out)).mono ?_; rintro e w3 ⟨rfl, k3⟩; clear l0 l1 l2; have Blx := kept (Bl.out.keep k3 (by simp)); have HKx := kept (HK.out.and_then k3); clear Bl HK; have Bl := Blx; have HK := HKx; clear Blx HKx; have l0 := Bl.out.cell 0; have l1 := Bl.out.cell 1; have l2 := Bl.out.cell 2; simp at l0 l1 l2; clear k3) | fail)
    go_ret
    exact ⟨.slice none 0 0, [], rfl, rows_nil _, (HNO.out HSB.out).symm, HK.out⟩
  | true =>
    have HSB := kept hSB
    rw [hSB] at HSE
    obtain hse : slotE f = 0 := by have := HSE.out; simpa using this
    rw [hse] at CS
    clear hse hSB HSE
    have HSH : Hid (shapedB f = true) := by have := HSB.out; rw [Bool.and_eq_true] at this; exact this.1
    go_wp2_with (first | (go_at_call 15; refine (CS.out _ (HTT.out.keep HK.out) (HF.out.keep HK.out)).mono ?_; rintro e w3 ⟨rfl, k3⟩; clear l0 l1 l2; have Blx := kept (Bl.out.keep k3 (by simp)); have HKx := kept (HK.out.and_then k3); clear Bl HK; have Bl := Blx; have HK := HKx; clear Blx HKx; have l0 := Bl.out.cell 0; have l1 := Bl.out.cell 1; have l2 := Bl.out.cell 2; simp at l0 l1 l2; clear k3) | (go_at_call 47; go_must (refine (CF.out HSH.out _ (HF.out.keep HK.out)).mono ?_; rintro e w4 ⟨v1, v2, A, B, base, rfl, hbs, hS, hI, hX, k3⟩; have HS := kept hS; have HI := kept hI; have HX := kept hX; clear hS hI hX; clear l0 l1 l2; have Blx := kept (Bl.out.keep k3 (by simp)); have HKx := kept (HK.out.and_then k3); clear Bl HK; have Bl := Blx; have HK := HKx; clear Blx HKx; have l0 := Bl.out.cell 0; have l1 := Bl.out.cell 1; have l2 := Bl.out.cell 2; simp at l0 l1 l2; clear k3; have HL9 : Hid (A.length = f.nb) := (by have h := HI.out.il; rw [wsOf_len] at h; exact h); have CL := kept (lists_any v1 A base ((f.nv + 63) / 64) w4 (HTL.out.keep HK.out) HS.out.r1 (fun s hs => by obtain ⟨i, hi, rfl⟩ := mem_at hs; exact ⟨HS.out.b1 _ hs, by have h := HI.out.iw i (by rw [← HL9.out]; exact hi); rw [wsOf_at hi] at h; exact h.2⟩) (by omega) (by rw [HL9.out]; omega)))) | (go_at_call 55; go_must (refine (CL.out).mono ?_; rintro e w5 ⟨vr, qs, rfl, hq, hqs, k3⟩; have HQ := kept hq; have HQS := kept hqs; have HK5 := kept k3; clear hq hqs k3)) | fail)
    go_ret
    refine ⟨vr, qs, rfl, HQ.out, ?_, HK.out.and_then HK5.out⟩
    rw [HQS.out, HYE.out HSB.out]
    refine sets_list _ HL9.out (fun b hb => ?_)
    have h := in_list (HLP.out HSH.out) HI.out HX.out hb
    rw [wsOf_at (by rw [HL9.out]; exact hb)] at h
    exact h

set_option maxRecDepth 100000 in
set_option maxHeartbeats 200000000 in
theorem out30_any (f : FuncM) (w : World) (ht : TabsL w) (hf : FuncAt w f) (hfew : FewP f) : Calls Tryd.prog 30 #[f.val] w fun e w' => RowsRet w (outLs f) e w' := by
  obtain ⟨a0, c0, e0, -, -, hc0⟩ := hf.vars.open_
  obtain ⟨a1, c1, e1, -, -, hc1⟩ := (show Row w 1 f.params.1 (f.params.2.map intCells) from hf.params).open_
  obtain ⟨a2, c2, e2, -, -, hc2⟩ := hf.blocks.open_
  have hval : f.val = .agg #[.slice a0 f.nv c0, .slice a1 f.np c1, .slice a2 f.nb c2] := by unfold FuncM.val FuncM.nv FuncM.np FuncM.nb; rw [e0, e1, e2]
  have h1 : #[f.vars.1, f.params.1, f.blocks.1] = #[.slice a0 f.nv c0, .slice a1 f.np c1, .slice a2 f.nb c2] := by unfold FuncM.nv FuncM.np FuncM.nb; rw [e0, e1, e2]
  have HF := kept hf
  have HC0 := kept hc0
  have HC1 := kept hc1
  have HC2 := kept hc2
  have HNV := kept (show f.vars.2.length = f.nv from rfl)
  have HNP := kept (show f.params.2.length = f.np from rfl)
  have HNB := kept (show f.blocks.2.length = f.nb from rfl)
  have HTL := kept ht
  have HTT := kept ht.tabs
  have CS := kept (fun W h1 h2 => slotF_any f W h1 h2 hfew)
  have CF := kept (fun (hS : shapedB f = true) W (h : FuncAt W f) => flow_any f W h (live_p hS hfew))
  have HSE := kept (show slotE f = if (shapedB f && slotB f) = true then 0 else 3 from rfl)
  have HLP := kept (fun hS : shapedB f = true => live_p hS hfew)
  rw [hval] at CS CF ⊢
  clear e0 e1 e2 hval h1 hf hc0 hc1 hc2 HC0 HC1 ht
  have hnbF := hfew.nb
  have hnvF := hfew.nv
  have HNO := kept (fun h : (shapedB f && slotB f) = false => show outLs f = [] by unfold outLs; rw [if_neg (by rw [h]; simp)])
  have HYE := kept (fun h : (shapedB f && slotB f) = true => show outLs f = (List.range f.nb).map (outL f) by unfold outLs; rw [if_pos h])
  generalize outLs f = R at *
  have hk0 : Keeps w (w.alloc (.cells #[.slice a0 f.nv c0, .slice a1 f.np c1, .slice a2 f.nb c2] 26)) [] := (Keeps.refl _ []).alloc _
  have bb0 := Blk.new w 26 #[.slice a0 f.nv c0, .slice a1 f.np c1, .slice a2 f.nb c2]
  have Bl := kept bb0
  have HK := kept hk0
  have l0 := Bl.out.cell 0
  have l1 := Bl.out.cell 1
  have l2 := Bl.out.cell 2
  simp at l0 l1 l2
  clear hk0 bb0
  go_enter Tryd.func30, Tryd.ntmps30
  cases hSB : (shapedB f && slotB f) with
  | false =>
    have HSB := kept hSB
    rw [hSB] at HSE
    obtain hse : slotE f = 3 := by have := HSE.out; simpa using this
    rw [hse] at CS
    clear hse hSB HSE
    go_wp2_with (first | (go_at_call 15; refine (CS.out _ (HTT.out.keep HK.out) (HF.out.keep HK.out)).mono ?_; rintro e w3 ⟨rfl, k3⟩; clear l0 l1 l2; have Blx := kept (Bl.out.keep k3 (by simp)); have HKx := kept (HK.out.and_then k3); clear Bl HK; have Bl := Blx; have HK := HKx; clear Blx HKx; have l0 := Bl.out.cell 0; have l1 := Bl.out.cell 1; have l2 := Bl.out.cell 2; simp at l0 l1 l2; clear k3) | fail)
    go_ret
    exact ⟨.slice none 0 0, [], rfl, rows_nil _, (HNO.out HSB.out).symm, HK.out⟩
  | true =>
    have HSB := kept hSB
    rw [hSB] at HSE
    obtain hse : slotE f = 0 := by have := HSE.out; simpa using this
    rw [hse] at CS
    clear hse hSB HSE
    have HSH : Hid (shapedB f = true) := by have := HSB.out; rw [Bool.and_eq_true] at this; exact this.1
    go_wp2_with (first | (go_at_call 15; refine (CS.out _ (HTT.out.keep HK.out) (HF.out.keep HK.out)).mono ?_; rintro e w3 ⟨rfl, k3⟩; clear l0 l1 l2; have Blx := kept (Bl.out.keep k3 (by simp)); have HKx := kept (HK.out.and_then k3); clear Bl HK; have Bl := Blx; have HK := HKx; clear Blx HKx; have l0 := Bl.out.cell 0; have l1 := Bl.out.cell 1; have l2 := Bl.out.cell 2; simp at l0 l1 l2; clear k3) | (go_at_call 47; go_must (refine (CF.out HSH.out _ (HF.out.keep HK.out)).mono ?_; rintro e w4 ⟨v1, v2, A, B, base, rfl, hbs, hS, hI, hX, k3⟩; have HS := kept hS; have HI := kept hI; have HX := kept hX; clear hS hI hX; clear l0 l1 l2; have Blx := kept (Bl.out.keep k3 (by simp)); have HKx := kept (HK.out.and_then k3); clear Bl HK; have Bl := Blx; have HK := HKx; clear Blx HKx; have l0 := Bl.out.cell 0; have l1 := Bl.out.cell 1; have l2 := Bl.out.cell 2; simp at l0 l1 l2; clear k3; have HL9 : Hid (B.length = f.nb) := (by have h := HI.out.ol; rw [wsOf_len] at h; exact h); have CL := kept (lists_any v2 B base ((f.nv + 63) / 64) w4 (HTL.out.keep HK.out) HS.out.r2 (fun s hs => by obtain ⟨i, hi, rfl⟩ := mem_at hs; exact ⟨HS.out.b2 _ hs, by have h := HI.out.ow i (by rw [← HL9.out]; exact hi); rw [wsOf_at hi] at h; exact h.2⟩) (by omega) (by rw [HL9.out]; omega)))) | (go_at_call 55; go_must (refine (CL.out).mono ?_; rintro e w5 ⟨vr, qs, rfl, hq, hqs, k3⟩; have HQ := kept hq; have HQS := kept hqs; have HK5 := kept k3; clear hq hqs k3)) | fail)
    go_ret
    refine ⟨vr, qs, rfl, HQ.out, ?_, HK.out.and_then HK5.out⟩
    rw [HQS.out, HYE.out HSB.out]
    refine sets_list _ HL9.out (fun b hb => ?_)
    have h := out_list (HLP.out HSH.out) HI.out HX.out hb
    rw [wsOf_at (by rw [HL9.out]; exact hb)] at h
    exact h
end Go.Proofs.YtjllbchfojonhaaDoor
namespace Go.Proofs.YtjllbchfojonhaaDoor
open Go.RowKit Go.Shelf Go.Lib
set_option linter.unusedVariables false
set_option linter.unusedSimpArgs false

/-- the rest of a row of the call's own -/
structure PartAt (w : World) (base : Nat) (v : Value) (l : List Int) (g off cap : Nat) (cur : Array Value) : Prop where
  v : v = .slice (some ⟨g, off, none⟩) l.length cap
  base : base ≤ g
  blk : Blk w g 3 cur
  le : l.length ≤ cap
  fit : off + cap ≤ cur.size
  max : cap ≤ maxLen
  at_ : ∀ j, j < l.length → cur[off + j]? = some (.int .i64 l[j]!)
def Part (w : World) (base : Nat) (v : Value) (l : List Int) : Prop := ∃ g off cap cur, PartAt w base v l g off cap cur
theorem Part.keep {w w' : World} {base : Nat} {v : Value} {l : List Int} {S : List Nat} (h : Part w base v l) (k : Keeps w w' S) (hS : ∀ g ∈ S, v.ownBlock ≠ some g) : Part w' base v l := by
  obtain ⟨g, off, cap, cur, hp⟩ := h
  refine ⟨g, off, cap, cur, hp.v, hp.base, hp.blk.keep k (fun hg => hS g hg (by rw [hp.v]; rfl)), hp.le, hp.fit, hp.max, hp.at_⟩
theorem Part.start {w : World} {base g : Nat} {z : Int} (h : Blk w g 3 #[.int .i64 z]) (hb : base ≤ g) : Part w base (.slice (some ⟨g, 0, none⟩) 1 1) [z] :=
  ⟨g, 0, 1, _, rfl, hb, h, Nat.le_refl _, by simp, by simp [maxLen], fun j hj => by
    have : j = 0 := by simpa using hj
    subst this; rfl⟩
theorem part_append {w : World} {base : Nat} {v : Value} {l : List Int} (h : Part w base v l) (z : Int) (ad : Addr) (c : Nat) (hn : w.cell? ad = some (.int .i64 z)) (had : ad.add 0 = ad) (hl : l.length ≤ 1000) (hbw : base ≤ w.heap.size) (ty : TypeId) :
    ∃ v' w', (Builtin.append_ #[23, 23] ty #[v, .slice (some ad) 1 c]).run Tryd.prog w = .ok v' w' ∧ Part w' base v' (l ++ [z]) ∧ Keeps w w' (v.ownBlock.toList) := by
  obtain ⟨i3, hi3, he3⟩ := Option.map_eq_some_iff.1 info3
  simp only [Prod.mk.injEq] at he3
  obtain ⟨hz3, hs3, hb3⟩ := he3
  obtain ⟨g, off, cap, cur, hp⟩ := h
  have hnews : ∀ j u, [Value.int .i64 z][j]? = some u → w.cell? (ad.add j) = some u := fun j u hu => by
    rcases j with _ | j
    · simp only [List.getElem?_cons_zero, Option.some.injEq] at hu
      subst hu; rw [had]; exact hn
    · simp at hu
  have hone : ∀ u ∈ [Value.int .i64 z], u.oneCell' = true := fun u hu => by rw [List.mem_singleton.1 hu]; rfl
  have hlen : (l ++ [z]).length = l.length + 1 := by rw [List.length_append]; rfl
  have hown : v.ownBlock.toList = [g] := by rw [hp.v]; rfl
  rw [hown]
  by_cases hroom : l.length + 1 ≤ cap
  · have hin : off + l.length < cur.size := by have := hp.fit; omega
    have hr := run_append_room_cells (P := Tryd.prog) w 23 ty 3 i3 Tryd.underlying23 hi3 g off l.length cap ad 1 c [.int .i64 z] (by rw [hs3]; rfl) hnews hone hroom
      (fun j hj => by
        have : j = 0 := by simpa using hj
        subst this
        rw [hs3, Nat.mul_one, Nat.add_zero, hp.blk.cell, Array.getElem?_eq_getElem hin]; rfl)
      (fun j hj => hp.blk.frozen _)
    rw [hs3, Nat.mul_one] at hr
    have e1 : w.setCells g (off + l.length) [.int .i64 z] = w.setCell ⟨g, off + l.length, none⟩ (.int .i64 z) := rfl
    rw [e1] at hr
    rw [hp.v]
    refine ⟨_, _, hr, ⟨g, off, cap, cur.setIfInBounds (off + l.length) (.int .i64 z), ?_, hp.base, hp.blk.set_ _ _, ?_, ?_, hp.max, fun j hj => ?_⟩, (Keeps.refl w [g]).setCell (.inl (by simp)) _⟩
    · rw [hlen]
    · rw [hlen]; exact hroom
    · rw [Array.size_setIfInBounds]; exact hp.fit
    · rw [hlen] at hj
      rw [Array.getElem?_setIfInBounds]
      by_cases e : j = l.length
      · subst e
        rw [if_pos rfl, if_pos hin, getElem!_pos (l ++ [z]) _ (by rw [hlen]; omega), List.getElem_append_right (Nat.le_refl _)]
        simp
      · rw [if_neg (by omega), hp.at_ j (by omega), getElem!_pos (l ++ [z]) j (by rw [hlen]; omega), List.getElem_append_left (by omega), getElem!_pos l j (by omega)]
  · have hlo : (l.map (Value.int .i64)).length = l.length * 1 := by rw [List.length_map, Nat.mul_one]
    have holds : ∀ j u, (l.map (Value.int .i64))[j]? = some u → w.cell? ((⟨g, off, none⟩ : Addr).add j) = some u := fun j u hu => by
      rw [List.getElem?_map] at hu
      have hj : j < l.length := by
        apply Classical.byContradiction
        intro h
        rw [List.getElem?_eq_none (by omega)] at hu
        cases hu
      rw [List.getElem?_eq_getElem hj] at hu
      rw [add_plain, hp.blk.cell, hp.at_ j hj, getElem!_pos l j hj]
      exact hu
    obtain ⟨v', w', hr, ho, hg⟩ := run_append_arg_grows (P := Tryd.prog) w 23 ty 3 i3 (.int .i64 0) 1 8 Tryd.underlying23 hi3 hz3 hs3 hb3 rfl (by decide) ⟨g, off, none⟩ l.length cap (l.map (Value.int .i64)) hlo holds ad 1 c [.int .i64 z] rfl hnews (by omega) (by unfold maxLen; omega) (by omega)
    rw [hp.v]
    refine ⟨v', w', hr, ?_, (Keeps.refl w [g]).grown hg (fun k hk => by cases hk)⟩
    obtain ⟨g2, c2, e2, hb2, hc2, hm2⟩ := own_some ho (by omega)
    subst e2
    obtain ⟨_, h2 | ⟨g', cap', cur', h3, h4, h5, h6, h7, h8, h9⟩⟩ := ho
    · cases h2.1
    · simp only [Value.slice.injEq, Option.some.injEq, Addr.mk.injEq, and_true, true_and] at h3
      obtain ⟨rfl, rfl⟩ := h3
      refine ⟨g2, 0, c2, cur', by rw [hlen], by omega, h5, by rw [hlen]; exact h6, by omega, h7, fun j hj => ?_⟩
      rw [Nat.zero_add]
      have hj2 : j < l.length + 1 := by rw [hlen] at hj; exact hj
      have hk : (cur'.toList.take ((l.length + 1) * 1))[j]? = (l.map (Value.int .i64) ++ [.int .i64 z])[j]? := by rw [h9]
      rw [Nat.mul_one, List.getElem?_take, if_pos hj2, Array.getElem?_toList] at hk
      rw [hk, show l.map (Value.int .i64) ++ [Value.int .i64 z] = (l ++ [z]).map (Value.int .i64) by rw [List.map_append]; rfl, List.getElem?_map, List.getElem?_eq_getElem hj, getElem!_pos _ j hj]
      rfl
theorem wpList_append_part {ops : Array Oper} {rest : List Oper} {o : Oper} {a : Act} {Q : Exit → Act → World → Prop} (w : World) (hgd : o.guard = none) (s x : Operand)
    (ho : o.op = .call { callee := .builtin .append, args := #[s, x], argTypes := #[23, 23] }) (base : Nat) (v : Value) (l : List Int) (hs : a.eval s = v) (h : Part w base v l) (z : Int) (ad : Addr) (c : Nat) (hx : a.eval x = .slice (some ad) 1 c)
    (hn : w.cell? ad = some (.int .i64 z)) (had : ad.add 0 = ad) (hl : l.length ≤ 1000) (hbw : base ≤ w.heap.size)
    (hk : ∀ v' w', Part w' base v' (l ++ [z]) → Keeps w w' (v.ownBlock.toList) → wpList Tryd.prog ops Q rest (a.put o.dst v') w') : wpList Tryd.prog ops Q (o :: rest) a w := by
  refine wpList_plain hgd fun K hK => ?_
  obtain ⟨v', w', hr, h2, h3⟩ := part_append h z ad c hn had hl hbw o.type
  unfold Oper.wp execOp
  simp only [ho, resolve, invoke, builtin, Sem.run_bind, Sem.run_pure, Result.andThen_ok, List.map_toArray, List.map_cons, List.map_nil, hs, hx, hr]
  exact hK _ _ (hk v' w' h2 h3)
theorem thr_le (b : BlockM) (v : Int) (p : Nat) : thr b v p = 0 ∨ thr b v p = 1 ∨ thr b v p = 2 := by
  unfold thr
  generalize b.insts.2.drop p = l
  generalize termTakes b v = tt
  induction l with
  | nil => unfold thrL; cases tt <;> simp
  | cons x l ih =>
    unfold thrL
    split
    · exact .inr (.inl rfl)
    · split
      · exact .inr (.inr rfl)
      · exact ih
/-- bools in memory -/
def boolsC (l : List Bool) : Array Value := (l.map Value.bool).toArray
theorem bools_at {l : List Bool} {k : Nat} (hk : k < l.length) : (boolsC l)[k]? = some (.bool l[k]!) := by
  unfold boolsC
  rw [List.getElem?_toArray, List.getElem?_map, List.getElem?_eq_getElem hk, getElem!_pos l k hk]; rfl
theorem bools_set (l : List Bool) (k : Nat) (b : Bool) : (boolsC l).setIfInBounds k (.bool b) = boolsC (l.set k b) := by
  unfold boolsC
  rw [List.setIfInBounds_toArray, List.map_set]
theorem bools_made (q : Nat) : madeCells (Value.bool false).cells q = boolsC (List.replicate q false) := by
  unfold boolsC
  apply Array.ext
  · rw [size_madeCells]; simp
  · intro i h1 h2
    unfold madeCells
    simp [Value.cells, Nat.mod_one]
theorem info4 : (Tryd.prog.info? 4).map (fun i => (i.zero, i.size, i.bytes)) = some (some (.bool false), 1, 1) := by kernel_rfl
end Go.Proofs.YtjllbchfojonhaaDoor
namespace Go.Proofs.YtjllbchfojonhaaDoor
open Go.RowKit Go.Shelf Go.Lib
set_option linter.unusedVariables false
set_option linter.unusedSimpArgs false

theorem seen0 (n : Nat) : (fun c : Nat => (List.replicate n false)[c]!) = fun _ => false := by
  funext c
  by_cases h : c < n
  · exact rep_bang _ h
  · rw [getElem!_neg _ _ (by simpa using h)]; rfl
theorem seen_set (sl : List Bool) (d : Nat) (h : d < sl.length) : (fun c : Nat => (sl.set d true)[c]!) = fun c => sl[c]! || decide (c = d) := by
  funext c
  rw [lb_set h]
  by_cases e : c = d
  · rw [if_pos e]; simp [e]
  · rw [if_neg e]; simp [e]
theorem natI_len (l : List Nat) : (natI l).length = l.length := by unfold natI; rw [List.length_map]
theorem cntF_le (l : List Bool) : cntF l ≤ l.length := List.length_filter_le _ _
theorem block_parts {w : World} {y : BlockM} (h : BlockAt w y) : ∃ pa pc qa qc, y.cells = [.string y.name, .slice pa y.phis.2.length pc, .slice qa y.insts.2.length qc, .int .i64 y.kind, .int .i64 y.var, .int .i64 y.to0, .int .i64 y.to1] := by
  obtain ⟨pa, pc, pe, -, -, -⟩ := h.phis.open_
  obtain ⟨qa, qc, qe, -, -, -⟩ := h.insts.open_
  exact ⟨pa, pc, qa, qc, by unfold BlockM.cells; rw [pe, qe]⟩
/-- which ends were gone through -/
theorem part_tail {w : World} {base : Nat} {v : Value} {z : Int} {l : List Int} {g off cap : Nat} {cur : Array Value} (h : PartAt w base v (z :: l) g off cap cur) :
    ∃ o', (∀ inst : Decidable (cap = 1), @ite (Option Addr) (cap = 1) inst (some ⟨g, off, none⟩) (some ⟨g, off + 1, none⟩) = some ⟨g, o', none⟩) ∧ PartAt w base (.slice (some ⟨g, o', none⟩) l.length (cap - 1)) l g o' (cap - 1) cur := by
  have hle : l.length + 1 ≤ cap := h.le
  have hfit := h.fit
  by_cases hc : cap = 1
  · refine ⟨off, fun _ => by rw [if_pos hc], rfl, h.base, h.blk, by omega, by omega, by have := h.max; omega, fun j hj => by omega⟩
  · refine ⟨off + 1, fun _ => by rw [if_neg hc], rfl, h.base, h.blk, by omega, by omega, by have := h.max; omega, fun j hj => ?_⟩
    have := h.at_ (j + 1) (by show j + 1 < l.length + 1; omega)
    rw [show off + 1 + j = off + (j + 1) by omega, this]; rfl
theorem part_ne {w : World} {base g : Nat} {t : TypeId} {v : Value} {l : List Int} {cs : Array Value} (h : Part w base v l) (hb : Blk w g t cs) (ht : t ≠ 3) : v.ownBlock ≠ some g := by
  obtain ⟨g', off, cap, cur, hp⟩ := h
  intro e
  rw [hp.v] at e
  simp only [Value.ownBlock, Option.some.injEq] at e
  subst e
  have h1 := hp.blk
  unfold Blk at h1 hb
  rw [h1] at hb
  simp only [Option.some.injEq, Obj.cells.injEq] at hb
  exact ht hb.2.1.symm
def doneE (b : BlockM) (k : Nat) : List Nat := if k = 0 then [] else if k = 1 then (if b.kind = 2 then [] else [b.to0.toNat]) else succM b
theorem fuel_start (n : Nat) : cntF (List.replicate n false) + [0].length ≤ n + 1 := by
  have := cntF_le (List.replicate n false)
  rw [List.length_replicate] at this
  show cntF _ + 1 ≤ n + 1
  omega

set_option maxRecDepth 100000 in
set_option maxHeartbeats 200000000 in
theorem live23_any (f : FuncM) (v b p : Nat) (w : World) (hf : FuncAt w f) (hp : LiveP f) (hkd : ∀ c, c < f.nb → (f.blk c).kind = 0 ∨ (f.blk c).kind = 1 ∨ (f.blk c).kind = 2) (hb : b < f.nb) (hpl : p ≤ (f.blk b).insts.2.length) (hvm : v ≤ 1000000) :
    Calls Tryd.prog 23 #[f.val, .int .i64 (v : Nat), .int .i64 (b : Nat), .int .i64 (p : Nat)] w fun e w' => e = .returned (.bool (liveB f.blk v b p)) ∧ Keeps w w' [] := by
  obtain ⟨i4, hi4, he4⟩ := Option.map_eq_some_iff.1 info4
  simp only [Prod.mk.injEq] at he4
  obtain ⟨hz4, hs4, hb4⟩ := he4
  have hnb := hp.nb
  have HSU := kept hp.succ
  have HKD := kept hkd
  have HENx := kept (fun c (hc : c < f.nb) => (hp.blk c hc).2.2.2)
  have HFB := kept (fun k (hk : k < f.nb) => hf.block (f.blocks.2[k]!) (bang_mem (l := f.blocks.2) (k := k) hk))
  have CT := kept (fun c (hc : c < f.nb) (pl : Nat) (h : pl ≤ (f.blk c).insts.2.length) W (k : Keeps w W []) => through_any (f.blk c) (v : Int) pl W ((HFB.out c hc).keep k) h)
  have HTL := kept (thr_le (f.blk b) (v : Int) p)
  have HLB := kept (@liveB_iff f.blk v b p)
  have HG := kept (show ∀ c, gOf f.blk v c = thr (f.blk c) (v : Int) 0 from fun _ => rfl)
  obtain ⟨a0, c0, e0, -, -, hc0⟩ := hf.vars.open_
  obtain ⟨a1, c1, e1, -, -, hc1⟩ := (show Row w 1 f.params.1 (f.params.2.map intCells) from hf.params).open_
  obtain ⟨a2, c2, e2, -, -, hc2⟩ := hf.blocks.open_
  have hval : f.val = .agg #[.slice a0 f.nv c0, .slice a1 f.np c1, .slice a2 f.nb c2] := by unfold FuncM.val FuncM.nv FuncM.np FuncM.nb; rw [e0, e1, e2]
  have h1 : #[f.vars.1, f.params.1, f.blocks.1] = #[.slice a0 f.nv c0, .slice a1 f.np c1, .slice a2 f.nb c2] := by unfold FuncM.nv FuncM.np FuncM.nb; rw [e0, e1, e2]
  have HF := kept hf
  have HC0 := kept hc0
  have HC1 := kept hc1
  have HC2 := kept hc2
  have HNV := kept (show f.vars.2.length = f.nv from rfl)
  have HNP := kept (show f.params.2.length = f.np from rfl)
  have HNB := kept (show f.blocks.2.length = f.nb from rfl)
  rw [hval]
  clear e0 e1 e2 hval h1 hf hc0 hc1 HC0 HC1 hc2 hp HF hkd
  generalize hRB : liveB f.blk v b p = RB at *
  have HRB := kept hRB
  clear hRB
  have hk0 : Keeps w (w.alloc (.cells #[.slice a0 f.nv c0, .slice a1 f.np c1, .slice a2 f.nb c2] 26)) [] := (Keeps.refl _ []).alloc _
  have bb0 := Blk.new w 26 #[.slice a0 f.nv c0, .slice a1 f.np c1, .slice a2 f.nb c2]
  have Bl := kept bb0
  have HK := kept hk0
  have l0 := Bl.out.cell 0
  have l1 := Bl.out.cell 1
  have l2 := Bl.out.cell 2
  simp at l0 l1 l2
  clear hk0 bb0
  obtain ⟨bb, off, e2, -, hcell⟩ := HC2.out b (by rw [HNB.out]; exact hb)
  subst e2
  have HCLL := kept (fun c (hc : c < f.nb) => show ∀ (i : Nat) (x : Value), (f.blocks.2[c]!).cells[i]? = some x → w.cell? ⟨bb, off + c * 7 + i, none⟩ = some x from by obtain ⟨b3, o3, e3, -, h3⟩ := HC2.out c (by rw [HNB.out]; exact hc); simp only [Option.some.injEq, Addr.mk.injEq, and_true] at e3; obtain ⟨rfl, rfl⟩ := e3; exact h3)
  clear hcell
  have hbI : (b : Int) < (f.nb : Int) := by omega
  obtain ⟨pa, pc, qa, qc, hcl⟩ := block_parts (HFB.out b hb)
  have HCLk := kept (HCLL.out b hb)
  have CTy := kept (fun W (k : Keeps w W []) => CT.out b hb p hpl W k)
  have HKy := kept (HKD.out b hb)
  have HTy := kept (thr_le (f.blk b) (v : Int) p)
  have HSy := kept (show sOf f.blk b = succM f.blocks.2[b]! from rfl)
  have hbkx : f.blk b = f.blocks.2[b]! := rfl
  rw [hbkx] at CTy HKy HTy
  clear hbkx
  generalize hyy : f.blocks.2[b]! = y at *
  have HYY := kept hyy
  clear hyy
  rw [hcl] at HCLk
  simp only [hcl] at CTy
  clear hcl
  generalize hth : thr y (v : Int) p = T at *
  have HTH := kept hth
  clear hth
  generalize hyn : y.name = yn at *
  have Hyn := kept hyn
  clear hyn
  generalize hyk : y.kind = yk at *
  have Hyk := kept hyk
  clear hyk
  generalize hyv : y.var = yv at *
  have Hyv := kept hyv
  clear hyv
  generalize hy0 : y.to0 = y0 at *
  have Hy0 := kept hy0
  clear hy0
  generalize hy1 : y.to1 = y1 at *
  have Hy1 := kept hy1
  clear hy1
  generalize y.phis.2.length = pn at *
  generalize y.insts.2.length = qn at *
  have n0 := HK.out.cellOf (HCLk.out 0 _ rfl)
  have n1 := HK.out.cellOf (HCLk.out 1 _ rfl)
  have n2 := HK.out.cellOf (HCLk.out 2 _ rfl)
  have n3 := HK.out.cellOf (HCLk.out 3 _ rfl)
  have n4 := HK.out.cellOf (HCLk.out 4 _ rfl)
  have n5 := HK.out.cellOf (HCLk.out 5 _ rfl)
  have n6 := HK.out.cellOf (HCLk.out 6 _ rfl)
  simp only [Nat.add_zero] at n0
  go_enter Tryd.func23, Tryd.ntmps23
  have hEQ : Hid (T = thr (f.blk b) (v : Int) p) := by show _ = _; rw [← HTH.out, ← HYY.out]; rfl
  rcases HTy.out with hT | hT | hT
  · as_aux_lemma =>
      subst hT
      have HRL : Hid (RB = true ↔ LiveOut (gOf f.blk v) (sOf f.blk) b) := by show _ ↔ _; rw [HLB.out]; have h9 := hEQ.out; exact ⟨fun h => h.elim (fun h => by omega) (fun h => h.2), fun h => .inr ⟨h9.symm, h⟩⟩
      clear hEQ HTH HYY HSy HKy HCLk HTy HTL HLB Hyn Hyk Hyv Hy0 Hy1
      have hr4 := fun W : World => Go.run_makeSlice (P := Tryd.prog) (w := W) 101 4 i4 (.bool false) (by kernel_rfl) hi4 hz4 .i64 .i64 (f.nb : Int) (f.nb : Int) (by omega) (Int.le_refl _) (by rw [hs4]; omega) (by rw [hb4]; omega) (by omega)
      simp only [hs4, Int.toNat_natCast, Nat.mul_one, bools_made] at hr4
      go_upto_region 8 with (first | (go_at_call 50; go_must (refine (CTy.out _ HK.out).mono ?_; rintro e w3 ⟨rfl, k3⟩; clear n0 n1 n2 n3 n4 n5 n6; clear l0 l1 l2; have Blx := kept (Bl.out.keep k3 (by simp)); have HKx := kept (HK.out.and_then k3); clear Bl HK; have Bl := Blx; have HK := HKx; clear Blx HKx; have l0 := Bl.out.cell 0; have l1 := Bl.out.cell 1; have l2 := Bl.out.cell 2; simp at l0 l1 l2; clear k3)) | fail)
      have hgs : w.heap.size < w3.heap.size := Bl.out.lt
      have ks1 : Keeps w3 (w3.alloc (.cells (boolsC (List.replicate f.nb false)) 4)) [] := (Keeps.refl w3 []).alloc _
      have ks2 : Keeps w3 ((w3.alloc (.cells (boolsC (List.replicate f.nb false)) 4)).alloc (.cells #[.int .i64 (b : Int)] 3)) [] := ks1.alloc _
      have HS := kept ((Blk.new w3 4 (boolsC (List.replicate f.nb false))).keep ((Keeps.refl _ []).alloc (.cells #[.int .i64 (b : Int)] 3)) (by simp))
      have hq0 := Blk.new (w3.alloc (.cells (boolsC (List.replicate f.nb false)) 4)) 3 #[.int .i64 (b : Int)]
      rw [size_alloc1] at hq0
      have HQ := kept (Part.start hq0 (show w.heap.size ≤ w3.heap.size + 1 by omega))
      have HBl := kept (Bl.out.keep ks2 (by simp))
      have HKx := kept (HK.out.and_then ks2)
      clear l0 l1 l2 hq0 ks1 ks2 Bl HK hr4
      have Bl := HBl
      have HK := HKx
      clear HBl HKx
      generalize ((w3.alloc (.cells (boolsC (List.replicate f.nb false)) 4)).alloc (.cells #[.int .i64 (b : Int)] 3)) = WS at *
      generalize w3.heap.size = gs at *
      have HSI := kept (search_start (g := gOf f.blk v) (succ := sOf f.blk) hb)
      have HS0 := kept (seen0 f.nb)
      rw [← HS0.out] at HSI
      have HCF := kept (And.intro (fuel_start f.nb) (Nat.le_refl (f.nb + 1)))
      go_loopg [10] (f.nb + 1) (fun gk a wr => ∃ (sl : List Bool) (q : List Nat), Part wr w.heap.size a (natI q) ∧ Blk wr gs 4 (boolsC sl) ∧ Blk wr w.heap.size 26 #[.slice a0 f.nv c0, .slice a1 f.np c1, .slice (some ⟨bb, off, none⟩) f.nb c2] ∧ Hid (sl.length = f.nb) ∧ Hid (SearchInv (gOf f.blk v) (sOf f.blk) b f.nb (fun c => sl[c]!) q) ∧ Hid (cntF sl + q.length ≤ gk ∧ gk ≤ f.nb + 1) ∧ Keeps w wr [])
      case atStart => exact ⟨List.replicate f.nb false, [b], HQ.out, HS.out, Bl.out, (show Hid _ from by show _ = _; simp), HSI, HCF, HK.out⟩
      case round =>
        clear HQ HS Bl HSI HS0 HCF HK
        obtain ⟨sl, q, hQ, hS, hBl, HSL, HSI, HCF, hr⟩ := hrel
        have HS := kept hS
        have Bl := kept hBl
        have HK := kept hr
        obtain ⟨wo, hwo⟩ : ∃ wo : World, wo = wr := ⟨_, rfl⟩
        subst hwo
        obtain ⟨gq, oq, cq, cur, hP⟩ := hQ
        have hPv := hP.v
        subst hPv
        rw [natI_len] at hP ⊢
        have HP := kept hP
        clear hS hBl hr hP
        have l2 := Bl.out.cell 2
        simp at l2
        cases q with
        | nil =>
          as_aux_lemma =>
            have HRF : Hid (RB = false) := by show _ = _; rw [← Bool.not_eq_true]; intro h; exact search_none HSI.out (HRL.out.1 h)
            go_wp2
            go_ret
            exact ⟨ret_bool HRF.out.symm, HK.out⟩
        | cons x q2 =>
          as_aux_lemma =>
            have hqI : (0 : Int) < ((q2.length + 1 : Nat) : Int) := by omega
            have hlen9 : (x :: q2).length = q2.length + 1 := rfl
            rw [hlen9] at HP HCF ⊢
            clear hlen9
            have hxn : x < f.nb := (HSI.out.wait x (List.mem_cons_self ..)).1
            have hxI : (x : Int) < (f.nb : Int) := by omega
            have HMID := kept (search_pop HSI.out)
            clear HSI
            have o0 : wo.cell? ⟨gq, oq, none⟩ = some (.int .i64 (x : Int)) := by have h := HP.out.at_ 0 (by rw [natI_len]; show 0 < q2.length + 1; omega); rw [HP.out.blk.cell oq]; exact h
            obtain ⟨pa, pc, qa, qc, hcl⟩ := block_parts (HFB.out x hxn)
            have HCLk := kept (HCLL.out x hxn)
            have HKy := kept (HKD.out x hxn)
            have HSUx := kept (fun c hc => HSU.out x hxn c hc)
            have hbkx : f.blk x = f.blocks.2[x]! := rfl
            have HSy := kept (show sOf f.blk x = succM f.blocks.2[x]! from rfl)
            rw [hbkx] at HKy
            clear hbkx
            generalize hyy : f.blocks.2[x]! = y at *
            have HYY := kept hyy
            clear hyy
            rw [hcl] at HCLk
            clear hcl
            generalize y.name = yn at *
            generalize hyk : y.kind = yk at *
            have Hyk := kept hyk
            clear hyk
            generalize y.var = yv at *
            generalize hy0 : y.to0 = y0 at *
            have Hy0 := kept hy0
            clear hy0
            generalize hy1 : y.to1 = y1 at *
            have Hy1 := kept hy1
            clear hy1
            generalize y.phis.2.length = pn at *
            generalize y.insts.2.length = qn at *
            have n3 := HK.out.cellOf (HCLk.out 3 _ rfl)
            have n4 := HK.out.cellOf (HCLk.out 4 _ rfl)
            have n5 := HK.out.cellOf (HCLk.out 5 _ rfl)
            have n6 := HK.out.cellOf (HCLk.out 6 _ rfl)
            go_upto_region 9 with (fail)
            refine wp_region_held_drew (S := (fun w' => w'.cell? ⟨w.heap.size, 2, none⟩ = some (.slice (some ⟨bb, off, none⟩) f.nb c2) ∧ w'.cell? ⟨gq, oq, none⟩ = some (.int .i64 (x : Int)) ∧ w'.cell? ⟨bb, off + x * 7 + 3, none⟩ = some (.int .i64 yk) ∧ w'.cell? ⟨bb, off + x * 7 + 4, none⟩ = some (.int .i64 yv) ∧ w'.cell? ⟨bb, off + x * 7 + 5, none⟩ = some (.int .i64 y0) ∧ w'.cell? ⟨bb, off + x * 7 + 6, none⟩ = some (.int .i64 y1))) (by kernel_rfl) ?zhSs (fun hHeld => ?_)
            case zhSs => exact ⟨l2, o0, n3, n4, n5, n6⟩
            have hkd : Keeps wo (World.drew wo) [] := (Keeps.refl wo []).drew
            have l2x := hkd.cellOf l2
            have o0x := hkd.cellOf o0
            have n3x := hkd.cellOf n3
            have n4x := hkd.cellOf n4
            have n5x := hkd.cellOf n5
            have n6x := hkd.cellOf n6
            clear l2 o0 n3 n4 n5 n6
            have l2 := l2x
            have o0 := o0x
            have n3 := n3x
            have n4 := n4x
            have n5 := n5x
            have n6 := n6x
            clear l2x o0x n3x n4x n5x n6x
            have KX := kept hkd
            clear hkd
            generalize World.drew wo = X0 at *
            refine wpAnyH_take (i := 0) (oi := { dst := some 35, op := Op.fieldAddr 26 (Operand.tmp 4) 2, type := 0, pos := "ref.go:43", after := #[], guard := none }) (v := ?zv0) rfl (by kernel_rfl) (by kernel_rfl) (by kernel_rfl) (fun _ _ _ h => h) (Or.inl ⟨by rfl, ?zy0⟩) hHeld ?zr0
            case zy0 => (intro w hSw; (try dsimp only at hSw); go_simp; (try with_reducible rfl))
            try simp only [Act.put, List.setIfInBounds_toArray, List.set_cons_zero, List.set_cons_succ]
            refine wpAnyH_take (i := 1) (oi := { dst := some 36, op := Op.load 24 (Operand.tmp 35), type := 24, pos := "ref.go:43", after := #[{ on := 0, ground := Ground.data }], guard := none }) (v := ?zv1) rfl (by kernel_rfl) (by kernel_rfl) (by kernel_rfl) (fun _ _ _ h => h) (Or.inl ⟨by rfl, ?zy1⟩) hHeld ?zr1
            case zy1 => (intro w hSw; (try dsimp only at hSw); go_simp; (try with_reducible rfl))
            try simp only [Act.put, List.setIfInBounds_toArray, List.set_cons_zero, List.set_cons_succ]
            refine wpAnyH_take (i := 2) (oi := { dst := some 37, op := Op.move (Operand.tmp 10), type := 23, pos := "ref.go:43", after := #[], guard := none }) (v := ?zv2) rfl (by kernel_rfl) (by kernel_rfl) (by kernel_rfl) (fun _ _ _ h => h) (Or.inl ⟨by rfl, ?zy2⟩) hHeld ?zr2
            case zy2 => (intro w hSw; (try dsimp only at hSw); go_simp; (try with_reducible rfl))
            try simp only [Act.put, List.setIfInBounds_toArray, List.set_cons_zero, List.set_cons_succ]
            refine wpAnyH_take (i := 3) (oi := { dst := some 38, op := Op.indexAddr 23 (Operand.tmp 37) (Operand.const (Value.int IntKind.i64 0)), type := 0, pos := "ref.go:43", after := #[{ on := 2, ground := Ground.data }], guard := none }) (v := ?zv3) rfl (by kernel_rfl) (by kernel_rfl) (by kernel_rfl) (fun _ _ _ h => h) (Or.inl ⟨by rfl, ?zy3⟩) hHeld ?zr3
            case zy3 => (intro w hSw; (try dsimp only at hSw); go_simp; (try with_reducible rfl))
            try simp only [Act.put, List.setIfInBounds_toArray, List.set_cons_zero, List.set_cons_succ]
            refine wpAnyH_take (i := 4) (oi := { dst := some 39, op := Op.load 3 (Operand.tmp 38), type := 3, pos := "ref.go:43", after := #[{ on := 3, ground := Ground.data }], guard := none }) (v := ?zv4) rfl (by kernel_rfl) (by kernel_rfl) (by kernel_rfl) (fun _ _ _ h => h) (Or.inl ⟨by rfl, ?zy4⟩) hHeld ?zr4
            case zy4 => (intro w hSw; (try dsimp only at hSw); go_simp; (try with_reducible rfl))
            try simp only [Act.put, List.setIfInBounds_toArray, List.set_cons_zero, List.set_cons_succ]
            refine wpAnyH_take (i := 5) (oi := { dst := some 40, op := Op.indexAddr 24 (Operand.tmp 36) (Operand.tmp 39), type := 0, pos := "ref.go:43", after := #[{ on := 1, ground := Ground.data }, { on := 4, ground := Ground.data }], guard := none }) (v := ?zv5) rfl (by kernel_rfl) (by kernel_rfl) (by kernel_rfl) (fun _ _ _ h => h) (Or.inl ⟨by rfl, ?zy5⟩) hHeld ?zr5
            case zy5 => (intro w hSw; (try dsimp only at hSw); go_simp; (try with_reducible rfl))
            try simp only [Act.put, List.setIfInBounds_toArray, List.set_cons_zero, List.set_cons_succ]
            refine wpAnyH_take (i := 6) (oi := { dst := some 41, op := Op.fieldAddr 39 (Operand.tmp 40) 3, type := 0, pos := "ref.go:43", after := #[{ on := 5, ground := Ground.data }], guard := none }) (v := ?zv6) rfl (by kernel_rfl) (by kernel_rfl) (by kernel_rfl) (fun _ _ _ h => h) (Or.inl ⟨by rfl, ?zy6⟩) hHeld ?zr6
            case zy6 => (intro w hSw; (try dsimp only at hSw); go_simp; (try with_reducible rfl))
            try simp only [Act.put, List.setIfInBounds_toArray, List.set_cons_zero, List.set_cons_succ]
            refine wpAnyH_take (i := 7) (oi := { dst := some 42, op := Op.load 37 (Operand.tmp 41), type := 37, pos := "ref.go:43", after := #[{ on := 6, ground := Ground.data }], guard := none }) (v := ?zv7) rfl (by kernel_rfl) (by kernel_rfl) (by kernel_rfl) (fun _ _ _ h => h) (Or.inl ⟨by rfl, ?zy7⟩) hHeld ?zr7
            case zy7 => (intro w hSw; (try dsimp only at hSw); go_simp; (try with_reducible rfl))
            try simp only [Act.put, List.setIfInBounds_toArray, List.set_cons_zero, List.set_cons_succ]
            refine wpAnyH_ready (rs := [8]) (by kernel_rfl) (by simp) ?_
            refine AllReadyH.cons (o := { dst := some 11, op := Op.alloc 37, type := 0, pos := "ref.go:43", after := #[], guard := none }) rfl (fun K hK => ?_) AllReadyH.nil
            clear hHeld
            go_simp
            have k3 : Keeps X0 (X0.alloc (.cells #[.int .i64 0, .int .i64 0, .int .i64 0, .int .i64 0] 37)) [] := (Keeps.refl X0 []).alloc _
            have BT0 := kept (Blk.new X0 37 #[.int .i64 0, .int .i64 0, .int .i64 0, .int .i64 0])
            have HGE := kept KX.out.size
            have l2x := k3.cellOf l2
            have o0x := k3.cellOf o0
            have n3x := k3.cellOf n3
            have n4x := k3.cellOf n4
            have n5x := k3.cellOf n5
            have n6x := k3.cellOf n6
            clear l2 o0 n3 n4 n5 n6
            have l2 := l2x
            have o0 := o0x
            have n3 := n3x
            have n4 := n4x
            have n5 := n5x
            have n6 := n6x
            clear l2x o0x n3x n4x n5x n6x
            have KXx := kept (KX.out.and_then k3)
            clear k3 KX
            have KX := KXx
            clear KXx
            generalize X0.alloc (.cells #[.int .i64 0, .int .i64 0, .int .i64 0, .int .i64 0] 37) = X1 at *
            generalize X0.heap.size = xa at *
            refine hK.out _ _ ?zS8 (fun hHeld => ?_)
            case zS8 => exact ⟨l2, o0, n3, n4, n5, n6⟩
            clear hK K
            try simp only [Act.put, List.setIfInBounds_toArray, List.set_cons_zero, List.set_cons_succ]
            refine wpAnyH_ready (rs := [9]) (by kernel_rfl) (by simp) ?_
            refine AllReadyH.cons (o := { dst := none, op := Op.store 37 (Operand.tmp 11) (Operand.tmp 42), type := 0, pos := "ref.go:43", after := #[{ on := 8, ground := Ground.data }, { on := 7, ground := Ground.data }, { on := 0, ground := Ground.phase }, { on := 1, ground := Ground.phase }, { on := 2, ground := Ground.phase }, { on := 3, ground := Ground.phase }, { on := 4, ground := Ground.phase }, { on := 5, ground := Ground.phase }, { on := 6, ground := Ground.phase }, { on := 7, ground := Ground.phase }, { on := 8, ground := Ground.phase }], guard := none }) rfl (fun K hK => ?_) AllReadyH.nil
            clear hHeld
            have b0 := BT0.out.cell 0
            have b1 := BT0.out.cell 1
            have b2 := BT0.out.cell 2
            have b3 := BT0.out.cell 3
            have f0 := BT0.out.frozen 0
            have f1 := BT0.out.frozen 1
            have f2 := BT0.out.frozen 2
            have f3 := BT0.out.frozen 3
            simp at b0 b1 b2 b3
            go_simp
            have Bt := kept (blk_four (a := .int .i64 yk) (b := .int .i64 yv) (c := .int .i64 y0) (d := .int .i64 y1) BT0.out)
            have hkx := keeps_four (a := .int .i64 yk) (b := .int .i64 yv) (c := .int .i64 y0) (d := .int .i64 y1) KX.out HGE.out
            clear b0 b1 b2 b3 f0 f1 f2 f3 BT0
            have HKx := kept (HK.out.and_then hkx)
            have HSx := kept (HS.out.keep hkx (by simp))
            have Blx := kept (Bl.out.keep hkx (by simp))
            have HPx := kept (HP.out.blk.keep hkx (by simp))
            clear KX l2 o0 n3 n4 n5 n6
            generalize ((((X1.setCell ⟨xa, 0, none⟩ (.int .i64 yk)).setCell ⟨xa, 1, none⟩ (.int .i64 yv)).setCell ⟨xa, 2, none⟩ (.int .i64 y0)).setCell ⟨xa, 3, none⟩ (.int .i64 y1)) = X2 at *
            have l2 := Blx.out.cell 2
            simp at l2
            have o0 : X2.cell? ⟨gq, oq, none⟩ = some (.int .i64 (x : Int)) := by have h := HP.out.at_ 0 (by rw [natI_len]; show 0 < q2.length + 1; omega); rw [HPx.out.cell oq]; exact h
            have n3 := HKx.out.cellOf (HCLk.out 3 _ rfl)
            have n4 := HKx.out.cellOf (HCLk.out 4 _ rfl)
            have n5 := HKx.out.cellOf (HCLk.out 5 _ rfl)
            have n6 := HKx.out.cellOf (HCLk.out 6 _ rfl)
            have hxag : gs < xa := by have := HGE.out; have := HS.out.lt; omega
            have hxaw : w.heap.size < xa := by have := HGE.out; have := Bl.out.lt; omega
            have hxaq : gq < xa := by have := HGE.out; have := HP.out.blk.lt; omega
            clear hkx HGE
            refine hK.out _ _ ?zS9 (fun hHeld => ?_)
            case zS9 => exact ⟨l2, o0, n3, n4, n5, n6⟩
            clear hK K
            try simp only [Act.put, List.setIfInBounds_toArray, List.set_cons_zero, List.set_cons_succ]
            refine wpAnyH_done (by kernel_rfl) ?_ _
            clear hHeld
            have HPB := kept (show PartAt X2 w.heap.size (.slice (some ⟨gq, oq, none⟩) (q2.length + 1) cq) (natI (x :: q2)) gq oq cq cur from ⟨by rw [natI_len]; rfl, HP.out.base, HPx.out, HP.out.le, HP.out.fit, HP.out.max, HP.out.at_⟩)
            clear HP HPx HK HS Bl o0 n3 n4 n5 n6 l2
            have HK := HKx
            have HS := HSx
            have Bl := Blx
            clear HKx HSx Blx
            obtain ⟨o2, hif, hPT⟩ := part_tail HPB.out
            have HPT0 : Hid (Part X2 w.heap.size (.slice (some ⟨gq, o2, none⟩) (natI q2).length (cq - 1)) (natI q2)) := ⟨gq, o2, cq - 1, cur, hPT⟩
            rw [natI_len] at HPT0
            have HIF := kept hif
            clear hif hPT HPB
            obtain ⟨gf, rfl⟩ : ∃ gf, gk = gf + 1 := ⟨gk - 1, by have := HCF.out.1; omega⟩
            have HCG : Hid (cntF sl + q2.length ≤ gf) := by have := HCF.out.1; show _ ≤ _; omega
            have HGB : Hid (gf ≤ f.nb) := by have := HCF.out.2; show _ ≤ _; omega
            clear HCF
            have HEN := kept (fun z hz => HENx.out x hxn z hz)
            rw [HYY.out] at HEN
            have HDN0 : Hid (∀ d ∈ doneE y 0, sl[d]! = true) := fun d hd => by cases hd
            go_upto_region 11 with (fail)
            rw [HIF.out]
            clear HIF
            go_upto_region 12 with (fail)
            go_loopw [10, 45] (fun a i wr => ∃ (k : Nat) (sl : List Bool) (q : List Nat), k ≤ 2 ∧ i = .int .i64 k ∧ Part wr w.heap.size a (natI q) ∧ Blk wr gs 4 (boolsC sl) ∧ Blk wr w.heap.size 26 #[.slice a0 f.nv c0, .slice a1 f.np c1, .slice (some ⟨bb, off, none⟩) f.nb c2] ∧ Blk wr xa 37 #[.int .i64 yk, .int .i64 yv, .int .i64 y0, .int .i64 y1] ∧ Hid (sl.length = f.nb) ∧ Hid (SearchMid (gOf f.blk v) (sOf f.blk) b f.nb (fun c => sl[c]!) q x) ∧ Hid (cntF sl + q.length ≤ gf) ∧ Hid (∀ d ∈ doneE y k, sl[d]! = true) ∧ Keeps w wr []) (fun _ i _ => 2 - (intOf i).toNat)
            case atStart => exact ⟨0, sl, q2, by omega, rfl, HPT0.out, HS.out, Bl.out, Bt.out, HSL, HMID, HCG, HDN0, HK.out⟩
            case round =>
              clear HPT0 HS Bl Bt HSL HMID HCG HDN0 HK
              obtain ⟨k, sl, q, hk2, rfl, hQ, hS, hBl, hBt, HSL, HMID, HCG, HDN, hr⟩ := hrel
              have HQ := kept hQ
              have HS := kept hS
              have Bl := kept hBl
              have Bt := kept hBt
              have HK := kept hr
              obtain ⟨wi, hwi⟩ : ∃ wi : World, wi = wr := ⟨_, rfl⟩
              subst hwi
              obtain ⟨gp, op, cp, cu, hPP⟩ := hQ
              have hpv := hPP.v
              rw [natI_len] at hpv
              subst hpv
              clear hS hBl hBt hr hPP
              have l2 := Bl.out.cell 2
              simp at l2
              have b0 := Bt.out.cell 0
              have b1 := Bt.out.cell 1
              have b2 := Bt.out.cell 2
              have b3 := Bt.out.cell 3
              simp at b0 b1 b2 b3
              have hkd3 := HKy.out
              by_cases hk0 : k = 0
              · subst hk0
                rcases hkd3 with h9 | h9 | h9
                · subst h9
                  as_aux_lemma =>
                    have hen : 0 ≤ y0 ∧ y0 < (f.nb : Int) := by
                      refine HEN.out y0 ?_
                      unfold endsM
                      rw [Hy0.out, Hyk.out, if_pos rfl]
                      exact List.mem_singleton.2 rfl
                    obtain ⟨tn, rfl⟩ : ∃ tn : Nat, y0 = tn := ⟨y0.toNat, by omega⟩
                    have htn : tn < f.nb := by omega
                    have htnI : (tn : Int) < (f.nb : Int) := by omega
                    clear hen
                    have HMS : Hid (tn ∈ sOf f.blk x) := by
                      show tn ∈ sOf f.blk x
                      rw [HSy.out]
                      unfold succM
                      rw [Hy0.out, Hyk.out, Int.toNat_natCast, if_pos rfl]
                      exact List.mem_singleton.2 rfl
                    have s0 := (HS.out.cell tn).trans (bools_at (by rw [HSL.out]; exact htn))
                    cases hsn : sl[tn]! with
                    | true =>
                      rw [hsn] at s0
                      have htt := hsn
                      have HDn : Hid (∀ d ∈ doneE y 1, sl[d]! = true) := fun d hd => by
                        unfold doneE at hd
                        rw [if_neg (by decide), if_pos rfl, Hyk.out, if_neg (by decide), Hy0.out, Int.toNat_natCast] at hd
                        rw [List.mem_singleton.1 hd]
                        exact htt
                      clear htt hsn
                      have HSLn := HSL
                      go_wp2
                      go_roundw
                      case rel => exact ⟨1, sl, q, by omega, by go_num, HQ.out, HS.out, Bl.out, Bt.out, HSLn, HMID, HCG, HDn, HK.out⟩
                      case measure => simp [intOf] <;> omega
                    | false =>
                      rw [hsn] at s0
                      have fs := HS.out.frozen tn
                      have HSN := kept hsn
                      clear hsn
                      go_upto_region 17 with (fail)
                      have hns : tn < sl.length := by rw [HSL.out]; exact htn
                      have HCN := kept (cntF_set sl tn hns HSN.out)
                      have htt : (sl.set tn true)[tn]! = true := by rw [lb_set hns, if_pos rfl]
                      have HDn : Hid (∀ d ∈ doneE y 1, (sl.set tn true)[d]! = true) := fun d hd => by
                        unfold doneE at hd
                        rw [if_neg (by decide), if_pos rfl, Hyk.out, if_neg (by decide), Hy0.out, Int.toNat_natCast] at hd
                        rw [List.mem_singleton.1 hd]
                        exact htt
                      have hb2 := HS.out.set_ tn (.bool true)
                      rw [bools_set] at hb2
                      have hk3 : Keeps wi (wi.setCell ⟨gs, tn, none⟩ (.bool true)) [gs] := (Keeps.refl wi [gs]).setCell (.inl (by simp)) _
                      have HQx := kept (Part.keep HQ.out hk3 (fun g hg => by rw [List.mem_singleton.1 hg]; exact part_ne HQ.out HS.out (by decide)))
                      have Blx := kept (Bl.out.keep hk3 (by simp; omega))
                      have Btx := kept (Bt.out.keep hk3 (by simp; omega))
                      have HKx := kept (keeps_own HK.out hk3 (by omega))
                      have HSx := kept hb2
                      clear hk3 hb2 s0 fs HQ HS Bl Bt HK l2 b0 b1 b2 b3
                      have HQ := HQx
                      have HS := HSx
                      have Bl := Blx
                      have Bt := Btx
                      have HK := HKx
                      clear HQx HSx Blx Btx HKx
                      generalize wi.setCell ⟨gs, tn, none⟩ (.bool true) = wj at *
                      have HSLn : Hid ((sl.set tn true).length = f.nb) := by show _ = _; rw [List.length_set]; exact HSL.out
                      have HMK := kept (fun h => search_mark HMID.out HMS.out htn h)
                      have HSE := kept (seen_set sl tn hns)
                      rw [← HSE.out] at HMK
                      have HLV := kept (fun h => search_live HMID.out HMS.out h)
                      clear hns HSE HSN
                      have hgg : gOf f.blk v tn = thr f.blocks.2[tn]! (v : Int) 0 := rfl
                      have HGG := kept hgg
                      clear hgg
                      obtain ⟨pa', pc', qa', qc', hcl⟩ := block_parts (HFB.out tn htn)
                      have HCLt := kept (HCLL.out tn htn)
                      have CTt := kept (CT.out tn htn 0 (Nat.zero_le _))
                      have hbkx : f.blk tn = f.blocks.2[tn]! := rfl
                      rw [hbkx] at CTt
                      clear hbkx
                      have HTt := kept (thr_le f.blocks.2[tn]! (v : Int) 0)
                      rw [hcl] at HCLt
                      simp only [hcl] at CTt
                      clear hcl
                      generalize thr f.blocks.2[tn]! (v : Int) 0 = T at *
                      generalize f.blocks.2[tn]!.name = zn at *
                      generalize f.blocks.2[tn]!.kind = zk at *
                      generalize f.blocks.2[tn]!.var = zv at *
                      generalize f.blocks.2[tn]!.to0 = z0 at *
                      generalize f.blocks.2[tn]!.to1 = z1 at *
                      generalize f.blocks.2[tn]!.phis.2.length = zp at *
                      generalize f.blocks.2[tn]!.insts.2.length = zq at *
                      have n0 := HK.out.cellOf (HCLt.out 0 _ rfl)
                      have n1 := HK.out.cellOf (HCLt.out 1 _ rfl)
                      have n2 := HK.out.cellOf (HCLt.out 2 _ rfl)
                      have n3 := HK.out.cellOf (HCLt.out 3 _ rfl)
                      have n4 := HK.out.cellOf (HCLt.out 4 _ rfl)
                      have n5 := HK.out.cellOf (HCLt.out 5 _ rfl)
                      have n6 := HK.out.cellOf (HCLt.out 6 _ rfl)
                      simp only [Nat.add_zero] at n0
                      have l2 := Bl.out.cell 2
                      simp at l2
                      have b0 := Bt.out.cell 0
                      have b1 := Bt.out.cell 1
                      have b2 := Bt.out.cell 2
                      have b3 := Bt.out.cell 3
                      simp at b0 b1 b2 b3
                      have hge : Hid (gOf f.blk v tn = T) := HGG
                      clear HGG
                      rcases HTt.out with hT | hT | hT
                      · as_aux_lemma =>
                          subst hT
                          have HM2 : Hid (SearchMid (gOf f.blk v) (sOf f.blk) b f.nb (fun c => (sl.set tn true)[c]!) (q ++ [tn]) x) := by
                            have h := HMK.out (by rw [hge.out]; decide)
                            rw [if_pos hge.out] at h
                            exact h
                          have HC2 : Hid (cntF (sl.set tn true) + (q ++ [tn]).length ≤ gf) := by have h1 := HCN.out; have h2 := HCG.out; show _ ≤ _; rw [List.length_append, List.length_singleton]; omega
                          have hql : q.length ≤ 1000 := by have h2 := HCG.out; have := HGB.out; omega
                          have HNS : Hid (¬ gs = gp) := fun e => part_ne HQ.out HS.out (by decide) (by rw [e]; rfl)
                          have HNL : Hid (¬ w.heap.size = gp) := fun e => part_ne HQ.out Bl.out (by decide) (by rw [e]; rfl)
                          have HNT : Hid (¬ xa = gp) := fun e => part_ne HQ.out Bt.out (by decide) (by rw [e]; rfl)
                          have HGW : Hid (w.heap.size ≤ gp) := by obtain ⟨g9, o9, c9, u9, h9⟩ := HQ.out; have e9 := h9.v; simp only [Value.slice.injEq, Option.some.injEq, Addr.mk.injEq] at e9; have := h9.base; show _ ≤ _; omega
                          go_wp2_with (first | (at_builtin; go_must (refine wpList_append_part _ rfl (.tmp 84) (.tmp 86) rfl w.heap.size _ (natI q) rfl (Part.keep HQ.out ((Keeps.refl w6 []).alloc _) (by simp)) (tn : Int) ⟨w6.heap.size, 0, none⟩ 1 rfl (by rw [(Blk.new w6 3 #[.int .i64 (tn : Int)]).cell]; rfl) (by rw [add_plain]) (by rw [natI_len]; exact hql) (by have := HK.out.size; simp; omega) ?_); go_must (intro v' w7 hp7 k7; change Keeps _ _ [gp] at k7; have HQ7 := kept hp7; have HSx := kept ((HS.out.keep ((Keeps.refl w6 []).alloc _) (by simp)).keep k7 (by simp; exact HNS.out)); have Blx := kept ((Bl.out.keep ((Keeps.refl w6 []).alloc _) (by simp)).keep k7 (by simp; exact HNL.out)); have Btx := kept ((Bt.out.keep ((Keeps.refl w6 []).alloc _) (by simp)).keep k7 (by simp; exact HNT.out)); have HKx := kept (keeps_own (HK.out.alloc _) k7 HGW.out); clear HQ HS Bl Bt HK hp7 k7 l2 b0 b1 b2 b3; have HQ := HQ7; have HS := HSx; have Bl := Blx; have Bt := Btx; have HK := HKx)) | (go_at_call 50; go_must (refine (CTt.out wj HK.out).mono ?_; rintro e w6 ⟨rfl, k3⟩; clear n0 n1 n2 n3 n4 n5 n6 l2 b0 b1 b2 b3; have HQx := kept (Part.keep HQ.out k3 (by simp)); have Blx := kept (Bl.out.keep k3 (by simp)); have Btx := kept (Bt.out.keep k3 (by simp)); have HSx := kept (HS.out.keep k3 (by simp)); have HKx := kept (HK.out.and_then k3); clear HQ HS Bl Bt HK k3 CTt; have HQ := HQx; have HS := HSx; have Bl := Blx; have Bt := Btx; have HK := HKx; clear HQx HSx Blx Btx HKx; have l2 := Bl.out.cell 2; simp at l2; have b0 := Bt.out.cell 0; have b1 := Bt.out.cell 1; have b2 := Bt.out.cell 2; have b3 := Bt.out.cell 3; simp at b0 b1 b2 b3)) | fail)
                          have HQ9 : Hid (Part w7 w.heap.size v' (natI (q ++ [tn]))) := by have h := HQ.out; unfold natI at h ⊢; rw [List.map_append]; exact h
                          go_roundw
                          case rel => exact ⟨1, sl.set tn true, q ++ [tn], by omega, by go_num, HQ9.out, HS.out, Bl.out, Bt.out, HSLn, HM2, HC2, HDn, HK.out⟩
                          case measure => simp [intOf] <;> omega
                      · as_aux_lemma =>
                          subst hT
                          have HRT : Hid (RB = true) := HRL.out.2 (HLV.out hge.out)
                          go_wp2_with (first | (go_at_call 50; go_must (refine (CTt.out wj HK.out).mono ?_; rintro e w6 ⟨rfl, k3⟩; clear n0 n1 n2 n3 n4 n5 n6 l2 b0 b1 b2 b3; have HQx := kept (Part.keep HQ.out k3 (by simp)); have Blx := kept (Bl.out.keep k3 (by simp)); have Btx := kept (Bt.out.keep k3 (by simp)); have HSx := kept (HS.out.keep k3 (by simp)); have HKx := kept (HK.out.and_then k3); clear HQ HS Bl Bt HK k3 CTt; have HQ := HQx; have HS := HSx; have Bl := Blx; have Bt := Btx; have HK := HKx; clear HQx HSx Blx Btx HKx; have l2 := Bl.out.cell 2; simp at l2; have b0 := Bt.out.cell 0; have b1 := Bt.out.cell 1; have b2 := Bt.out.cell 2; have b3 := Bt.out.cell 3; simp at b0 b1 b2 b3)) | fail)
                          go_ret
                          exact ⟨ret_bool HRT.out.symm, HK.out⟩
                      · as_aux_lemma =>
                          subst hT
                          have HM2 : Hid (SearchMid (gOf f.blk v) (sOf f.blk) b f.nb (fun c => (sl.set tn true)[c]!) q x) := by
                            have h := HMK.out (by rw [hge.out]; decide)
                            rw [if_neg (by rw [hge.out]; decide)] at h
                            exact h
                          have HC2 : Hid (cntF (sl.set tn true) + q.length ≤ gf) := by have h1 := HCN.out; have h2 := HCG.out; show _ ≤ _; omega
                          go_wp2_with (first | (go_at_call 50; go_must (refine (CTt.out wj HK.out).mono ?_; rintro e w6 ⟨rfl, k3⟩; clear n0 n1 n2 n3 n4 n5 n6 l2 b0 b1 b2 b3; have HQx := kept (Part.keep HQ.out k3 (by simp)); have Blx := kept (Bl.out.keep k3 (by simp)); have Btx := kept (Bt.out.keep k3 (by simp)); have HSx := kept (HS.out.keep k3 (by simp)); have HKx := kept (HK.out.and_then k3); clear HQ HS Bl Bt HK k3 CTt; have HQ := HQx; have HS := HSx; have Bl := Blx; have Bt := Btx; have HK := HKx; clear HQx HSx Blx Btx HKx; have l2 := Bl.out.cell 2; simp at l2; have b0 := Bt.out.cell 0; have b1 := Bt.out.cell 1; have b2 := Bt.out.cell 2; have b3 := Bt.out.cell 3; simp at b0 b1 b2 b3)) | fail)
                          go_roundw
                          case rel => exact ⟨1, sl.set tn true, q, by omega, by go_num, HQ.out, HS.out, Bl.out, Bt.out, HSLn, HM2, HC2, HDn, HK.out⟩
                          case measure => simp [intOf] <;> omega
                · subst h9
                  as_aux_lemma =>
                    have hen : 0 ≤ y0 ∧ y0 < (f.nb : Int) := by
                      refine HEN.out y0 ?_
                      unfold endsM
                      rw [Hy0.out, Hyk.out, if_neg (by decide), if_pos rfl]
                      split
                      · exact List.mem_singleton.2 rfl
                      · exact List.mem_cons_self ..
                    obtain ⟨tn, rfl⟩ : ∃ tn : Nat, y0 = tn := ⟨y0.toNat, by omega⟩
                    have htn : tn < f.nb := by omega
                    have htnI : (tn : Int) < (f.nb : Int) := by omega
                    clear hen
                    have HMS : Hid (tn ∈ sOf f.blk x) := by
                      show tn ∈ sOf f.blk x
                      rw [HSy.out]
                      unfold succM
                      rw [Hy0.out, Hyk.out, Int.toNat_natCast, if_neg (by decide), if_pos rfl]
                      exact List.mem_cons_self ..
                    have s0 := (HS.out.cell tn).trans (bools_at (by rw [HSL.out]; exact htn))
                    cases hsn : sl[tn]! with
                    | true =>
                      rw [hsn] at s0
                      have htt := hsn
                      have HDn : Hid (∀ d ∈ doneE y 1, sl[d]! = true) := fun d hd => by
                        unfold doneE at hd
                        rw [if_neg (by decide), if_pos rfl, Hyk.out, if_neg (by decide), Hy0.out, Int.toNat_natCast] at hd
                        rw [List.mem_singleton.1 hd]
                        exact htt
                      clear htt hsn
                      have HSLn := HSL
                      go_wp2
                      go_roundw
                      case rel => exact ⟨1, sl, q, by omega, by go_num, HQ.out, HS.out, Bl.out, Bt.out, HSLn, HMID, HCG, HDn, HK.out⟩
                      case measure => simp [intOf] <;> omega
                    | false =>
                      rw [hsn] at s0
                      have fs := HS.out.frozen tn
                      have HSN := kept hsn
                      clear hsn
                      go_upto_region 17 with (fail)
                      have hns : tn < sl.length := by rw [HSL.out]; exact htn
                      have HCN := kept (cntF_set sl tn hns HSN.out)
                      have htt : (sl.set tn true)[tn]! = true := by rw [lb_set hns, if_pos rfl]
                      have HDn : Hid (∀ d ∈ doneE y 1, (sl.set tn true)[d]! = true) := fun d hd => by
                        unfold doneE at hd
                        rw [if_neg (by decide), if_pos rfl, Hyk.out, if_neg (by decide), Hy0.out, Int.toNat_natCast] at hd
                        rw [List.mem_singleton.1 hd]
                        exact htt
                      have hb2 := HS.out.set_ tn (.bool true)
                      rw [bools_set] at hb2
                      have hk3 : Keeps wi (wi.setCell ⟨gs, tn, none⟩ (.bool true)) [gs] := (Keeps.refl wi [gs]).setCell (.inl (by simp)) _
                      have HQx := kept (Part.keep HQ.out hk3 (fun g hg => by rw [List.mem_singleton.1 hg]; exact part_ne HQ.out HS.out (by decide)))
                      have Blx := kept (Bl.out.keep hk3 (by simp; omega))
                      have Btx := kept (Bt.out.keep hk3 (by simp; omega))
                      have HKx := kept (keeps_own HK.out hk3 (by omega))
                      have HSx := kept hb2
                      clear hk3 hb2 s0 fs HQ HS Bl Bt HK l2 b0 b1 b2 b3
                      have HQ := HQx
                      have HS := HSx
                      have Bl := Blx
                      have Bt := Btx
                      have HK := HKx
                      clear HQx HSx Blx Btx HKx
                      generalize wi.setCell ⟨gs, tn, none⟩ (.bool true) = wj at *
                      have HSLn : Hid ((sl.set tn true).length = f.nb) := by show _ = _; rw [List.length_set]; exact HSL.out
                      have HMK := kept (fun h => search_mark HMID.out HMS.out htn h)
                      have HSE := kept (seen_set sl tn hns)
                      rw [← HSE.out] at HMK
                      have HLV := kept (fun h => search_live HMID.out HMS.out h)
                      clear hns HSE HSN
                      have hgg : gOf f.blk v tn = thr f.blocks.2[tn]! (v : Int) 0 := rfl
                      have HGG := kept hgg
                      clear hgg
                      obtain ⟨pa', pc', qa', qc', hcl⟩ := block_parts (HFB.out tn htn)
                      have HCLt := kept (HCLL.out tn htn)
                      have CTt := kept (CT.out tn htn 0 (Nat.zero_le _))
                      have hbkx : f.blk tn = f.blocks.2[tn]! := rfl
                      rw [hbkx] at CTt
                      clear hbkx
                      have HTt := kept (thr_le f.blocks.2[tn]! (v : Int) 0)
                      rw [hcl] at HCLt
                      simp only [hcl] at CTt
                      clear hcl
                      generalize thr f.blocks.2[tn]! (v : Int) 0 = T at *
                      generalize f.blocks.2[tn]!.name = zn at *
                      generalize f.blocks.2[tn]!.kind = zk at *
                      generalize f.blocks.2[tn]!.var = zv at *
                      generalize f.blocks.2[tn]!.to0 = z0 at *
                      generalize f.blocks.2[tn]!.to1 = z1 at *
                      generalize f.blocks.2[tn]!.phis.2.length = zp at *
                      generalize f.blocks.2[tn]!.insts.2.length = zq at *
                      have n0 := HK.out.cellOf (HCLt.out 0 _ rfl)
                      have n1 := HK.out.cellOf (HCLt.out 1 _ rfl)
                      have n2 := HK.out.cellOf (HCLt.out 2 _ rfl)
                      have n3 := HK.out.cellOf (HCLt.out 3 _ rfl)
                      have n4 := HK.out.cellOf (HCLt.out 4 _ rfl)
                      have n5 := HK.out.cellOf (HCLt.out 5 _ rfl)
                      have n6 := HK.out.cellOf (HCLt.out 6 _ rfl)
                      simp only [Nat.add_zero] at n0
                      have l2 := Bl.out.cell 2
                      simp at l2
                      have b0 := Bt.out.cell 0
                      have b1 := Bt.out.cell 1
                      have b2 := Bt.out.cell 2
                      have b3 := Bt.out.cell 3
                      simp at b0 b1 b2 b3
                      have hge : Hid (gOf f.blk v tn = T) := HGG
                      clear HGG
                      rcases HTt.out with hT | hT | hT
                      · as_aux_lemma =>
                          subst hT
                          have HM2 : Hid (SearchMid (gOf f.blk v) (sOf f.blk) b f.nb (fun c => (sl.set tn true)[c]!) (q ++ [tn]) x) := by
                            have h := HMK.out (by rw [hge.out]; decide)
                            rw [if_pos hge.out] at h
                            exact h
                          have HC2 : Hid (cntF (sl.set tn true) + (q ++ [tn]).length ≤ gf) := by have h1 := HCN.out; have h2 := HCG.out; show _ ≤ _; rw [List.length_append, List.length_singleton]; omega
                          have hql : q.length ≤ 1000 := by have h2 := HCG.out; have := HGB.out; omega
                          have HNS : Hid (¬ gs = gp) := fun e => part_ne HQ.out HS.out (by decide) (by rw [e]; rfl)
                          have HNL : Hid (¬ w.heap.size = gp) := fun e => part_ne HQ.out Bl.out (by decide) (by rw [e]; rfl)
                          have HNT : Hid (¬ xa = gp) := fun e => part_ne HQ.out Bt.out (by decide) (by rw [e]; rfl)
                          have HGW : Hid (w.heap.size ≤ gp) := by obtain ⟨g9, o9, c9, u9, h9⟩ := HQ.out; have e9 := h9.v; simp only [Value.slice.injEq, Option.some.injEq, Addr.mk.injEq] at e9; have := h9.base; show _ ≤ _; omega
                          go_wp2_with (first | (at_builtin; go_must (refine wpList_append_part _ rfl (.tmp 84) (.tmp 86) rfl w.heap.size _ (natI q) rfl (Part.keep HQ.out ((Keeps.refl w6 []).alloc _) (by simp)) (tn : Int) ⟨w6.heap.size, 0, none⟩ 1 rfl (by rw [(Blk.new w6 3 #[.int .i64 (tn : Int)]).cell]; rfl) (by rw [add_plain]) (by rw [natI_len]; exact hql) (by have := HK.out.size; simp; omega) ?_); go_must (intro v' w7 hp7 k7; change Keeps _ _ [gp] at k7; have HQ7 := kept hp7; have HSx := kept ((HS.out.keep ((Keeps.refl w6 []).alloc _) (by simp)).keep k7 (by simp; exact HNS.out)); have Blx := kept ((Bl.out.keep ((Keeps.refl w6 []).alloc _) (by simp)).keep k7 (by simp; exact HNL.out)); have Btx := kept ((Bt.out.keep ((Keeps.refl w6 []).alloc _) (by simp)).keep k7 (by simp; exact HNT.out)); have HKx := kept (keeps_own (HK.out.alloc _) k7 HGW.out); clear HQ HS Bl Bt HK hp7 k7 l2 b0 b1 b2 b3; have HQ := HQ7; have HS := HSx; have Bl := Blx; have Bt := Btx; have HK := HKx)) | (go_at_call 50; go_must (refine (CTt.out wj HK.out).mono ?_; rintro e w6 ⟨rfl, k3⟩; clear n0 n1 n2 n3 n4 n5 n6 l2 b0 b1 b2 b3; have HQx := kept (Part.keep HQ.out k3 (by simp)); have Blx := kept (Bl.out.keep k3 (by simp)); have Btx := kept (Bt.out.keep k3 (by simp)); have HSx := kept (HS.out.keep k3 (by simp)); have HKx := kept (HK.out.and_then k3); clear HQ HS Bl Bt HK k3 CTt; have HQ := HQx; have HS := HSx; have Bl := Blx; have Bt := Btx; have HK := HKx; clear HQx HSx Blx Btx HKx; have l2 := Bl.out.cell 2; simp at l2; have b0 := Bt.out.cell 0; have b1 := Bt.out.cell 1; have b2 := Bt.out.cell 2; have b3 := Bt.out.cell 3; simp at b0 b1 b2 b3)) | fail)
                          have HQ9 : Hid (Part w7 w.heap.size v' (natI (q ++ [tn]))) := by have h := HQ.out; unfold natI at h ⊢; rw [List.map_append]; exact h
                          go_roundw
                          case rel => exact ⟨1, sl.set tn true, q ++ [tn], by omega, by go_num, HQ9.out, HS.out, Bl.out, Bt.out, HSLn, HM2, HC2, HDn, HK.out⟩
                          case measure => simp [intOf] <;> omega
                      · as_aux_lemma =>
                          subst hT
                          have HRT : Hid (RB = true) := HRL.out.2 (HLV.out hge.out)
                          go_wp2_with (first | (go_at_call 50; go_must (refine (CTt.out wj HK.out).mono ?_; rintro e w6 ⟨rfl, k3⟩; clear n0 n1 n2 n3 n4 n5 n6 l2 b0 b1 b2 b3; have HQx := kept (Part.keep HQ.out k3 (by simp)); have Blx := kept (Bl.out.keep k3 (by simp)); have Btx := kept (Bt.out.keep k3 (by simp)); have HSx := kept (HS.out.keep k3 (by simp)); have HKx := kept (HK.out.and_then k3); clear HQ HS Bl Bt HK k3 CTt; have HQ := HQx; have HS := HSx; have Bl := Blx; have Bt := Btx; have HK := HKx; clear HQx HSx Blx Btx HKx; have l2 := Bl.out.cell 2; simp at l2; have b0 := Bt.out.cell 0; have b1 := Bt.out.cell 1; have b2 := Bt.out.cell 2; have b3 := Bt.out.cell 3; simp at b0 b1 b2 b3)) | fail)
                          go_ret
                          exact ⟨ret_bool HRT.out.symm, HK.out⟩
                      · as_aux_lemma =>
                          subst hT
                          have HM2 : Hid (SearchMid (gOf f.blk v) (sOf f.blk) b f.nb (fun c => (sl.set tn true)[c]!) q x) := by
                            have h := HMK.out (by rw [hge.out]; decide)
                            rw [if_neg (by rw [hge.out]; decide)] at h
                            exact h
                          have HC2 : Hid (cntF (sl.set tn true) + q.length ≤ gf) := by have h1 := HCN.out; have h2 := HCG.out; show _ ≤ _; omega
                          go_wp2_with (first | (go_at_call 50; go_must (refine (CTt.out wj HK.out).mono ?_; rintro e w6 ⟨rfl, k3⟩; clear n0 n1 n2 n3 n4 n5 n6 l2 b0 b1 b2 b3; have HQx := kept (Part.keep HQ.out k3 (by simp)); have Blx := kept (Bl.out.keep k3 (by simp)); have Btx := kept (Bt.out.keep k3 (by simp)); have HSx := kept (HS.out.keep k3 (by simp)); have HKx := kept (HK.out.and_then k3); clear HQ HS Bl Bt HK k3 CTt; have HQ := HQx; have HS := HSx; have Bl := Blx; have Bt := Btx; have HK := HKx; clear HQx HSx Blx Btx HKx; have l2 := Bl.out.cell 2; simp at l2; have b0 := Bt.out.cell 0; have b1 := Bt.out.cell 1; have b2 := Bt.out.cell 2; have b3 := Bt.out.cell 3; simp at b0 b1 b2 b3)) | fail)
                          go_roundw
                          case rel => exact ⟨1, sl.set tn true, q, by omega, by go_num, HQ.out, HS.out, Bl.out, Bt.out, HSLn, HM2, HC2, HDn, HK.out⟩
                          case measure => simp [intOf] <;> omega
                · subst h9
                  as_aux_lemma =>
                    have HDn : Hid (∀ d ∈ doneE y 1, sl[d]! = true) := fun d hd => by unfold doneE succM at hd; simp [Hyk.out] at hd
                    have HSLn := HSL
                    go_wp2
                    go_roundw
                    case rel => exact ⟨1, sl, q, by omega, by go_num, HQ.out, HS.out, Bl.out, Bt.out, HSLn, HMID, HCG, HDn, HK.out⟩
                    case measure => simp [intOf] <;> omega
              by_cases hk1 : k = 1
              · subst hk1
                rcases hkd3 with h9 | h9 | h9
                · subst h9
                  as_aux_lemma =>
                    have HDn : Hid (∀ d ∈ doneE y 2, sl[d]! = true) := fun d hd => HDN.out d (by unfold doneE succM at hd; unfold doneE; simp [Hyk.out] at hd ⊢; exact hd)
                    have HSLn := HSL
                    go_wp2
                    go_roundw
                    case rel => exact ⟨2, sl, q, by omega, by go_num, HQ.out, HS.out, Bl.out, Bt.out, HSLn, HMID, HCG, HDn, HK.out⟩
                    case measure => simp [intOf] <;> omega
                · subst h9
                  as_aux_lemma =>
                    have hen : 0 ≤ y1 ∧ y1 < (f.nb : Int) := by
                      refine HEN.out y1 ?_
                      unfold endsM
                      rw [Hy1.out, Hyk.out, if_neg (by decide), if_pos rfl]
                      split
                      · rename_i h9; rw [h9]; exact List.mem_singleton.2 rfl
                      · exact List.mem_cons_of_mem _ (List.mem_singleton.2 rfl)
                    obtain ⟨tn, rfl⟩ : ∃ tn : Nat, y1 = tn := ⟨y1.toNat, by omega⟩
                    have htn : tn < f.nb := by omega
                    have htnI : (tn : Int) < (f.nb : Int) := by omega
                    clear hen
                    have HMS : Hid (tn ∈ sOf f.blk x) := by
                      show tn ∈ sOf f.blk x
                      rw [HSy.out]
                      unfold succM
                      rw [Hy1.out, Hyk.out, Int.toNat_natCast, if_neg (by decide), if_pos rfl]
                      exact List.mem_cons_of_mem _ (List.mem_singleton.2 rfl)
                    have s0 := (HS.out.cell tn).trans (bools_at (by rw [HSL.out]; exact htn))
                    cases hsn : sl[tn]! with
                    | true =>
                      rw [hsn] at s0
                      have htt := hsn
                      have HDn : Hid (∀ d ∈ doneE y 2, sl[d]! = true) := fun d hd => by
                        unfold doneE succM at hd
                        rw [if_neg (by decide), if_neg (by decide), Hyk.out, if_neg (by decide), if_pos rfl, Hy1.out, Int.toNat_natCast] at hd
                        rcases List.mem_cons.1 hd with h9 | h9
                        · have h8 := HDN.out d (by unfold doneE; rw [if_neg (by decide), if_pos rfl, Hyk.out, if_neg (by decide)]; exact List.mem_singleton.2 h9)
                          exact h8
                        · rw [List.mem_singleton.1 h9]; exact htt
                      clear htt hsn
                      have HSLn := HSL
                      go_wp2
                      go_roundw
                      case rel => exact ⟨2, sl, q, by omega, by go_num, HQ.out, HS.out, Bl.out, Bt.out, HSLn, HMID, HCG, HDn, HK.out⟩
                      case measure => simp [intOf] <;> omega
                    | false =>
                      rw [hsn] at s0
                      have fs := HS.out.frozen tn
                      have HSN := kept hsn
                      clear hsn
                      go_upto_region 17 with (fail)
                      have hns : tn < sl.length := by rw [HSL.out]; exact htn
                      have HCN := kept (cntF_set sl tn hns HSN.out)
                      have htt : (sl.set tn true)[tn]! = true := by rw [lb_set hns, if_pos rfl]
                      have HDn : Hid (∀ d ∈ doneE y 2, (sl.set tn true)[d]! = true) := fun d hd => by
                        unfold doneE succM at hd
                        rw [if_neg (by decide), if_neg (by decide), Hyk.out, if_neg (by decide), if_pos rfl, Hy1.out, Int.toNat_natCast] at hd
                        rcases List.mem_cons.1 hd with h9 | h9
                        · have h8 := HDN.out d (by unfold doneE; rw [if_neg (by decide), if_pos rfl, Hyk.out, if_neg (by decide)]; exact List.mem_singleton.2 h9)
                          rw [lb_set hns]; split <;> first | rfl | exact h8
                        · rw [List.mem_singleton.1 h9]; exact htt
                      have hb2 := HS.out.set_ tn (.bool true)
                      rw [bools_set] at hb2
                      have hk3 : Keeps wi (wi.setCell ⟨gs, tn, none⟩ (.bool true)) [gs] := (Keeps.refl wi [gs]).setCell (.inl (by simp)) _
                      have HQx := kept (Part.keep HQ.out hk3 (fun g hg => by rw [List.mem_singleton.1 hg]; exact part_ne HQ.out HS.out (by decide)))
                      have Blx := kept (Bl.out.keep hk3 (by simp; omega))
                      have Btx := kept (Bt.out.keep hk3 (by simp; omega))
                      have HKx := kept (keeps_own HK.out hk3 (by omega))
                      have HSx := kept hb2
                      clear hk3 hb2 s0 fs HQ HS Bl Bt HK l2 b0 b1 b2 b3
                      have HQ := HQx
                      have HS := HSx
                      have Bl := Blx
                      have Bt := Btx
                      have HK := HKx
                      clear HQx HSx Blx Btx HKx
                      generalize wi.setCell ⟨gs, tn, none⟩ (.bool true) = wj at *
                      have HSLn : Hid ((sl.set tn true).length = f.nb) := by show _ = _; rw [List.length_set]; exact HSL.out
                      have HMK := kept (fun h => search_mark HMID.out HMS.out htn h)
                      have HSE := kept (seen_set sl tn hns)
                      rw [← HSE.out] at HMK
                      have HLV := kept (fun h => search_live HMID.out HMS.out h)
                      clear hns HSE HSN
                      have hgg : gOf f.blk v tn = thr f.blocks.2[tn]! (v : Int) 0 := rfl
                      have HGG := kept hgg
                      clear hgg
                      obtain ⟨pa', pc', qa', qc', hcl⟩ := block_parts (HFB.out tn htn)
                      have HCLt := kept (HCLL.out tn htn)
                      have CTt := kept (CT.out tn htn 0 (Nat.zero_le _))
                      have hbkx : f.blk tn = f.blocks.2[tn]! := rfl
                      rw [hbkx] at CTt
                      clear hbkx
                      have HTt := kept (thr_le f.blocks.2[tn]! (v : Int) 0)
                      rw [hcl] at HCLt
                      simp only [hcl] at CTt
                      clear hcl
                      generalize thr f.blocks.2[tn]! (v : Int) 0 = T at *
                      generalize f.blocks.2[tn]!.name = zn at *
                      generalize f.blocks.2[tn]!.kind = zk at *
                      generalize f.blocks.2[tn]!.var = zv at *
                      generalize f.blocks.2[tn]!.to0 = z0 at *
                      generalize f.blocks.2[tn]!.to1 = z1 at *
                      generalize f.blocks.2[tn]!.phis.2.length = zp at *
                      generalize f.blocks.2[tn]!.insts.2.length = zq at *
                      have n0 := HK.out.cellOf (HCLt.out 0 _ rfl)
                      have n1 := HK.out.cellOf (HCLt.out 1 _ rfl)
                      have n2 := HK.out.cellOf (HCLt.out 2 _ rfl)
                      have n3 := HK.out.cellOf (HCLt.out 3 _ rfl)
                      have n4 := HK.out.cellOf (HCLt.out 4 _ rfl)
                      have n5 := HK.out.cellOf (HCLt.out 5 _ rfl)
                      have n6 := HK.out.cellOf (HCLt.out 6 _ rfl)
                      simp only [Nat.add_zero] at n0
                      have l2 := Bl.out.cell 2
                      simp at l2
                      have b0 := Bt.out.cell 0
                      have b1 := Bt.out.cell 1
                      have b2 := Bt.out.cell 2
                      have b3 := Bt.out.cell 3
                      simp at b0 b1 b2 b3
                      have hge : Hid (gOf f.blk v tn = T) := HGG
                      clear HGG
                      rcases HTt.out with hT | hT | hT
                      · as_aux_lemma =>
                          subst hT
                          have HM2 : Hid (SearchMid (gOf f.blk v) (sOf f.blk) b f.nb (fun c => (sl.set tn true)[c]!) (q ++ [tn]) x) := by
                            have h := HMK.out (by rw [hge.out]; decide)
                            rw [if_pos hge.out] at h
                            exact h
                          have HC2 : Hid (cntF (sl.set tn true) + (q ++ [tn]).length ≤ gf) := by have h1 := HCN.out; have h2 := HCG.out; show _ ≤ _; rw [List.length_append, List.length_singleton]; omega
                          have hql : q.length ≤ 1000 := by have h2 := HCG.out; have := HGB.out; omega
                          have HNS : Hid (¬ gs = gp) := fun e => part_ne HQ.out HS.out (by decide) (by rw [e]; rfl)
                          have HNL : Hid (¬ w.heap.size = gp) := fun e => part_ne HQ.out Bl.out (by decide) (by rw [e]; rfl)
                          have HNT : Hid (¬ xa = gp) := fun e => part_ne HQ.out Bt.out (by decide) (by rw [e]; rfl)
                          have HGW : Hid (w.heap.size ≤ gp) := by obtain ⟨g9, o9, c9, u9, h9⟩ := HQ.out; have e9 := h9.v; simp only [Value.slice.injEq, Option.some.injEq, Addr.mk.injEq] at e9; have := h9.base; show _ ≤ _; omega
                          go_wp2_with (first | (at_builtin; go_must (refine wpList_append_part _ rfl (.tmp 84) (.tmp 86) rfl w.heap.size _ (natI q) rfl (Part.keep HQ.out ((Keeps.refl w6 []).alloc _) (by simp)) (tn : Int) ⟨w6.heap.size, 0, none⟩ 1 rfl (by rw [(Blk.new w6 3 #[.int .i64 (tn : Int)]).cell]; rfl) (by rw [add_plain]) (by rw [natI_len]; exact hql) (by have := HK.out.size; simp; omega) ?_); go_must (intro v' w7 hp7 k7; change Keeps _ _ [gp] at k7; have HQ7 := kept hp7; have HSx := kept ((HS.out.keep ((Keeps.refl w6 []).alloc _) (by simp)).keep k7 (by simp; exact HNS.out)); have Blx := kept ((Bl.out.keep ((Keeps.refl w6 []).alloc _) (by simp)).keep k7 (by simp; exact HNL.out)); have Btx := kept ((Bt.out.keep ((Keeps.refl w6 []).alloc _) (by simp)).keep k7 (by simp; exact HNT.out)); have HKx := kept (keeps_own (HK.out.alloc _) k7 HGW.out); clear HQ HS Bl Bt HK hp7 k7 l2 b0 b1 b2 b3; have HQ := HQ7; have HS := HSx; have Bl := Blx; have Bt := Btx; have HK := HKx)) | (go_at_call 50; go_must (refine (CTt.out wj HK.out).mono ?_; rintro e w6 ⟨rfl, k3⟩; clear n0 n1 n2 n3 n4 n5 n6 l2 b0 b1 b2 b3; have HQx := kept (Part.keep HQ.out k3 (by simp)); have Blx := kept (Bl.out.keep k3 (by simp)); have Btx := kept (Bt.out.keep k3 (by simp)); have HSx := kept (HS.out.keep k3 (by simp)); have HKx := kept (HK.out.and_then k3); clear HQ HS Bl Bt HK k3 CTt; have HQ := HQx; have HS := HSx; have Bl := Blx; have Bt := Btx; have HK := HKx; clear HQx HSx Blx Btx HKx; have l2 := Bl.out.cell 2; simp at l2; have b0 := Bt.out.cell 0; have b1 := Bt.out.cell 1; have b2 := Bt.out.cell 2; have b3 := Bt.out.cell 3; simp at b0 b1 b2 b3)) | fail)
                          have HQ9 : Hid (Part w7 w.heap.size v' (natI (q ++ [tn]))) := by have h := HQ.out; unfold natI at h ⊢; rw [List.map_append]; exact h
                          go_roundw
                          case rel => exact ⟨2, sl.set tn true, q ++ [tn], by omega, by go_num, HQ9.out, HS.out, Bl.out, Bt.out, HSLn, HM2, HC2, HDn, HK.out⟩
                          case measure => simp [intOf] <;> omega
                      · as_aux_lemma =>
                          subst hT
                          have HRT : Hid (RB = true) := HRL.out.2 (HLV.out hge.out)
                          go_wp2_with (first | (go_at_call 50; go_must (refine (CTt.out wj HK.out).mono ?_; rintro e w6 ⟨rfl, k3⟩; clear n0 n1 n2 n3 n4 n5 n6 l2 b0 b1 b2 b3; have HQx := kept (Part.keep HQ.out k3 (by simp)); have Blx := kept (Bl.out.keep k3 (by simp)); have Btx := kept (Bt.out.keep k3 (by simp)); have HSx := kept (HS.out.keep k3 (by simp)); have HKx := kept (HK.out.and_then k3); clear HQ HS Bl Bt HK k3 CTt; have HQ := HQx; have HS := HSx; have Bl := Blx; have Bt := Btx; have HK := HKx; clear HQx HSx Blx Btx HKx; have l2 := Bl.out.cell 2; simp at l2; have b0 := Bt.out.cell 0; have b1 := Bt.out.cell 1; have b2 := Bt.out.cell 2; have b3 := Bt.out.cell 3; simp at b0 b1 b2 b3)) | fail)
                          go_ret
                          exact ⟨ret_bool HRT.out.symm, HK.out⟩
                      · as_aux_lemma =>
                          subst hT
                          have HM2 : Hid (SearchMid (gOf f.blk v) (sOf f.blk) b f.nb (fun c => (sl.set tn true)[c]!) q x) := by
                            have h := HMK.out (by rw [hge.out]; decide)
                            rw [if_neg (by rw [hge.out]; decide)] at h
                            exact h
                          have HC2 : Hid (cntF (sl.set tn true) + q.length ≤ gf) := by have h1 := HCN.out; have h2 := HCG.out; show _ ≤ _; omega
                          go_wp2_with (first | (go_at_call 50; go_must (refine (CTt.out wj HK.out).mono ?_; rintro e w6 ⟨rfl, k3⟩; clear n0 n1 n2 n3 n4 n5 n6 l2 b0 b1 b2 b3; have HQx := kept (Part.keep HQ.out k3 (by simp)); have Blx := kept (Bl.out.keep k3 (by simp)); have Btx := kept (Bt.out.keep k3 (by simp)); have HSx := kept (HS.out.keep k3 (by simp)); have HKx := kept (HK.out.and_then k3); clear HQ HS Bl Bt HK k3 CTt; have HQ := HQx; have HS := HSx; have Bl := Blx; have Bt := Btx; have HK := HKx; clear HQx HSx Blx Btx HKx; have l2 := Bl.out.cell 2; simp at l2; have b0 := Bt.out.cell 0; have b1 := Bt.out.cell 1; have b2 := Bt.out.cell 2; have b3 := Bt.out.cell 3; simp at b0 b1 b2 b3)) | fail)
                          go_roundw
                          case rel => exact ⟨2, sl.set tn true, q, by omega, by go_num, HQ.out, HS.out, Bl.out, Bt.out, HSLn, HM2, HC2, HDn, HK.out⟩
                          case measure => simp [intOf] <;> omega
                · subst h9
                  as_aux_lemma =>
                    have HDn : Hid (∀ d ∈ doneE y 2, sl[d]! = true) := fun d hd => by unfold doneE succM at hd; simp [Hyk.out] at hd
                    have HSLn := HSL
                    go_wp2
                    go_roundw
                    case rel => exact ⟨2, sl, q, by omega, by go_num, HQ.out, HS.out, Bl.out, Bt.out, HSLn, HMID, HCG, HDn, HK.out⟩
                    case measure => simp [intOf] <;> omega
              obtain rfl : k = 2 := by omega
              have HPU : Hid (SearchInv (gOf f.blk v) (sOf f.blk) b f.nb (fun c => sl[c]!) q) := search_push HMID.out (fun d hd => HDN.out d (by rw [HSy.out] at hd; exact hd))
              go_wp2
              go_roundg gf
              case measure => omega
              case rel => exact ⟨sl, q, HQ.out, HS.out, Bl.out, HSL, HPU, ⟨HCG.out, by have := HGB.out; omega⟩, HK.out⟩
  · as_aux_lemma =>
      subst hT
      have HRT : Hid (RB = true) := by show _ = _; exact HLB.out.2 (.inl hEQ.out.symm)
      go_wp2_with (first | (go_at_call 50; go_must (refine (CTy.out _ HK.out).mono ?_; rintro e w3 ⟨rfl, k3⟩; clear n0 n1 n2 n3 n4 n5 n6; clear l0 l1 l2; have Blx := kept (Bl.out.keep k3 (by simp)); have HKx := kept (HK.out.and_then k3); clear Bl HK; have Bl := Blx; have HK := HKx; clear Blx HKx; have l0 := Bl.out.cell 0; have l1 := Bl.out.cell 1; have l2 := Bl.out.cell 2; simp at l0 l1 l2; clear k3)) | fail)
      go_ret
      exact ⟨ret_bool HRT.out.symm, HK.out⟩
  · as_aux_lemma =>
      subst hT
      have HRT : Hid (RB = false) := by show _ = _; rw [← Bool.not_eq_true]; intro h; have := HLB.out.1 h; have h9 := hEQ.out; omega
      go_wp2_with (first | (go_at_call 50; go_must (refine (CTy.out _ HK.out).mono ?_; rintro e w3 ⟨rfl, k3⟩; clear n0 n1 n2 n3 n4 n5 n6; clear l0 l1 l2; have Blx := kept (Bl.out.keep k3 (by simp)); have HKx := kept (HK.out.and_then k3); clear Bl HK; have Bl := Blx; have HK := HKx; clear Blx HKx; have l0 := Bl.out.cell 0; have l1 := Bl.out.cell 1; have l2 := Bl.out.cell 2; simp at l0 l1 l2; clear k3)) | fail)
      go_ret
      exact ⟨ret_bool HRT.out.symm, HK.out⟩
end Go.Proofs.YtjllbchfojonhaaDoor
namespace Go.Proofs.YtjllbchfojonhaaDoor
open Go.RowKit Go.Shelf Go.Lib
set_option linter.unusedVariables false
set_option linter.unusedSimpArgs false

def exLI (g2 : Nat) : InstM := ⟨2, 1, (.slice (some ⟨g2, 0, none⟩) 2 2, [0, 0]), 0⟩
def exLB (g3 g2 : Nat) : BlockM := ⟨⟨#[97]⟩, (.slice none 0 0, []), (.slice (some ⟨g3, 0, none⟩) 1 1, [exLI g2]), 2, 1, 0, 0⟩
def exL (g0 g1 g4 g3 g2 : Nat) : FuncM := ⟨(.slice (some ⟨g0, 0, none⟩) 2 2, [⟨⟨#[110]⟩, 0⟩, ⟨⟨#[109]⟩, 0⟩]), (.slice (some ⟨g1, 0, none⟩) 1 1, [0]), (.slice (some ⟨g4, 0, none⟩) 1 1, [exLB g3 g2])⟩
theorem exL_slot (g0 g1 g4 g3 g2 : Nat) : (shapedB (exL g0 g1 g4 g3 g2) && slotB (exL g0 g1 g4 g3 g2)) = true := by kernel_rfl
theorem exL_few (g0 g1 g4 g3 g2 : Nat) : FewP (exL g0 g1 g4 g3 g2) := ⟨by show 2 ≤ 100; omega, by show 1 ≤ 40; omega, by show 1 ≤ 20; omega, fun b hb => by
  rw [List.mem_singleton.1 hb]; exact ⟨Nat.zero_le _, by show 1 ≤ 400; omega⟩⟩
theorem row_vars2 {w : World} {g : Nat} {a b : ByteArray} (h : Blk w g 69 #[.string a, .int .i64 0, .string b, .int .i64 0]) : Row w 2 (.slice (some ⟨g, 0, none⟩) 2 2) [[.string a, .int .i64 0], [.string b, .int .i64 0]] := by
  refine ⟨_, 2, rfl, Nat.le_refl _, by simp [maxLen], .inr ⟨g, 0, rfl, h.lt, fun j e he i x hx => ?_⟩⟩
  rcases j with _ | _ | j
  · simp only [List.getElem?_cons_zero, Option.some.injEq] at he
    subst he
    simp only [Nat.zero_mul, Nat.zero_add]
    rw [h.cell i]
    rcases i with _ | _ | i <;> simp at hx ⊢ <;> exact hx
  · simp only [List.getElem?_cons_succ, List.getElem?_cons_zero, Option.some.injEq] at he
    subst he
    rw [h.cell]
    rcases i with _ | _ | i <;> simp at hx ⊢ <;> exact hx
  · simp at he
theorem exL_at {w : World} {g0 g1 g4 g3 g2 : Nat} (h0 : Blk w g0 69 #[.string ⟨#[110]⟩, .int .i64 0, .string ⟨#[109]⟩, .int .i64 0]) (h1 : Blk w g1 3 #[.int .i64 0]) (h2 : Blk w g2 3 #[.int .i64 0, .int .i64 0]) (h3 : Blk w g3 42 #[.int .i64 2, .int .i64 1, .slice (some ⟨g2, 0, none⟩) 2 2, .int .i64 0])
    (h4 : Blk w g4 39 #[.string ⟨#[97]⟩, .slice none 0 0, .slice (some ⟨g3, 0, none⟩) 1 1, .int .i64 2, .int .i64 1, .int .i64 0, .int .i64 0]) : FuncAt w (exL g0 g1 g4 g3 g2) :=
  ⟨row_vars2 h0, fun v hv => by rcases List.mem_cons.1 hv with rfl | hv; · show 1 ≤ maxLen; simp [maxLen]
                                rw [List.mem_singleton.1 hv]; show 1 ≤ maxLen; simp [maxLen], row_single (cs := [.int .i64 0]) h1, row_single (cs := (exLB g3 g2).cells) h4, fun b hb => by
    rw [List.mem_singleton.1 hb]
    exact ⟨row_none, fun p hp => absurd hp List.not_mem_nil, row_single (cs := (exLI g2).cells) h3, fun p hp => by rw [List.mem_singleton.1 hp]; exact row_ints2 h2, by show 1 ≤ maxLen; simp [maxLen]⟩⟩
section
variable (g0 g1 g4 g3 g2 : Nat)
theorem exL_no (v p : Nat) (h : thr ((exL g0 g1 g4 g3 g2).blk 0) (v : Int) p ≠ 1) : liveB (exL g0 g1 g4 g3 g2).blk v 0 p = false := by
  rw [← Bool.not_eq_true, liveB_iff]
  rintro (h1 | ⟨_, c, hc, _⟩)
  · exact h h1
  · have : sOf (exL g0 g1 g4 g3 g2).blk 0 = [] := by kernel_rfl
    rw [this] at hc; cases hc
theorem exL_yes (v p : Nat) (h : thr ((exL g0 g1 g4 g3 g2).blk 0) (v : Int) p = 1) : liveB (exL g0 g1 g4 g3 g2).blk v 0 p = true := liveB_iff.2 (.inl h)
theorem exL_ok0 : (shapedB (exL g0 g1 g4 g3 g2) && slotB (exL g0 g1 g4 g3 g2)) = true ∧ PlaceOK (exL g0 g1 g4 g3 g2) 0 0 := ⟨exL_slot .., by decide, by show (0 : Int) < (1 : Nat); decide, by decide, by show (0 : Int) ≤ (1 : Nat); decide⟩
theorem exL_ok1 : (shapedB (exL g0 g1 g4 g3 g2) && slotB (exL g0 g1 g4 g3 g2)) = true ∧ PlaceOK (exL g0 g1 g4 g3 g2) 0 1 := ⟨exL_slot .., by decide, by show (0 : Int) < (1 : Nat); decide, by decide, by show (1 : Int) ≤ (1 : Nat); decide⟩
theorem exL_0 : atL (exL g0 g1 g4 g3 g2) 0 0 = [0] := by
  unfold atL
  rw [if_pos (exL_ok0 ..)]
  unfold liveL
  rw [show (exL g0 g1 g4 g3 g2).nv = 2 from rfl, show List.range 2 = [0, 1] from rfl]
  have h0 := exL_yes g0 g1 g4 g3 g2 0 0 (by kernel_rfl)
  have h1 := exL_no g0 g1 g4 g3 g2 1 0 (by rw [show thr ((exL g0 g1 g4 g3 g2).blk 0) ((1 : Nat) : Int) 0 = 2 by kernel_rfl]; decide)
  show natI (List.filter (fun v => liveB (exL g0 g1 g4 g3 g2).blk v 0 0) [0, 1]) = [0]
  simp only [List.filter_cons, h0, h1, List.filter_nil]
  rfl
theorem exL_1 : atL (exL g0 g1 g4 g3 g2) 0 1 = [1] := by
  unfold atL
  rw [if_pos (exL_ok1 ..)]
  unfold liveL
  rw [show (exL g0 g1 g4 g3 g2).nv = 2 from rfl, show List.range 2 = [0, 1] from rfl]
  have h0 := exL_no g0 g1 g4 g3 g2 0 1 (by rw [show thr ((exL g0 g1 g4 g3 g2).blk 0) ((0 : Nat) : Int) 1 = 0 by kernel_rfl]; decide)
  have h1 := exL_yes g0 g1 g4 g3 g2 1 1 (by kernel_rfl)
  show natI (List.filter (fun v => liveB (exL g0 g1 g4 g3 g2).blk v 0 1) [0, 1]) = [1]
  simp only [List.filter_cons, h0, h1, List.filter_nil]
  rfl
end
theorem ints_one' {w : World} {q : IntsM} {z : Int} (h : IntsAt w q) (hq : q.2 = [z]) : ∃ b off cap, q.1 = .slice (some ⟨b, off, none⟩) 1 cap ∧ w.cell? ⟨b, off, none⟩ = some (.int .i64 z) := by
  obtain ⟨a, cap, h1, h2, h3, h4⟩ := IntsAt.open_ h
  rw [hq] at h1
  rcases h4 with h4 | ⟨b, off, rfl, _, hc⟩
  · rw [hq] at h4; cases h4
  · have h5 := hc 0 (by rw [hq]; exact Nat.zero_lt_one)
    rw [hq] at h5
    exact ⟨b, off, cap, h1, h5⟩

set_option maxRecDepth 100000 in
set_option maxHeartbeats 200000000 in
theorem lives14_any (w : World) (ht : TabsL w) : Calls Tryd.prog 20 #[] w fun e w' => e = .returned (.bool true) ∧ Keeps w w' [] := by
  have hk0 : Keeps w (w.alloc (.cells #[Value.string ⟨#[110]⟩, .int .i64 0, .string ⟨#[109]⟩, .int .i64 0] 69)) [] := (Keeps.refl _ []).alloc _
  have bb0 := Blk.new w 69 #[Value.string ⟨#[110]⟩, .int .i64 0, .string ⟨#[109]⟩, .int .i64 0]
  have hk1 : Keeps (w.alloc (.cells #[Value.string ⟨#[110]⟩, .int .i64 0, .string ⟨#[109]⟩, .int .i64 0] 69)) ((w.alloc (.cells #[Value.string ⟨#[110]⟩, .int .i64 0, .string ⟨#[109]⟩, .int .i64 0] 69)).alloc (.cells #[.int .i64 0] 3)) [] := (Keeps.refl _ []).alloc _
  have bb1 := Blk.new (w.alloc (.cells #[Value.string ⟨#[110]⟩, .int .i64 0, .string ⟨#[109]⟩, .int .i64 0] 69)) 3 #[.int .i64 0]
  have hk2 : Keeps ((w.alloc (.cells #[Value.string ⟨#[110]⟩, .int .i64 0, .string ⟨#[109]⟩, .int .i64 0] 69)).alloc (.cells #[.int .i64 0] 3)) (((w.alloc (.cells #[Value.string ⟨#[110]⟩, .int .i64 0, .string ⟨#[109]⟩, .int .i64 0] 69)).alloc (.cells #[.int .i64 0] 3)).alloc (.cells #[.int .i64 0, .int .i64 0] 3)) [] := (Keeps.refl _ []).alloc _
  have bb2 := Blk.new ((w.alloc (.cells #[Value.string ⟨#[110]⟩, .int .i64 0, .string ⟨#[109]⟩, .int .i64 0] 69)).alloc (.cells #[.int .i64 0] 3)) 3 #[.int .i64 0, .int .i64 0]
  have hk3 : Keeps (((w.alloc (.cells #[Value.string ⟨#[110]⟩, .int .i64 0, .string ⟨#[109]⟩, .int .i64 0] 69)).alloc (.cells #[.int .i64 0] 3)).alloc (.cells #[.int .i64 0, .int .i64 0] 3)) ((((w.alloc (.cells #[Value.string ⟨#[110]⟩, .int .i64 0, .string ⟨#[109]⟩, .int .i64 0] 69)).alloc (.cells #[.int .i64 0] 3)).alloc (.cells #[.int .i64 0, .int .i64 0] 3)).alloc (.cells #[.int .i64 2, .int .i64 1, .slice (some ⟨w.heap.size + 1 + 1, 0, none⟩) 2 2, .int .i64 0] 42)) [] := (Keeps.refl _ []).alloc _
  have bb3 := Blk.new (((w.alloc (.cells #[Value.string ⟨#[110]⟩, .int .i64 0, .string ⟨#[109]⟩, .int .i64 0] 69)).alloc (.cells #[.int .i64 0] 3)).alloc (.cells #[.int .i64 0, .int .i64 0] 3)) 42 #[.int .i64 2, .int .i64 1, .slice (some ⟨w.heap.size + 1 + 1, 0, none⟩) 2 2, .int .i64 0]
  have hk4 : Keeps ((((w.alloc (.cells #[Value.string ⟨#[110]⟩, .int .i64 0, .string ⟨#[109]⟩, .int .i64 0] 69)).alloc (.cells #[.int .i64 0] 3)).alloc (.cells #[.int .i64 0, .int .i64 0] 3)).alloc (.cells #[.int .i64 2, .int .i64 1, .slice (some ⟨w.heap.size + 1 + 1, 0, none⟩) 2 2, .int .i64 0] 42)) (((((w.alloc (.cells #[Value.string ⟨#[110]⟩, .int .i64 0, .string ⟨#[109]⟩, .int .i64 0] 69)).alloc (.cells #[.int .i64 0] 3)).alloc (.cells #[.int .i64 0, .int .i64 0] 3)).alloc (.cells #[.int .i64 2, .int .i64 1, .slice (some ⟨w.heap.size + 1 + 1, 0, none⟩) 2 2, .int .i64 0] 42)).alloc (.cells #[.string ⟨#[97]⟩, .slice none 0 0, .slice (some ⟨w.heap.size + 1 + 1 + 1, 0, none⟩) 1 1, .int .i64 2, .int .i64 1, .int .i64 0, .int .i64 0] 39)) [] := (Keeps.refl _ []).alloc _
  have bb4 := Blk.new ((((w.alloc (.cells #[Value.string ⟨#[110]⟩, .int .i64 0, .string ⟨#[109]⟩, .int .i64 0] 69)).alloc (.cells #[.int .i64 0] 3)).alloc (.cells #[.int .i64 0, .int .i64 0] 3)).alloc (.cells #[.int .i64 2, .int .i64 1, .slice (some ⟨w.heap.size + 1 + 1, 0, none⟩) 2 2, .int .i64 0] 42)) 39 #[.string ⟨#[97]⟩, .slice none 0 0, .slice (some ⟨w.heap.size + 1 + 1 + 1, 0, none⟩) 1 1, .int .i64 2, .int .i64 1, .int .i64 0, .int .i64 0]
  have hk5 : Keeps (((((w.alloc (.cells #[Value.string ⟨#[110]⟩, .int .i64 0, .string ⟨#[109]⟩, .int .i64 0] 69)).alloc (.cells #[.int .i64 0] 3)).alloc (.cells #[.int .i64 0, .int .i64 0] 3)).alloc (.cells #[.int .i64 2, .int .i64 1, .slice (some ⟨w.heap.size + 1 + 1, 0, none⟩) 2 2, .int .i64 0] 42)).alloc (.cells #[.string ⟨#[97]⟩, .slice none 0 0, .slice (some ⟨w.heap.size + 1 + 1 + 1, 0, none⟩) 1 1, .int .i64 2, .int .i64 1, .int .i64 0, .int .i64 0] 39)) ((((((w.alloc (.cells #[Value.string ⟨#[110]⟩, .int .i64 0, .string ⟨#[109]⟩, .int .i64 0] 69)).alloc (.cells #[.int .i64 0] 3)).alloc (.cells #[.int .i64 0, .int .i64 0] 3)).alloc (.cells #[.int .i64 2, .int .i64 1, .slice (some ⟨w.heap.size + 1 + 1, 0, none⟩) 2 2, .int .i64 0] 42)).alloc (.cells #[.string ⟨#[97]⟩, .slice none 0 0, .slice (some ⟨w.heap.size + 1 + 1 + 1, 0, none⟩) 1 1, .int .i64 2, .int .i64 1, .int .i64 0, .int .i64 0] 39)).alloc (.cells #[.slice (some ⟨w.heap.size, 0, none⟩) 2 2, .slice (some ⟨w.heap.size + 1, 0, none⟩) 1 1, .slice (some ⟨w.heap.size + 1 + 1 + 1 + 1, 0, none⟩) 1 1] 26)) [] := (Keeps.refl _ []).alloc _
  have bb5 := Blk.new (((((w.alloc (.cells #[Value.string ⟨#[110]⟩, .int .i64 0, .string ⟨#[109]⟩, .int .i64 0] 69)).alloc (.cells #[.int .i64 0] 3)).alloc (.cells #[.int .i64 0, .int .i64 0] 3)).alloc (.cells #[.int .i64 2, .int .i64 1, .slice (some ⟨w.heap.size + 1 + 1, 0, none⟩) 2 2, .int .i64 0] 42)).alloc (.cells #[.string ⟨#[97]⟩, .slice none 0 0, .slice (some ⟨w.heap.size + 1 + 1 + 1, 0, none⟩) 1 1, .int .i64 2, .int .i64 1, .int .i64 0, .int .i64 0] 39)) 26 #[.slice (some ⟨w.heap.size, 0, none⟩) 2 2, .slice (some ⟨w.heap.size + 1, 0, none⟩) 1 1, .slice (some ⟨w.heap.size + 1 + 1 + 1 + 1, 0, none⟩) 1 1]
  have hs0 : w.heap.size = w.heap.size := rfl
  have hs1 : (w.alloc (.cells #[Value.string ⟨#[110]⟩, .int .i64 0, .string ⟨#[109]⟩, .int .i64 0] 69)).heap.size = w.heap.size + 1 := (show (Array.push _ _).size = _ from (Array.size_push _).trans (congrArg (fun z => z + 1) hs0))
  rw [hs1] at bb1
  have hs2 : ((w.alloc (.cells #[Value.string ⟨#[110]⟩, .int .i64 0, .string ⟨#[109]⟩, .int .i64 0] 69)).alloc (.cells #[.int .i64 0] 3)).heap.size = w.heap.size + 1 + 1 := (show (Array.push _ _).size = _ from (Array.size_push _).trans (congrArg (fun z => z + 1) hs1))
  rw [hs2] at bb2
  have hs3 : (((w.alloc (.cells #[Value.string ⟨#[110]⟩, .int .i64 0, .string ⟨#[109]⟩, .int .i64 0] 69)).alloc (.cells #[.int .i64 0] 3)).alloc (.cells #[.int .i64 0, .int .i64 0] 3)).heap.size = w.heap.size + 1 + 1 + 1 := (show (Array.push _ _).size = _ from (Array.size_push _).trans (congrArg (fun z => z + 1) hs2))
  rw [hs3] at bb3
  have hs4 : ((((w.alloc (.cells #[Value.string ⟨#[110]⟩, .int .i64 0, .string ⟨#[109]⟩, .int .i64 0] 69)).alloc (.cells #[.int .i64 0] 3)).alloc (.cells #[.int .i64 0, .int .i64 0] 3)).alloc (.cells #[.int .i64 2, .int .i64 1, .slice (some ⟨w.heap.size + 1 + 1, 0, none⟩) 2 2, .int .i64 0] 42)).heap.size = w.heap.size + 1 + 1 + 1 + 1 := (show (Array.push _ _).size = _ from (Array.size_push _).trans (congrArg (fun z => z + 1) hs3))
  rw [hs4] at bb4
  have hs5 : (((((w.alloc (.cells #[Value.string ⟨#[110]⟩, .int .i64 0, .string ⟨#[109]⟩, .int .i64 0] 69)).alloc (.cells #[.int .i64 0] 3)).alloc (.cells #[.int .i64 0, .int .i64 0] 3)).alloc (.cells #[.int .i64 2, .int .i64 1, .slice (some ⟨w.heap.size + 1 + 1, 0, none⟩) 2 2, .int .i64 0] 42)).alloc (.cells #[.string ⟨#[97]⟩, .slice none 0 0, .slice (some ⟨w.heap.size + 1 + 1 + 1, 0, none⟩) 1 1, .int .i64 2, .int .i64 1, .int .i64 0, .int .i64 0] 39)).heap.size = w.heap.size + 1 + 1 + 1 + 1 + 1 := (show (Array.push _ _).size = _ from (Array.size_push _).trans (congrArg (fun z => z + 1) hs4))
  rw [hs5] at bb5
  have b0 := (((((bb0.keep hk1 (by simp)).keep hk2 (by simp)).keep hk3 (by simp)).keep hk4 (by simp)).keep hk5 (by simp))
  have b1 := ((((bb1.keep hk2 (by simp)).keep hk3 (by simp)).keep hk4 (by simp)).keep hk5 (by simp))
  have b2 := (((bb2.keep hk3 (by simp)).keep hk4 (by simp)).keep hk5 (by simp))
  have b3 := ((bb3.keep hk4 (by simp)).keep hk5 (by simp))
  have b4 := (bb4.keep hk5 (by simp))
  have b5 := bb5
  have HK := kept (((((hk0.and_then hk1).and_then hk2).and_then hk3).and_then hk4).and_then hk5)
  clear hs0 hs1 hs2 hs3 hs4 hs5 bb0 bb1 bb2 bb3 bb4 bb5 hk0 hk1 hk2 hk3 hk4 hk5
  have HF := kept (exL_at b0 b1 b2 b3 b4)
  have HT := kept (ht.keep HK.out)
  have CA := kept (fun W (kW : Keeps _ W []) => at22_any _ 0 0 W (HT.out.keep kW) (HF.out.keep kW) (exL_few _ _ _ _ _))
  have CB := kept (fun W (kW : Keeps _ W []) => at22_any _ 0 1 W (HT.out.keep kW) (HF.out.keep kW) (exL_few _ _ _ _ _))
  simp only [exL_0] at CA
  simp only [exL_1] at CB
  have HV9 : ((exL (w.heap.size) (w.heap.size + 1) (w.heap.size + 1 + 1 + 1 + 1) (w.heap.size + 1 + 1 + 1) (w.heap.size + 1 + 1))).val = .agg #[.slice (some ⟨w.heap.size, 0, none⟩) 2 2, .slice (some ⟨w.heap.size + 1, 0, none⟩) 1 1, .slice (some ⟨w.heap.size + 1 + 1 + 1 + 1, 0, none⟩) 1 1] := rfl
  rw [HV9] at CA CB
  have Bf := kept b5
  clear b0 b1 b2 b3 b4 b5 HF ht
  go_enter Tryd.func20, Tryd.ntmps20
  go_upto_region 2 with (fail)
  generalize ((((((w.alloc (.cells #[Value.string ⟨#[110]⟩, .int .i64 0, .string ⟨#[109]⟩, .int .i64 0] 69)).alloc (.cells #[.int .i64 0] 3)).alloc (.cells #[.int .i64 0, .int .i64 0] 3)).alloc (.cells #[.int .i64 2, .int .i64 1, .slice (some ⟨w.heap.size + 1 + 1, 0, none⟩) 2 2, .int .i64 0] 42)).alloc (.cells #[.string ⟨#[97]⟩, .slice none 0 0, .slice (some ⟨w.heap.size + 1 + 1 + 1, 0, none⟩) 1 1, .int .i64 2, .int .i64 1, .int .i64 0, .int .i64 0] 39)).alloc (.cells #[.slice (some ⟨w.heap.size, 0, none⟩) 2 2, .slice (some ⟨w.heap.size + 1, 0, none⟩) 1 1, .slice (some ⟨w.heap.size + 1 + 1 + 1 + 1, 0, none⟩) 1 1] 26)) = W6 at *
  have l0 := Bf.out.cell 0
  have l1 := Bf.out.cell 1
  have l2 := Bf.out.cell 2
  simp at l0 l1 l2
  refine wp_region_held_drew (S := (fun w' => w'.cell? ⟨w.heap.size + 1 + 1 + 1 + 1 + 1, 0, none⟩ = some (.slice (some ⟨w.heap.size, 0, none⟩) 2 2) ∧ w'.cell? ⟨w.heap.size + 1 + 1 + 1 + 1 + 1, 1, none⟩ = some (.slice (some ⟨w.heap.size + 1, 0, none⟩) 1 1) ∧ w'.cell? ⟨w.heap.size + 1 + 1 + 1 + 1 + 1, 2, none⟩ = some (.slice (some ⟨w.heap.size + 1 + 1 + 1 + 1, 0, none⟩) 1 1))) (by kernel_rfl) ?bhSs (fun hHeld => ?_)
  case bhSs => exact ⟨l0, l1, l2⟩
  have hkd : Keeps W6 (World.drew W6) [] := (Keeps.refl W6 []).drew
  have l0x := hkd.cellOf l0
  have l1x := hkd.cellOf l1
  have l2x := hkd.cellOf l2
  clear l0 l1 l2
  have l0 := l0x
  have l1 := l1x
  have l2 := l2x
  clear l0x l1x l2x
  have KX := kept hkd
  clear hkd
  have CA1 := kept (CA.out _ KX.out)
  generalize World.drew W6 = X1 at *
  refine wpAnyH_take (i := 0) (oi := { dst := some 15, op := Op.load 26 (Operand.tmp 1), type := 26, pos := "law.go:17", after := #[], guard := none }) (v := ?bv0) rfl (by kernel_rfl) (by kernel_rfl) (by kernel_rfl) (fun _ _ _ h => h) (Or.inl ⟨by rfl, ?by0⟩) hHeld ?br0
  case by0 => (intro w hSw; (try dsimp only at hSw); go_simp; (try with_reducible rfl))
  try simp only [Act.put, List.setIfInBounds_toArray, List.set_cons_zero, List.set_cons_succ]
  refine wpAnyH_take (i := 2) (oi := { dst := some 17, op := Op.load 26 (Operand.tmp 1), type := 26, pos := "law.go:17", after := #[], guard := none }) (v := ?bv2) rfl (by kernel_rfl) (by kernel_rfl) (by kernel_rfl) (fun _ _ _ h => h) (Or.inl ⟨by rfl, ?by2⟩) hHeld ?br2
  case by2 => (intro w hSw; (try dsimp only at hSw); go_simp; (try with_reducible rfl))
  try simp only [Act.put, List.setIfInBounds_toArray, List.set_cons_zero, List.set_cons_succ]
  refine wpAnyH_ready (rs := [1]) (by kernel_rfl) (by simp) ?_
  refine AllReadyH.cons (o := { dst := some 16, op := Op.call { callee := Callee.value (Operand.func 22), args := #[Operand.tmp 15, Operand.const (Value.int IntKind.i64 0), Operand.const (Value.int IntKind.i64 0)], argTypes := #[26, 3, 3] }, type := 23, pos := "law.go:17", after := #[{ on := 0, ground := Ground.data }], guard := none }) rfl (fun K hK => ?_) AllReadyH.nil
  go_simp
  (with_reducible refine (CA1.out).mono ?_)
  rintro e wx ⟨⟨q1, rfl, he1, hq1⟩, k3⟩
  show K _ _
  clear hHeld
  have HQ1 := kept hq1
  have HE1 := kept he1
  have l0x := k3.cellOf l0
  have l1x := k3.cellOf l1
  have l2x := k3.cellOf l2
  clear l0 l1 l2
  have l0 := l0x
  have l1 := l1x
  have l2 := l2x
  clear l0x l1x l2x
  have KY := kept (KX.out.and_then k3)
  have K31 := kept k3
  clear hq1 he1 k3
  obtain ⟨wq, hwq⟩ : ∃ wq : World, wq = wx := ⟨_, rfl⟩
  subst hwq
  have CB1 := kept (CB.out _ KY.out)
  refine hK.out _ _ ?bhS1 (fun hHeld => ?_)
  case bhS1 => exact ⟨l0, l1, l2⟩
  clear hK K
  try simp only [Act.put, List.setIfInBounds_toArray, List.set_cons_zero, List.set_cons_succ]
  refine wpAnyH_ready (rs := [3]) (by kernel_rfl) (by simp) ?_
  refine AllReadyH.cons (o := { dst := some 18, op := Op.call { callee := Callee.value (Operand.func 22), args := #[Operand.tmp 17, Operand.const (Value.int IntKind.i64 0), Operand.const (Value.int IntKind.i64 1)], argTypes := #[26, 3, 3] }, type := 23, pos := "law.go:17", after := #[{ on := 2, ground := Ground.data }, { on := 1, ground := Ground.chain }], guard := none }) rfl (fun K hK => ?_) AllReadyH.nil
  go_simp
  (with_reducible refine (CB1.out).mono ?_)
  rintro e wx ⟨⟨q2, rfl, he2, hq2⟩, k3⟩
  show K _ _
  clear hHeld
  have HQ2 := kept hq2
  have HE2 := kept he2
  have l0x := k3.cellOf l0
  have l1x := k3.cellOf l1
  have l2x := k3.cellOf l2
  clear l0 l1 l2
  have l0 := l0x
  have l1 := l1x
  have l2 := l2x
  clear l0x l1x l2x
  have KZ := kept (KY.out.and_then k3)
  have HQ1x := kept (Row.keep HQ1.out k3 : IntsAt _ _)
  clear hq2 he2 k3
  refine hK.out _ _ ?bhS3 (fun hHeld => ?_)
  case bhS3 => exact ⟨l0, l1, l2⟩
  clear hK K
  try simp only [Act.put, List.setIfInBounds_toArray, List.set_cons_zero, List.set_cons_succ]
  refine wpAnyH_take (i := 4) (oi := { dst := some 2, op := Op.assign (Operand.tmp 16), type := 23, pos := "law.go:17", after := #[{ on := 1, ground := Ground.data }, { on := 3, ground := Ground.chain }, { on := 0, ground := Ground.phase }, { on := 1, ground := Ground.phase }, { on := 2, ground := Ground.textOnly Departure.lateStores }, { on := 3, ground := Ground.textOnly Departure.lateStoresUnsure }], guard := none }) (v := ?bv4) rfl (by kernel_rfl) (by kernel_rfl) (by kernel_rfl) (fun _ _ _ h => h) (Or.inl ⟨by rfl, ?by4⟩) hHeld ?br4
  case by4 => (intro w hSw; (try dsimp only at hSw); go_simp; (try with_reducible rfl))
  try simp only [Act.put, List.setIfInBounds_toArray, List.set_cons_zero, List.set_cons_succ]
  refine wpAnyH_take (i := 5) (oi := { dst := some 3, op := Op.assign (Operand.tmp 18), type := 23, pos := "law.go:17", after := #[{ on := 3, ground := Ground.data }, { on := 4, ground := Ground.chain }, { on := 0, ground := Ground.phase }, { on := 1, ground := Ground.phase }, { on := 2, ground := Ground.phase }, { on := 3, ground := Ground.phase }, { on := 4, ground := Ground.phase }], guard := none }) (v := ?bv5) rfl (by kernel_rfl) (by kernel_rfl) (by kernel_rfl) (fun _ _ _ h => h) (Or.inl ⟨by rfl, ?by5⟩) hHeld ?br5
  case by5 => (intro w hSw; (try dsimp only at hSw); go_simp; (try with_reducible rfl))
  try simp only [Act.put, List.setIfInBounds_toArray, List.set_cons_zero, List.set_cons_succ]
  refine wpAnyH_done (by kernel_rfl) ?_ _
  clear hHeld
  clear l0 l1 l2
  obtain ⟨g1, o1, c1, e1, z1⟩ := ints_one' HQ1x.out HE1.out
  obtain ⟨g2, o2, c2, e2, z2⟩ := ints_one' HQ2.out HE2.out
  obtain ⟨q1a, q1b⟩ := q1
  obtain ⟨q2a, q2b⟩ := q2
  simp only at e1 e2
  subst e1
  subst e2
  dsimp only
  clear HQ1 HQ2 HE1 HE2 HQ1x
  go_wp2
  go_ret
  exact ⟨rfl, HK.out.and_then KZ.out⟩
end Go.Proofs.YtjllbchfojonhaaDoor
namespace Go.Proofs.YtjllbchfojonhaaDoor
open Go.RowKit Go.Shelf Go.Lib
set_option linter.unusedVariables false
set_option linter.unusedSimpArgs false

set_option maxRecDepth 100000 in
set_option maxHeartbeats 200000000 in
theorem out31_any (f : FuncM) (v b : Nat) (w : World) (hf : FuncAt w f) (hp : LiveP f) (hkd : ∀ c, c < f.nb → (f.blk c).kind = 0 ∨ (f.blk c).kind = 1 ∨ (f.blk c).kind = 2) (hb : b < f.nb) (hvm : v ≤ 1000000) :
    Calls Tryd.prog 31 #[f.val, .int .i64 (v : Nat), .int .i64 (b : Nat)] w fun e w' => e = .returned (.bool (outB f.blk v b)) ∧ Keeps w w' [] := by
  have hnb := hp.nb
  have CL := kept (fun (c : Nat) (hc : c < f.nb) W (k : Keeps w W []) => (show Calls Tryd.prog 23 #[f.val, .int .i64 (v : Nat), .int .i64 (c : Nat), .int .i64 0] W fun e w' => e = .returned (.bool (liveB f.blk v c 0)) ∧ Keeps W w' [] from live23_any f v c 0 W (hf.keep k) hp hkd hc (Nat.zero_le _) hvm))
  have HKD := kept (hkd b hb)
  have HEN := kept ((hp.blk b hb).2.2.2)
  have HOU := kept (@outB_or f.blk v b)
  have HFB := kept (hf.block (f.blocks.2[b]!) (bang_mem (l := f.blocks.2) (k := b) hb))
  obtain ⟨a0, c0, e0, -, -, hc0⟩ := hf.vars.open_
  obtain ⟨a1, c1, e1, -, -, hc1⟩ := (show Row w 1 f.params.1 (f.params.2.map intCells) from hf.params).open_
  obtain ⟨a2, c2, e2, -, -, hc2⟩ := hf.blocks.open_
  have hval : f.val = .agg #[.slice a0 f.nv c0, .slice a1 f.np c1, .slice a2 f.nb c2] := by unfold FuncM.val FuncM.nv FuncM.np FuncM.nb; rw [e0, e1, e2]
  have h1 : #[f.vars.1, f.params.1, f.blocks.1] = #[.slice a0 f.nv c0, .slice a1 f.np c1, .slice a2 f.nb c2] := by unfold FuncM.nv FuncM.np FuncM.nb; rw [e0, e1, e2]
  have HF := kept hf
  have HC0 := kept hc0
  have HC1 := kept hc1
  have HC2 := kept hc2
  have HNV := kept (show f.vars.2.length = f.nv from rfl)
  have HNP := kept (show f.params.2.length = f.np from rfl)
  have HNB := kept (show f.blocks.2.length = f.nb from rfl)
  rw [hval] at CL ⊢
  clear e0 e1 e2 hval h1 hf hc0 hc1 HC0 HC1 hc2 hp HF hkd
  generalize hRB : outB f.blk v b = RB at *
  have HRB := kept hRB
  clear hRB
  obtain ⟨bb, off, e2, -, hcell⟩ := HC2.out b (by rw [HNB.out]; exact hb)
  subst e2
  have HCLk := kept hcell
  clear hcell
  have hk0 : Keeps w (w.alloc (.cells #[.slice a0 f.nv c0, .slice a1 f.np c1, .slice (some ⟨bb, off, none⟩) f.nb c2] 26)) [] := (Keeps.refl _ []).alloc _
  have bb0 := Blk.new w 26 #[.slice a0 f.nv c0, .slice a1 f.np c1, .slice (some ⟨bb, off, none⟩) f.nb c2]
  have Bl := kept bb0
  have HK := kept hk0
  have l0 := Bl.out.cell 0
  have l1 := Bl.out.cell 1
  have l2 := Bl.out.cell 2
  simp at l0 l1 l2
  clear hk0 bb0
  have hbI : (b : Int) < (f.nb : Int) := by omega
  have hbkx : f.blk b = f.blocks.2[b]! := rfl
  have HSy := kept (show sOf f.blk b = succM f.blocks.2[b]! from rfl)
  rw [hbkx] at HKD
  clear hbkx
  obtain ⟨pa, pc, qa, qc, hcl⟩ := block_parts HFB.out
  rw [hcl] at HCLk
  clear hcl HFB
  generalize f.blocks.2[b]! = y at *
  generalize y.name = yn at *
  generalize hyk : y.kind = yk at *
  have Hyk := kept hyk
  clear hyk
  generalize y.var = yv at *
  generalize hy0 : y.to0 = y0 at *
  have Hy0 := kept hy0
  clear hy0
  generalize hy1 : y.to1 = y1 at *
  have Hy1 := kept hy1
  clear hy1
  generalize y.phis.2.length = pn at *
  generalize y.insts.2.length = qn at *
  have n3 := HK.out.cellOf (HCLk.out 3 _ rfl)
  have n4 := HK.out.cellOf (HCLk.out 4 _ rfl)
  have n5 := HK.out.cellOf (HCLk.out 5 _ rfl)
  have n6 := HK.out.cellOf (HCLk.out 6 _ rfl)
  go_enter Tryd.func31, Tryd.ntmps31
  go_upto_region 2 with (fail)
  have Bt := kept (Blk.new (w.alloc (.cells #[.slice a0 f.nv c0, .slice a1 f.np c1, .slice (some ⟨bb, off, none⟩) f.nb c2] 26)) 37 #[.int .i64 yk, .int .i64 yv, .int .i64 y0, .int .i64 y1])
  have hkx : Keeps (w.alloc (.cells #[.slice a0 f.nv c0, .slice a1 f.np c1, .slice (some ⟨bb, off, none⟩) f.nb c2] 26)) ((w.alloc (.cells #[.slice a0 f.nv c0, .slice a1 f.np c1, .slice (some ⟨bb, off, none⟩) f.nb c2] 26)).alloc (.cells #[.int .i64 yk, .int .i64 yv, .int .i64 y0, .int .i64 y1] 37)) [] := (Keeps.refl _ []).alloc _
  have Blx := kept (Bl.out.keep hkx (by simp))
  have HKx := kept (HK.out.and_then hkx)
  clear n3 n4 n5 n6 l0 l1 l2 hkx Bl HK
  have Bl := Blx
  have HK := HKx
  clear Blx HKx
  rw [show (w.alloc (.cells #[.slice a0 f.nv c0, .slice a1 f.np c1, .slice (some ⟨bb, off, none⟩) f.nb c2] 26)).heap.size = w.heap.size + 1 from size_alloc1 _ _] at Bt
  generalize ((w.alloc (.cells #[.slice a0 f.nv c0, .slice a1 f.np c1, .slice (some ⟨bb, off, none⟩) f.nb c2] 26)).alloc (.cells #[.int .i64 yk, .int .i64 yv, .int .i64 y0, .int .i64 y1] 37)) = X at *
  have l0 := Bl.out.cell 0
  have l1 := Bl.out.cell 1
  have l2 := Bl.out.cell 2
  have b0 := Bt.out.cell 0
  have b1 := Bt.out.cell 1
  have b2 := Bt.out.cell 2
  have b3 := Bt.out.cell 3
  simp at l0 l1 l2 b0 b1 b2 b3
  rcases HKD.out with h9 | h9 | h9
  · subst h9
    have hen : 0 ≤ y0 ∧ y0 < (f.nb : Int) := HEN.out y0 (by unfold endsM; rw [Hy0.out, Hyk.out, if_pos rfl]; exact List.mem_singleton.2 rfl)
    obtain ⟨tn, rfl⟩ : ∃ tn : Nat, y0 = tn := ⟨y0.toNat, by omega⟩
    have htn : tn < f.nb := by omega
    clear hen
    have HO : Hid (RB = liveB f.blk v tn 0) := by
      show _ = _
      rw [HOU.out, HSy.out]
      unfold succM
      rw [Hyk.out, Hy0.out, if_pos rfl, Int.toNat_natCast]
      simp
    go_wp2_with (first | (go_at_call 23; go_must (refine (CL.out tn htn _ HK.out).mono ?_; rintro e w3 ⟨rfl, k3⟩; clear l0 l1 l2 b0 b1 b2 b3; have Blx := kept (Bl.out.keep k3 (by simp)); have Btx := kept (Bt.out.keep k3 (by simp)); have HKx := kept (HK.out.and_then k3); clear Bl Bt HK k3; have Bl := Blx; have Bt := Btx; have HK := HKx; clear Blx Btx HKx; have l0 := Bl.out.cell 0; have l1 := Bl.out.cell 1; have l2 := Bl.out.cell 2; have b0 := Bt.out.cell 0; have b1 := Bt.out.cell 1; have b2 := Bt.out.cell 2; have b3 := Bt.out.cell 3; simp at l0 l1 l2 b0 b1 b2 b3)) | fail)
    go_ret
    exact ⟨ret_bool HO.out.symm, HK.out⟩
  · subst h9
    have hen0 : 0 ≤ y0 ∧ y0 < (f.nb : Int) := HEN.out y0 (by unfold endsM; rw [Hy0.out, Hyk.out, if_neg (by decide), if_pos rfl]; split; exact List.mem_singleton.2 rfl; exact List.mem_cons_self ..)
    have hen1 : 0 ≤ y1 ∧ y1 < (f.nb : Int) := HEN.out y1 (by unfold endsM; rw [Hy1.out, Hyk.out, if_neg (by decide), if_pos rfl]; split; (rename_i h9; rw [h9]; exact List.mem_singleton.2 rfl); exact List.mem_cons_of_mem _ (List.mem_singleton.2 rfl))
    obtain ⟨tn, rfl⟩ : ∃ tn : Nat, y0 = tn := ⟨y0.toNat, by omega⟩
    obtain ⟨sn, rfl⟩ : ∃ sn : Nat, y1 = sn := ⟨y1.toNat, by omega⟩
    have htn : tn < f.nb := by omega
    have hsn : sn < f.nb := by omega
    clear hen0 hen1
    have HO : Hid (RB = (liveB f.blk v tn 0 || liveB f.blk v sn 0)) := by
      show _ = _
      rw [HOU.out, HSy.out]
      unfold succM
      rw [Hyk.out, Hy0.out, Hy1.out, if_neg (by decide), if_pos rfl, Int.toNat_natCast, Int.toNat_natCast]
      simp
    have CL1 := kept (CL.out tn htn)
    have CL2 := kept (CL.out sn hsn)
    generalize liveB f.blk v tn 0 = b0' at *
    generalize liveB f.blk v sn 0 = b1' at *
    cases b0' with
    | true =>
      go_wp2_with (first | (go_at_call 23; (refine (CL1.out _ HK.out).mono ?_; rintro e w3 ⟨rfl, k3⟩; clear CL1; clear l0 l1 l2 b0 b1 b2 b3; have Blx := kept (Bl.out.keep k3 (by simp)); have Btx := kept (Bt.out.keep k3 (by simp)); have HKx := kept (HK.out.and_then k3); clear Bl Bt HK k3; have Bl := Blx; have Bt := Btx; have HK := HKx; clear Blx Btx HKx; have l0 := Bl.out.cell 0; have l1 := Bl.out.cell 1; have l2 := Bl.out.cell 2; have b0 := Bt.out.cell 0; have b1 := Bt.out.cell 1; have b2 := Bt.out.cell 2; have b3 := Bt.out.cell 3; simp at l0 l1 l2 b0 b1 b2 b3)) | fail)
      go_ret
      exact ⟨ret_bool HO.out.symm, HK.out⟩
    | false =>
      go_wp2_with (first | (go_at_call 23; (refine (CL1.out _ HK.out).mono ?_; rintro e w3 ⟨rfl, k3⟩; clear CL1; clear l0 l1 l2 b0 b1 b2 b3; have Blx := kept (Bl.out.keep k3 (by simp)); have Btx := kept (Bt.out.keep k3 (by simp)); have HKx := kept (HK.out.and_then k3); clear Bl Bt HK k3; have Bl := Blx; have Bt := Btx; have HK := HKx; clear Blx Btx HKx; have l0 := Bl.out.cell 0; have l1 := Bl.out.cell 1; have l2 := Bl.out.cell 2; have b0 := Bt.out.cell 0; have b1 := Bt.out.cell 1; have b2 := Bt.out.cell 2; have b3 := Bt.out.cell 3; simp at l0 l1 l2 b0 b1 b2 b3)) | (go_at_call 23; (refine (CL2.out _ HK.out).mono ?_; rintro e w4 ⟨rfl, k3⟩; clear CL2; clear l0 l1 l2 b0 b1 b2 b3; have Blx := kept (Bl.out.keep k3 (by simp)); have Btx := kept (Bt.out.keep k3 (by simp)); have HKx := kept (HK.out.and_then k3); clear Bl Bt HK k3; have Bl := Blx; have Bt := Btx; have HK := HKx; clear Blx Btx HKx; have l0 := Bl.out.cell 0; have l1 := Bl.out.cell 1; have l2 := Bl.out.cell 2; have b0 := Bt.out.cell 0; have b1 := Bt.out.cell 1; have b2 := Bt.out.cell 2; have b3 := Bt.out.cell 3; simp at l0 l1 l2 b0 b1 b2 b3)) | fail)
      go_ret
      exact ⟨ret_bool (by rw [HO.out]; rfl), HK.out⟩
  · subst h9
    have HO : Hid (RB = false) := by
      show _ = _
      rw [HOU.out, HSy.out]
      unfold succM
      rw [Hyk.out, if_neg (by decide), if_neg (by decide)]
      rfl
    go_wp2
    go_ret
    exact ⟨ret_bool HO.out.symm, HK.out⟩
end Go.Proofs.YtjllbchfojonhaaDoor
namespace Go.Proofs.YtjllbchfojonhaaDoor
open Go.RowKit
set_option linter.unusedVariables false
set_option linter.unusedSimpArgs false

def fewV : List VarM → Nat → Option Nat
  | [], n => some n
  | v :: l, n => if 400 < v.name.size then none else fewV l (n + v.name.size)
def fewPh : List PhiM → Nat → Option Nat
  | [], n => some n
  | p :: l, n => if 4000 < n ∨ 400 < p.args.2.length ∨ 400 < p.froms.2.length then none else fewPh l (n + (p.args.2.length + p.froms.2.length))
def fewIn : List InstM → Nat → Option Nat
  | [], n => some n
  | x :: l, n => if 4000 < n ∨ 400 < x.args.2.length then none else fewIn l (n + x.args.2.length)
def fewOne (b : BlockM) (n : Nat) (K : Nat → Option Nat) : Option Nat :=
  if 400 < b.name.size ∨ 400 < b.phis.2.length ∨ 400 < b.insts.2.length then none
  else (fewPh b.phis.2 (n + (b.name.size + 10 * (b.phis.2.length + b.insts.2.length)))).bind fun m => (fewIn b.insts.2 m).bind fun m2 => if 4000 < m2 then none else K m2
def fewBl : List BlockM → Nat → Option Nat
  | [], n => some n
  | b :: l, n => fewOne b n (fewBl l)
def fewB (f : FuncM) : Bool :=
  if 100 < f.nv ∨ 40 < f.nb ∨ 20 < f.np then false else ((fewV f.vars.2 0).bind (fewBl f.blocks.2)).isSome
theorem fewV_at {l : List VarM} {k n : Nat} (hk : k < l.length) : fewV (l.drop k) n = if 400 < l[k]!.name.size then none else fewV (l.drop (k + 1)) (n + l[k]!.name.size) := by
  rw [List.drop_eq_getElem_cons hk, getElem!_pos l k hk]; rfl
theorem fewV_end (l : List VarM) (n : Nat) : fewV (l.drop l.length) n = some n := by rw [List.drop_length]; rfl
theorem fewPh_at {l : List PhiM} {k n : Nat} (hk : k < l.length) : fewPh (l.drop k) n = if 4000 < n ∨ 400 < l[k]!.args.2.length ∨ 400 < l[k]!.froms.2.length then none else fewPh (l.drop (k + 1)) (n + (l[k]!.args.2.length + l[k]!.froms.2.length)) := by
  rw [List.drop_eq_getElem_cons hk, getElem!_pos l k hk]; rfl
theorem fewPh_end (l : List PhiM) (n : Nat) : fewPh (l.drop l.length) n = some n := by rw [List.drop_length]; rfl
theorem fewIn_at {l : List InstM} {k n : Nat} (hk : k < l.length) : fewIn (l.drop k) n = if 4000 < n ∨ 400 < l[k]!.args.2.length then none else fewIn (l.drop (k + 1)) (n + l[k]!.args.2.length) := by
  rw [List.drop_eq_getElem_cons hk, getElem!_pos l k hk]; rfl
theorem fewIn_end (l : List InstM) (n : Nat) : fewIn (l.drop l.length) n = some n := by rw [List.drop_length]; rfl
theorem fewBl_at {l : List BlockM} {k n : Nat} (hk : k < l.length) : fewBl (l.drop k) n = fewOne l[k]! n (fewBl (l.drop (k + 1))) := by
  rw [List.drop_eq_getElem_cons hk, getElem!_pos l k hk]; rfl
theorem fewBl_end (l : List BlockM) (n : Nat) : fewBl (l.drop l.length) n = some n := by rw [List.drop_length]; rfl
theorem fewB_no {f : FuncM} (h : 100 < f.nv ∨ 40 < f.nb ∨ 20 < f.np) : fewB f = false := by unfold fewB; rw [if_pos h]
theorem fewB_v {f : FuncM} (h : fewV f.vars.2 0 = none) : fewB f = false := by unfold fewB; split; rfl; rw [h]; rfl
theorem fewB_b {f : FuncM} {n : Nat} (h : fewV f.vars.2 0 = some n) (h2 : fewBl f.blocks.2 n = none) : fewB f = false := by unfold fewB; split; rfl; rw [h]; show (fewBl f.blocks.2 n).isSome = false; rw [h2]; rfl
theorem fewB_yes {f : FuncM} {n m : Nat} (h0 : ¬ (100 < f.nv ∨ 40 < f.nb ∨ 20 < f.np)) (h : fewV f.vars.2 0 = some n) (h2 : fewBl f.blocks.2 n = some m) : fewB f = true := by unfold fewB; rw [if_neg h0, h]; show (fewBl f.blocks.2 n).isSome = true; rw [h2]; rfl
theorem fewOne_1 {b : BlockM} {n : Nat} {K : Nat → Option Nat} (h : 400 < b.name.size ∨ 400 < b.phis.2.length ∨ 400 < b.insts.2.length) : fewOne b n K = none := by unfold fewOne; rw [if_pos h]
theorem fewOne_2 {b : BlockM} {n : Nat} {K : Nat → Option Nat} (h0 : ¬ (400 < b.name.size ∨ 400 < b.phis.2.length ∨ 400 < b.insts.2.length)) (h : fewPh b.phis.2 (n + (b.name.size + 10 * (b.phis.2.length + b.insts.2.length))) = none) : fewOne b n K = none := by unfold fewOne; rw [if_neg h0, h]; rfl
theorem fewOne_3 {b : BlockM} {n m : Nat} {K : Nat → Option Nat} (h0 : ¬ (400 < b.name.size ∨ 400 < b.phis.2.length ∨ 400 < b.insts.2.length)) (h : fewPh b.phis.2 (n + (b.name.size + 10 * (b.phis.2.length + b.insts.2.length))) = some m) (h2 : fewIn b.insts.2 m = none) : fewOne b n K = none := by unfold fewOne; rw [if_neg h0, h]; show (fewIn b.insts.2 m).bind _ = none; rw [h2]; rfl
theorem fewOne_4 {b : BlockM} {n m m2 : Nat} {K : Nat → Option Nat} (h0 : ¬ (400 < b.name.size ∨ 400 < b.phis.2.length ∨ 400 < b.insts.2.length)) (h : fewPh b.phis.2 (n + (b.name.size + 10 * (b.phis.2.length + b.insts.2.length))) = some m) (h2 : fewIn b.insts.2 m = some m2) : fewOne b n K = if 4000 < m2 then none else K m2 := by unfold fewOne; rw [if_neg h0, h]; show (fewIn b.insts.2 m).bind _ = _; rw [h2]; rfl

set_option maxRecDepth 100000 in
set_option maxHeartbeats 200000000 in
theorem few_exact (f : FuncM) (w : World) (hf : FuncAt w f) : Calls Tryd.prog 11 #[f.val] w fun e w' => e = .returned (.bool (fewB f)) ∧ Keeps w w' [] := by
  obtain ⟨a0, c0, e0, -, -, hc0⟩ := hf.vars.open_
  obtain ⟨a1, c1, e1, -, -, hc1⟩ := (show Row w 1 f.params.1 (f.params.2.map intCells) from hf.params).open_
  obtain ⟨a2, c2, e2, -, -, hc2⟩ := hf.blocks.open_
  have hval : f.val = .agg #[.slice a0 f.nv c0, .slice a1 f.np c1, .slice a2 f.nb c2] := by unfold FuncM.val FuncM.nv FuncM.np FuncM.nb; rw [e0, e1, e2]
  have h1 : #[f.vars.1, f.params.1, f.blocks.1] = #[.slice a0 f.nv c0, .slice a1 f.np c1, .slice a2 f.nb c2] := by unfold FuncM.nv FuncM.np FuncM.nb; rw [e0, e1, e2]
  have HF := kept hf
  have HC0 := kept hc0
  have HC1 := kept hc1
  have HC2 := kept hc2
  have HNV := kept (show f.vars.2.length = f.nv from rfl)
  have HNP := kept (show f.params.2.length = f.np from rfl)
  have HNB := kept (show f.blocks.2.length = f.nb from rfl)
  rw [hval]
  clear e0 e1 e2 hval h1 hf hc0 hc1 hc2
  have HNO := kept (fun h => fewB_no (f := f) h)
  have HVN := kept (fun h => fewB_v (f := f) h)
  have HBNN := kept (fun n h h2 => fewB_b (f := f) (n := n) h h2)
  have HYES := kept (fun n m h0 h h2 => fewB_yes (f := f) (n := n) (m := m) h0 h h2)
  generalize fewB f = RB at *
  have hk0 : Keeps w (w.alloc (.cells #[.slice a0 f.nv c0, .slice a1 f.np c1, .slice a2 f.nb c2] 26)) [] := (Keeps.refl _ []).alloc _
  have bb0 := Blk.new w 26 #[.slice a0 f.nv c0, .slice a1 f.np c1, .slice a2 f.nb c2]
  have Bl := kept bb0
  have HK := kept hk0
  have l0 := Bl.out.cell 0
  have l1 := Bl.out.cell 1
  have l2 := Bl.out.cell 2
  simp at l0 l1 l2
  clear hk0 bb0
  by_cases hnv : (100 : Int) < (f.nv : Int)
  · go_enter Tryd.func11, Tryd.ntmps11
    go_wp2
    go_ret
    exact ⟨ret_bool (HNO.out (by omega)).symm, HK.out⟩
  by_cases hnb : (40 : Int) < (f.nb : Int)
  · go_enter Tryd.func11, Tryd.ntmps11
    go_wp2
    go_ret
    exact ⟨ret_bool (HNO.out (by omega)).symm, HK.out⟩
  by_cases hnp : (20 : Int) < (f.np : Int)
  · go_enter Tryd.func11, Tryd.ntmps11
    go_wp2
    go_ret
    exact ⟨ret_bool (HNO.out (by omega)).symm, HK.out⟩
  go_enter Tryd.func11, Tryd.ntmps11
  go_wp2
  clear l0 l1 l2
  generalize (w.alloc (.cells #[.slice a0 f.nv c0, .slice a1 f.np c1, .slice a2 f.nb c2] 26)) = W0 at *
  have Bl_W0 := Bl
  have TW0 := HK
  clear HK
  have HK := kept (Keeps.refl W0 [])
  have l0 := Bl.out.cell 0
  have l1 := Bl.out.cell 1
  have l2 := Bl.out.cell 2
  simp at l0 l1 l2
  go_loopw [3, 31] (fun s i wr => ∃ k n : Nat, k ≤ f.nv ∧ i = .int .i64 k ∧ s = .int .i64 n ∧ Keeps W0 wr [] ∧ n ≤ 400 * k ∧ Hid (fewV (f.vars.2.drop k) n = fewV f.vars.2 0)) (fun _ i _ => f.nv - (intOf i).toNat)
  case atStart => exact ⟨0, 0, Nat.zero_le _, rfl, rfl, HK.out, Nat.le_refl _, (show Hid _ from by show _ = _; rw [List.drop_zero])⟩
  case round =>
    obtain ⟨k, n, hk, rfl, rfl, hr, hn, HV⟩ := hrel
    clear l0 l1 l2
    clear Bl HK
    have HK := kept hr
    have Bl := kept (Bl_W0.out.keep hr (by simp))
    clear hr
    have l0 := Bl.out.cell 0
    have l1 := Bl.out.cell 1
    have l2 := Bl.out.cell 2
    simp at l0 l1 l2
    by_cases hlt : k < f.nv
    · have hltz : (k : Int) < (f.nv : Int) := by omega
      obtain ⟨bb, off, rfl, hbl, hcell⟩ := HC0.out k (by rw [HNV.out]; exact hlt)
      have n0 := (TW0.out.and_then HK.out).cellOf (hcell 0 _ rfl)
      have n1 := (TW0.out.and_then HK.out).cellOf (hcell 1 _ rfl)
      simp only [Nat.add_zero] at n0
      have hvs := HV.out
      rw [fewV_at (by rw [HNV.out]; exact hlt)] at hvs
      clear hcell HC0
      generalize f.vars.2[k]! = y at *
      generalize y.name = yn at *
      have HVS := kept hvs
      clear hvs
      generalize y.type = yt at *
      clear l0 l1 l2
      have bmx := Blk.new wr 69 #[.string yn, .int .i64 yt]
      have k3 : Keeps wr (wr.alloc (.cells #[.string yn, .int .i64 yt] 69)) [] := (Keeps.refl wr []).alloc _
      have Blx := kept (Bl.out.keep k3 (by simp))
      have HKx := kept (HK.out.and_then k3)
      clear k3 Bl HK
      have Bl := Blx
      have HK := HKx
      have Bm := kept bmx
      clear bmx Blx HKx
      have l0 := Bl.out.cell 0
      have l1 := Bl.out.cell 1
      have l2 := Bl.out.cell 2
      have m0 := Bm.out.cell 0
      have m1 := Bm.out.cell 1
      simp at l0 l1 l2 m0 m1
      by_cases hs : (400 : Int) < (yn.size : Int)
      · go_wp2
        go_ret
        exact ⟨ret_bool (HVN.out (by rw [← HVS.out, if_pos (by omega)])).symm, (TW0.out.and_then HK.out)⟩
      · have HV2 : Hid (fewV (f.vars.2.drop (k + 1)) (n + yn.size) = fewV f.vars.2 0) := by have h := HVS.out; rw [if_neg (by omega)] at h; exact h
        go_wp2
        go_roundw
        case rel => exact ⟨k + 1, n + yn.size, by omega, by go_num, by go_num, HK.out, by omega, HV2⟩
        case measure => simp [intOf]; omega
    · have hltz : ¬ (k : Int) < (f.nv : Int) := by omega
      have hn2 : n ≤ 40000 := by omega
      have HVF : Hid (fewV f.vars.2 0 = some n) := by have hkk : k = f.nv := (by omega); have h := HV.out; rw [hkk, ← HNV.out, fewV_end] at h; exact h.symm
      go_wp2
      clear hn hltz hlt hk HV
      obtain ⟨n9, hn9⟩ : ∃ n9, n = n9 := ⟨_, rfl⟩
      have HN9 := kept hn9
      rw [hn9] at HVF
      clear hn9
      go_loopw [3, 48] (fun s i wr => ∃ k n : Nat, k ≤ f.nb ∧ i = .int .i64 k ∧ s = .int .i64 n ∧ Keeps W0 wr [] ∧ n ≤ 40000 + 1000000 * k ∧ Hid (fewBl (f.blocks.2.drop k) n = fewBl f.blocks.2 n9)) (fun _ i _ => f.nb - (intOf i).toNat)
      case atStart => exact ⟨0, n, Nat.zero_le _, rfl, rfl, HK.out, by omega, (show Hid _ from by show _ = _; rw [List.drop_zero, HN9.out])⟩
      case round =>
        clear hn2
        obtain ⟨k, n, hk, rfl, rfl, hr, hn, HBv⟩ := hrel
        obtain ⟨wo, hwo⟩ : ∃ wo : World, wo = wr := ⟨_, rfl⟩
        subst hwo
        clear l0 l1 l2
        clear Bl HK
        have HK := kept hr
        have Bl := kept (Bl_W0.out.keep hr (by simp))
        clear hr
        have l0 := Bl.out.cell 0
        have l1 := Bl.out.cell 1
        have l2 := Bl.out.cell 2
        simp at l0 l1 l2
        by_cases hlt : k < f.nb
        · have hltz : (k : Int) < (f.nb : Int) := by omega
          obtain ⟨bb, off, rfl, hbl, hcell⟩ := HC2.out k (by rw [HNB.out]; exact hlt)
          have n0 := (TW0.out.and_then HK.out).cellOf (hcell 0 _ rfl)
          have n1 := (TW0.out.and_then HK.out).cellOf (hcell 1 _ rfl)
          have n2 := (TW0.out.and_then HK.out).cellOf (hcell 2 _ rfl)
          have n3 := (TW0.out.and_then HK.out).cellOf (hcell 3 _ rfl)
          have n4 := (TW0.out.and_then HK.out).cellOf (hcell 4 _ rfl)
          have n5 := (TW0.out.and_then HK.out).cellOf (hcell 5 _ rfl)
          have n6 := (TW0.out.and_then HK.out).cellOf (hcell 6 _ rfl)
          simp only [Nat.add_zero] at n0
          have hyb := (HF.out.keep (TW0.out.and_then HK.out)).block _ (bang_mem (l := f.blocks.2) (k := k) (by rw [HNB.out]; exact hlt))
          have HBS := kept (HBv.out.symm.trans (fewBl_at (by rw [HNB.out]; exact hlt)))
          clear hcell HC2 HC0 HC1
          generalize hy : f.blocks.2[k]! = y at *
          have HY := kept hy
          clear hy
          obtain ⟨pa, pc, pe, -, -, hpc⟩ := hyb.phis.open_
          obtain ⟨qa, qc, qe, -, -, hqc⟩ := hyb.insts.open_
          have HYB := kept hyb
          rw [pe] at n1
          rw [qe] at n2
          have HPC := kept hpc
          have HQC := kept hqc
          clear hyb pe qe hpc hqc
          generalize hPN : y.phis.2.length = pn at *
          generalize hQN : y.insts.2.length = qn at *
          have HPN := kept hPN
          have HQN := kept hQN
          clear hPN hQN
          generalize hyn : y.name = yn at *
          have HYN := kept hyn
          clear hyn
          generalize y.kind = yk at *
          generalize y.var = yv at *
          generalize y.to0 = y0 at *
          generalize y.to1 = y1 at *
          clear l0 l1 l2
          have bmx := Blk.new wo 39 #[.string yn, .slice pa pn pc, .slice qa qn qc, .int .i64 yk, .int .i64 yv, .int .i64 y0, .int .i64 y1]
          have k3 : Keeps wo (wo.alloc (.cells #[.string yn, .slice pa pn pc, .slice qa qn qc, .int .i64 yk, .int .i64 yv, .int .i64 y0, .int .i64 y1] 39)) [] := (Keeps.refl wo []).alloc _
          have Blx := kept (Bl.out.keep k3 (by simp))
          have HKx := kept (HK.out.and_then k3)
          clear k3 Bl HK
          have Bl := Blx
          have HK := HKx
          have Bm := kept bmx
          clear bmx Blx HKx
          have l0 := Bl.out.cell 0
          have l1 := Bl.out.cell 1
          have l2 := Bl.out.cell 2
          have m0 := Bm.out.cell 0
          have m1 := Bm.out.cell 1
          have m2 := Bm.out.cell 2
          have m3 := Bm.out.cell 3
          have m4 := Bm.out.cell 4
          have m5 := Bm.out.cell 5
          have m6 := Bm.out.cell 6
          simp at l0 l1 l2 m0 m1 m2 m3 m4 m5 m6
          by_cases hs : (400 : Int) < (yn.size : Int)
          · go_wp2
            go_ret
            exact ⟨ret_bool (HBNN.out _ HVF.out (by rw [HBS.out]; exact fewOne_1 (by rw [HYN.out, HPN.out, HQN.out]; omega))).symm, (TW0.out.and_then HK.out)⟩
          by_cases hp4 : (400 : Int) < (pn : Int)
          · go_wp2
            go_ret
            exact ⟨ret_bool (HBNN.out _ HVF.out (by rw [HBS.out]; exact fewOne_1 (by rw [HYN.out, HPN.out, HQN.out]; omega))).symm, (TW0.out.and_then HK.out)⟩
          by_cases hq4 : (400 : Int) < (qn : Int)
          · go_wp2
            go_ret
            exact ⟨ret_bool (HBNN.out _ HVF.out (by rw [HBS.out]; exact fewOne_1 (by rw [HYN.out, HPN.out, HQN.out]; omega))).symm, (TW0.out.and_then HK.out)⟩
          go_wp2
          have HLIM := kept (show ¬ (400 < y.name.size ∨ 400 < y.phis.2.length ∨ 400 < y.insts.2.length) by rw [HYN.out, HPN.out, HQN.out]; omega)
          clear n0 n1 n2 n3 n4 n5 n6
          have TWo : Hid (Keeps wo (wo.alloc (.cells #[.string yn, .slice pa pn pc, .slice qa qn qc, .int .i64 yk, .int .i64 yv, .int .i64 y0, .int .i64 y1] 39)) []) := (Keeps.refl wo []).alloc _
          clear l0 l1 l2 m0 m1 m2 m3 m4 m5 m6
          generalize wo.alloc (.cells #[.string yn, .slice pa pn pc, .slice qa qn qc, .int .i64 yk, .int .i64 yv, .int .i64 y0, .int .i64 y1] 39) = WB at *
          have Bl_WB := Bl
          have Bm_WB := Bm
          have TWB := HK
          clear HK
          have HK := kept (Keeps.refl WB [])
          have l0 := Bl.out.cell 0
          have l1 := Bl.out.cell 1
          have l2 := Bl.out.cell 2
          have m0 := Bm.out.cell 0
          have m1 := Bm.out.cell 1
          have m2 := Bm.out.cell 2
          have m3 := Bm.out.cell 3
          have m4 := Bm.out.cell 4
          have m5 := Bm.out.cell 5
          have m6 := Bm.out.cell 6
          simp at l0 l1 l2 m0 m1 m2 m3 m4 m5 m6
          generalize hn1 : n + (yn.size + 10 * (pn + qn)) = s1 at *
          have HN1 := kept (show n + (y.name.size + 10 * (y.phis.2.length + y.insts.2.length)) = s1 by rw [HYN.out, HPN.out, HQN.out]; exact hn1)
          go_loopw [3, 85] (fun s i wr => ∃ i1 j1 : Nat, i1 ≤ pn ∧ i = .int .i64 i1 ∧ s = .int .i64 j1 ∧ Keeps WB wr [] ∧ s1 ≤ j1 ∧ j1 ≤ s1 + 800 * i1 ∧ Hid (fewPh (y.phis.2.drop i1) j1 = fewPh y.phis.2 s1)) (fun _ i _ => pn - (intOf i).toNat)
          case atStart => exact ⟨0, s1, Nat.zero_le _, rfl, by go_num, HK.out, Nat.le_refl _, Nat.le_refl _, (show Hid _ from by show _ = _; rw [List.drop_zero])⟩
          case round =>
            obtain ⟨i1, j1, hj, rfl, rfl, hr, hm1, hm2, HFV⟩ := hrel
            clear l0 l1 l2 m0 m1 m2 m3 m4 m5 m6
            clear Bl Bm HK
            have HK := kept hr
            have Bl := kept (Bl_WB.out.keep hr (by simp))
            have Bm := kept (Bm_WB.out.keep hr (by simp))
            clear hr
            have l0 := Bl.out.cell 0
            have l1 := Bl.out.cell 1
            have l2 := Bl.out.cell 2
            have m0 := Bm.out.cell 0
            have m1 := Bm.out.cell 1
            have m2 := Bm.out.cell 2
            have m3 := Bm.out.cell 3
            have m4 := Bm.out.cell 4
            have m5 := Bm.out.cell 5
            have m6 := Bm.out.cell 6
            simp at l0 l1 l2 m0 m1 m2 m3 m4 m5 m6
            by_cases hltj : i1 < pn
            · have hltjz : (i1 : Int) < (pn : Int) := by omega
              obtain ⟨pb, po, rfl, hpb, hpcell⟩ := HPC.out i1 hltj
              have n0 := (TWo.out.and_then HK.out).cellOf (hpcell 0 _ rfl)
              have n1 := (TWo.out.and_then HK.out).cellOf (hpcell 1 _ rfl)
              have n2 := (TWo.out.and_then HK.out).cellOf (hpcell 2 _ rfl)
              simp only [Nat.add_zero] at n0
              have hpa := HYB.out.phi _ (bang_mem (l := y.phis.2) (k := i1) (by rw [HPN.out]; exact hltj))
              have HPS := kept ((fewPh_at (l := y.phis.2) (n := j1) (by rw [HPN.out]; exact hltj)).symm.trans HFV.out)
              clear hpcell HPC
              generalize y.phis.2[i1]! = p at *
              obtain ⟨u1, v1, e1, -⟩ := IntsAt.open_ hpa.1
              obtain ⟨u2, v2, e2, -⟩ := IntsAt.open_ hpa.2
              rw [e1] at n1
              rw [e2] at n2
              clear e1 e2
              generalize p.args.2.length = pna at *
              generalize p.froms.2.length = pnf at *
              generalize p.dst = pdst at *
              clear hpa
              clear l0 l1 l2 m0 m1 m2 m3 m4 m5 m6
              have bmx := Blk.new wr 79 #[.int .i64 pdst, .slice u1 pna v1, .slice u2 pnf v2]
              have k3 : Keeps wr (wr.alloc (.cells #[.int .i64 pdst, .slice u1 pna v1, .slice u2 pnf v2] 79)) [] := (Keeps.refl wr []).alloc _
              have Blx := kept (Bl.out.keep k3 (by simp))
              have Bmx := kept (Bm.out.keep k3 (by simp))
              have HKx := kept (HK.out.and_then k3)
              clear k3 Bl Bm HK
              have Bl := Blx
              have Bm := Bmx
              have HK := HKx
              have Bq := kept bmx
              clear bmx Blx Bmx HKx
              have l0 := Bl.out.cell 0
              have l1 := Bl.out.cell 1
              have l2 := Bl.out.cell 2
              have m0 := Bm.out.cell 0
              have m1 := Bm.out.cell 1
              have m2 := Bm.out.cell 2
              have m3 := Bm.out.cell 3
              have m4 := Bm.out.cell 4
              have m5 := Bm.out.cell 5
              have m6 := Bm.out.cell 6
              have q0 := Bq.out.cell 0
              have q1 := Bq.out.cell 1
              have q2 := Bq.out.cell 2
              simp at l0 l1 l2 m0 m1 m2 m3 m4 m5 m6 q0 q1 q2
              by_cases hf4 : (4000 : Int) < (j1 : Int)
              · go_wp2
                go_ret
                exact ⟨ret_bool (HBNN.out _ HVF.out (by rw [HBS.out]; exact fewOne_2 HLIM.out (by rw [HN1.out, ← HPS.out, if_pos (by omega)]))).symm, (TW0.out.and_then (TWB.out.and_then HK.out))⟩
              by_cases hl0 : (400 : Int) < (pna : Int)
              · go_wp2
                go_ret
                exact ⟨ret_bool (HBNN.out _ HVF.out (by rw [HBS.out]; exact fewOne_2 HLIM.out (by rw [HN1.out, ← HPS.out, if_pos (by omega)]))).symm, (TW0.out.and_then (TWB.out.and_then HK.out))⟩
              by_cases hl1 : (400 : Int) < (pnf : Int)
              · go_wp2
                go_ret
                exact ⟨ret_bool (HBNN.out _ HVF.out (by rw [HBS.out]; exact fewOne_2 HLIM.out (by rw [HN1.out, ← HPS.out, if_pos (by omega)]))).symm, (TW0.out.and_then (TWB.out.and_then HK.out))⟩
              have HF2 : Hid (fewPh (y.phis.2.drop (i1 + 1)) (j1 + (pna + pnf)) = fewPh y.phis.2 s1) := by have h := HPS.out; rw [if_neg (by omega)] at h; exact h
              go_wp2
              go_roundw
              case rel => exact ⟨i1 + 1, j1 + (pna + pnf), by omega, by go_num, by go_num, HK.out, by omega, by omega, HF2⟩
              case measure => simp [intOf]; omega
            · have hltjz : ¬ (i1 : Int) < (pn : Int) := by omega
              have HPD : Hid (fewPh y.phis.2 s1 = some j1) := by have hh : i1 = pn := (by omega); have h := HFV.out; rw [hh, ← HPN.out, fewPh_end] at h; exact h.symm
              have hn2 : s1 ≤ j1 := by omega
              have hn3 : j1 ≤ s1 + 800 * 400 := by omega
              clear hltj hm1 hm2 hj HFV
              go_wp2
              go_loopw [3, 116] (fun s i wr => ∃ i2 j2 : Nat, i2 ≤ qn ∧ i = .int .i64 i2 ∧ s = .int .i64 j2 ∧ Keeps WB wr [] ∧ j1 ≤ j2 ∧ j2 ≤ j1 + 800 * i2 ∧ Hid (fewIn (y.insts.2.drop i2) j2 = fewIn y.insts.2 j1)) (fun _ i _ => qn - (intOf i).toNat)
              case atStart => exact ⟨0, j1, Nat.zero_le _, rfl, rfl, HK.out, Nat.le_refl _, Nat.le_refl _, (show Hid _ from by show _ = _; rw [List.drop_zero])⟩
              case round =>
                obtain ⟨i2, j2, hj, rfl, rfl, hr, hm1, hm2, HFV⟩ := hrel
                clear l0 l1 l2 m0 m1 m2 m3 m4 m5 m6
                clear Bl Bm HK
                have HK := kept hr
                have Bl := kept (Bl_WB.out.keep hr (by simp))
                have Bm := kept (Bm_WB.out.keep hr (by simp))
                clear hr
                have l0 := Bl.out.cell 0
                have l1 := Bl.out.cell 1
                have l2 := Bl.out.cell 2
                have m0 := Bm.out.cell 0
                have m1 := Bm.out.cell 1
                have m2 := Bm.out.cell 2
                have m3 := Bm.out.cell 3
                have m4 := Bm.out.cell 4
                have m5 := Bm.out.cell 5
                have m6 := Bm.out.cell 6
                simp at l0 l1 l2 m0 m1 m2 m3 m4 m5 m6
                by_cases hltj : i2 < qn
                · have hltjz : (i2 : Int) < (qn : Int) := by omega
                  obtain ⟨pb, po, rfl, hpb, hpcell⟩ := HQC.out i2 hltj
                  have n0 := (TWo.out.and_then HK.out).cellOf (hpcell 0 _ rfl)
                  have n1 := (TWo.out.and_then HK.out).cellOf (hpcell 1 _ rfl)
                  have n2 := (TWo.out.and_then HK.out).cellOf (hpcell 2 _ rfl)
                  have n3 := (TWo.out.and_then HK.out).cellOf (hpcell 3 _ rfl)
                  simp only [Nat.add_zero] at n0
                  have hpa := HYB.out.inst _ (bang_mem (l := y.insts.2) (k := i2) (by rw [HQN.out]; exact hltj))
                  have HPS := kept ((fewIn_at (l := y.insts.2) (n := j2) (by rw [HQN.out]; exact hltj)).symm.trans HFV.out)
                  clear hpcell HQC
                  generalize y.insts.2[i2]! = p at *
                  obtain ⟨u1, v1, e1, -⟩ := IntsAt.open_ hpa
                  rw [e1] at n2
                  clear e1
                  generalize p.args.2.length = pna at *
                  generalize p.op = pop at *
                  generalize p.dst = pdst at *
                  generalize p.num = pnum at *
                  clear hpa
                  clear l0 l1 l2 m0 m1 m2 m3 m4 m5 m6
                  have bmx := Blk.new wr 42 #[.int .i64 pop, .int .i64 pdst, .slice u1 pna v1, .int .i64 pnum]
                  have k3 : Keeps wr (wr.alloc (.cells #[.int .i64 pop, .int .i64 pdst, .slice u1 pna v1, .int .i64 pnum] 42)) [] := (Keeps.refl wr []).alloc _
                  have Blx := kept (Bl.out.keep k3 (by simp))
                  have Bmx := kept (Bm.out.keep k3 (by simp))
                  have HKx := kept (HK.out.and_then k3)
                  clear k3 Bl Bm HK
                  have Bl := Blx
                  have Bm := Bmx
                  have HK := HKx
                  have Bq := kept bmx
                  clear bmx Blx Bmx HKx
                  have l0 := Bl.out.cell 0
                  have l1 := Bl.out.cell 1
                  have l2 := Bl.out.cell 2
                  have m0 := Bm.out.cell 0
                  have m1 := Bm.out.cell 1
                  have m2 := Bm.out.cell 2
                  have m3 := Bm.out.cell 3
                  have m4 := Bm.out.cell 4
                  have m5 := Bm.out.cell 5
                  have m6 := Bm.out.cell 6
                  have q0 := Bq.out.cell 0
                  have q1 := Bq.out.cell 1
                  have q2 := Bq.out.cell 2
                  have q3 := Bq.out.cell 3
                  simp at l0 l1 l2 m0 m1 m2 m3 m4 m5 m6 q0 q1 q2 q3
                  by_cases hf4 : (4000 : Int) < (j2 : Int)
                  · go_wp2
                    go_ret
                    exact ⟨ret_bool (HBNN.out _ HVF.out (by rw [HBS.out]; exact fewOne_3 HLIM.out (by rw [HN1.out]; exact HPD.out) (by rw [← HPS.out, if_pos (by omega)]))).symm, (TW0.out.and_then (TWB.out.and_then HK.out))⟩
                  by_cases hl0 : (400 : Int) < (pna : Int)
                  · go_wp2
                    go_ret
                    exact ⟨ret_bool (HBNN.out _ HVF.out (by rw [HBS.out]; exact fewOne_3 HLIM.out (by rw [HN1.out]; exact HPD.out) (by rw [← HPS.out, if_pos (by omega)]))).symm, (TW0.out.and_then (TWB.out.and_then HK.out))⟩
                  have HF2 : Hid (fewIn (y.insts.2.drop (i2 + 1)) (j2 + (pna)) = fewIn y.insts.2 j1) := by have h := HPS.out; rw [if_neg (by omega)] at h; exact h
                  go_wp2
                  go_roundw
                  case rel => exact ⟨i2 + 1, j2 + (pna), by omega, by go_num, by go_num, HK.out, by omega, by omega, HF2⟩
                  case measure => simp [intOf]; omega
                · have hltjz : ¬ (i2 : Int) < (qn : Int) := by omega
                  have HID : Hid (fewIn y.insts.2 j1 = some j2) := by have hh : i2 = qn := (by omega); have h := HFV.out; rw [hh, ← HQN.out, fewIn_end] at h; exact h.symm
                  have HB4 := kept (HBS.out.trans (fewOne_4 HLIM.out (by rw [HN1.out]; exact HPD.out) HID.out))
                  by_cases hf4 : (4000 : Int) < (j2 : Int)
                  · go_wp2
                    go_ret
                    exact ⟨ret_bool (HBNN.out _ HVF.out (by rw [HB4.out, if_pos (by omega)])).symm, (TW0.out.and_then (TWB.out.and_then HK.out))⟩
                  have HB5 : Hid (fewBl (f.blocks.2.drop (k + 1)) j2 = fewBl f.blocks.2 n9) := by have h := HB4.out; rw [if_neg (by omega)] at h; exact h.symm
                  go_wp2
                  go_roundw
                  case rel => exact ⟨k + 1, j2, by omega, by go_num, rfl, (TWB.out.and_then HK.out), by omega, HB5⟩
                  case measure => simp [intOf]; omega
        · have hltz : ¬ (k : Int) < (f.nb : Int) := by omega
          have HBF : Hid (fewBl f.blocks.2 n9 = some n) := by have hh : k = f.nb := (by omega); have h := HBv.out; rw [hh, ← HNB.out, fewBl_end] at h; exact h.symm
          go_wp2
          go_ret
          exact ⟨ret_bool (HYES.out _ _ (by omega) HVF.out HBF.out).symm, (TW0.out.and_then HK.out)⟩
end Go.Proofs.YtjllbchfojonhaaDoor
namespace Go.Proofs.YtjllbchfojonhaaDoor
open Go.RowKit Go.Shelf Go.Lib
set_option linter.unusedVariables false
set_option linter.unusedSimpArgs false

theorem fewBl_p : ∀ (l : List BlockM) (n : Nat), (fewBl l n).isSome = true → ∀ b ∈ l, b.phis.2.length ≤ 400 ∧ b.insts.2.length ≤ 400 := by
  intro l
  induction l with
  | nil => intro n _ b hb; cases hb
  | cons y l ih =>
    intro n h b hb
    unfold fewBl fewOne at h
    split at h
    · cases h
    · rename_i h0
      rcases List.mem_cons.1 hb with rfl | hb
      · omega
      · cases h1 : fewPh y.phis.2 (n + (y.name.size + 10 * (y.phis.2.length + y.insts.2.length))) with
        | none => rw [h1] at h; cases h
        | some m =>
          rw [h1] at h
          simp only [Option.bind_some] at h
          cases h2 : fewIn y.insts.2 m with
          | none => rw [h2] at h; cases h
          | some m2 =>
            rw [h2] at h
            simp only [Option.bind_some] at h
            split at h
            · cases h
            · exact ih m2 h b hb
theorem fewB_p {f : FuncM} (h : fewB f = true) : FewP f := by
  unfold fewB at h
  split at h
  · cases h
  · rename_i h0
    cases h1 : fewV f.vars.2 0 with
    | none => rw [h1] at h; cases h
    | some n =>
      rw [h1] at h
      exact ⟨by omega, by omega, by omega, fewBl_p _ n h⟩
theorem slot_live {f : FuncM} (h : (shapedB f && slotB f) = true) (hfew : FewP f) : LiveP f := by
  rw [Bool.and_eq_true] at h
  exact live_p h.1 hfew
theorem shaped_kind {f : FuncM} (h : shapedB f = true) : ∀ c, c < f.nb → (f.blk c).kind = 0 ∨ (f.blk c).kind = 1 ∨ (f.blk c).kind = 2 := fun c hc => by
  have := (shaped_blocks h (f.blk c) (bang_mem hc)).2.2
  unfold termB at this
  split at this
  · exact .inl (by assumption)
  · split at this
    · exact .inr (.inl (by assumption))
    · split at this
      · exact .inr (.inr (by assumption))
      · cases this
def cntP (P : Nat → Bool) (v : Nat) : Nat := ((List.range v).filter P).length
theorem cntP_succ (P : Nat → Bool) (v : Nat) : cntP P (v + 1) = cntP P v + if P v = true then 1 else 0 := by
  unfold cntP
  rw [List.range_succ, List.filter_append, List.length_append]
  cases h : P v <;> simp [List.filter_cons, h]
theorem cntP_le (P : Nat → Bool) (v : Nat) : cntP P v ≤ v := by
  unfold cntP
  have := List.length_filter_le P (List.range v)
  rwa [List.length_range] at this
theorem filt_at {P : Nat → Bool} {n v : Nat} (h : v < n) (hp : P v = true) : cntP P v < (natI ((List.range n).filter P)).length ∧ (natI ((List.range n).filter P))[cntP P v]! = (v : Int) := by
  obtain ⟨d, rfl⟩ := Nat.le.dest (show v + 1 ≤ n from h)
  have e : (List.range (v + 1 + d)).filter P = (List.range v).filter P ++ (v :: ((List.range d).map (v + 1 + ·)).filter P) := by
    rw [List.range_add, List.filter_append, List.range_succ, List.filter_append]
    have : [v].filter P = [v] := by simp [List.filter_cons, hp]
    rw [this, List.append_assoc]; rfl
  rw [e]
  unfold natI cntP
  rw [List.map_append]
  have hl : ((List.range v).filter P).length < (List.map Int.ofNat ((List.range v).filter P) ++ List.map Int.ofNat (v :: ((List.range d).map (v + 1 + ·)).filter P)).length := by
    rw [List.length_append, List.length_map, List.map_cons, List.length_cons]; omega
  refine ⟨hl, ?_⟩
  rw [List.getElem!_eq_getElem?_getD, List.getElem?_append_right (by rw [List.length_map]; exact Nat.le_refl _)]
  simp
theorem filt_len {P : Nat → Bool} {n : Nat} : (natI ((List.range n).filter P)).length = cntP P n := by unfold natI cntP; rw [List.length_map]

set_option maxRecDepth 100000 in
set_option maxHeartbeats 200000000 in
theorem slot21_any (f : FuncM) (w : World) (ht : Tabs w) (hf : FuncAt w f) : Calls Tryd.prog 21 #[f.val] w fun e w' => e = .returned (.bool (fewB f && (shapedB f && slotB f))) ∧ Keeps w w' [] := by
  have CF := kept (fun W h => few_exact f W h)
  have CS := kept (fun (hq : fewB f = true) W h1 h2 => slotL_any f W h1 h2 (fewB_p hq))
  have HT := kept ht
  obtain ⟨a0, c0, e0, -, -, hc0⟩ := hf.vars.open_
  obtain ⟨a1, c1, e1, -, -, hc1⟩ := (show Row w 1 f.params.1 (f.params.2.map intCells) from hf.params).open_
  obtain ⟨a2, c2, e2, -, -, hc2⟩ := hf.blocks.open_
  have hval : f.val = .agg #[.slice a0 f.nv c0, .slice a1 f.np c1, .slice a2 f.nb c2] := by unfold FuncM.val FuncM.nv FuncM.np FuncM.nb; rw [e0, e1, e2]
  have h1 : #[f.vars.1, f.params.1, f.blocks.1] = #[.slice a0 f.nv c0, .slice a1 f.np c1, .slice a2 f.nb c2] := by unfold FuncM.nv FuncM.np FuncM.nb; rw [e0, e1, e2]
  have HF := kept hf
  have HC0 := kept hc0
  have HC1 := kept hc1
  have HC2 := kept hc2
  have HNV := kept (show f.vars.2.length = f.nv from rfl)
  have HNP := kept (show f.params.2.length = f.np from rfl)
  have HNB := kept (show f.blocks.2.length = f.nb from rfl)
  rw [hval] at CF CS ⊢
  clear e0 e1 e2 hval h1 hf hc0 hc1 hc2 HC0 HC1 HC2 ht
  have hk0 : Keeps w (w.alloc (.cells #[.slice a0 f.nv c0, .slice a1 f.np c1, .slice a2 f.nb c2] 26)) [] := (Keeps.refl _ []).alloc _
  have bb0 := Blk.new w 26 #[.slice a0 f.nv c0, .slice a1 f.np c1, .slice a2 f.nb c2]
  have Bl := kept bb0
  have HK := kept hk0
  have l0 := Bl.out.cell 0
  have l1 := Bl.out.cell 1
  have l2 := Bl.out.cell 2
  simp at l0 l1 l2
  clear hk0 bb0
  go_enter Tryd.func21, Tryd.ntmps21
  cases hq : fewB f with
  | false =>
    rw [hq] at CF
    go_wp2_with (first | (go_at_call 11; refine (CF.out _ (HF.out.keep HK.out)).mono ?_; rintro e w3 ⟨rfl, k3⟩; clear l0 l1 l2; have Blx := kept (Bl.out.keep k3 (by simp)); have HKx := kept (HK.out.and_then k3); clear Bl HK; have Bl := Blx; have HK := HKx; clear Blx HKx; have l0 := Bl.out.cell 0; have l1 := Bl.out.cell 1; have l2 := Bl.out.cell 2; simp at l0 l1 l2; clear k3) | fail)
    go_ret
    exact ⟨rfl, HK.out⟩
  | true =>
    have CS2 := kept (CS.out hq)
    rw [hq] at CF
    clear hq CS
    go_wp2_with (first | (go_at_call 11; refine (CF.out _ (HF.out.keep HK.out)).mono ?_; rintro e w3 ⟨rfl, k3⟩; clear l0 l1 l2; have Blx := kept (Bl.out.keep k3 (by simp)); have HKx := kept (HK.out.and_then k3); clear Bl HK; have Bl := Blx; have HK := HKx; clear Blx HKx; have l0 := Bl.out.cell 0; have l1 := Bl.out.cell 1; have l2 := Bl.out.cell 2; simp at l0 l1 l2; clear k3) | (go_at_call 16; refine (CS2.out _ (HT.out.keep HK.out) (HF.out.keep HK.out)).mono ?_; rintro e w4 ⟨rfl, k3⟩; clear l0 l1 l2; have Blx := kept (Bl.out.keep k3 (by simp)); have HKx := kept (HK.out.and_then k3); clear Bl HK; have Bl := Blx; have HK := HKx; clear Blx HKx; have l0 := Bl.out.cell 0; have l1 := Bl.out.cell 1; have l2 := Bl.out.cell 2; simp at l0 l1 l2; clear k3) | fail)
    go_ret
    exact ⟨ret_bool (by simp), HK.out⟩

set_option maxRecDepth 100000 in
set_option maxHeartbeats 200000000 in
theorem walkLivePlaces (f : FuncM) (b p : Int) (w : World) (ht : TabsL w) (hf : FuncAt w f) : Calls Tryd.prog 5 #[f.val, .int .i64 b, .int .i64 p] w fun e w' => e = .returned (.bool true) ∧ Keeps w w' [] := by
  have CL := kept (fun W h => lives14_any W h)
  have CSL := kept (fun W h1 h2 => slot21_any f W h1 h2)
  have CAT := kept (fun (hq : fewB f = true) W h1 h2 => at22_any f b p W h1 h2 (fewB_p hq))
  have HT := kept ht
  have CLV := kept (fun (hq : fewB f = true) (hs : (shapedB f && slotB f) = true) (v bn pn : Nat) (hb : bn < f.nb) (hp : pn ≤ (f.blk bn).insts.2.length) (hv : v ≤ 1000000) W h => live23_any f v bn pn W h (slot_live hs (fewB_p hq)) (shaped_kind (by rw [Bool.and_eq_true] at hs; exact hs.1)) hb hp hv)
  have HFW := kept (fun (hq : fewB f = true) => fewB_p hq)
  have HAO := kept (fun h => atL_no (f := f) (b := b) (p := p) h)
  have HAY := kept (fun h : (shapedB f && slotB f) = true ∧ PlaceOK f b p => show atL f b p = liveL f b.toNat p.toNat by unfold atL; rw [if_pos h])
  have HPD := kept (show PlaceOK f b p ↔ (0 ≤ b ∧ b < (f.nb : Int) ∧ 0 ≤ p ∧ p ≤ (f.blocks.2[b.toNat]!.insts.2.length : Int)) from Iff.rfl)
  obtain ⟨a0, c0, e0, -, -, hc0⟩ := hf.vars.open_
  obtain ⟨a1, c1, e1, -, -, hc1⟩ := (show Row w 1 f.params.1 (f.params.2.map intCells) from hf.params).open_
  obtain ⟨a2, c2, e2, -, -, hc2⟩ := hf.blocks.open_
  have hval : f.val = .agg #[.slice a0 f.nv c0, .slice a1 f.np c1, .slice a2 f.nb c2] := by unfold FuncM.val FuncM.nv FuncM.np FuncM.nb; rw [e0, e1, e2]
  have h1 : #[f.vars.1, f.params.1, f.blocks.1] = #[.slice a0 f.nv c0, .slice a1 f.np c1, .slice a2 f.nb c2] := by unfold FuncM.nv FuncM.np FuncM.nb; rw [e0, e1, e2]
  have HF := kept hf
  have HC0 := kept hc0
  have HC1 := kept hc1
  have HC2 := kept hc2
  have HNV := kept (show f.vars.2.length = f.nv from rfl)
  have HNP := kept (show f.params.2.length = f.np from rfl)
  have HNB := kept (show f.blocks.2.length = f.nb from rfl)
  rw [hval] at CSL CAT CLV ⊢
  clear e0 e1 e2 hval h1 hf hc0 hc1 hc2 HC0 HC1 ht
  have hk0 : Keeps w (w.alloc (.cells #[.slice a0 f.nv c0, .slice a1 f.np c1, .slice a2 f.nb c2] 26)) [] := (Keeps.refl _ []).alloc _
  have bb0 := Blk.new w 26 #[.slice a0 f.nv c0, .slice a1 f.np c1, .slice a2 f.nb c2]
  have Bl := kept bb0
  have HK := kept hk0
  have l0 := Bl.out.cell 0
  have l1 := Bl.out.cell 1
  have l2 := Bl.out.cell 2
  simp at l0 l1 l2
  clear hk0 bb0
  go_enter Tryd.func5, Tryd.ntmps5
  cases hSB : (fewB f && (shapedB f && slotB f)) with
  | false =>
    rw [hSB] at CSL
    clear hSB
    go_wp2_with (first | (go_at_call 20; refine (CL.out _ (HT.out.keep HK.out)).mono ?_; rintro e w3 ⟨rfl, k3⟩; clear l0 l1 l2; have Blx := kept (Bl.out.keep k3 (by simp)); have HKx := kept (HK.out.and_then k3); clear Bl HK; have Bl := Blx; have HK := HKx; clear Blx HKx; have l0 := Bl.out.cell 0; have l1 := Bl.out.cell 1; have l2 := Bl.out.cell 2; simp at l0 l1 l2; clear k3) | (go_at_call 21; refine (CSL.out _ (HT.out.keep HK.out).tabs (HF.out.keep HK.out)).mono ?_; rintro e w4 ⟨rfl, k3⟩; clear l0 l1 l2; have Blx := kept (Bl.out.keep k3 (by simp)); have HKx := kept (HK.out.and_then k3); clear Bl HK; have Bl := Blx; have HK := HKx; clear Blx HKx; have l0 := Bl.out.cell 0; have l1 := Bl.out.cell 1; have l2 := Bl.out.cell 2; simp at l0 l1 l2; clear k3) | fail)
    go_ret
    exact ⟨rfl, HK.out⟩
  | true =>
    rw [hSB] at CSL
    have HQ9 : Hid (fewB f = true) := by rw [Bool.and_eq_true] at hSB; exact hSB.1
    have HS9 : Hid ((shapedB f && slotB f) = true) := by rw [Bool.and_eq_true] at hSB; exact hSB.2
    clear hSB
    have hfew := HFW.out HQ9.out
    have hnvF := hfew.nv
    have hnbF := hfew.nb
    have HFB := kept hfew.block
    clear hfew
    have CAT2 := kept (CAT.out HQ9.out)
    have CLV2 := kept (CLV.out HQ9.out HS9.out)
    clear CAT CLV
    by_cases hok : PlaceOK f b p
    · as_aux_lemma =>
        have HE := kept (HAY.out ⟨HS9.out, hok⟩)
        have hk := HPD.out.1 hok
        clear hok HAO HAY HPD
        obtain ⟨bn, rfl⟩ : ∃ bn : Nat, b = bn := ⟨b.toNat, by omega⟩
        obtain ⟨pl, rfl⟩ : ∃ pl : Nat, p = pl := ⟨p.toNat, by omega⟩
        rw [Int.toNat_natCast] at hk HE
        rw [Int.toNat_natCast] at HE
        have hbl : bn < f.nb := by omega
        have hplq0 : pl ≤ f.blocks.2[bn]!.insts.2.length := by omega
        clear hk
        have HE2 := kept (show liveL f bn pl = natI ((List.range f.nv).filter fun v => liveB f.blk v bn pl) from rfl)
        rw [HE2.out] at HE
        have CLV3 := kept (fun (v : Nat) (hv : v < f.nv) => CLV2.out v bn pl hbl hplq0 (by omega))
        generalize hPP : (fun v => liveB f.blk v bn pl) = P at *
        have HPv := kept (fun v => show liveB f.blk v bn pl = P v from congrFun hPP v)
        clear hPP HE2 CLV2
        obtain ⟨bb, off, e2, -, hcell⟩ := HC2.out bn (by rw [HNB.out]; exact hbl)
        subst e2
        have HCLk := kept hcell
        clear hcell
        have hyb := HF.out.block _ (bang_mem (l := f.blocks.2) (k := bn) (by first | exact hbl | (rw [HNB.out]; exact hbl)))
        obtain ⟨pa, pc, qa, qc, hcl⟩ := block_parts hyb
        rw [hcl] at HCLk
        clear hcl hyb
        have hplq := hplq0
        clear hplq0
        generalize f.blocks.2[bn]! = y at *
        generalize y.name = yn at *
        generalize y.kind = yk at *
        generalize y.var = yv at *
        generalize y.to0 = y0 at *
        generalize y.to1 = y1 at *
        generalize y.phis.2.length = pn at *
        generalize y.insts.2.length = qn at *
        have hplz : ¬ (qn : Int) < (pl : Int) := by omega
        have hd1 : decide ((bn : Int) < 0) = false := decide_eq_false (by omega)
        have hd2 : decide (f.nb ≤ bn) = false := decide_eq_false (by omega)
        have hd3 : decide ((pl : Int) < 0) = false := decide_eq_false (by omega)
        have hd4 : decide (qn < pl) = false := decide_eq_false (by omega)
        have n2 := HK.out.cellOf (HCLk.out 2 _ rfl)
        go_upto_region 6 with (first | (go_at_call 20; refine (CL.out _ (HT.out.keep HK.out)).mono ?_; rintro e w3 ⟨rfl, k3⟩; clear n2; clear l0 l1 l2; have Blx := kept (Bl.out.keep k3 (by simp)); have HKx := kept (HK.out.and_then k3); clear Bl HK; have Bl := Blx; have HK := HKx; clear Blx HKx; have l0 := Bl.out.cell 0; have l1 := Bl.out.cell 1; have l2 := Bl.out.cell 2; simp at l0 l1 l2; clear k3; have n2 := HK.out.cellOf (HCLk.out 2 _ rfl)) | (go_at_call 21; refine (CSL.out _ (HT.out.keep HK.out).tabs (HF.out.keep HK.out)).mono ?_; rintro e w4 ⟨rfl, k3⟩; clear n2; clear l0 l1 l2; have Blx := kept (Bl.out.keep k3 (by simp)); have HKx := kept (HK.out.and_then k3); clear Bl HK; have Bl := Blx; have HK := HKx; clear Blx HKx; have l0 := Bl.out.cell 0; have l1 := Bl.out.cell 1; have l2 := Bl.out.cell 2; simp at l0 l1 l2; clear k3; have n2 := HK.out.cellOf (HCLk.out 2 _ rfl)) | (go_at_call 22; refine (CAT2.out _ (HT.out.keep HK.out) (HF.out.keep HK.out)).mono ?_; rintro e w5 ⟨⟨⟨qv, ql⟩, rfl, hql, hqi⟩, k3⟩; have HQL : Hid (ql = natI ((List.range f.nv).filter P)) := (show ql = atL f bn pl from hql).trans HE.out; obtain ⟨qa0, qc0, qe0, -, hqm, -⟩ := IntsAt.open_ hqi; simp only at qe0; subst qe0; have HQI := kept hqi; clear hql hqi hqm; dsimp only; clear n2; clear l0 l1 l2; have Blx := kept (Bl.out.keep k3 (by simp)); have HKx := kept (HK.out.and_then k3); clear Bl HK; have Bl := Blx; have HK := HKx; clear Blx HKx; have l0 := Bl.out.cell 0; have l1 := Bl.out.cell 1; have l2 := Bl.out.cell 2; simp at l0 l1 l2; clear k3; have n2 := HK.out.cellOf (HCLk.out 2 _ rfl)) | fail)
        obtain ⟨wf, hwf⟩ : ∃ wf : World, wf = w5 := ⟨_, rfl⟩
        subst hwf
        clear n2
        have hlq : ql.length ≤ f.nv := by rw [HQL.out, filt_len]; exact cntP_le _ _
        clear l0 l1 l2
        have Bl_wf := Bl
        have Twf := HK
        clear HK
        have HK := kept (Keeps.refl wf [])
        have l0 := Bl.out.cell 0
        have l1 := Bl.out.cell 1
        have l2 := Bl.out.cell 2
        simp at l0 l1 l2
        go_wp2
        go_loopw [8, 52] (fun a i wr => ∃ v : Nat, v ≤ f.nv ∧ i = .int .i64 v ∧ a = .int .i64 (cntP P v : Nat) ∧ Keeps wf wr []) (fun _ i _ => f.nv - (intOf i).toNat)
        case atStart => exact ⟨0, Nat.zero_le _, rfl, rfl, HK.out⟩
        case round =>
          obtain ⟨v, hv, rfl, rfl, hr⟩ := hrel
          clear l0 l1 l2
          clear Bl HK
          have HK := kept hr
          have Bl := kept (Bl_wf.out.keep hr (by simp))
          clear hr
          have l0 := Bl.out.cell 0
          have l1 := Bl.out.cell 1
          have l2 := Bl.out.cell 2
          simp at l0 l1 l2
          by_cases hlt : v < f.nv
          · have hltz : (v : Int) < (f.nv : Int) := by omega
            have HCS := kept (cntP_succ P v)
            have hcl := cntP_le P v
            have CLv := kept (CLV3.out v hlt)
            rw [HPv.out v] at CLv
            have HFA := kept (fun h => filt_at (P := P) hlt h)
            rw [← HQL.out] at HFA
            cases hPb : P v with
            | false =>
              rw [hPb] at HCS CLv
              clear hPb
              go_wp2_with (first | (go_at_call 23; refine (CLv.out _ (HF.out.keep (Twf.out.and_then HK.out))).mono ?_; rintro e w6 ⟨rfl, k3⟩; clear l0 l1 l2; have Blx := kept (Bl.out.keep k3 (by simp)); have HKx := kept (HK.out.and_then k3); clear Bl HK; have Bl := Blx; have HK := HKx; clear Blx HKx; have l0 := Bl.out.cell 0; have l1 := Bl.out.cell 1; have l2 := Bl.out.cell 2; simp at l0 l1 l2; clear k3) | fail)
              go_roundw
              case rel => exact ⟨v + 1, by omega, by go_num, by rw [HCS.out]; go_num, HK.out⟩
              case measure => simp [intOf] <;> omega
            | true =>
              have hfa := HFA.out hPb
              rw [hPb] at HCS CLv
              clear hPb
              obtain ⟨qa1, qc1, qe1, -, -, hqh⟩ := IntsAt.open_ HQI.out
              simp only [Value.slice.injEq] at qe1
              obtain ⟨rfl, -, rfl⟩ := qe1
              rcases hqh with hqh | ⟨ra, ro, rfl, -, hra⟩
              · exfalso; have := hfa.1; simp only at hqh; omega
              have o0b := hra (cntP P v) hfa.1
              simp only at o0b
              rw [hfa.2] at o0b
              have HO0 := kept o0b
              have hcq : ((cntP P v : Nat) : Int) < (ql.length : Int) := by have := hfa.1; omega
              clear hra o0b hfa HFA
              have o0 := HK.out.cellOf HO0.out
              have hvv : ((v : Int) != (v : Int)) = false := by simp
              generalize cntP P v = cv at *
              go_wp2_with (first | (go_at_call 23; refine (CLv.out _ (HF.out.keep (Twf.out.and_then HK.out))).mono ?_; rintro e w6 ⟨rfl, k3⟩; clear o0; clear l0 l1 l2; have Blx := kept (Bl.out.keep k3 (by simp)); have HKx := kept (HK.out.and_then k3); clear Bl HK; have Bl := Blx; have HK := HKx; clear Blx HKx; have l0 := Bl.out.cell 0; have l1 := Bl.out.cell 1; have l2 := Bl.out.cell 2; simp at l0 l1 l2; clear k3; have o0 := HK.out.cellOf HO0.out) | fail)
              go_roundw
              case rel => exact ⟨v + 1, by omega, by go_num, by rw [HCS.out]; go_num, HK.out⟩
              case measure => simp [intOf] <;> omega
          · have hltz : ¬ (v : Int) < (f.nv : Int) := by omega
            obtain rfl : f.nv = v := by omega
            have hcl2 : cntP P f.nv = ql.length := by rw [HQL.out, filt_len]
            rw [hcl2]
            clear hcl2
            go_wp2
            go_ret
            exact ⟨ret_bool (by simp), (Twf.out.and_then HK.out)⟩
    · as_aux_lemma =>
        have HE : Hid (atL f b p = []) := HAO.out (fun h => hok h.2)
        have HNP := kept (show ¬ (0 ≤ b ∧ b < (f.nb : Int) ∧ 0 ≤ p ∧ p ≤ (f.blocks.2[b.toNat]!.insts.2.length : Int)) from fun h => hok (HPD.out.2 h))
        clear hok HAO HAY HPD
        by_cases hb0 : b < 0
        · go_wp2_with (first | (go_at_call 20; refine (CL.out _ (HT.out.keep HK.out)).mono ?_; rintro e w3 ⟨rfl, k3⟩; clear l0 l1 l2; have Blx := kept (Bl.out.keep k3 (by simp)); have HKx := kept (HK.out.and_then k3); clear Bl HK; have Bl := Blx; have HK := HKx; clear Blx HKx; have l0 := Bl.out.cell 0; have l1 := Bl.out.cell 1; have l2 := Bl.out.cell 2; simp at l0 l1 l2; clear k3) | (go_at_call 21; refine (CSL.out _ (HT.out.keep HK.out).tabs (HF.out.keep HK.out)).mono ?_; rintro e w4 ⟨rfl, k3⟩; clear l0 l1 l2; have Blx := kept (Bl.out.keep k3 (by simp)); have HKx := kept (HK.out.and_then k3); clear Bl HK; have Bl := Blx; have HK := HKx; clear Blx HKx; have l0 := Bl.out.cell 0; have l1 := Bl.out.cell 1; have l2 := Bl.out.cell 2; simp at l0 l1 l2; clear k3) | (go_at_call 22; refine (CAT2.out _ (HT.out.keep HK.out) (HF.out.keep HK.out)).mono ?_; rintro e w5 ⟨⟨⟨qv, ql⟩, rfl, hql, hqi⟩, k3⟩; have hq0 : ql = [] := (show ql = atL f b p from hql).trans HE.out; subst hq0; obtain ⟨qa0, qc0, qe0, -, hqm, -⟩ := IntsAt.open_ hqi; simp only at qe0; subst qe0; clear hql hqi hqm; dsimp only; clear l0 l1 l2; have Blx := kept (Bl.out.keep k3 (by simp)); have HKx := kept (HK.out.and_then k3); clear Bl HK; have Bl := Blx; have HK := HKx; clear Blx HKx; have l0 := Bl.out.cell 0; have l1 := Bl.out.cell 1; have l2 := Bl.out.cell 2; simp at l0 l1 l2; clear k3) | fail)
          go_ret
          exact ⟨rfl, HK.out⟩
        by_cases hbn : (f.nb : Int) ≤ b
        · go_wp2_with (first | (go_at_call 20; refine (CL.out _ (HT.out.keep HK.out)).mono ?_; rintro e w3 ⟨rfl, k3⟩; clear l0 l1 l2; have Blx := kept (Bl.out.keep k3 (by simp)); have HKx := kept (HK.out.and_then k3); clear Bl HK; have Bl := Blx; have HK := HKx; clear Blx HKx; have l0 := Bl.out.cell 0; have l1 := Bl.out.cell 1; have l2 := Bl.out.cell 2; simp at l0 l1 l2; clear k3) | (go_at_call 21; refine (CSL.out _ (HT.out.keep HK.out).tabs (HF.out.keep HK.out)).mono ?_; rintro e w4 ⟨rfl, k3⟩; clear l0 l1 l2; have Blx := kept (Bl.out.keep k3 (by simp)); have HKx := kept (HK.out.and_then k3); clear Bl HK; have Bl := Blx; have HK := HKx; clear Blx HKx; have l0 := Bl.out.cell 0; have l1 := Bl.out.cell 1; have l2 := Bl.out.cell 2; simp at l0 l1 l2; clear k3) | (go_at_call 22; refine (CAT2.out _ (HT.out.keep HK.out) (HF.out.keep HK.out)).mono ?_; rintro e w5 ⟨⟨⟨qv, ql⟩, rfl, hql, hqi⟩, k3⟩; have hq0 : ql = [] := (show ql = atL f b p from hql).trans HE.out; subst hq0; obtain ⟨qa0, qc0, qe0, -, hqm, -⟩ := IntsAt.open_ hqi; simp only at qe0; subst qe0; clear hql hqi hqm; dsimp only; clear l0 l1 l2; have Blx := kept (Bl.out.keep k3 (by simp)); have HKx := kept (HK.out.and_then k3); clear Bl HK; have Bl := Blx; have HK := HKx; clear Blx HKx; have l0 := Bl.out.cell 0; have l1 := Bl.out.cell 1; have l2 := Bl.out.cell 2; simp at l0 l1 l2; clear k3) | fail)
          go_ret
          exact ⟨rfl, HK.out⟩
        by_cases hp0 : p < 0
        · go_wp2_with (first | (go_at_call 20; refine (CL.out _ (HT.out.keep HK.out)).mono ?_; rintro e w3 ⟨rfl, k3⟩; clear l0 l1 l2; have Blx := kept (Bl.out.keep k3 (by simp)); have HKx := kept (HK.out.and_then k3); clear Bl HK; have Bl := Blx; have HK := HKx; clear Blx HKx; have l0 := Bl.out.cell 0; have l1 := Bl.out.cell 1; have l2 := Bl.out.cell 2; simp at l0 l1 l2; clear k3) | (go_at_call 21; refine (CSL.out _ (HT.out.keep HK.out).tabs (HF.out.keep HK.out)).mono ?_; rintro e w4 ⟨rfl, k3⟩; clear l0 l1 l2; have Blx := kept (Bl.out.keep k3 (by simp)); have HKx := kept (HK.out.and_then k3); clear Bl HK; have Bl := Blx; have HK := HKx; clear Blx HKx; have l0 := Bl.out.cell 0; have l1 := Bl.out.cell 1; have l2 := Bl.out.cell 2; simp at l0 l1 l2; clear k3) | (go_at_call 22; refine (CAT2.out _ (HT.out.keep HK.out) (HF.out.keep HK.out)).mono ?_; rintro e w5 ⟨⟨⟨qv, ql⟩, rfl, hql, hqi⟩, k3⟩; have hq0 : ql = [] := (show ql = atL f b p from hql).trans HE.out; subst hq0; obtain ⟨qa0, qc0, qe0, -, hqm, -⟩ := IntsAt.open_ hqi; simp only at qe0; subst qe0; clear hql hqi hqm; dsimp only; clear l0 l1 l2; have Blx := kept (Bl.out.keep k3 (by simp)); have HKx := kept (HK.out.and_then k3); clear Bl HK; have Bl := Blx; have HK := HKx; clear Blx HKx; have l0 := Bl.out.cell 0; have l1 := Bl.out.cell 1; have l2 := Bl.out.cell 2; simp at l0 l1 l2; clear k3) | fail)
          go_ret
          exact ⟨rfl, HK.out⟩
        obtain ⟨bn, rfl⟩ : ∃ bn : Nat, b = bn := ⟨b.toNat, by omega⟩
        obtain ⟨pl, rfl⟩ : ∃ pl : Nat, p = pl := ⟨p.toNat, by omega⟩
        rw [Int.toNat_natCast] at HNP
        have hbl : bn < f.nb := by omega
        obtain ⟨bb, off, e2, -, hcell⟩ := HC2.out bn (by rw [HNB.out]; exact hbl)
        subst e2
        have HCLk := kept hcell
        clear hcell
        have hyb := HF.out.block _ (bang_mem (l := f.blocks.2) (k := bn) (by first | exact hbl | (rw [HNB.out]; exact hbl)))
        obtain ⟨pa, pc, qa, qc, hcl⟩ := block_parts hyb
        rw [hcl] at HCLk
        clear hcl hyb
        generalize f.blocks.2[bn]! = y at *
        generalize y.name = yn at *
        generalize y.kind = yk at *
        generalize y.var = yv at *
        generalize y.to0 = y0 at *
        generalize y.to1 = y1 at *
        generalize y.phis.2.length = pn at *
        generalize y.insts.2.length = qn at *
        have hpq : (qn : Int) < (pl : Int) := by have := HNP.out; omega
        have n2 := HK.out.cellOf (HCLk.out 2 _ rfl)
        clear HNP
        go_wp2_with (first | (go_at_call 20; refine (CL.out _ (HT.out.keep HK.out)).mono ?_; rintro e w3 ⟨rfl, k3⟩; clear n2; clear l0 l1 l2; have Blx := kept (Bl.out.keep k3 (by simp)); have HKx := kept (HK.out.and_then k3); clear Bl HK; have Bl := Blx; have HK := HKx; clear Blx HKx; have l0 := Bl.out.cell 0; have l1 := Bl.out.cell 1; have l2 := Bl.out.cell 2; simp at l0 l1 l2; clear k3; have n2 := HK.out.cellOf (HCLk.out 2 _ rfl)) | (go_at_call 21; refine (CSL.out _ (HT.out.keep HK.out).tabs (HF.out.keep HK.out)).mono ?_; rintro e w4 ⟨rfl, k3⟩; clear n2; clear l0 l1 l2; have Blx := kept (Bl.out.keep k3 (by simp)); have HKx := kept (HK.out.and_then k3); clear Bl HK; have Bl := Blx; have HK := HKx; clear Blx HKx; have l0 := Bl.out.cell 0; have l1 := Bl.out.cell 1; have l2 := Bl.out.cell 2; simp at l0 l1 l2; clear k3; have n2 := HK.out.cellOf (HCLk.out 2 _ rfl)) | (go_at_call 22; refine (CAT2.out _ (HT.out.keep HK.out) (HF.out.keep HK.out)).mono ?_; rintro e w5 ⟨⟨⟨qv, ql⟩, rfl, hql, hqi⟩, k3⟩; have hq0 : ql = [] := (show ql = atL f bn pl from hql).trans HE.out; subst hq0; obtain ⟨qa0, qc0, qe0, -, hqm, -⟩ := IntsAt.open_ hqi; simp only at qe0; subst qe0; clear hql hqi hqm; dsimp only; clear n2; clear l0 l1 l2; have Blx := kept (Bl.out.keep k3 (by simp)); have HKx := kept (HK.out.and_then k3); clear Bl HK; have Bl := Blx; have HK := HKx; clear Blx HKx; have l0 := Bl.out.cell 0; have l1 := Bl.out.cell 1; have l2 := Bl.out.cell 2; simp at l0 l1 l2; clear k3; have n2 := HK.out.cellOf (HCLk.out 2 _ rfl)) | fail)
        go_ret
        exact ⟨rfl, HK.out⟩
end Go.Proofs.YtjllbchfojonhaaDoor
