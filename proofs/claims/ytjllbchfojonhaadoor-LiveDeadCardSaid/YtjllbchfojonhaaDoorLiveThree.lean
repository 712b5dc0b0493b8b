/- What is live, as lists; lists of sets; contract. ; live.At, In, Out; contracts. ; A row of numbers that is taken from the front and appended to: law. ; Is a variable live, by the document; contract. ; What is live behind an end, by the document; the chapter's example; contracts. ; What is live behind an end, by the document; is a program little and a slot program; contracts. ; A little program, exactly; contract. ; The law 'LivePlaces': the walk. -/
import Derived.Test.YtjllbchfojonhaaDoorLiveTwo
import Derived.Test.YtjllbchfojonhaaDoorLiveOne
import Derived.Test.YtjllbchfojonhaaDoorTypC
import Derived.Test.YtjllbchfojonhaaDoorRefTy
import Derived.Deep.CutBlock
import Derived.Deep.Cut
import Derived.Deep.CutRange
import Derived.ArgAppend
import Derived.Deep.LoopGhost
import Derived.Test.YtjllbchfojonhaaDoorLives6
import Derived.Test.YtjllbchfojonhaaDoorFew
import Derived.Test.YtjllbchfojonhaaDoorSlotL
namespace Go.Proofs.YtjllbchfojonhaaDoor
open Go.RowKit Go.Shelf Go.Lib
set_option linter.unusedVariables false
set_option linter.unusedSimpArgs false

theorem inst_inn {f : FuncM} {x : InstM} (h : instB f x = true) : InstIn f.nv x ∧ x.args.2.length ≤ 100 := by
 obtain ⟨h0, hl, ha, hd⟩ := inst_parts h
 refine ⟨⟨fun v hv => ?_, ?_⟩, ?_⟩
 ·have := ha v hv
  unfold inB at this
  simpa using this
 ·cases hm : mk1 x.op with
  | true =>
   have := hd hm
   unfold inB at this
   simp at this
   exact this.2
  | false =>
   unfold instB at h
   simp only [Bool.and_eq_true, hm] at h
   have h2 := h.1.2
   simp at h2
   rw [h2]; omega
 ·rw [hl]
  have := (takes_small x.op.toNat (by omega)).1
  exact this
theorem live_p {f : FuncM} (hS : shapedB f = true) (hfew : FewP f) : LiveP f := by
 have hb := shaped_blocks hS
 have hnb : 1 ≤ f.nb := by
  unfold shapedB namesB at hS
  simp only [Bool.and_eq_true, decide_eq_true_eq] at hS
  omega
 refine ⟨by have := hfew.nv; omega, by omega, by have := hfew.nb; omega, fun b hlt => ?_⟩
 have hm : f.blocks.2[b]! ∈ f.blocks.2 := bang_mem hlt
 obtain ⟨h1, h2, h3⟩ := hb _ hm
 have hf := hfew.block _ hm
 generalize f.blocks.2[b]! = y at *
 refine ⟨⟨fun x hx => (inst_inn (h2 x hx)).1, fun hk => ?_⟩, fun x hx => by have := (inst_inn (h2 x hx)).2; omega, by omega, fun z hz => ?_⟩
 ·have := term_var h3 hk
  unfold inB at this
  simpa using this
 ·unfold termB at h3
  unfold endsM at hz
  by_cases h0 : y.kind = 0
  ·rw [if_pos h0] at h3 hz
   simp only [Bool.and_eq_true] at h3
   have := h3.1.1
   unfold inB at this
   simp at this hz
   rw [hz]; omega
  ·rw [if_neg h0] at h3 hz
   by_cases h1 : y.kind = 1
   ·rw [if_pos h1] at h3 hz
    simp only [Bool.and_eq_true] at h3
    have ha := h3.1.2
    have hc := h3.2
    unfold inB at ha hc
    simp at ha hc
    split at hz
    ·simp at hz; rw [hz]; omega
    ·simp at hz
     rcases hz with rfl | rfl <;> omega
   ·rw [if_neg h1] at hz; cases hz
theorem list_filter {ws : List Nat} {n : Nat} {P : Nat → Bool} (hn : n ≤ 64 * ws.length) (h1 : ∀ v, v < n → bitB ws v = P v) (h2 : ∀ v, n ≤ v → bitB ws v = false) : listB ws = (List.range n).filter P := by
 unfold listB
 obtain ⟨d, hd⟩ := Nat.le.dest hn
 rw [← hd, List.range_add, List.filter_append]
 have e1 : (List.range n).filter (bitB ws) = (List.range n).filter P := List.filter_congr (fun v hv => h1 v (List.mem_range.1 hv))
 have e2 : ((List.range d).map (n + ·)).filter (bitB ws) = [] := by
  rw [List.filter_eq_nil_iff]
  intro v hv
  obtain ⟨k, _, rfl⟩ := List.mem_map.1 hv
  rw [h2 _ (Nat.le_add_right _ _)]; exact Bool.false_ne_true
 rw [e1, e2, List.append_nil]
/-- what is live at a place, behind a block: rising -/
noncomputable def liveL (f : FuncM) (b p : Nat) : List Int := natI ((List.range f.nv).filter fun v => liveB f.blk v b p)
section
variable {f : FuncM} {I O : List (List Nat)}
theorem bit_no (hp : LiveP f) {b : Nat} (hb : b < f.nb) {ws : List Nat} (hl : ws.length = (f.nv + 63) / 64) (place v : Nat) (hv : f.nv ≤ v) (hw : bitB ws v = false) : bitB (backW (f.blk b) ws place) v = false := by
 cases h : bitB (backW (f.blk b) ws place) v with
 | false => rfl
 | true =>
  exfalso
  rw [back_live (hp.bin b hb) hl] at h
  have := thr_over (hp.bin b hb) hv place
  rcases h.2 with h2 | h2
  ·omega
  ·rw [hw] at h2; cases h2.2
theorem over_bits (hp : LiveP f) (hI : FlowInv f.blk f.nb f.nv I O) {b : Nat} (hb : b < f.nb) {v : Nat} (hv : f.nv ≤ v) : bitB O[b]! v = false := by
 cases h : bitB O[b]! v with
 | false => rfl
 | true =>
  exfalso
  obtain ⟨c, hc, hl⟩ := hI.olive b hb v h
  have : ∀ c, LiveIn (gOf f.blk v) (sOf f.blk) c → c < f.nb → False := by
   intro c hc
   induction hc with
   | @here b h =>
    intro hlt
    have := thr_over (hp.bin b hlt) hv 0
    unfold gOf at h
    omega
   | @on b c h1 h2 h3 ih => intro hlt; exact ih (hp.succ b hlt c h2)
  exact this c hl (hp.succ b hb c hc)
theorem back_list (hp : LiveP f) (hI : FlowInv f.blk f.nb f.nv I O) (hF : FlowFix f.blk f.nb I O 0) {b : Nat} (hb : b < f.nb) (place : Nat) : natI (listB (backW (f.blk b) O[b]! place)) = liveL f b place := by
 unfold liveL
 congr 1
 have hl := (hI.ow b hb).1
 refine list_filter (by rw [backW_len, hl]; omega) (fun v hv => ?_) (fun v hv => bit_no hp hb hl place v hv (over_bits hp hI hb hv))
 rw [Bool.eq_iff_iff, back_live (hp.bin b hb) hl, liveB_iff, (flow_done hI hp.succ hp.bin hF v hv).2 b hb]
 exact ⟨fun h => h.2, fun h => ⟨by omega, h⟩⟩
end
def RowsAt (w : World) (v : Value) (qs : List IntsM) : Prop := Row w 1 v (qs.map fun q => [q.1]) ∧ ∀ q ∈ qs, IntsAt w q
theorem RowsAt.keep {w w' : World} {v : Value} {qs : List IntsM} (h : RowsAt w v qs) (k : Keeps w w' []) : RowsAt w' v qs := ⟨Row.keep h.1 k, fun q hq => Row.keep (h.2 q hq) k⟩
def RowsRet (w : World) (ls : List (List Int)) (e : Ending) (w' : World) : Prop := ∃ v qs, e = .returned v ∧ RowsAt w' v qs ∧ qs.map Prod.snd = ls ∧ Keeps w w' []
theorem info23 : (Tryd.prog.info? 23).map (fun i => (i.zero, i.size, i.bytes)) = some (some (.slice none 0 0), 1, 24) := by kernel_rfl
def setL (s : SetM) : List Int := natI (listB s.ws)
def OwnQ (w : World) (base : Nat) (q : IntsM) : Prop := w.ownsRow base 3 1 q.1 q.2.length (q.2.map (Value.int .i64))
theorem OwnQ.append {W W3 : World} {base base2 : Nat} {v x : Value} {xs : List Value} {n : Nat} {q : IntsM} (h : OwnQ W base q) (hr : W.ownsRow base2 23 1 v n xs) (hg : (W.alloc (.cells #[x] 23)).grownBy W3 v.ownBlock) : OwnQ W3 base q := by
 refine World.ownsRow.kept (own_keep h ((Keeps.refl W []).alloc _) (by simp)) hg ?_
 cases e : q.1.ownBlock with
 | none => exact .inl rfl
 | some k => exact .inr (fun e2 => own_apart h hr (by decide) e e2.symm)

set_option maxRecDepth 100000 in
set_option maxHeartbeats 200000000 in
theorem lists_any (v : Value) (A : List SetM) (base m : Nat) (w : World) (ht : TabsL w) (hr : w.ownsRow base 97 1 v A.length (A.map (SetM.val m))) (hb : ∀ s ∈ A, SetOK w base m s ∧ WordsOK s.ws) (hm : m ≤ 1000) (hn : A.length ≤ 64) :
  Calls Tryd.prog 55 #[v] w fun e w' => RowsRet w (A.map setL) e w' := by
 obtain ⟨i23, hi23, he23⟩ := Option.map_eq_some_iff.1 info23
 simp only [Prod.mk.injEq] at he23
 obtain ⟨hz23, hs23, hb23⟩ := he23
 obtain ⟨va, vc, rfl, hvc1, hvc2⟩ := own_form hr
 have HT := kept ht
 have HR := kept hr
 have HB := kept hb
 have HTK := kept (show (A.take A.length).map setL = A.map setL by rw [List.take_length])
 clear ht hr hb
 generalize hN : A.length = n at *
 have HN := kept hN
 clear hN
 generalize A.map setL = FIN at *
 go_enter Tryd.func55, Tryd.ntmps55
 go_wp2
 go_loopw [3, 8] (fun o i wr => ∃ (k : Nat) (qs : List IntsM), k ≤ n ∧ i = .int .i64 k ∧ wr.ownsRow w.heap.size 23 1 o k (qs.map Prod.fst) ∧ (∀ q ∈ qs, OwnQ wr w.heap.size q) ∧ Hid (qs.map Prod.snd = (A.take k).map setL) ∧ Keeps w wr []) (fun _ i _ => n - (intOf i).toNat)
 case atStart => exact ⟨0, [], Nat.zero_le _, rfl, World.ownsRow_nil _ _ _ _, by simp, (show Hid _ from by show _ = _; simp), Keeps.refl _ _⟩
 case round =>
  obtain ⟨k, qs, hk, rfl, hO, hQ, HQS, hK⟩ := hrel
  have HO := kept hO
  have HQ := kept hQ
  have HK := kept hK
  obtain ⟨oa, oc, rfl, hoc1, hoc2⟩ := own_form hO
  clear hO hQ hK
  by_cases hlt : k < n
  ·have hltz : (k : Int) < (n : Int) := by omega
   have hr2 := own_keep HR.out HK.out (by simp)
   obtain ⟨G, c1, e1, hG, -, -⟩ := own_some hr2 (by omega)
   obtain ⟨rfl, rfl⟩ : va = some ⟨G, 0, none⟩ ∧ vc = c1 := by simpa using e1
   clear e1
   have c0 := hr2.cellAt k (by omega)
   have hkA : k < A.length := by rw [HN.out]; exact hlt
   rw [List.getElem?_map, List.getElem?_eq_getElem hkA, ← getElem!_pos A k hkA] at c0
   simp only [Option.map_some, SetM.val] at c0
   have hsk := HB.out _ (bang_mem hkA)
   have HTS := kept (show (A.take (k + 1)).map setL = (A.take k).map setL ++ [setL A[k]!] by rw [List.take_succ_eq_append_getElem hkA, List.map_append, getElem!_pos A k hkA]; rfl)
   clear hr2 hkA
   generalize A[k]! = s at *
   have CL := kept (list_any s.tl s.ws s.g s.cap wr (HT.out.keep HK.out) (hsk.1.2.1.keep HK.out (by simp)) hsk.2 (by rw [hsk.1.2.2]; exact hm))
   rw [hsk.1.2.2] at CL
   have HSL := kept (show natI (listB s.ws) = setL s from rfl)
   rw [HSL.out] at CL
   clear hsk
   have hsz1 := HK.out.size
   have hkm : k + 1 ≤ maxLen := by unfold maxLen; omega
   go_wp2_with (first | (at_builtin; go_must (refine wpList_append_own _ rfl (.tmp 12) (.tmp 15) 72 rfl w.heap.size 23 i23 (.slice none 0 0) 1 24 Tryd.underlying72 hi23 hz23 hs23 hb23 rfl (by decide) _ _ _ rfl (HO.out.alloc _) ⟨w5.heap.size, 0, none⟩ 1 1 [.slice xa (setL s).length xc] rfl rfl (news_one _ _ _) (ones_one rfl) hkm (by omega) (by simp; omega) ?_); go_must (intro v' w3 hown' hgrow3 _; have HQ3 := kept (fun q hq => OwnQ.append (HQ.out q hq) HO.out hgrow3); have HV3 := kept (OwnQ.append HV5.out HO.out hgrow3); have HK3 := kept (keeps_append hgrow3 HO.out HK.out (Nat.le_refl _)); have HO3 := kept hown'; clear hgrow3 hown' HO HQ HK HV5)) | (go_at_call 49; go_must (refine (CL.out).mono ?_; rintro e w5 ⟨⟨v5, rfl, hv5⟩, k3⟩; obtain ⟨xa, xc, rfl, -, -⟩ := own_form hv5; have HV5 : Hid (OwnQ w5 w.heap.size (.slice xa (setL s).length xc, setL s)) := own_base_ hv5 hsz1; have HOx := kept (own_keep HO.out k3 (by simp)); have HQx := kept (fun q hq => (own_keep (HQ.out q hq) k3 (by simp) : OwnQ w5 w.heap.size q)); have HKx := kept (HK.out.and_then k3); have hsz2 := k3.size; clear HO HQ HK hv5 k3 CL c0; have HO := HOx; have HQ := HQx; have HK := HKx; clear HOx HQx HKx)))
   go_roundw
   case rel =>
    refine ⟨k + 1, qs ++ [(.slice xa (setL s).length xc, setL s)], by omega, by go_num, ?_, fun q hq => ?_, (show Hid _ from ?_), HK3.out⟩
    ·rw [List.map_append]; exact HO3.out
    ·rcases List.mem_append.1 hq with h1 | h1
     ·exact HQ3.out q h1
     ·rw [List.mem_singleton.1 h1]; exact HV3.out
    ·rw [List.map_append, HQS.out]; exact HTS.out.symm
   case measure => simp [intOf] <;> omega
  ·have hltz : ¬ (k : Int) < (n : Int) := by omega
   obtain rfl : n = k := by omega
   go_wp2
   go_ret
   refine ⟨.slice oa n oc, qs, rfl, ⟨?_, fun q hq => ints_row (HQ.out q hq)⟩, HQS.out.trans HTK.out, HK.out⟩
   have h9 := row_of_own HO.out
   rw [List.map_map] at h9
   exact h9
end Go.Proofs.YtjllbchfojonhaaDoor
namespace Go.Proofs.YtjllbchfojonhaaDoor
open Go.RowKit Go.Shelf Go.Lib
set_option linter.unusedVariables false
set_option linter.unusedSimpArgs false

def IntsRet (w : World) (l : List Int) (e : Ending) (w' : World) : Prop := (∃ q : IntsM, e = .returned q.1 ∧ q.2 = l ∧ IntsAt w' q) ∧ Keeps w w' []
theorem ints_nil (w : World) : IntsAt w (.slice none 0 0, []) := ⟨none, 0, rfl, Nat.le_refl _, Nat.zero_le _, .inl rfl⟩
def PlaceOK (f : FuncM) (b p : Int) : Prop := 0 ≤ b ∧ b < (f.nb : Int) ∧ 0 ≤ p ∧ p ≤ (f.blocks.2[b.toNat]!.insts.2.length : Int)
instance (f : FuncM) (b p : Int) : Decidable (PlaceOK f b p) := by unfold PlaceOK; infer_instance
noncomputable def atL (f : FuncM) (b p : Int) : List Int := if (shapedB f && slotB f) = true ∧ PlaceOK f b p then liveL f b.toNat p.toNat else []
theorem atL_no {f : FuncM} {b p : Int} (h : ¬ ((shapedB f && slotB f) = true ∧ PlaceOK f b p)) : atL f b p = [] := by unfold atL; rw [if_neg h]

set_option maxRecDepth 100000 in
set_option maxHeartbeats 200000000 in
theorem at22_any (f : FuncM) (b p : Int) (w : World) (ht : TabsL w) (hf : FuncAt w f) (hfew : FewP f) : Calls Tryd.prog 22 #[f.val, .int .i64 b, .int .i64 p] w fun e w' => IntsRet w (atL f b p) e w' := by
 obtain ⟨a0, c0, e0, -, -, hc0⟩ := hf.vars.open_
 obtain ⟨a1, c1, e1, -, -, hc1⟩ := (show Row w 1 f.params.1 (f.params.2.map intCells) from hf.params).open_
 obtain ⟨a2, c2, e2, -, -, hc2⟩ := hf.blocks.open_
 have hval : f.val = .agg #[.slice a0 f.nv c0, .slice a1 f.np c1, .slice a2 f.nb c2] := by unfold FuncM.val FuncM.nv FuncM.np FuncM.nb; rw [e0, e1, e2]
 have h1 : #[f.vars.1, f.params.1, f.blocks.1] = #[.slice a0 f.nv c0, .slice a1 f.np c1, .slice a2 f.nb c2] := by unfold FuncM.nv FuncM.np FuncM.nb; rw [e0, e1, e2]
 have HF := kept hf
 have HC0 := kept hc0
 have HC1 := kept hc1
 have HC2 := kept hc2
 have HNV := kept (show f.vars.2.length = f.nv from rfl)
 have HNP := kept (show f.params.2.length = f.np from rfl)
 have HNB := kept (show f.blocks.2.length = f.nb from rfl)
 have HTL := kept ht
 have HTT := kept ht.tabs
 have CS := kept (fun W h1 h2 => slotF_any f W h1 h2 hfew)
 have CF := kept (fun (hS : shapedB f = true) W (h : FuncAt W f) => flow_any f W h (live_p hS hfew))
 have HSE := kept (show slotE f = if (shapedB f && slotB f) = true then 0 else 3 from rfl)
 have HLP := kept (fun hS : shapedB f = true => live_p hS hfew)
 rw [hval] at CS CF ⊢
 clear e0 e1 e2 hval h1 hf hc0 hc1 hc2 HC0 HC1 ht
 have hnbF := hfew.nb
 have hnvF := hfew.nv
 have HFB := kept hfew.block
 have HNO := kept (fun h => atL_no (f := f) (b := b) (p := p) h)
 have HAT := kept (show atL f b p = if (shapedB f && slotB f) = true ∧ PlaceOK f b p then liveL f b.toNat p.toNat else [] from rfl)
 generalize atL f b p = R at *
 have HPD := kept (show PlaceOK f b p ↔ (0 ≤ b ∧ b < (f.nb : Int) ∧ 0 ≤ p ∧ p ≤ (f.blocks.2[b.toNat]!.insts.2.length : Int)) from Iff.rfl)
 have hk0 : Keeps w (w.alloc (.cells #[.slice a0 f.nv c0, .slice a1 f.np c1, .slice a2 f.nb c2] 26)) [] := (Keeps.refl _ []).alloc _
 have bb0 := Blk.new w 26 #[.slice a0 f.nv c0, .slice a1 f.np c1, .slice a2 f.nb c2]
 have Bl := kept bb0
 have HK := kept hk0
 obtain ⟨l0, l1, l2⟩ := Bl.out.c3
 simp at l0 l1 l2
 clear hk0 bb0
 go_enter Tryd.func22, Tryd.ntmps22
 cases hSB : (shapedB f && slotB f) with
 | false =>
  have HSB := kept hSB
  rw [hSB] at HSE
  obtain hse : slotE f = 3 := by have := HSE.out; simpa using this
  rw [hse] at CS
  clear hse hSB HSE
  go_wp2_with (first | (go_at_call 15; refine (CS.out _ (HTT.out.keep HK.out) (HF.out.keep HK.out)).mono ?_; rintro e w3 ⟨rfl, k3⟩; clear l0 l1 l2; replace Bl := kept (Bl.out.keep k3 (by simp)); replace HK := kept (HK.out.and_then k3); obtain ⟨l0, l1, l2⟩ := Bl.out.c3; simp at l0 l1 l2; clear k3) | fail)
  go_ret
  exact ⟨⟨(.slice none 0 0, []), rfl, (HNO.out (fun h => by rw [HSB.out] at h; cases h.1)).symm, ints_nil _⟩, HK.out⟩
 | true =>
  have HSB := kept hSB
  rw [hSB] at HSE
  obtain hse : slotE f = 0 := by have := HSE.out; simpa using this
  rw [hse] at CS
  clear hse hSB HSE
  have HSH : Hid (shapedB f = true) := by have := HSB.out; rw [Bool.and_eq_true] at this; exact this.1
  by_cases hb0 : b < 0
  ·go_wp2_with (first | (go_at_call 15; refine (CS.out _ (HTT.out.keep HK.out) (HF.out.keep HK.out)).mono ?_; rintro e w3 ⟨rfl, k3⟩; clear l0 l1 l2; replace Bl := kept (Bl.out.keep k3 (by simp)); replace HK := kept (HK.out.and_then k3); obtain ⟨l0, l1, l2⟩ := Bl.out.c3; simp at l0 l1 l2; clear k3) | fail)
   go_ret
   exact ⟨⟨(.slice none 0 0, []), rfl, (HNO.out (fun h => by have := (HPD.out.1 h.2).1; omega)).symm, ints_nil _⟩, HK.out⟩
  by_cases hbn : (f.nb : Int) ≤ b
  ·go_wp2_with (first | (go_at_call 15; refine (CS.out _ (HTT.out.keep HK.out) (HF.out.keep HK.out)).mono ?_; rintro e w3 ⟨rfl, k3⟩; clear l0 l1 l2; replace Bl := kept (Bl.out.keep k3 (by simp)); replace HK := kept (HK.out.and_then k3); obtain ⟨l0, l1, l2⟩ := Bl.out.c3; simp at l0 l1 l2; clear k3) | fail)
   go_ret
   exact ⟨⟨(.slice none 0 0, []), rfl, (HNO.out (fun h => by have := (HPD.out.1 h.2).2.1; omega)).symm, ints_nil _⟩, HK.out⟩
  by_cases hp0 : p < 0
  ·go_wp2_with (first | (go_at_call 15; refine (CS.out _ (HTT.out.keep HK.out) (HF.out.keep HK.out)).mono ?_; rintro e w3 ⟨rfl, k3⟩; clear l0 l1 l2; replace Bl := kept (Bl.out.keep k3 (by simp)); replace HK := kept (HK.out.and_then k3); obtain ⟨l0, l1, l2⟩ := Bl.out.c3; simp at l0 l1 l2; clear k3) | fail)
   go_ret
   exact ⟨⟨(.slice none 0 0, []), rfl, (HNO.out (fun h => by have := (HPD.out.1 h.2).2.2.1; omega)).symm, ints_nil _⟩, HK.out⟩
  obtain ⟨bn, rfl⟩ : ∃ bn : Nat, b = bn := ⟨b.toNat, by omega⟩
  obtain ⟨pl, rfl⟩ : ∃ pl : Nat, p = pl := ⟨p.toNat, by omega⟩
  rw [Int.toNat_natCast] at HPD HAT
  have hbl : bn < f.nb := by omega
  obtain ⟨bb, off, e2, hbl2, hcell⟩ := HC2.out bn (by rw [HNB.out]; exact hbl)
  subst e2
  have HCL := kept hcell
  have hyb := HF.out.block _ (bang_mem (l := f.blocks.2) (k := bn) (by first | exact hbl | (rw [HNB.out]; exact hbl)))
  obtain ⟨pa, pc, pe, -, -, -⟩ := hyb.phis.open_
  obtain ⟨qa, qc, qe, -, -, -⟩ := hyb.insts.open_
  have HIL := kept ((HFB.out _ (bang_mem (l := f.blocks.2) (k := bn) (by first | exact hbl | (rw [HNB.out]; exact hbl)))).2)
  have HYB := kept hyb
  have HBK := kept (show f.blk bn = f.blocks.2[bn]! from rfl)
  generalize f.blocks.2[bn]! = y at *
  have HCLc := kept (show y.cells = [.string y.name, .slice pa y.phis.2.length pc, .slice qa y.insts.2.length qc, .int .i64 y.kind, .int .i64 y.var, .int .i64 y.to0, .int .i64 y.to1] by unfold BlockM.cells; rw [pe, qe])
  clear hyb pe qe hcell
  generalize hqn : y.insts.2.length = qn at *
  have HQN := kept hqn
  clear hqn
  generalize y.name = yn at *
  generalize y.kind = yk at *
  generalize y.var = yv at *
  generalize y.to0 = y0 at *
  generalize y.to1 = y1 at *
  generalize y.phis.2.length = pn at *
  have HCM : Hid (∀ (i : Nat) (x : Value), [.string yn, .slice pa pn pc, .slice qa qn qc, .int .i64 yk, .int .i64 yv, .int .i64 y0, .int .i64 y1][i]? = some x → w.cell? ⟨bb, off + bn * 7 + i, none⟩ = some x) := fun i x hx => HCL.out i x (by rw [HCLc.out]; exact hx)
  clear HCL
  have n0 := HK.out.cellOf (HCM.out 0 _ rfl)
  have n1 := HK.out.cellOf (HCM.out 1 _ rfl)
  have n2 := HK.out.cellOf (HCM.out 2 _ rfl)
  have n3 := HK.out.cellOf (HCM.out 3 _ rfl)
  have n4 := HK.out.cellOf (HCM.out 4 _ rfl)
  have n5 := HK.out.cellOf (HCM.out 5 _ rfl)
  have n6 := HK.out.cellOf (HCM.out 6 _ rfl)
  simp only [Nat.add_zero] at n0
  by_cases hpq : (qn : Int) < (pl : Int)
  ·go_wp2_with (first | (go_at_call 15; refine (CS.out _ (HTT.out.keep HK.out) (HF.out.keep HK.out)).mono ?_; rintro e w3 ⟨rfl, k3⟩; have HNX := kept k3; clear n0 n1 n2 n3 n4 n5 n6; clear l0 l1 l2; replace Bl := kept (Bl.out.keep k3 (by simp)); replace HK := kept (HK.out.and_then k3); obtain ⟨l0, l1, l2⟩ := Bl.out.c3; simp at l0 l1 l2; clear k3; have n0 := HK.out.cellOf (HCM.out 0 _ rfl); have n1 := HK.out.cellOf (HCM.out 1 _ rfl); have n2 := HK.out.cellOf (HCM.out 2 _ rfl); have n3 := HK.out.cellOf (HCM.out 3 _ rfl); have n4 := HK.out.cellOf (HCM.out 4 _ rfl); have n5 := HK.out.cellOf (HCM.out 5 _ rfl); have n6 := HK.out.cellOf (HCM.out 6 _ rfl); simp only [Nat.add_zero] at n0; clear HNX) | fail)
   go_ret
   exact ⟨⟨(.slice none 0 0, []), rfl, (HNO.out (fun h => by have := (HPD.out.1 h.2).2.2.2; omega)).symm, ints_nil _⟩, HK.out⟩
  have hplq : pl ≤ qn := by omega
  have HRR : Hid (R = liveL f bn pl) := by show R = _; rw [HAT.out, if_pos ⟨HSB.out, HPD.out.2 ⟨by omega, by omega, by omega, by omega⟩⟩]; rfl
  clear HAT HNO HPD
  go_upto_region 4 with (first | (go_at_call 15; refine (CS.out _ (HTT.out.keep HK.out) (HF.out.keep HK.out)).mono ?_; rintro e w3 ⟨rfl, k3⟩; have HNX := kept k3; clear n0 n1 n2 n3 n4 n5 n6; clear l0 l1 l2; replace Bl := kept (Bl.out.keep k3 (by simp)); replace HK := kept (HK.out.and_then k3); obtain ⟨l0, l1, l2⟩ := Bl.out.c3; simp at l0 l1 l2; clear k3; have n0 := HK.out.cellOf (HCM.out 0 _ rfl); have n1 := HK.out.cellOf (HCM.out 1 _ rfl); have n2 := HK.out.cellOf (HCM.out 2 _ rfl); have n3 := HK.out.cellOf (HCM.out 3 _ rfl); have n4 := HK.out.cellOf (HCM.out 4 _ rfl); have n5 := HK.out.cellOf (HCM.out 5 _ rfl); have n6 := HK.out.cellOf (HCM.out 6 _ rfl); simp only [Nat.add_zero] at n0; clear HNX) | (go_at_call 47; go_must (refine (CF.out HSH.out _ (HF.out.keep HK.out)).mono ?_; rintro e w4 ⟨v1, v2, A, B, base, rfl, hbs, hS, hI, hX, k3⟩; have HS := kept hS; have HI := kept hI; have HX := kept hX; clear hS hI hX; obtain ⟨G2, d2, ev2, -, -, -⟩ := own_some HS.out.r2 (by have := HI.out.ol; rw [wsOf_len] at this; omega); subst ev2; clear n0 n1 n2 n3 n4 n5 n6; clear l0 l1 l2; replace Bl := kept (Bl.out.keep k3 (by simp)); replace HK := kept (HK.out.and_then k3); obtain ⟨l0, l1, l2⟩ := Bl.out.c3; simp at l0 l1 l2; clear k3; have n0 := HK.out.cellOf (HCM.out 0 _ rfl); have n1 := HK.out.cellOf (HCM.out 1 _ rfl); have n2 := HK.out.cellOf (HCM.out 2 _ rfl); have n3 := HK.out.cellOf (HCM.out 3 _ rfl); have n4 := HK.out.cellOf (HCM.out 4 _ rfl); have n5 := HK.out.cellOf (HCM.out 5 _ rfl); have n6 := HK.out.cellOf (HCM.out 6 _ rfl); simp only [Nat.add_zero] at n0)) | fail)
  have HBLn : Hid (B.length = f.nb) := by have h := HI.out.ol; rw [wsOf_len] at h; exact h
  obtain ⟨wf, hwf⟩ : ∃ wf : World, wf = w4 := ⟨_, rfl⟩
  subst hwf
  have HWB := kept (wsOf_at (l := B) (i := bn) (by rw [HBLn.out]; exact hbl))
  have HOK := kept (HI.out.ow bn hbl).2
  have HLL := kept (back_list (HLP.out HSH.out) HI.out HX.out hbl pl)
  rw [HWB.out] at HOK HLL
  rw [HBK.out] at HLL
  have HBIn : Hid (BlockIn f.nv y ∧ (∀ x ∈ y.insts.2, x.args.2.length ≤ 1000) ∧ y.insts.2.length ≤ 1000 ∧ ∀ z ∈ endsM y, 0 ≤ z ∧ z < (f.nb : Int)) := by have h := (HLP.out HSH.out).blk bn hbl; have e9 : f.blocks.2[bn]! = y := HBK.out; rw [e9] at h; exact h
  have hbB : (bn : Int) < (B.length : Int) := by have := HBLn.out; omega
  have r2 := HS.out.cell2 rfl rfl (show bn < B.length by have := HBLn.out; omega)
  have HBB := kept (HS.out.b2 _ (bang_mem (l := B) (k := bn) (by rw [HBLn.out]; exact hbl)))
  generalize B[bn]! = Bk at *
  simp only [SetM.val] at r2
  have hm1000 : (f.nv + 63) / 64 ≤ 1000 := by omega
  generalize hmm : (f.nv + 63) / 64 = m at *
  have HMM := kept hmm
  clear hmm
  have CB := kept (fun W (k : Keeps wf W []) => back_any y Bk.tl Bk.ws Bk.g Bk.cap f.nv pl W (HYB.out.keep (HK.out.and_then k)) (HBB.out.2.1.keep k (by simp)) HOK.out (by rw [HBB.out.2.2]; exact HMM.out.symm) (by omega) HBIn.out.1 HBIn.out.2.1 (by rw [HQN.out]; exact hplq) HBIn.out.2.2.1)
  simp only [HCLc.out, HBB.out.2.2] at CB
  refine wp_region_held_drew (S := (fun w' => w'.cell? ⟨w.heap.size, 2, none⟩ = some (.slice (some ⟨bb, off, none⟩) f.nb c2) ∧ w'.cell? ⟨bb, off + bn * 7, none⟩ = some (.string yn) ∧ w'.cell? ⟨bb, off + bn * 7 + 1, none⟩ = some (.slice pa pn pc) ∧ w'.cell? ⟨bb, off + bn * 7 + 2, none⟩ = some (.slice qa qn qc) ∧ w'.cell? ⟨bb, off + bn * 7 + 3, none⟩ = some (.int .i64 yk) ∧ w'.cell? ⟨bb, off + bn * 7 + 4, none⟩ = some (.int .i64 yv) ∧ w'.cell? ⟨bb, off + bn * 7 + 5, none⟩ = some (.int .i64 y0) ∧ w'.cell? ⟨bb, off + bn * 7 + 6, none⟩ = some (.int .i64 y1) ∧ w'.cell? ⟨G2, bn, none⟩ = some (.slice (some ⟨Bk.g, 0, none⟩) m Bk.cap))) (by kernel_rfl) ?bhSs (fun hHeld => ?_)
  case bhSs => exact ⟨l2, n0, n1, n2, n3, n4, n5, n6, r2⟩
  clear l0 l1
  have hkd : Keeps wf (World.drew wf) [] := (Keeps.refl wf []).drew
  have l2x := hkd.cellOf l2
  have r2x := hkd.cellOf r2
  have n0x := hkd.cellOf n0
  have n1x := hkd.cellOf n1
  have n2x := hkd.cellOf n2
  have n3x := hkd.cellOf n3
  have n4x := hkd.cellOf n4
  have n5x := hkd.cellOf n5
  have n6x := hkd.cellOf n6
  clear l2 r2 n0 n1 n2 n3 n4 n5 n6
  have l2 := l2x
  have r2 := r2x
  have n0 := n0x
  have n1 := n1x
  have n2 := n2x
  have n3 := n3x
  have n4 := n4x
  have n5 := n5x
  have n6 := n6x
  clear l2x r2x n0x n1x n2x n3x n4x n5x n6x
  have KD := kept hkd
  clear hkd
  have CBz := kept (CB.out _ KD.out)
  have HKd := kept (HK.out.and_then KD.out)
  generalize World.drew wf = X1 at *
  refine tl 0 ⟨some 43, .fieldAddr 26 (.tmp 3) 2, 0, "live.go:114", #[], none⟩ rfl hHeld ?_
  refine tl 1 ⟨some 44, .load 24 (.tmp 43), 24, "live.go:114", #[⟨0, .data⟩], none⟩ rfl hHeld ?_
  refine tl 2 ⟨some 45, .move (.tmp 1), 3, "live.go:114", #[], none⟩ rfl hHeld ?_
  refine tl 3 ⟨some 46, .indexAddr 24 (.tmp 44) (.tmp 45), 0, "live.go:114", #[⟨1, .data⟩, ⟨2, .data⟩], none⟩ rfl hHeld ?_
  refine tl 4 ⟨some 47, .load 39 (.tmp 46), 39, "live.go:114", #[⟨3, .data⟩], none⟩ rfl hHeld ?_
  refine tl 5 ⟨some 48, .move (.tmp 8), 93, "live.go:114", #[], none⟩ rfl hHeld ?_
  refine tl 6 ⟨some 49, .move (.tmp 1), 3, "live.go:114", #[], none⟩ rfl hHeld ?_
  refine tl 7 ⟨some 50, .indexAddr 93 (.tmp 48) (.tmp 49), 0, "live.go:114", #[⟨5, .data⟩, ⟨6, .data⟩], none⟩ rfl hHeld ?_
  refine tl 8 ⟨some 51, .load 97 (.tmp 50), 97, "live.go:114", #[⟨7, .data⟩], none⟩ rfl hHeld ?_
  refine tl 9 ⟨some 52, .move (.tmp 2), 3, "live.go:114", #[], none⟩ rfl hHeld ?_
  refine wpAnyH_ready (rs := [10]) (by kernel_rfl) (by simp) ?_
  refine AllReadyH.cons (o := ⟨some 53, .call ⟨.value (.func 48), #[.tmp 47, .tmp 51, .tmp 52], #[39, 97, 3]⟩, 97, "live.go:114", #[⟨4, .data⟩, ⟨8, .data⟩, ⟨9, .data⟩], none⟩) rfl (fun K hK => ?_) AllReadyH.nil
  go_simp
  (with_reducible refine (CBz.out).mono ?_)
  rintro e wx ⟨gn, cn, tn, rfl, hgn, hBn, k3⟩
  show K _ _
  clear hHeld
  have CL := kept (list_any tn (backW y Bk.ws pl) gn cn wx (HTL.out.keep (HKd.out.and_then k3)) hBn (backW_ok y HOK.out pl) (by rw [backW_len, HBB.out.2.2]; omega))
  rw [HLL.out, show (backW y Bk.ws pl).length = m from (backW_len y Bk.ws pl).trans HBB.out.2.2] at CL
  rw [show (backW y Bk.ws pl).length = m from (backW_len y Bk.ws pl).trans HBB.out.2.2]
  have l2x := k3.cellOf l2
  have r2x := k3.cellOf r2
  have n0x := k3.cellOf n0
  have n1x := k3.cellOf n1
  have n2x := k3.cellOf n2
  have n3x := k3.cellOf n3
  have n4x := k3.cellOf n4
  have n5x := k3.cellOf n5
  have n6x := k3.cellOf n6
  clear l2 r2 n0 n1 n2 n3 n4 n5 n6
  have l2 := l2x
  have r2 := r2x
  have n0 := n0x
  have n1 := n1x
  have n2 := n2x
  have n3 := n3x
  have n4 := n4x
  have n5 := n5x
  have n6 := n6x
  clear l2x r2x n0x n1x n2x n3x n4x n5x n6x
  have HKe := kept (HKd.out.and_then k3)
  clear hBn k3 hgn
  obtain ⟨wq, hwq⟩ : ∃ wq : World, wq = wx := ⟨_, rfl⟩
  subst hwq
  refine hK.out _ _ ?bhS10 (fun hHeld => ?_)
  case bhS10 => exact ⟨l2, n0, n1, n2, n3, n4, n5, n6, r2⟩
  clear hK K
  try simp only [Act.put, sA, sB, sC]
  refine wpAnyH_ready (rs := [11]) (by kernel_rfl) (by simp) ?_
  refine AllReadyH.cons (o := ⟨some 54, .call ⟨.value (.func 49), #[.tmp 53], #[97]⟩, 23, "live.go:114", #[⟨10, .data⟩, ⟨10, .chain⟩], none⟩) rfl (fun K hK => ?_) AllReadyH.nil
  go_simp
  (with_reducible refine (CL.out).mono ?_)
  rintro e wx ⟨⟨vl, rfl, hvl⟩, k3⟩
  show K _ _
  clear hHeld
  have HQR := kept (ints_row hvl)
  have l2x := k3.cellOf l2
  have r2x := k3.cellOf r2
  have n0x := k3.cellOf n0
  have n1x := k3.cellOf n1
  have n2x := k3.cellOf n2
  have n3x := k3.cellOf n3
  have n4x := k3.cellOf n4
  have n5x := k3.cellOf n5
  have n6x := k3.cellOf n6
  clear l2 r2 n0 n1 n2 n3 n4 n5 n6
  have l2 := l2x
  have r2 := r2x
  have n0 := n0x
  have n1 := n1x
  have n2 := n2x
  have n3 := n3x
  have n4 := n4x
  have n5 := n5x
  have n6 := n6x
  clear l2x r2x n0x n1x n2x n3x n4x n5x n6x
  have HKg := kept (HKe.out.and_then k3)
  clear hvl k3
  refine hK.out _ _ ?bhS11 (fun hHeld => ?_)
  case bhS11 => exact ⟨l2, n0, n1, n2, n3, n4, n5, n6, r2⟩
  clear hK K
  try simp only [Act.put, sA, sB, sC]
  refine tl 12 ⟨some 6, .assign (.tmp 54), 23, "live.go:114", #[⟨11, .data⟩, ⟨11, .chain⟩, ⟨0, .phase⟩, ⟨1, .phase⟩, ⟨2, .phase⟩, ⟨3, .phase⟩, ⟨4, .phase⟩, ⟨5, .phase⟩, ⟨6, .phase⟩, ⟨7, .phase⟩, ⟨8, .phase⟩, ⟨9, .phase⟩, ⟨10, .phase⟩, ⟨11, .phase⟩], none⟩ rfl hHeld ?_
  refine wpAnyH_done (by kernel_rfl) ?_ _
  clear hHeld
  go_wp2
  go_ret
  exact ⟨⟨(vl, liveL f bn pl), rfl, HRR.out.symm, HQR.out⟩, HKg.out⟩

end Go.Proofs.YtjllbchfojonhaaDoor
namespace Go.Proofs.YtjllbchfojonhaaDoor
open Go.RowKit Go.Shelf Go.Lib
set_option linter.unusedVariables false
set_option linter.unusedSimpArgs false

/-- the rest of a row of the call's own -/
structure PartAt (w : World) (base : Nat) (v : Value) (l : List Int) (g off cap : Nat) (cur : Array Value) : Prop where
 v : v = .slice (some ⟨g, off, none⟩) l.length cap
 base : base ≤ g
 blk : Blk w g 3 cur
 le : l.length ≤ cap
 fit : off + cap ≤ cur.size
 max : cap ≤ maxLen
 at_ : ∀ j, j < l.length → cur[off + j]? = some (.int .i64 l[j]!)
def Part (w : World) (base : Nat) (v : Value) (l : List Int) : Prop := ∃ g off cap cur, PartAt w base v l g off cap cur
theorem Part.keep {w w' : World} {base : Nat} {v : Value} {l : List Int} {S : List Nat} (h : Part w base v l) (k : Keeps w w' S) (hS : ∀ g ∈ S, v.ownBlock ≠ some g) : Part w' base v l := by
 obtain ⟨g, off, cap, cur, hp⟩ := h
 refine ⟨g, off, cap, cur, hp.v, hp.base, hp.blk.keep k (fun hg => hS g hg (by rw [hp.v]; rfl)), hp.le, hp.fit, hp.max, hp.at_⟩
end Go.Proofs.YtjllbchfojonhaaDoor
namespace Go.Proofs.YtjllbchfojonhaaDoor
open Go.RowKit Go.Shelf Go.Lib
set_option linter.unusedVariables false
set_option linter.unusedSimpArgs false

end Go.Proofs.YtjllbchfojonhaaDoor
namespace Go.Proofs.YtjllbchfojonhaaDoor
open Go.RowKit Go.Shelf Go.Lib
set_option linter.unusedVariables false
set_option linter.unusedSimpArgs false

def exLI (g2 : Nat) : InstM := ⟨2, 1, (.slice (some ⟨g2, 0, none⟩) 2 2, [0, 0]), 0⟩
def exLB (g3 g2 : Nat) : BlockM := ⟨⟨#[97]⟩, (.slice none 0 0, []), (.slice (some ⟨g3, 0, none⟩) 1 1, [exLI g2]), 2, 1, 0, 0⟩
def exL (g0 g1 g4 g3 g2 : Nat) : FuncM := ⟨(.slice (some ⟨g0, 0, none⟩) 2 2, [⟨⟨#[110]⟩, 0⟩, ⟨⟨#[109]⟩, 0⟩]), (.slice (some ⟨g1, 0, none⟩) 1 1, [0]), (.slice (some ⟨g4, 0, none⟩) 1 1, [exLB g3 g2])⟩
theorem exL_slot (g0 g1 g4 g3 g2 : Nat) : (shapedB (exL g0 g1 g4 g3 g2) && slotB (exL g0 g1 g4 g3 g2)) = true := by kernel_rfl
theorem exL_few (g0 g1 g4 g3 g2 : Nat) : FewP (exL g0 g1 g4 g3 g2) := ⟨by show 2 ≤ 100; omega, by show 1 ≤ 40; omega, by show 1 ≤ 20; omega, fun b hb => by
 rw [List.mem_singleton.1 hb]; exact ⟨Nat.zero_le _, by show 1 ≤ 400; omega⟩⟩
theorem row_vars2 {w : World} {g : Nat} {a b : ByteArray} (h : Blk w g 69 #[.string a, .int .i64 0, .string b, .int .i64 0]) : Row w 2 (.slice (some ⟨g, 0, none⟩) 2 2) [[.string a, .int .i64 0], [.string b, .int .i64 0]] := by
 refine ⟨_, 2, rfl, Nat.le_refl _, by simp [maxLen], .inr ⟨g, 0, rfl, h.lt, fun j e he i x hx => ?_⟩⟩
 rcases j with _ | _ | j
 ·simp only [List.getElem?_cons_zero, Option.some.injEq] at he
  subst he
  simp only [Nat.zero_mul, Nat.zero_add]
  rw [h.cell i]
  rcases i with _ | _ | i <;> simp at hx ⊢ <;> exact hx
 ·simp only [List.getElem?_cons_succ, List.getElem?_cons_zero, Option.some.injEq] at he
  subst he
  rw [h.cell]
  rcases i with _ | _ | i <;> simp at hx ⊢ <;> exact hx
 ·simp at he
theorem exL_at {w : World} {g0 g1 g4 g3 g2 : Nat} (h0 : Blk w g0 69 #[.string ⟨#[110]⟩, .int .i64 0, .string ⟨#[109]⟩, .int .i64 0]) (h1 : Blk w g1 3 #[.int .i64 0]) (h2 : Blk w g2 3 #[.int .i64 0, .int .i64 0]) (h3 : Blk w g3 42 #[.int .i64 2, .int .i64 1, .slice (some ⟨g2, 0, none⟩) 2 2, .int .i64 0])
  (h4 : Blk w g4 39 #[.string ⟨#[97]⟩, .slice none 0 0, .slice (some ⟨g3, 0, none⟩) 1 1, .int .i64 2, .int .i64 1, .int .i64 0, .int .i64 0]) : FuncAt w (exL g0 g1 g4 g3 g2) :=
 ⟨row_vars2 h0, fun v hv => by rcases List.mem_cons.1 hv with rfl | hv; · show 1 ≤ maxLen; simp [maxLen]
                               rw [List.mem_singleton.1 hv]; show 1 ≤ maxLen; simp [maxLen], row_single (cs := [.int .i64 0]) h1, row_single (cs := (exLB g3 g2).cells) h4, fun b hb => by
  rw [List.mem_singleton.1 hb]
  exact ⟨row_none, fun p hp => absurd hp List.not_mem_nil, row_single (cs := (exLI g2).cells) h3, fun p hp => by rw [List.mem_singleton.1 hp]; exact row_ints2 h2, by show 1 ≤ maxLen; simp [maxLen]⟩⟩
section
variable (g0 g1 g4 g3 g2 : Nat)
theorem exL_no (v p : Nat) (h : thr ((exL g0 g1 g4 g3 g2).blk 0) (v : Int) p ≠ 1) : liveB (exL g0 g1 g4 g3 g2).blk v 0 p = false := by
 rw [← Bool.not_eq_true, liveB_iff]
 rintro (h1 | ⟨_, c, hc, _⟩)
 ·exact h h1
 ·have : sOf (exL g0 g1 g4 g3 g2).blk 0 = [] := by kernel_rfl
  rw [this] at hc; cases hc
theorem exL_yes (v p : Nat) (h : thr ((exL g0 g1 g4 g3 g2).blk 0) (v : Int) p = 1) : liveB (exL g0 g1 g4 g3 g2).blk v 0 p = true := liveB_iff.2 (.inl h)
theorem exL_ok0 : (shapedB (exL g0 g1 g4 g3 g2) && slotB (exL g0 g1 g4 g3 g2)) = true ∧ PlaceOK (exL g0 g1 g4 g3 g2) 0 0 := ⟨exL_slot .., by decide, by show (0 : Int) < (1 : Nat); decide, by decide, by show (0 : Int) ≤ (1 : Nat); decide⟩
theorem exL_ok1 : (shapedB (exL g0 g1 g4 g3 g2) && slotB (exL g0 g1 g4 g3 g2)) = true ∧ PlaceOK (exL g0 g1 g4 g3 g2) 0 1 := ⟨exL_slot .., by decide, by show (0 : Int) < (1 : Nat); decide, by decide, by show (1 : Int) ≤ (1 : Nat); decide⟩
theorem exL_0 : atL (exL g0 g1 g4 g3 g2) 0 0 = [0] := by
 unfold atL
 rw [if_pos (exL_ok0 ..)]
 unfold liveL
 rw [show (exL g0 g1 g4 g3 g2).nv = 2 from rfl, show List.range 2 = [0, 1] from rfl]
 have h0 := exL_yes g0 g1 g4 g3 g2 0 0 (by kernel_rfl)
 have h1 := exL_no g0 g1 g4 g3 g2 1 0 (by rw [show thr ((exL g0 g1 g4 g3 g2).blk 0) ((1 : Nat) : Int) 0 = 2 by kernel_rfl]; decide)
 show natI (List.filter (fun v => liveB (exL g0 g1 g4 g3 g2).blk v 0 0) [0, 1]) = [0]
 simp only [List.filter_cons, h0, h1, List.filter_nil]
 rfl
theorem exL_1 : atL (exL g0 g1 g4 g3 g2) 0 1 = [1] := by
 unfold atL
 rw [if_pos (exL_ok1 ..)]
 unfold liveL
 rw [show (exL g0 g1 g4 g3 g2).nv = 2 from rfl, show List.range 2 = [0, 1] from rfl]
 have h0 := exL_no g0 g1 g4 g3 g2 0 1 (by rw [show thr ((exL g0 g1 g4 g3 g2).blk 0) ((0 : Nat) : Int) 1 = 0 by kernel_rfl]; decide)
 have h1 := exL_yes g0 g1 g4 g3 g2 1 1 (by kernel_rfl)
 show natI (List.filter (fun v => liveB (exL g0 g1 g4 g3 g2).blk v 0 1) [0, 1]) = [1]
 simp only [List.filter_cons, h0, h1, List.filter_nil]
 rfl
end
theorem ints_one' {w : World} {q : IntsM} {z : Int} (h : IntsAt w q) (hq : q.2 = [z]) : ∃ b off cap, q.1 = .slice (some ⟨b, off, none⟩) 1 cap ∧ w.cell? ⟨b, off, none⟩ = some (.int .i64 z) := by
 obtain ⟨a, cap, h1, h2, h3, h4⟩ := IntsAt.open_ h
 rw [hq] at h1
 rcases h4 with h4 | ⟨b, off, rfl, _, hc⟩
 ·rw [hq] at h4; cases h4
 ·have h5 := hc 0 (by rw [hq]; exact Nat.zero_lt_one)
  rw [hq] at h5
  exact ⟨b, off, cap, h1, h5⟩

set_option maxRecDepth 100000 in
set_option maxHeartbeats 200000000 in
theorem lives14_any (w : World) (ht : TabsL w) : Calls Tryd.prog 20 #[] w fun e w' => e = .returned (.bool true) ∧ Keeps w w' [] := by
 have hk0 : Keeps w (w.alloc (.cells #[Value.string ⟨#[110]⟩, .int .i64 0, .string ⟨#[109]⟩, .int .i64 0] 69)) [] := (Keeps.refl _ []).alloc _
 have bb0 := Blk.new w 69 #[Value.string ⟨#[110]⟩, .int .i64 0, .string ⟨#[109]⟩, .int .i64 0]
 have hk1 : Keeps (w.alloc (.cells #[Value.string ⟨#[110]⟩, .int .i64 0, .string ⟨#[109]⟩, .int .i64 0] 69)) ((w.alloc (.cells #[Value.string ⟨#[110]⟩, .int .i64 0, .string ⟨#[109]⟩, .int .i64 0] 69)).alloc (.cells #[.int .i64 0] 3)) [] := (Keeps.refl _ []).alloc _
 have bb1 := Blk.new (w.alloc (.cells #[Value.string ⟨#[110]⟩, .int .i64 0, .string ⟨#[109]⟩, .int .i64 0] 69)) 3 #[.int .i64 0]
 have hk2 : Keeps ((w.alloc (.cells #[Value.string ⟨#[110]⟩, .int .i64 0, .string ⟨#[109]⟩, .int .i64 0] 69)).alloc (.cells #[.int .i64 0] 3)) (((w.alloc (.cells #[Value.string ⟨#[110]⟩, .int .i64 0, .string ⟨#[109]⟩, .int .i64 0] 69)).alloc (.cells #[.int .i64 0] 3)).alloc (.cells #[.int .i64 0, .int .i64 0] 3)) [] := (Keeps.refl _ []).alloc _
 have bb2 := Blk.new ((w.alloc (.cells #[Value.string ⟨#[110]⟩, .int .i64 0, .string ⟨#[109]⟩, .int .i64 0] 69)).alloc (.cells #[.int .i64 0] 3)) 3 #[.int .i64 0, .int .i64 0]
 have hk3 : Keeps (((w.alloc (.cells #[Value.string ⟨#[110]⟩, .int .i64 0, .string ⟨#[109]⟩, .int .i64 0] 69)).alloc (.cells #[.int .i64 0] 3)).alloc (.cells #[.int .i64 0, .int .i64 0] 3)) ((((w.alloc (.cells #[Value.string ⟨#[110]⟩, .int .i64 0, .string ⟨#[109]⟩, .int .i64 0] 69)).alloc (.cells #[.int .i64 0] 3)).alloc (.cells #[.int .i64 0, .int .i64 0] 3)).alloc (.cells #[.int .i64 2, .int .i64 1, .slice (some ⟨w.heap.size + 1 + 1, 0, none⟩) 2 2, .int .i64 0] 42)) [] := (Keeps.refl _ []).alloc _
 have bb3 := Blk.new (((w.alloc (.cells #[Value.string ⟨#[110]⟩, .int .i64 0, .string ⟨#[109]⟩, .int .i64 0] 69)).alloc (.cells #[.int .i64 0] 3)).alloc (.cells #[.int .i64 0, .int .i64 0] 3)) 42 #[.int .i64 2, .int .i64 1, .slice (some ⟨w.heap.size + 1 + 1, 0, none⟩) 2 2, .int .i64 0]
 have hk4 : Keeps ((((w.alloc (.cells #[Value.string ⟨#[110]⟩, .int .i64 0, .string ⟨#[109]⟩, .int .i64 0] 69)).alloc (.cells #[.int .i64 0] 3)).alloc (.cells #[.int .i64 0, .int .i64 0] 3)).alloc (.cells #[.int .i64 2, .int .i64 1, .slice (some ⟨w.heap.size + 1 + 1, 0, none⟩) 2 2, .int .i64 0] 42)) (((((w.alloc (.cells #[Value.string ⟨#[110]⟩, .int .i64 0, .string ⟨#[109]⟩, .int .i64 0] 69)).alloc (.cells #[.int .i64 0] 3)).alloc (.cells #[.int .i64 0, .int .i64 0] 3)).alloc (.cells #[.int .i64 2, .int .i64 1, .slice (some ⟨w.heap.size + 1 + 1, 0, none⟩) 2 2, .int .i64 0] 42)).alloc (.cells #[.string ⟨#[97]⟩, .slice none 0 0, .slice (some ⟨w.heap.size + 1 + 1 + 1, 0, none⟩) 1 1, .int .i64 2, .int .i64 1, .int .i64 0, .int .i64 0] 39)) [] := (Keeps.refl _ []).alloc _
 have bb4 := Blk.new ((((w.alloc (.cells #[Value.string ⟨#[110]⟩, .int .i64 0, .string ⟨#[109]⟩, .int .i64 0] 69)).alloc (.cells #[.int .i64 0] 3)).alloc (.cells #[.int .i64 0, .int .i64 0] 3)).alloc (.cells #[.int .i64 2, .int .i64 1, .slice (some ⟨w.heap.size + 1 + 1, 0, none⟩) 2 2, .int .i64 0] 42)) 39 #[.string ⟨#[97]⟩, .slice none 0 0, .slice (some ⟨w.heap.size + 1 + 1 + 1, 0, none⟩) 1 1, .int .i64 2, .int .i64 1, .int .i64 0, .int .i64 0]
 have hk5 : Keeps (((((w.alloc (.cells #[Value.string ⟨#[110]⟩, .int .i64 0, .string ⟨#[109]⟩, .int .i64 0] 69)).alloc (.cells #[.int .i64 0] 3)).alloc (.cells #[.int .i64 0, .int .i64 0] 3)).alloc (.cells #[.int .i64 2, .int .i64 1, .slice (some ⟨w.heap.size + 1 + 1, 0, none⟩) 2 2, .int .i64 0] 42)).alloc (.cells #[.string ⟨#[97]⟩, .slice none 0 0, .slice (some ⟨w.heap.size + 1 + 1 + 1, 0, none⟩) 1 1, .int .i64 2, .int .i64 1, .int .i64 0, .int .i64 0] 39)) ((((((w.alloc (.cells #[Value.string ⟨#[110]⟩, .int .i64 0, .string ⟨#[109]⟩, .int .i64 0] 69)).alloc (.cells #[.int .i64 0] 3)).alloc (.cells #[.int .i64 0, .int .i64 0] 3)).alloc (.cells #[.int .i64 2, .int .i64 1, .slice (some ⟨w.heap.size + 1 + 1, 0, none⟩) 2 2, .int .i64 0] 42)).alloc (.cells #[.string ⟨#[97]⟩, .slice none 0 0, .slice (some ⟨w.heap.size + 1 + 1 + 1, 0, none⟩) 1 1, .int .i64 2, .int .i64 1, .int .i64 0, .int .i64 0] 39)).alloc (.cells #[.slice (some ⟨w.heap.size, 0, none⟩) 2 2, .slice (some ⟨w.heap.size + 1, 0, none⟩) 1 1, .slice (some ⟨w.heap.size + 1 + 1 + 1 + 1, 0, none⟩) 1 1] 26)) [] := (Keeps.refl _ []).alloc _
 have bb5 := Blk.new (((((w.alloc (.cells #[Value.string ⟨#[110]⟩, .int .i64 0, .string ⟨#[109]⟩, .int .i64 0] 69)).alloc (.cells #[.int .i64 0] 3)).alloc (.cells #[.int .i64 0, .int .i64 0] 3)).alloc (.cells #[.int .i64 2, .int .i64 1, .slice (some ⟨w.heap.size + 1 + 1, 0, none⟩) 2 2, .int .i64 0] 42)).alloc (.cells #[.string ⟨#[97]⟩, .slice none 0 0, .slice (some ⟨w.heap.size + 1 + 1 + 1, 0, none⟩) 1 1, .int .i64 2, .int .i64 1, .int .i64 0, .int .i64 0] 39)) 26 #[.slice (some ⟨w.heap.size, 0, none⟩) 2 2, .slice (some ⟨w.heap.size + 1, 0, none⟩) 1 1, .slice (some ⟨w.heap.size + 1 + 1 + 1 + 1, 0, none⟩) 1 1]
 have hs0 : w.heap.size = w.heap.size := rfl
 have hs1 : (w.alloc (.cells #[Value.string ⟨#[110]⟩, .int .i64 0, .string ⟨#[109]⟩, .int .i64 0] 69)).heap.size = w.heap.size + 1 := (show (Array.push _ _).size = _ from (Array.size_push _).trans (congrArg (fun z => z + 1) hs0))
 rw [hs1] at bb1
 have hs2 : ((w.alloc (.cells #[Value.string ⟨#[110]⟩, .int .i64 0, .string ⟨#[109]⟩, .int .i64 0] 69)).alloc (.cells #[.int .i64 0] 3)).heap.size = w.heap.size + 1 + 1 := (show (Array.push _ _).size = _ from (Array.size_push _).trans (congrArg (fun z => z + 1) hs1))
 rw [hs2] at bb2
 have hs3 : (((w.alloc (.cells #[Value.string ⟨#[110]⟩, .int .i64 0, .string ⟨#[109]⟩, .int .i64 0] 69)).alloc (.cells #[.int .i64 0] 3)).alloc (.cells #[.int .i64 0, .int .i64 0] 3)).heap.size = w.heap.size + 1 + 1 + 1 := (show (Array.push _ _).size = _ from (Array.size_push _).trans (congrArg (fun z => z + 1) hs2))
 rw [hs3] at bb3
 have hs4 : ((((w.alloc (.cells #[Value.string ⟨#[110]⟩, .int .i64 0, .string ⟨#[109]⟩, .int .i64 0] 69)).alloc (.cells #[.int .i64 0] 3)).alloc (.cells #[.int .i64 0, .int .i64 0] 3)).alloc (.cells #[.int .i64 2, .int .i64 1, .slice (some ⟨w.heap.size + 1 + 1, 0, none⟩) 2 2, .int .i64 0] 42)).heap.size = w.heap.size + 1 + 1 + 1 + 1 := (show (Array.push _ _).size = _ from (Array.size_push _).trans (congrArg (fun z => z + 1) hs3))
 rw [hs4] at bb4
 have hs5 : (((((w.alloc (.cells #[Value.string ⟨#[110]⟩, .int .i64 0, .string ⟨#[109]⟩, .int .i64 0] 69)).alloc (.cells #[.int .i64 0] 3)).alloc (.cells #[.int .i64 0, .int .i64 0] 3)).alloc (.cells #[.int .i64 2, .int .i64 1, .slice (some ⟨w.heap.size + 1 + 1, 0, none⟩) 2 2, .int .i64 0] 42)).alloc (.cells #[.string ⟨#[97]⟩, .slice none 0 0, .slice (some ⟨w.heap.size + 1 + 1 + 1, 0, none⟩) 1 1, .int .i64 2, .int .i64 1, .int .i64 0, .int .i64 0] 39)).heap.size = w.heap.size + 1 + 1 + 1 + 1 + 1 := (show (Array.push _ _).size = _ from (Array.size_push _).trans (congrArg (fun z => z + 1) hs4))
 rw [hs5] at bb5
 have b0 := (((((bb0.keep hk1 (by simp)).keep hk2 (by simp)).keep hk3 (by simp)).keep hk4 (by simp)).keep hk5 (by simp))
 have b1 := ((((bb1.keep hk2 (by simp)).keep hk3 (by simp)).keep hk4 (by simp)).keep hk5 (by simp))
 have b2 := (((bb2.keep hk3 (by simp)).keep hk4 (by simp)).keep hk5 (by simp))
 have b3 := ((bb3.keep hk4 (by simp)).keep hk5 (by simp))
 have b4 := (bb4.keep hk5 (by simp))
 have b5 := bb5
 have HK := kept (((((hk0.and_then hk1).and_then hk2).and_then hk3).and_then hk4).and_then hk5)
 clear hs0 hs1 hs2 hs3 hs4 hs5 bb0 bb1 bb2 bb3 bb4 bb5 hk0 hk1 hk2 hk3 hk4 hk5
 have HF := kept (exL_at b0 b1 b2 b3 b4)
 have HT := kept (ht.keep HK.out)
 have CA := kept (fun W (kW : Keeps _ W []) => at22_any _ 0 0 W (HT.out.keep kW) (HF.out.keep kW) (exL_few _ _ _ _ _))
 have CB := kept (fun W (kW : Keeps _ W []) => at22_any _ 0 1 W (HT.out.keep kW) (HF.out.keep kW) (exL_few _ _ _ _ _))
 simp only [exL_0] at CA
 simp only [exL_1] at CB
 have HV9 : ((exL (w.heap.size) (w.heap.size + 1) (w.heap.size + 1 + 1 + 1 + 1) (w.heap.size + 1 + 1 + 1) (w.heap.size + 1 + 1))).val = .agg #[.slice (some ⟨w.heap.size, 0, none⟩) 2 2, .slice (some ⟨w.heap.size + 1, 0, none⟩) 1 1, .slice (some ⟨w.heap.size + 1 + 1 + 1 + 1, 0, none⟩) 1 1] := rfl
 rw [HV9] at CA CB
 have Bf := kept b5
 clear b0 b1 b2 b3 b4 b5 HF ht
 go_enter Tryd.func20, Tryd.ntmps20
 go_upto_region 2 with (fail)
 generalize ((((((w.alloc (.cells #[Value.string ⟨#[110]⟩, .int .i64 0, .string ⟨#[109]⟩, .int .i64 0] 69)).alloc (.cells #[.int .i64 0] 3)).alloc (.cells #[.int .i64 0, .int .i64 0] 3)).alloc (.cells #[.int .i64 2, .int .i64 1, .slice (some ⟨w.heap.size + 1 + 1, 0, none⟩) 2 2, .int .i64 0] 42)).alloc (.cells #[.string ⟨#[97]⟩, .slice none 0 0, .slice (some ⟨w.heap.size + 1 + 1 + 1, 0, none⟩) 1 1, .int .i64 2, .int .i64 1, .int .i64 0, .int .i64 0] 39)).alloc (.cells #[.slice (some ⟨w.heap.size, 0, none⟩) 2 2, .slice (some ⟨w.heap.size + 1, 0, none⟩) 1 1, .slice (some ⟨w.heap.size + 1 + 1 + 1 + 1, 0, none⟩) 1 1] 26)) = W6 at *
 obtain ⟨l0, l1, l2⟩ := Bf.out.c3
 simp at l0 l1 l2
 refine wp_region_held_drew (S := (fun w' => w'.cell? ⟨w.heap.size + 1 + 1 + 1 + 1 + 1, 0, none⟩ = some (.slice (some ⟨w.heap.size, 0, none⟩) 2 2) ∧ w'.cell? ⟨w.heap.size + 1 + 1 + 1 + 1 + 1, 1, none⟩ = some (.slice (some ⟨w.heap.size + 1, 0, none⟩) 1 1) ∧ w'.cell? ⟨w.heap.size + 1 + 1 + 1 + 1 + 1, 2, none⟩ = some (.slice (some ⟨w.heap.size + 1 + 1 + 1 + 1, 0, none⟩) 1 1))) (by kernel_rfl) ?bhSs (fun hHeld => ?_)
 case bhSs => exact ⟨l0, l1, l2⟩
 have hkd : Keeps W6 (World.drew W6) [] := (Keeps.refl W6 []).drew
 have l0x := hkd.cellOf l0
 have l1x := hkd.cellOf l1
 have l2x := hkd.cellOf l2
 clear l0 l1 l2
 have l0 := l0x
 have l1 := l1x
 have l2 := l2x
 clear l0x l1x l2x
 have KX := kept hkd
 clear hkd
 have CA1 := kept (CA.out _ KX.out)
 generalize World.drew W6 = X1 at *
 refine tl 0 ⟨some 15, .load 26 (.tmp 1), 26, "law.go:17", #[], none⟩ rfl hHeld ?_
 refine tl 2 ⟨some 17, .load 26 (.tmp 1), 26, "law.go:17", #[], none⟩ rfl hHeld ?_
 refine wpAnyH_ready (rs := [1]) (by kernel_rfl) (by simp) ?_
 refine AllReadyH.cons (o := ⟨some 16, .call ⟨.value (.func 22), #[.tmp 15, .const (Value.int IntKind.i64 0), .const (Value.int IntKind.i64 0)], #[26, 3, 3]⟩, 23, "law.go:17", #[⟨0, .data⟩], none⟩) rfl (fun K hK => ?_) AllReadyH.nil
 go_simp
 (with_reducible refine (CA1.out).mono ?_)
 rintro e wx ⟨⟨q1, rfl, he1, hq1⟩, k3⟩
 show K _ _
 clear hHeld
 have HQ1 := kept hq1
 have HE1 := kept he1
 have l0x := k3.cellOf l0
 have l1x := k3.cellOf l1
 have l2x := k3.cellOf l2
 clear l0 l1 l2
 have l0 := l0x
 have l1 := l1x
 have l2 := l2x
 clear l0x l1x l2x
 have KY := kept (KX.out.and_then k3)
 have K31 := kept k3
 clear hq1 he1 k3
 obtain ⟨wq, hwq⟩ : ∃ wq : World, wq = wx := ⟨_, rfl⟩
 subst hwq
 have CB1 := kept (CB.out _ KY.out)
 refine hK.out _ _ ?bhS1 (fun hHeld => ?_)
 case bhS1 => exact ⟨l0, l1, l2⟩
 clear hK K
 try simp only [Act.put, sA, sB, sC]
 refine wpAnyH_ready (rs := [3]) (by kernel_rfl) (by simp) ?_
 refine AllReadyH.cons (o := ⟨some 18, .call ⟨.value (.func 22), #[.tmp 17, .const (Value.int IntKind.i64 0), .const (Value.int IntKind.i64 1)], #[26, 3, 3]⟩, 23, "law.go:17", #[⟨2, .data⟩, ⟨1, .chain⟩], none⟩) rfl (fun K hK => ?_) AllReadyH.nil
 go_simp
 (with_reducible refine (CB1.out).mono ?_)
 rintro e wx ⟨⟨q2, rfl, he2, hq2⟩, k3⟩
 show K _ _
 clear hHeld
 have HQ2 := kept hq2
 have HE2 := kept he2
 have l0x := k3.cellOf l0
 have l1x := k3.cellOf l1
 have l2x := k3.cellOf l2
 clear l0 l1 l2
 have l0 := l0x
 have l1 := l1x
 have l2 := l2x
 clear l0x l1x l2x
 have KZ := kept (KY.out.and_then k3)
 have HQ1x := kept (Row.keep HQ1.out k3 : IntsAt _ _)
 clear hq2 he2 k3
 refine hK.out _ _ ?bhS3 (fun hHeld => ?_)
 case bhS3 => exact ⟨l0, l1, l2⟩
 clear hK K
 try simp only [Act.put, sA, sB, sC]
 refine tl 4 ⟨some 2, .assign (.tmp 16), 23, "law.go:17", #[⟨1, .data⟩, ⟨3, .chain⟩, ⟨0, .phase⟩, ⟨1, .phase⟩, ⟨2, (.textOnly .lateStores)⟩, ⟨3, (.textOnly .lateStoresUnsure)⟩], none⟩ rfl hHeld ?_
 refine tl 5 ⟨some 3, .assign (.tmp 18), 23, "law.go:17", #[⟨3, .data⟩, ⟨4, .chain⟩, ⟨0, .phase⟩, ⟨1, .phase⟩, ⟨2, .phase⟩, ⟨3, .phase⟩, ⟨4, .phase⟩], none⟩ rfl hHeld ?_
 refine wpAnyH_done (by kernel_rfl) ?_ _
 clear hHeld
 clear l0 l1 l2
 obtain ⟨g1, o1, c1, e1, z1⟩ := ints_one' HQ1x.out HE1.out
 obtain ⟨g2, o2, c2, e2, z2⟩ := ints_one' HQ2.out HE2.out
 obtain ⟨q1a, q1b⟩ := q1
 obtain ⟨q2a, q2b⟩ := q2
 simp only at e1 e2
 subst e1
 subst e2
 dsimp only
 clear HQ1 HQ2 HE1 HE2 HQ1x
 go_wp2
 go_ret
 exact ⟨rfl, HK.out.and_then KZ.out⟩
end Go.Proofs.YtjllbchfojonhaaDoor
namespace Go.Proofs.YtjllbchfojonhaaDoor
open Go.RowKit Go.Shelf Go.Lib
set_option linter.unusedVariables false
set_option linter.unusedSimpArgs false

end Go.Proofs.YtjllbchfojonhaaDoor
namespace Go.Proofs.YtjllbchfojonhaaDoor
open Go.RowKit
set_option linter.unusedVariables false
set_option linter.unusedSimpArgs false

def fewV : List VarM → Nat → Option Nat
 | [], n => some n
 | v :: l, n => if 400 < v.name.size then none else fewV l (n + v.name.size)
def fewPh : List PhiM → Nat → Option Nat
 | [], n => some n
 | p :: l, n => if 4000 < n ∨ 400 < p.args.2.length ∨ 400 < p.froms.2.length then none else fewPh l (n + (p.args.2.length + p.froms.2.length))
def fewIn : List InstM → Nat → Option Nat
 | [], n => some n
 | x :: l, n => if 4000 < n ∨ 400 < x.args.2.length then none else fewIn l (n + x.args.2.length)
def fewOne (b : BlockM) (n : Nat) (K : Nat → Option Nat) : Option Nat :=
 if 400 < b.name.size ∨ 400 < b.phis.2.length ∨ 400 < b.insts.2.length then none
 else (fewPh b.phis.2 (n + (b.name.size + 10 * (b.phis.2.length + b.insts.2.length)))).bind fun m => (fewIn b.insts.2 m).bind fun m2 => if 4000 < m2 then none else K m2
def fewBl : List BlockM → Nat → Option Nat
 | [], n => some n
 | b :: l, n => fewOne b n (fewBl l)
def fewB (f : FuncM) : Bool :=
 if 100 < f.nv ∨ 40 < f.nb ∨ 20 < f.np then false else ((fewV f.vars.2 0).bind (fewBl f.blocks.2)).isSome
theorem fewV_at {l : List VarM} {k n : Nat} (hk : k < l.length) : fewV (l.drop k) n = if 400 < l[k]!.name.size then none else fewV (l.drop (k + 1)) (n + l[k]!.name.size) := by
 rw [List.drop_eq_getElem_cons hk, getElem!_pos l k hk]; rfl
theorem fewV_end (l : List VarM) (n : Nat) : fewV (l.drop l.length) n = some n := by rw [List.drop_length]; rfl
theorem fewPh_at {l : List PhiM} {k n : Nat} (hk : k < l.length) : fewPh (l.drop k) n = if 4000 < n ∨ 400 < l[k]!.args.2.length ∨ 400 < l[k]!.froms.2.length then none else fewPh (l.drop (k + 1)) (n + (l[k]!.args.2.length + l[k]!.froms.2.length)) := by
 rw [List.drop_eq_getElem_cons hk, getElem!_pos l k hk]; rfl
theorem fewPh_end (l : List PhiM) (n : Nat) : fewPh (l.drop l.length) n = some n := by rw [List.drop_length]; rfl
theorem fewIn_at {l : List InstM} {k n : Nat} (hk : k < l.length) : fewIn (l.drop k) n = if 4000 < n ∨ 400 < l[k]!.args.2.length then none else fewIn (l.drop (k + 1)) (n + l[k]!.args.2.length) := by
 rw [List.drop_eq_getElem_cons hk, getElem!_pos l k hk]; rfl
theorem fewIn_end (l : List InstM) (n : Nat) : fewIn (l.drop l.length) n = some n := by rw [List.drop_length]; rfl
theorem fewBl_at {l : List BlockM} {k n : Nat} (hk : k < l.length) : fewBl (l.drop k) n = fewOne l[k]! n (fewBl (l.drop (k + 1))) := by
 rw [List.drop_eq_getElem_cons hk, getElem!_pos l k hk]; rfl
theorem fewBl_end (l : List BlockM) (n : Nat) : fewBl (l.drop l.length) n = some n := by rw [List.drop_length]; rfl
theorem fewB_no {f : FuncM} (h : 100 < f.nv ∨ 40 < f.nb ∨ 20 < f.np) : fewB f = false := by unfold fewB; rw [if_pos h]
theorem fewB_v {f : FuncM} (h : fewV f.vars.2 0 = none) : fewB f = false := by unfold fewB; split; rfl; rw [h]; rfl
theorem fewB_b {f : FuncM} {n : Nat} (h : fewV f.vars.2 0 = some n) (h2 : fewBl f.blocks.2 n = none) : fewB f = false := by unfold fewB; split; rfl; rw [h]; show (fewBl f.blocks.2 n).isSome = false; rw [h2]; rfl
theorem fewB_yes {f : FuncM} {n m : Nat} (h0 : ¬ (100 < f.nv ∨ 40 < f.nb ∨ 20 < f.np)) (h : fewV f.vars.2 0 = some n) (h2 : fewBl f.blocks.2 n = some m) : fewB f = true := by unfold fewB; rw [if_neg h0, h]; show (fewBl f.blocks.2 n).isSome = true; rw [h2]; rfl
theorem fewOne_1 {b : BlockM} {n : Nat} {K : Nat → Option Nat} (h : 400 < b.name.size ∨ 400 < b.phis.2.length ∨ 400 < b.insts.2.length) : fewOne b n K = none := by unfold fewOne; rw [if_pos h]
theorem fewOne_2 {b : BlockM} {n : Nat} {K : Nat → Option Nat} (h0 : ¬ (400 < b.name.size ∨ 400 < b.phis.2.length ∨ 400 < b.insts.2.length)) (h : fewPh b.phis.2 (n + (b.name.size + 10 * (b.phis.2.length + b.insts.2.length))) = none) : fewOne b n K = none := by unfold fewOne; rw [if_neg h0, h]; rfl
theorem fewOne_3 {b : BlockM} {n m : Nat} {K : Nat → Option Nat} (h0 : ¬ (400 < b.name.size ∨ 400 < b.phis.2.length ∨ 400 < b.insts.2.length)) (h : fewPh b.phis.2 (n + (b.name.size + 10 * (b.phis.2.length + b.insts.2.length))) = some m) (h2 : fewIn b.insts.2 m = none) : fewOne b n K = none := by unfold fewOne; rw [if_neg h0, h]; show (fewIn b.insts.2 m).bind _ = none; rw [h2]; rfl
theorem fewOne_4 {b : BlockM} {n m m2 : Nat} {K : Nat → Option Nat} (h0 : ¬ (400 < b.name.size ∨ 400 < b.phis.2.length ∨ 400 < b.insts.2.length)) (h : fewPh b.phis.2 (n + (b.name.size + 10 * (b.phis.2.length + b.insts.2.length))) = some m) (h2 : fewIn b.insts.2 m = some m2) : fewOne b n K = if 4000 < m2 then none else K m2 := by unfold fewOne; rw [if_neg h0, h]; show (fewIn b.insts.2 m).bind _ = _; rw [h2]; rfl

set_option maxRecDepth 100000 in
set_option maxHeartbeats 200000000 in
theorem few_exact (f : FuncM) (w : World) (hf : FuncAt w f) : Calls Tryd.prog 11 #[f.val] w fun e w' => e = .returned (.bool (fewB f)) ∧ Keeps w w' [] := by
 obtain ⟨a0, c0, e0, -, -, hc0⟩ := hf.vars.open_
 obtain ⟨a1, c1, e1, -, -, hc1⟩ := (show Row w 1 f.params.1 (f.params.2.map intCells) from hf.params).open_
 obtain ⟨a2, c2, e2, -, -, hc2⟩ := hf.blocks.open_
 have hval : f.val = .agg #[.slice a0 f.nv c0, .slice a1 f.np c1, .slice a2 f.nb c2] := by unfold FuncM.val FuncM.nv FuncM.np FuncM.nb; rw [e0, e1, e2]
 have h1 : #[f.vars.1, f.params.1, f.blocks.1] = #[.slice a0 f.nv c0, .slice a1 f.np c1, .slice a2 f.nb c2] := by unfold FuncM.nv FuncM.np FuncM.nb; rw [e0, e1, e2]
 have HF := kept hf
 have HC0 := kept hc0
 have HC1 := kept hc1
 have HC2 := kept hc2
 have HNV := kept (show f.vars.2.length = f.nv from rfl)
 have HNP := kept (show f.params.2.length = f.np from rfl)
 have HNB := kept (show f.blocks.2.length = f.nb from rfl)
 rw [hval]
 clear e0 e1 e2 hval h1 hf hc0 hc1 hc2
 have HNO := kept (fun h => fewB_no (f := f) h)
 have HVN := kept (fun h => fewB_v (f := f) h)
 have HBNN := kept (fun n h h2 => fewB_b (f := f) (n := n) h h2)
 have HYES := kept (fun n m h0 h h2 => fewB_yes (f := f) (n := n) (m := m) h0 h h2)
 generalize fewB f = RB at *
 have hk0 : Keeps w (w.alloc (.cells #[.slice a0 f.nv c0, .slice a1 f.np c1, .slice a2 f.nb c2] 26)) [] := (Keeps.refl _ []).alloc _
 have bb0 := Blk.new w 26 #[.slice a0 f.nv c0, .slice a1 f.np c1, .slice a2 f.nb c2]
 have Bl := kept bb0
 have HK := kept hk0
 obtain ⟨l0, l1, l2⟩ := Bl.out.c3
 simp at l0 l1 l2
 clear hk0 bb0
 by_cases hnv : (100 : Int) < (f.nv : Int)
 ·go_enter Tryd.func11, Tryd.ntmps11
  go_wp2
  go_ret
  exact ⟨ret_bool (HNO.out (by omega)).symm, HK.out⟩
 by_cases hnb : (40 : Int) < (f.nb : Int)
 ·go_enter Tryd.func11, Tryd.ntmps11
  go_wp2
  go_ret
  exact ⟨ret_bool (HNO.out (by omega)).symm, HK.out⟩
 by_cases hnp : (20 : Int) < (f.np : Int)
 ·go_enter Tryd.func11, Tryd.ntmps11
  go_wp2
  go_ret
  exact ⟨ret_bool (HNO.out (by omega)).symm, HK.out⟩
 go_enter Tryd.func11, Tryd.ntmps11
 go_wp2
 clear l0 l1 l2
 generalize (w.alloc (.cells #[.slice a0 f.nv c0, .slice a1 f.np c1, .slice a2 f.nb c2] 26)) = W0 at *
 have Bl_W0 := Bl
 have TW0 := HK
 clear HK
 have HK := kept (Keeps.refl W0 [])
 obtain ⟨l0, l1, l2⟩ := Bl.out.c3
 simp at l0 l1 l2
 go_loopw [3, 31] (fun s i wr => ∃ k n : Nat, k ≤ f.nv ∧ i = .int .i64 k ∧ s = .int .i64 n ∧ Keeps W0 wr [] ∧ n ≤ 400 * k ∧ Hid (fewV (f.vars.2.drop k) n = fewV f.vars.2 0)) (fun _ i _ => f.nv - (intOf i).toNat)
 case atStart => exact ⟨0, 0, Nat.zero_le _, rfl, rfl, HK.out, Nat.le_refl _, (show Hid _ from by show _ = _; rw [List.drop_zero])⟩
 case round =>
  obtain ⟨k, n, hk, rfl, rfl, hr, hn, HV⟩ := hrel
  clear l0 l1 l2
  clear Bl HK
  have HK := kept hr
  have Bl := kept (Bl_W0.out.keep hr (by simp))
  clear hr
  obtain ⟨l0, l1, l2⟩ := Bl.out.c3
  simp at l0 l1 l2
  by_cases hlt : k < f.nv
  ·have hltz : (k : Int) < (f.nv : Int) := by omega
   obtain ⟨bb, off, rfl, hbl, hcell⟩ := HC0.out k (by rw [HNV.out]; exact hlt)
   have n0 := (TW0.out.and_then HK.out).cellOf (hcell 0 _ rfl)
   have n1 := (TW0.out.and_then HK.out).cellOf (hcell 1 _ rfl)
   simp only [Nat.add_zero] at n0
   have hvs := HV.out
   rw [fewV_at (by rw [HNV.out]; exact hlt)] at hvs
   clear hcell HC0
   generalize f.vars.2[k]! = y at *
   generalize y.name = yn at *
   have HVS := kept hvs
   clear hvs
   generalize y.type = yt at *
   clear l0 l1 l2
   have bmx := Blk.new wr 69 #[.string yn, .int .i64 yt]
   have k3 : Keeps wr (wr.alloc (.cells #[.string yn, .int .i64 yt] 69)) [] := (Keeps.refl wr []).alloc _
   replace Bl := kept (Bl.out.keep k3 (by simp))
   replace HK := kept (HK.out.and_then k3)
   clear k3
   have Bm := kept bmx
   clear bmx
   obtain ⟨l0, l1, l2⟩ := Bl.out.c3
   obtain ⟨m0, m1⟩ := Bm.out.c2
   simp at l0 l1 l2 m0 m1
   by_cases hs : (400 : Int) < (yn.size : Int)
   ·go_wp2
    go_ret
    exact ⟨ret_bool (HVN.out (by rw [← HVS.out, if_pos (by omega)])).symm, (TW0.out.and_then HK.out)⟩
   ·have HV2 : Hid (fewV (f.vars.2.drop (k + 1)) (n + yn.size) = fewV f.vars.2 0) := by have h := HVS.out; rw [if_neg (by omega)] at h; exact h
    go_wp2
    go_roundw
    case rel => exact ⟨k + 1, n + yn.size, by omega, by go_num, by go_num, HK.out, by omega, HV2⟩
    case measure => simp [intOf]; omega
  ·have hltz : ¬ (k : Int) < (f.nv : Int) := by omega
   have hn2 : n ≤ 40000 := by omega
   have HVF : Hid (fewV f.vars.2 0 = some n) := by have hkk : k = f.nv := (by omega); have h := HV.out; rw [hkk, ← HNV.out, fewV_end] at h; exact h.symm
   go_wp2
   clear hn hltz hlt hk HV
   obtain ⟨n9, hn9⟩ : ∃ n9, n = n9 := ⟨_, rfl⟩
   have HN9 := kept hn9
   rw [hn9] at HVF
   clear hn9
   go_loopw [3, 48] (fun s i wr => ∃ k n : Nat, k ≤ f.nb ∧ i = .int .i64 k ∧ s = .int .i64 n ∧ Keeps W0 wr [] ∧ n ≤ 40000 + 1000000 * k ∧ Hid (fewBl (f.blocks.2.drop k) n = fewBl f.blocks.2 n9)) (fun _ i _ => f.nb - (intOf i).toNat)
   case atStart => exact ⟨0, n, Nat.zero_le _, rfl, rfl, HK.out, by omega, (show Hid _ from by show _ = _; rw [List.drop_zero, HN9.out])⟩
   case round =>
    clear hn2
    obtain ⟨k, n, hk, rfl, rfl, hr, hn, HBv⟩ := hrel
    obtain ⟨wo, hwo⟩ : ∃ wo : World, wo = wr := ⟨_, rfl⟩
    subst hwo
    clear l0 l1 l2
    clear Bl HK
    have HK := kept hr
    have Bl := kept (Bl_W0.out.keep hr (by simp))
    clear hr
    obtain ⟨l0, l1, l2⟩ := Bl.out.c3
    simp at l0 l1 l2
    by_cases hlt : k < f.nb
    ·have hltz : (k : Int) < (f.nb : Int) := by omega
     obtain ⟨bb, off, rfl, hbl, hcell⟩ := HC2.out k (by rw [HNB.out]; exact hlt)
     have n0 := (TW0.out.and_then HK.out).cellOf (hcell 0 _ rfl)
     have n1 := (TW0.out.and_then HK.out).cellOf (hcell 1 _ rfl)
     have n2 := (TW0.out.and_then HK.out).cellOf (hcell 2 _ rfl)
     have n3 := (TW0.out.and_then HK.out).cellOf (hcell 3 _ rfl)
     have n4 := (TW0.out.and_then HK.out).cellOf (hcell 4 _ rfl)
     have n5 := (TW0.out.and_then HK.out).cellOf (hcell 5 _ rfl)
     have n6 := (TW0.out.and_then HK.out).cellOf (hcell 6 _ rfl)
     simp only [Nat.add_zero] at n0
     have hyb := (HF.out.keep (TW0.out.and_then HK.out)).block _ (bang_mem (l := f.blocks.2) (k := k) (by rw [HNB.out]; exact hlt))
     have HBS := kept (HBv.out.symm.trans (fewBl_at (by rw [HNB.out]; exact hlt)))
     clear hcell HC2 HC0 HC1
     generalize hy : f.blocks.2[k]! = y at *
     have HY := kept hy
     clear hy
     obtain ⟨pa, pc, pe, -, -, hpc⟩ := hyb.phis.open_
     obtain ⟨qa, qc, qe, -, -, hqc⟩ := hyb.insts.open_
     have HYB := kept hyb
     rw [pe] at n1
     rw [qe] at n2
     have HPC := kept hpc
     have HQC := kept hqc
     clear hyb pe qe hpc hqc
     generalize hPN : y.phis.2.length = pn at *
     generalize hQN : y.insts.2.length = qn at *
     have HPN := kept hPN
     have HQN := kept hQN
     clear hPN hQN
     generalize hyn : y.name = yn at *
     have HYN := kept hyn
     clear hyn
     generalize y.kind = yk at *
     generalize y.var = yv at *
     generalize y.to0 = y0 at *
     generalize y.to1 = y1 at *
     clear l0 l1 l2
     have bmx := Blk.new wo 39 #[.string yn, .slice pa pn pc, .slice qa qn qc, .int .i64 yk, .int .i64 yv, .int .i64 y0, .int .i64 y1]
     have k3 : Keeps wo (wo.alloc (.cells #[.string yn, .slice pa pn pc, .slice qa qn qc, .int .i64 yk, .int .i64 yv, .int .i64 y0, .int .i64 y1] 39)) [] := (Keeps.refl wo []).alloc _
     replace Bl := kept (Bl.out.keep k3 (by simp))
     replace HK := kept (HK.out.and_then k3)
     clear k3
     have Bm := kept bmx
     clear bmx
     obtain ⟨l0, l1, l2⟩ := Bl.out.c3
     obtain ⟨m0, m1, m2, m3, m4, m5, m6⟩ := Bm.out.c7
     simp at l0 l1 l2 m0 m1 m2 m3 m4 m5 m6
     by_cases hs : (400 : Int) < (yn.size : Int)
     ·go_wp2
      go_ret
      exact ⟨ret_bool (HBNN.out _ HVF.out (by rw [HBS.out]; exact fewOne_1 (by rw [HYN.out, HPN.out, HQN.out]; omega))).symm, (TW0.out.and_then HK.out)⟩
     by_cases hp4 : (400 : Int) < (pn : Int)
     ·go_wp2
      go_ret
      exact ⟨ret_bool (HBNN.out _ HVF.out (by rw [HBS.out]; exact fewOne_1 (by rw [HYN.out, HPN.out, HQN.out]; omega))).symm, (TW0.out.and_then HK.out)⟩
     by_cases hq4 : (400 : Int) < (qn : Int)
     ·go_wp2
      go_ret
      exact ⟨ret_bool (HBNN.out _ HVF.out (by rw [HBS.out]; exact fewOne_1 (by rw [HYN.out, HPN.out, HQN.out]; omega))).symm, (TW0.out.and_then HK.out)⟩
     go_wp2
     have HLIM := kept (show ¬ (400 < y.name.size ∨ 400 < y.phis.2.length ∨ 400 < y.insts.2.length) by rw [HYN.out, HPN.out, HQN.out]; omega)
     clear n0 n1 n2 n3 n4 n5 n6
     have TWo : Hid (Keeps wo (wo.alloc (.cells #[.string yn, .slice pa pn pc, .slice qa qn qc, .int .i64 yk, .int .i64 yv, .int .i64 y0, .int .i64 y1] 39)) []) := (Keeps.refl wo []).alloc _
     clear l0 l1 l2 m0 m1 m2 m3 m4 m5 m6
     generalize wo.alloc (.cells #[.string yn, .slice pa pn pc, .slice qa qn qc, .int .i64 yk, .int .i64 yv, .int .i64 y0, .int .i64 y1] 39) = WB at *
     have Bl_WB := Bl
     have Bm_WB := Bm
     have TWB := HK
     clear HK
     have HK := kept (Keeps.refl WB [])
     obtain ⟨l0, l1, l2⟩ := Bl.out.c3
     obtain ⟨m0, m1, m2, m3, m4, m5, m6⟩ := Bm.out.c7
     simp at l0 l1 l2 m0 m1 m2 m3 m4 m5 m6
     generalize hn1 : n + (yn.size + 10 * (pn + qn)) = s1 at *
     have HN1 := kept (show n + (y.name.size + 10 * (y.phis.2.length + y.insts.2.length)) = s1 by rw [HYN.out, HPN.out, HQN.out]; exact hn1)
     go_loopw [3, 85] (fun s i wr => ∃ i1 j1 : Nat, i1 ≤ pn ∧ i = .int .i64 i1 ∧ s = .int .i64 j1 ∧ Keeps WB wr [] ∧ s1 ≤ j1 ∧ j1 ≤ s1 + 800 * i1 ∧ Hid (fewPh (y.phis.2.drop i1) j1 = fewPh y.phis.2 s1)) (fun _ i _ => pn - (intOf i).toNat)
     case atStart => exact ⟨0, s1, Nat.zero_le _, rfl, by go_num, HK.out, Nat.le_refl _, Nat.le_refl _, (show Hid _ from by show _ = _; rw [List.drop_zero])⟩
     case round =>
      obtain ⟨i1, j1, hj, rfl, rfl, hr, hm1, hm2, HFV⟩ := hrel
      clear l0 l1 l2 m0 m1 m2 m3 m4 m5 m6
      clear Bl Bm HK
      have HK := kept hr
      have Bl := kept (Bl_WB.out.keep hr (by simp))
      have Bm := kept (Bm_WB.out.keep hr (by simp))
      clear hr
      obtain ⟨l0, l1, l2⟩ := Bl.out.c3
      obtain ⟨m0, m1, m2, m3, m4, m5, m6⟩ := Bm.out.c7
      simp at l0 l1 l2 m0 m1 m2 m3 m4 m5 m6
      by_cases hltj : i1 < pn
      ·have hltjz : (i1 : Int) < (pn : Int) := by omega
       obtain ⟨pb, po, rfl, hpb, hpcell⟩ := HPC.out i1 hltj
       have n0 := (TWo.out.and_then HK.out).cellOf (hpcell 0 _ rfl)
       have n1 := (TWo.out.and_then HK.out).cellOf (hpcell 1 _ rfl)
       have n2 := (TWo.out.and_then HK.out).cellOf (hpcell 2 _ rfl)
       simp only [Nat.add_zero] at n0
       have hpa := HYB.out.phi _ (bang_mem (l := y.phis.2) (k := i1) (by rw [HPN.out]; exact hltj))
       have HPS := kept ((fewPh_at (l := y.phis.2) (n := j1) (by rw [HPN.out]; exact hltj)).symm.trans HFV.out)
       clear hpcell HPC
       generalize y.phis.2[i1]! = p at *
       obtain ⟨u1, v1, e1, -⟩ := IntsAt.open_ hpa.1
       obtain ⟨u2, v2, e2, -⟩ := IntsAt.open_ hpa.2
       rw [e1] at n1
       rw [e2] at n2
       clear e1 e2
       generalize p.args.2.length = pna at *
       generalize p.froms.2.length = pnf at *
       generalize p.dst = pdst at *
       clear hpa
       clear l0 l1 l2 m0 m1 m2 m3 m4 m5 m6
       have bmx := Blk.new wr 79 #[.int .i64 pdst, .slice u1 pna v1, .slice u2 pnf v2]
       have k3 : Keeps wr (wr.alloc (.cells #[.int .i64 pdst, .slice u1 pna v1, .slice u2 pnf v2] 79)) [] := (Keeps.refl wr []).alloc _
       replace Bl := kept (Bl.out.keep k3 (by simp))
       replace Bm := kept (Bm.out.keep k3 (by simp))
       replace HK := kept (HK.out.and_then k3)
       clear k3
       have Bq := kept bmx
       clear bmx
       obtain ⟨l0, l1, l2⟩ := Bl.out.c3
       obtain ⟨m0, m1, m2, m3, m4, m5, m6⟩ := Bm.out.c7
       obtain ⟨q0, q1, q2⟩ := Bq.out.c3
       simp at l0 l1 l2 m0 m1 m2 m3 m4 m5 m6 q0 q1 q2
       by_cases hf4 : (4000 : Int) < (j1 : Int)
       ·go_wp2
        go_ret
        exact ⟨ret_bool (HBNN.out _ HVF.out (by rw [HBS.out]; exact fewOne_2 HLIM.out (by rw [HN1.out, ← HPS.out, if_pos (by omega)]))).symm, (TW0.out.and_then (TWB.out.and_then HK.out))⟩
       by_cases hl0 : (400 : Int) < (pna : Int)
       ·go_wp2
        go_ret
        exact ⟨ret_bool (HBNN.out _ HVF.out (by rw [HBS.out]; exact fewOne_2 HLIM.out (by rw [HN1.out, ← HPS.out, if_pos (by omega)]))).symm, (TW0.out.and_then (TWB.out.and_then HK.out))⟩
       by_cases hl1 : (400 : Int) < (pnf : Int)
       ·go_wp2
        go_ret
        exact ⟨ret_bool (HBNN.out _ HVF.out (by rw [HBS.out]; exact fewOne_2 HLIM.out (by rw [HN1.out, ← HPS.out, if_pos (by omega)]))).symm, (TW0.out.and_then (TWB.out.and_then HK.out))⟩
       have HF2 : Hid (fewPh (y.phis.2.drop (i1 + 1)) (j1 + (pna + pnf)) = fewPh y.phis.2 s1) := by have h := HPS.out; rw [if_neg (by omega)] at h; exact h
       go_wp2
       go_roundw
       case rel => exact ⟨i1 + 1, j1 + (pna + pnf), by omega, by go_num, by go_num, HK.out, by omega, by omega, HF2⟩
       case measure => simp [intOf]; omega
      ·have hltjz : ¬ (i1 : Int) < (pn : Int) := by omega
       have HPD : Hid (fewPh y.phis.2 s1 = some j1) := by have hh : i1 = pn := (by omega); have h := HFV.out; rw [hh, ← HPN.out, fewPh_end] at h; exact h.symm
       have hn2 : s1 ≤ j1 := by omega
       have hn3 : j1 ≤ s1 + 800 * 400 := by omega
       clear hltj hm1 hm2 hj HFV
       go_wp2
       go_loopw [3, 116] (fun s i wr => ∃ i2 j2 : Nat, i2 ≤ qn ∧ i = .int .i64 i2 ∧ s = .int .i64 j2 ∧ Keeps WB wr [] ∧ j1 ≤ j2 ∧ j2 ≤ j1 + 800 * i2 ∧ Hid (fewIn (y.insts.2.drop i2) j2 = fewIn y.insts.2 j1)) (fun _ i _ => qn - (intOf i).toNat)
       case atStart => exact ⟨0, j1, Nat.zero_le _, rfl, rfl, HK.out, Nat.le_refl _, Nat.le_refl _, (show Hid _ from by show _ = _; rw [List.drop_zero])⟩
       case round =>
        obtain ⟨i2, j2, hj, rfl, rfl, hr, hm1, hm2, HFV⟩ := hrel
        clear l0 l1 l2 m0 m1 m2 m3 m4 m5 m6
        clear Bl Bm HK
        have HK := kept hr
        have Bl := kept (Bl_WB.out.keep hr (by simp))
        have Bm := kept (Bm_WB.out.keep hr (by simp))
        clear hr
        obtain ⟨l0, l1, l2⟩ := Bl.out.c3
        obtain ⟨m0, m1, m2, m3, m4, m5, m6⟩ := Bm.out.c7
        simp at l0 l1 l2 m0 m1 m2 m3 m4 m5 m6
        by_cases hltj : i2 < qn
        ·have hltjz : (i2 : Int) < (qn : Int) := by omega
         obtain ⟨pb, po, rfl, hpb, hpcell⟩ := HQC.out i2 hltj
         have n0 := (TWo.out.and_then HK.out).cellOf (hpcell 0 _ rfl)
         have n1 := (TWo.out.and_then HK.out).cellOf (hpcell 1 _ rfl)
         have n2 := (TWo.out.and_then HK.out).cellOf (hpcell 2 _ rfl)
         have n3 := (TWo.out.and_then HK.out).cellOf (hpcell 3 _ rfl)
         simp only [Nat.add_zero] at n0
         have hpa := HYB.out.inst _ (bang_mem (l := y.insts.2) (k := i2) (by rw [HQN.out]; exact hltj))
         have HPS := kept ((fewIn_at (l := y.insts.2) (n := j2) (by rw [HQN.out]; exact hltj)).symm.trans HFV.out)
         clear hpcell HQC
         generalize y.insts.2[i2]! = p at *
         obtain ⟨u1, v1, e1, -⟩ := IntsAt.open_ hpa
         rw [e1] at n2
         clear e1
         generalize p.args.2.length = pna at *
         generalize p.op = pop at *
         generalize p.dst = pdst at *
         generalize p.num = pnum at *
         clear hpa
         clear l0 l1 l2 m0 m1 m2 m3 m4 m5 m6
         have bmx := Blk.new wr 42 #[.int .i64 pop, .int .i64 pdst, .slice u1 pna v1, .int .i64 pnum]
         have k3 : Keeps wr (wr.alloc (.cells #[.int .i64 pop, .int .i64 pdst, .slice u1 pna v1, .int .i64 pnum] 42)) [] := (Keeps.refl wr []).alloc _
         replace Bl := kept (Bl.out.keep k3 (by simp))
         replace Bm := kept (Bm.out.keep k3 (by simp))
         replace HK := kept (HK.out.and_then k3)
         clear k3
         have Bq := kept bmx
         clear bmx
         obtain ⟨l0, l1, l2⟩ := Bl.out.c3
         obtain ⟨m0, m1, m2, m3, m4, m5, m6⟩ := Bm.out.c7
         obtain ⟨q0, q1, q2, q3⟩ := Bq.out.c4
         simp at l0 l1 l2 m0 m1 m2 m3 m4 m5 m6 q0 q1 q2 q3
         by_cases hf4 : (4000 : Int) < (j2 : Int)
         ·go_wp2
          go_ret
          exact ⟨ret_bool (HBNN.out _ HVF.out (by rw [HBS.out]; exact fewOne_3 HLIM.out (by rw [HN1.out]; exact HPD.out) (by rw [← HPS.out, if_pos (by omega)]))).symm, (TW0.out.and_then (TWB.out.and_then HK.out))⟩
         by_cases hl0 : (400 : Int) < (pna : Int)
         ·go_wp2
          go_ret
          exact ⟨ret_bool (HBNN.out _ HVF.out (by rw [HBS.out]; exact fewOne_3 HLIM.out (by rw [HN1.out]; exact HPD.out) (by rw [← HPS.out, if_pos (by omega)]))).symm, (TW0.out.and_then (TWB.out.and_then HK.out))⟩
         have HF2 : Hid (fewIn (y.insts.2.drop (i2 + 1)) (j2 + (pna)) = fewIn y.insts.2 j1) := by have h := HPS.out; rw [if_neg (by omega)] at h; exact h
         go_wp2
         go_roundw
         case rel => exact ⟨i2 + 1, j2 + (pna), by omega, by go_num, by go_num, HK.out, by omega, by omega, HF2⟩
         case measure => simp [intOf]; omega
        ·have hltjz : ¬ (i2 : Int) < (qn : Int) := by omega
         have HID : Hid (fewIn y.insts.2 j1 = some j2) := by have hh : i2 = qn := (by omega); have h := HFV.out; rw [hh, ← HQN.out, fewIn_end] at h; exact h.symm
         have HB4 := kept (HBS.out.trans (fewOne_4 HLIM.out (by rw [HN1.out]; exact HPD.out) HID.out))
         by_cases hf4 : (4000 : Int) < (j2 : Int)
         ·go_wp2
          go_ret
          exact ⟨ret_bool (HBNN.out _ HVF.out (by rw [HB4.out, if_pos (by omega)])).symm, (TW0.out.and_then (TWB.out.and_then HK.out))⟩
         have HB5 : Hid (fewBl (f.blocks.2.drop (k + 1)) j2 = fewBl f.blocks.2 n9) := by have h := HB4.out; rw [if_neg (by omega)] at h; exact h.symm
         go_wp2
         go_roundw
         case rel => exact ⟨k + 1, j2, by omega, by go_num, rfl, (TWB.out.and_then HK.out), by omega, HB5⟩
         case measure => simp [intOf]; omega
    ·have hltz : ¬ (k : Int) < (f.nb : Int) := by omega
     have HBF : Hid (fewBl f.blocks.2 n9 = some n) := by have hh : k = f.nb := (by omega); have h := HBv.out; rw [hh, ← HNB.out, fewBl_end] at h; exact h.symm
     go_wp2
     go_ret
     exact ⟨ret_bool (HYES.out _ _ (by omega) HVF.out HBF.out).symm, (TW0.out.and_then HK.out)⟩
end Go.Proofs.YtjllbchfojonhaaDoor
namespace Go.Proofs.YtjllbchfojonhaaDoor
open Go.RowKit Go.Shelf Go.Lib
set_option linter.unusedVariables false
set_option linter.unusedSimpArgs false

theorem fewBl_p : ∀ (l : List BlockM) (n : Nat), (fewBl l n).isSome = true → ∀ b ∈ l, b.phis.2.length ≤ 400 ∧ b.insts.2.length ≤ 400 := by
 intro l
 induction l with
 | nil => intro n _ b hb; cases hb
 | cons y l ih =>
  intro n h b hb
  unfold fewBl fewOne at h
  split at h
  ·cases h
  ·rename_i h0
   rcases List.mem_cons.1 hb with rfl | hb
   ·omega
   ·cases h1 : fewPh y.phis.2 (n + (y.name.size + 10 * (y.phis.2.length + y.insts.2.length))) with
    | none => rw [h1] at h; cases h
    | some m =>
     rw [h1] at h
     simp only [Option.bind_some] at h
     cases h2 : fewIn y.insts.2 m with
     | none => rw [h2] at h; cases h
     | some m2 =>
      rw [h2] at h
      simp only [Option.bind_some] at h
      split at h
      ·cases h
      ·exact ih m2 h b hb
theorem fewB_p {f : FuncM} (h : fewB f = true) : FewP f := by
 unfold fewB at h
 split at h
 ·cases h
 ·rename_i h0
  cases h1 : fewV f.vars.2 0 with
  | none => rw [h1] at h; cases h
  | some n =>
   rw [h1] at h
   exact ⟨by omega, by omega, by omega, fewBl_p _ n h⟩
set_option maxRecDepth 100000 in
set_option maxHeartbeats 200000000 in
theorem slot21_any (f : FuncM) (w : World) (ht : Tabs w) (hf : FuncAt w f) : Calls Tryd.prog 21 #[f.val] w fun e w' => e = .returned (.bool (fewB f && (shapedB f && slotB f))) ∧ Keeps w w' [] := by
 have CF := kept (fun W h => few_exact f W h)
 have CS := kept (fun (hq : fewB f = true) W h1 h2 => slotL_any f W h1 h2 (fewB_p hq))
 have HT := kept ht
 obtain ⟨a0, c0, e0, -, -, hc0⟩ := hf.vars.open_
 obtain ⟨a1, c1, e1, -, -, hc1⟩ := (show Row w 1 f.params.1 (f.params.2.map intCells) from hf.params).open_
 obtain ⟨a2, c2, e2, -, -, hc2⟩ := hf.blocks.open_
 have hval : f.val = .agg #[.slice a0 f.nv c0, .slice a1 f.np c1, .slice a2 f.nb c2] := by unfold FuncM.val FuncM.nv FuncM.np FuncM.nb; rw [e0, e1, e2]
 have h1 : #[f.vars.1, f.params.1, f.blocks.1] = #[.slice a0 f.nv c0, .slice a1 f.np c1, .slice a2 f.nb c2] := by unfold FuncM.nv FuncM.np FuncM.nb; rw [e0, e1, e2]
 have HF := kept hf
 have HC0 := kept hc0
 have HC1 := kept hc1
 have HC2 := kept hc2
 have HNV := kept (show f.vars.2.length = f.nv from rfl)
 have HNP := kept (show f.params.2.length = f.np from rfl)
 have HNB := kept (show f.blocks.2.length = f.nb from rfl)
 rw [hval] at CF CS ⊢
 clear e0 e1 e2 hval h1 hf hc0 hc1 hc2 HC0 HC1 HC2 ht
 have hk0 : Keeps w (w.alloc (.cells #[.slice a0 f.nv c0, .slice a1 f.np c1, .slice a2 f.nb c2] 26)) [] := (Keeps.refl _ []).alloc _
 have bb0 := Blk.new w 26 #[.slice a0 f.nv c0, .slice a1 f.np c1, .slice a2 f.nb c2]
 have Bl := kept bb0
 have HK := kept hk0
 obtain ⟨l0, l1, l2⟩ := Bl.out.c3
 simp at l0 l1 l2
 clear hk0 bb0
 go_enter Tryd.func21, Tryd.ntmps21
 cases hq : fewB f with
 | false =>
  rw [hq] at CF
  go_wp2_with (first | (go_at_call 11; refine (CF.out _ (HF.out.keep HK.out)).mono ?_; rintro e w3 ⟨rfl, k3⟩; clear l0 l1 l2; replace Bl := kept (Bl.out.keep k3 (by simp)); replace HK := kept (HK.out.and_then k3); obtain ⟨l0, l1, l2⟩ := Bl.out.c3; simp at l0 l1 l2; clear k3) | fail)
  go_ret
  exact ⟨rfl, HK.out⟩
 | true =>
  have CS2 := kept (CS.out hq)
  rw [hq] at CF
  clear hq CS
  go_wp2_with (first | (go_at_call 11; refine (CF.out _ (HF.out.keep HK.out)).mono ?_; rintro e w3 ⟨rfl, k3⟩; clear l0 l1 l2; replace Bl := kept (Bl.out.keep k3 (by simp)); replace HK := kept (HK.out.and_then k3); obtain ⟨l0, l1, l2⟩ := Bl.out.c3; simp at l0 l1 l2; clear k3) | (go_at_call 16; refine (CS2.out _ (HT.out.keep HK.out) (HF.out.keep HK.out)).mono ?_; rintro e w4 ⟨rfl, k3⟩; clear l0 l1 l2; replace Bl := kept (Bl.out.keep k3 (by simp)); replace HK := kept (HK.out.and_then k3); obtain ⟨l0, l1, l2⟩ := Bl.out.c3; simp at l0 l1 l2; clear k3) | fail)
  go_ret
  exact ⟨ret_bool (by simp), HK.out⟩

end Go.Proofs.YtjllbchfojonhaaDoor
