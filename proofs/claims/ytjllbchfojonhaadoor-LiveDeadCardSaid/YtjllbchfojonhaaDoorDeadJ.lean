/- The law 'LiveDead': the walk. -/
import Derived.Test.YtjllbchfojonhaaDoorDeadP
import Derived.Test.YtjllbchfojonhaaDoorDeadB
import Derived.Test.YtjllbchfojonhaaDoorDeadW
namespace Go.Proofs.YtjllbchfojonhaaDoor
open Go.RowKit
set_option linter.unusedVariables false
set_option linter.unusedSimpArgs false

set_option maxRecDepth 100000 in
set_option maxHeartbeats 200000000 in
theorem typed54_yes (f : FuncM) (w : World) (ht : Tabs w) (hf : FuncAt w f) (hfew : FewP f) (hs : shapedB f = true) (hy : typedB f = true) : Calls Tryd.prog 54 #[f.val] w fun e w' => e = .returned (.bool true) ∧ Keeps w w' [] := by
 have C12 := kept (fun W h1 h2 => shapedL_any f W h1 h2 hfew)
 have C13 := kept (fun W h => refTyped_any f W h hs hfew)
 rw [hs] at C12
 rw [hy] at C13
 have HT := kept ht
 clear hs hy
 obtain ⟨a0, c0, e0, -, -, hc0⟩ := hf.vars.open_
 obtain ⟨a1, c1, e1, -, -, hc1⟩ := (show Row w 1 f.params.1 (f.params.2.map intCells) from hf.params).open_
 obtain ⟨a2, c2, e2, -, -, hc2⟩ := hf.blocks.open_
 have hval : f.val = .agg #[.slice a0 f.nv c0, .slice a1 f.np c1, .slice a2 f.nb c2] := by unfold FuncM.val FuncM.nv FuncM.np FuncM.nb; rw [e0, e1, e2]
 have h1 : #[f.vars.1, f.params.1, f.blocks.1] = #[.slice a0 f.nv c0, .slice a1 f.np c1, .slice a2 f.nb c2] := by unfold FuncM.nv FuncM.np FuncM.nb; rw [e0, e1, e2]
 have HF := kept hf
 have HC0 := kept hc0
 have HC1 := kept hc1
 have HC2 := kept hc2
 have HNV := kept (show f.vars.2.length = f.nv from rfl)
 have HNP := kept (show f.params.2.length = f.np from rfl)
 have HNB := kept (show f.blocks.2.length = f.nb from rfl)
 rw [hval] at C12 C13
 rw [hval]
 clear hval h1 hf ht e0 e1 e2 hc0 hc1 hc2
 have hk0 : Keeps w (w.alloc (.cells #[.slice a0 f.nv c0, .slice a1 f.np c1, .slice a2 f.nb c2] 26)) [] := (Keeps.refl _ []).alloc _
 have bb0 := Blk.new w 26 #[.slice a0 f.nv c0, .slice a1 f.np c1, .slice a2 f.nb c2]
 have Bl := kept bb0
 have HK := kept hk0
 obtain ⟨l0, l1, l2⟩ := Bl.out.c3
 simp at l0 l1 l2
 clear hk0 bb0
 go_enter Tryd.func54, Tryd.ntmps54
 go_wp2_with (first | (go_at_call 12; refine (C12.out _ (HT.out.keep HK.out) (HF.out.keep HK.out)).mono ?_; rintro e w3 ⟨rfl, k3⟩; clear l0 l1 l2; replace Bl := kept (Bl.out.keep k3 (by simp)); replace HK := kept (HK.out.and_then k3); obtain ⟨l0, l1, l2⟩ := Bl.out.c3; simp at l0 l1 l2; clear k3) | (go_at_call 13; refine (C13.out _ (HF.out.keep HK.out)).mono ?_; rintro e w3 ⟨rfl, k3⟩; clear l0 l1 l2; replace Bl := kept (Bl.out.keep k3 (by simp)); replace HK := kept (HK.out.and_then k3); obtain ⟨l0, l1, l2⟩ := Bl.out.c3; simp at l0 l1 l2; clear k3))
 go_ret
 exact ⟨rfl, HK.out⟩

theorem run_litD (f : FuncM) (i : InputM) (k : Nat) (w : World) (h : RunOK w f i) (hk : k ≤ 50000) : Calls Tryd.prog 26 #[f.val, i.val, .int .i64 (k : Nat)] w
  (RunLit w (runOf f i k).ending (runOf f i k).value (runOf f i k).trap (runOf f i k).trace ((runOf f i k).steps : Nat) (fun q => ((runOf f i k).checks[q]! : Nat))) :=
 (run_any f i k w h hk).mono fun x w' ⟨vt, h1, h2, h3, base, h4⟩ => by
  obtain ⟨ua, uc, rfl, _, _⟩ := own_form h4
  exact ⟨⟨_, h1, ua, uc, rfl, base, h4⟩, h3⟩
theorem alike_lit {a c : OutM} (h : AlikeC a c) : c.ending = a.ending ∧ c.value = a.value ∧ c.trap = a.trap ∧ c.trace = a.trace ∧ (fun q : Nat => ((c.checks[q]! : Nat) : Int)) = fun q : Nat => ((a.checks[q]! : Nat) : Int) :=
 ⟨h.1.symm, h.2.1.symm, h.2.2.1.symm, h.2.2.2.1.symm, by rw [h.2.2.2.2]⟩
theorem atL_len (f : FuncM) (b p : Int) : (atL f b p).length ≤ f.nv := by
 unfold atL
 split
 ·unfold liveL natI
  rw [List.length_map]
  exact Nat.le_trans (List.length_filter_le _ _) (by rw [List.length_range]; exact Nat.le_refl _)
 ·exact Nat.zero_le _
theorem walkLiveDead (f : FuncM) (i : InputM) (v b p : Int) (m : Nat) (w : World) (ht : TabsL w) (hf : FuncAt w f) (hi : InputAt w i) (hn : NumsOK f i) (hm : m < 65536) :
  Calls Tryd.prog 7 #[f.val, i.val, .int .i64 v, .int .i64 b, .int .i64 p, .int .u16 (m : Nat)] w fun e w' => e = .returned (.bool true) ∧ Keeps w w' [] := by
 refine dead_walk f i.args.1 i.arrays.1 v b p m w hf hm (fewB f && (shapedB f && slotB f)) (smallB i) (rightZ f i) (atL f b p) (fun W k => lives14_any W (ht.keep k)) (fun W k => slot21_any f W (ht.keep k).tabs (hf.keep k)) (fun W k => small_any i W (hi.keep k)) ?_ ?_ ?_ ?_
 ·intro hs hsm W k
  rw [Bool.and_eq_true, Bool.and_eq_true] at hs
  unfold smallB at hsm
  simp only [Bool.and_eq_true, decide_eq_true_eq] at hsm
  exact right_any f i W (hf.keep k) (hi.keep k) (shaped_np hs.2.1).1 (by omega) (by omega)
 ·intro hs W k
  rw [Bool.and_eq_true] at hs
  exact at22_any f b p W (ht.keep k) (hf.keep k) (fewB_p hs.1)
 ·intro hs
  rw [Bool.and_eq_true] at hs
  have hq := fewB_p hs.1
  have h1 := atL_len f b p
  have h2 := hq.nv
  have h3 := hq.nb
  exact ⟨by omega, by omega, fun y hy => by have := (hq.block y hy).2; omega⟩
 ·intro hs hsm hr k n pl hv hb hp hk hn2 hpl hnot W vi vb va kw hfa
  rw [Bool.and_eq_true] at hs
  obtain ⟨hfew, hss⟩ := hs
  have hsh : shapedB f = true := by rw [Bool.and_eq_true] at hss; exact hss.1
  have hl : ¬ (k : Int) ∈ liveL f n pl := by
   have h9 : atL f b p = liveL f n pl := by
    unfold atL
    rw [if_pos ⟨hss, by subst hb hp; exact ⟨by omega, by omega, by omega, by rw [Int.toNat_natCast]; omega⟩⟩]
    subst hb hp
    rw [Int.toNat_natCast, Int.toNat_natCast]
   rw [h9] at hnot; exact hnot
  obtain ⟨a0, c0, e0, -, -, -⟩ := hf.vars.open_
  have e0' : f.vars.1 = .slice a0 f.nv c0 := e0
  have hfp := fewB_p hfew
  have g1 := put_shaped (va := va) (vn := .slice none 0 0) (vi := vi) (vb := vb) hss hfew hk hn2 hpl
  have g2 := put_slot (va := va) (vn := .slice none 0 0) (vi := vi) (vb := vb) hss hfew hk hn2 hpl
  have g3 := put_few (x := xOf f k va (.slice none 0 0)) (vi := vi) (vb := vb) hss hfew hk hn2 hpl
  have g4 := put_nums (v := k) (place := pl) (va := va) (vn := .slice none 0 0) (vi := vi) (vb := vb) hn hn2
  have g5 : rightZ (f.putF n pl (xOf f k va (.slice none 0 0)) vi vb) i = 0 := hr
  have hok : RunOK W f i := run_ok (hf.keep kw) (hi.keep kw) hss hfp hn hr
  have hog : RunOK W (f.putF n pl (xOf f k va (.slice none 0 0)) vi vb) i := run_ok hfa (hi.keep kw) (by rw [g1, g2]; rfl) g3 g4 g5
  have hd := dead_law (va := va) (vn := .slice none 0 0) (vi := vi) (vb := vb) hss hfew hr hn hk hn2 hpl hl (m % 401)
  have hty : typedB (f.putF n pl (xOf f k va (.slice none 0 0)) vi vb) = true := by unfold slotB at g2; rw [Bool.and_eq_true] at g2; exact g2.1
  have hlong : (runOf f i (m % 401)).trace.length ≤ 4096 :=
   (run_inv (s := beginM f.nv f.tyI i.args.2 (i.arrays.2.map Prod.snd)) hok.phi hok.ok hok.num ⟨hok.good, Nat.le_refl _, hok.nb, Nat.zero_le _⟩ (m % 401)).good.t
  have hgv : (f.putF n pl (xOf f k va (.slice none 0 0)) vi vb).val = .agg #[.slice a0 f.nv c0, f.params.1, vb] := by show Value.agg #[f.vars.1, f.params.1, vb] = _; rw [e0']
  have hfv : f.val = .agg #[.slice a0 f.nv c0, f.params.1, f.blocks.1] := by show Value.agg #[f.vars.1, f.params.1, f.blocks.1] = _; rw [e0']
  generalize f.putF n pl (xOf f k va (.slice none 0 0)) vi vb = g at *
  rw [hfv, e0']
  have hA := fun X (k : Keeps W X []) => run_litD f i (m % 401) X (hok.keep k) (by omega)
  have hB := fun X (k : Keeps W X []) => run_litD g i (2 * (m % 401)) X (hog.keep k) (by omega)
  have hC := fun X (k : Keeps W X []) => run_litD g i (m % 401) X (hog.keep k) (by omega)
  have h54 := fun X (k : Keeps W X []) => typed54_yes g X ((ht.keep kw).keep k).tabs (hfa.keep k) g3 g1 hty
  rw [hfv] at hA
  rw [hgv] at hB hC h54
  rw [show ((2 * (m % 401) : Nat) : Int) = 2 * ((m % 401 : Nat) : Int) by omega] at hB
  exact both_yes a0 a0 f.nv c0 c0 f.params.1 f.blocks.1 f.params.1 vb i.args.1 i.arrays.1 (m % 401) W (by omega) _ _ _ _ _ _ _ _ _ _ _ _ _ _ _ _ _ _ hlong alike_yes eight_self h54 hA hB hC (fun h => alike_lit (hd.1 h)) (fun h => alike_lit (hd.2 h))
end Go.Proofs.YtjllbchfojonhaaDoor
