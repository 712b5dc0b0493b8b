/- The law 'GuardSafe': the walk. -/
import Derived.Test.YtjllbchfojonhaaGreatDoorRJ
import Derived.Test.YtjllbchfojonhaaGreatDoorJW
import Derived.Test.YtjllbchfojonhaaGreatDoorSL
import Derived.Deep.CutBlock
import Derived.Deep.Cut
namespace Go.Proofs.YtjllbchfojonhaaGreatDoor
open Go.RowKit Go.Shelf Go.Lib
set_option linter.unusedVariables false
set_option linter.unusedSimpArgs false
theorem typed_both {f : FuncM} (h : typedE f = 0) : (shapedB f && typedB f) = true := by
 unfold typedE at h; split at h
 ·assumption
 ·cases h
theorem lack_mem {f : FuncM} {b j : Nat} (hb : b < f.nb) (hj : j < f.blocks.2[b]!.insts.2.length) (h : guardD f b j = false) : (b, j) ∈ lackTo f f.nb 0 :=
 List.mem_append_left _ (List.mem_flatMap.2 ⟨b, List.mem_range.2 hb, List.mem_map.2 ⟨j, List.mem_filter.2 ⟨List.mem_range.2 hj, by rw [h]; rfl⟩, rfl⟩⟩)
open Classical in
theorem guardD_is {f : FuncM} {b j : Nat} (h : guardD f b j = true) : GuardP f b j := of_decide_eq_true h
theorem guarded_all {f : FuncM} (h : guardedB f = true) : typedE f = 0 ∧ ∀ b, b < f.nb → ∀ j, j < f.blocks.2[b]!.insts.2.length → GuardP f b j := by
 unfold guardedB at h
 rw [Bool.and_eq_true, decide_eq_true_eq, decide_eq_true_eq] at h
 refine ⟨h.1, fun b hb j hj => ?_⟩
 cases hg : guardD f b j with
 | true => exact guardD_is hg
 | false =>
  have hm := lack_mem hb hj hg
  have h2 := h.2
  unfold placesL at h2
  rw [if_pos h.1] at h2
  rw [List.eq_nil_of_length_eq_zero h2] at hm; cases hm
/-- a little program, typed and joined -/
noncomputable def joined20 (f : FuncM) : Bool := typed10 f && joinedB f
structure LittleJ (f : FuncM) : Prop where
 few : FewP f
 sh : shapedB f = true
 ty : (shapedB f && typedB f) = true
 j : JoinP f
theorem few_nb {f : FuncM} (h : FewP f) : f.nb ≤ 1000 := by have := h.nb; omega
theorem few_phis {f : FuncM} (h : FewP f) (b : Nat) (hb : b < f.nb) : f.blocks.2[b]!.phis.2.length ≤ 100000 := by
 have := (h.block _ (bang_mem (l := f.blocks.2) (k := b) hb)).1; omega
theorem joined20_is {f : FuncM} (h : joined20 f = true) : LittleJ f := by
 unfold joined20 at h
 rw [Bool.and_eq_true, typed10_iff] at h
 obtain ⟨⟨h1, h2⟩, h3⟩ := h
 have hs := typed_both h2
 have hsh : shapedB f = true := by rw [Bool.and_eq_true] at hs; exact hs.1
 exact ⟨few_p h1, hsh, hs, join_all (fun i hi p hp => (phiR_ok hsh hi p hp).2) (joined_is h3)⟩
theorem rem501 (m : Nat) (hm : m < 65536) : ((m : Int).tmod 501 = ((m % 501 : Nat) : Int)) := by
 rw [Int.tmod_eq_emod_of_nonneg (by omega)]; omega
theorem safe_law {f : FuncM} {i : InputM} (hJ : LittleJ f) (hg : guardedB f = true) (k : Nat) : (runOf f i k).ending ≠ 2 := by
 have hb : ∀ b, b < f.nb → BlockOK f.nb f.nv f.tyI f.blocks.2[b]! := fun b hb => blockR_ok hJ.ty hb
 exact safe_run (ty := f.tyI) ⟨hb, fun b hb p hp => (phiR_ok hJ.sh hb p hp).1, hJ.j, (guarded_all hg).2⟩ k (safe_begin _ _ _ (by have := (shaped_np hJ.sh).2; omega))
def OutLit (v : Value) (z : Int) : Prop := ∃ (a b : Int) (sa : Option Addr) (sn sc : Nat) (d x0 x1 x2 x3 x4 x5 x6 x7 : Int), v = .agg #[.int .i64 z, .int .i64 a, .int .i64 b, .slice sa sn sc, .int .i64 d, .int .i64 x0, .int .i64 x1, .int .i64 x2, .int .i64 x3, .int .i64 x4, .int .i64 x5, .int .i64 x6, .int .i64 x7]
theorem kout0 (z a b : Int) (sa : Option Addr) (sn sc : Nat) (d x0 x1 x2 x3 x4 x5 x6 x7 : Int) : ∀ w, (Instr.field 67 (.agg #[.int .i64 z, .int .i64 a, .int .i64 b, .slice sa sn sc, .int .i64 d, .int .i64 x0, .int .i64 x1, .int .i64 x2, .int .i64 x3, .int .i64 x4, .int .i64 x5, .int .i64 x6, .int .i64 x7]) 0).run Tryz.prog w = .ok (.int .i64 z) w := by intro w; kernel_rfl
theorem run_lit (f : FuncM) (i : InputM) (k : Nat) (w : World) (h : RunOK w f i) (hk : k ≤ 50000) : Calls Tryz.prog 23 #[f.val, i.val, .int .i64 (k : Nat)] w fun x w' => (∃ v, x = .returned v ∧ OutLit v (runOf f i k).ending) ∧ Keeps w w' [] :=
 (run_any f i k w h hk).mono fun x w' ⟨vt, h1, h2, h3, _⟩ => by
  obtain ⟨ta, tc, rfl, _⟩ := h2
  exact ⟨⟨_, h1, _, _, ta, _, tc, _, _, _, _, _, _, _, _, _, rfl⟩, h3⟩
set_option maxRecDepth 100000 in
set_option maxHeartbeats 200000000 in
theorem joined20_any (f : FuncM) (w : World) (ht : Tabs w) (hf : FuncAt w f) : Calls Tryz.prog 20 #[f.val] w fun e w' => e = .returned (.bool (joined20 f)) ∧ Keeps w w' [] := by
 have C9 := kept (fun W h1 (h2 : FuncAt W f) => typed10_any f W h1 h2)
 have C41 := kept (fun (hT : typed10 f = true) W (h : FuncAt W f) => joined41_any f W h (few_nb (few_p (typed10_iff.1 hT).1)) (fun i hi p hp => (phiR_ok (by have h9 := typed_both (typed10_iff.1 hT).2; rw [Bool.and_eq_true] at h9; exact h9.1) hi p hp).2) (few_phis (few_p (typed10_iff.1 hT).1)))
 have HTB := kept ht
 have HT0 := kept (show joined20 f = (typed10 f && joinedB f) from rfl)
 generalize joined20 f = R at *
 obtain ⟨a0, c0, a1, c1, a2, c2, e0, e1, e2, hval, h1, HF, HC0, HC1, HC2, HNV, HNP, HNB⟩ := fopen hf
 rw [hval] at C9 C41 ⊢
 clear hval h1 e0 e1 e2 hf HC0 HC1 HC2 ht
 obtain ⟨HK, Bl⟩ := fbox w 26 #[.slice a0 f.nv c0, .slice a1 f.np c1, .slice a2 f.nb c2]
 obtain ⟨l0, l1, l2⟩ := Bl.out.c3
 simp at l0 l1 l2
 go_enter Tryz.func20, Tryz.ntmps20
 cases hS : typed10 f with
 | false =>
  rw [hS] at C9 HT0
  clear C41 hS
  go_wp2_with (first | (go_at_call 9; refine (C9.out _ (HTB.out.keep HK.out) (HF.out.keep HK.out)).mono ?_; rintro e w3 ⟨rfl, k3⟩; clear l0 l1 l2; replace Bl := kept (Bl.out.keep k3 (by simp)); replace HK := kept (HK.out.and_then k3); obtain ⟨l0, l1, l2⟩ := Bl.out.c3; simp at l0 l1 l2; clear k3))
  go_ret
  exact ⟨ret_bool (by rw [HT0.out]; simp [*]), HK.out⟩
 | true =>
  have C41x := kept (C41.out hS)
  clear C41
  rw [hS] at C9 HT0
  clear hS
  generalize joinedB f = T at *
  cases T
  ·go_wp2_with (first | (go_at_call 9; refine (C9.out _ (HTB.out.keep HK.out) (HF.out.keep HK.out)).mono ?_; rintro e w3 ⟨rfl, k3⟩; clear l0 l1 l2; replace Bl := kept (Bl.out.keep k3 (by simp)); replace HK := kept (HK.out.and_then k3); obtain ⟨l0, l1, l2⟩ := Bl.out.c3; simp at l0 l1 l2; clear k3) | (go_at_call 41; refine (C41x.out _ (HF.out.keep HK.out)).mono ?_; rintro e w3 ⟨rfl, k3⟩; clear l0 l1 l2; replace Bl := kept (Bl.out.keep k3 (by simp)); replace HK := kept (HK.out.and_then k3); obtain ⟨l0, l1, l2⟩ := Bl.out.c3; simp at l0 l1 l2; clear k3))
   go_ret
   exact ⟨ret_bool (by rw [HT0.out]; simp [*]), HK.out⟩
  ·go_wp2_with (first | (go_at_call 9; refine (C9.out _ (HTB.out.keep HK.out) (HF.out.keep HK.out)).mono ?_; rintro e w3 ⟨rfl, k3⟩; clear l0 l1 l2; replace Bl := kept (Bl.out.keep k3 (by simp)); replace HK := kept (HK.out.and_then k3); obtain ⟨l0, l1, l2⟩ := Bl.out.c3; simp at l0 l1 l2; clear k3) | (go_at_call 41; refine (C41x.out _ (HF.out.keep HK.out)).mono ?_; rintro e w3 ⟨rfl, k3⟩; clear l0 l1 l2; replace Bl := kept (Bl.out.keep k3 (by simp)); replace HK := kept (HK.out.and_then k3); obtain ⟨l0, l1, l2⟩ := Bl.out.c3; simp at l0 l1 l2; clear k3))
   go_ret
   exact ⟨ret_bool (by rw [HT0.out]; simp [*]), HK.out⟩
set_option maxRecDepth 100000 in
set_option maxHeartbeats 200000000 in
theorem walkGuardSafe (f : FuncM) (i : InputM) (m : Nat) (w : World) (ht : Tabs w) (hf : FuncAt w f) (hi : InputAt w i) (hn : NumsOK f i) (hm : m < 65536) : Calls Tryz.prog 5 #[f.val, i.val, .int .u16 (m : Nat)] w fun e w' => e = .returned (.bool true) ∧ Keeps w w' [] := by
 have CLv := kept (fun W h => lives8_any W h)
 have C20 := kept (fun W h1 (h2 : FuncAt W f) => joined20_any f W h1 h2)
 have CSM := kept (fun W h => small_any i W h)
 have CRT := kept (fun hp h1 h2 W hF hI => rightR_any f i W hF hI hp h1 h2)
 have C18 := kept (fun (hT : FewP f) W h1 (h2 : FuncAt W f) => guarded18_any f W h1 h2 hT)
 have HTB := kept ht
 have HI := kept hi
 have HNU := kept hn
 obtain ⟨b0, d0, g0, -, -, -⟩ := hi.args.open_
 obtain ⟨b1, d1, g1, -, -, -⟩ := hi.arrays.open_
 obtain ⟨a0, c0, a1, c1, a2, c2, e0, e1, e2, hval, h1, HF, HC0, HC1, HC2, HNV, HNP, HNB⟩ := fopen hf
 have hvi : i.val = .agg #[.slice b0 i.args.2.length d0, .slice b1 i.arrays.2.length d1] := by unfold InputM.val; rw [g0, g1]
 have HVI := kept hvi
 have HVF := kept hval
 rw [hval] at C20 CRT C18
 rw [hvi] at CSM CRT
 rw [hval, hvi]
 clear hval hvi h1 e0 e1 e2 hf HC0 HC1 HC2 ht g0 g1 hi hn
 generalize hna : i.args.2.length = na at *
 generalize hnr : i.arrays.2.length = nr at *
 have HNA := kept hna
 have HNR := kept hnr
 clear hna hnr
 have hk0 : Keeps w (w.alloc (.cells #[.slice a0 f.nv c0, .slice a1 f.np c1, .slice a2 f.nb c2] 26)) [] := (Keeps.refl _ []).alloc _
 have bb0 := Blk.new w 26 #[.slice a0 f.nv c0, .slice a1 f.np c1, .slice a2 f.nb c2]
 have hk1 : Keeps (w.alloc (.cells #[.slice a0 f.nv c0, .slice a1 f.np c1, .slice a2 f.nb c2] 26)) ((w.alloc (.cells #[.slice a0 f.nv c0, .slice a1 f.np c1, .slice a2 f.nb c2] 26)).alloc (.cells #[.slice b0 na d0, .slice b1 nr d1] 57)) [] := (Keeps.refl _ []).alloc _
 have bb1 := Blk.new (w.alloc (.cells #[.slice a0 f.nv c0, .slice a1 f.np c1, .slice a2 f.nb c2] 26)) 57 #[.slice b0 na d0, .slice b1 nr d1]
 rw [show (w.alloc (.cells #[.slice a0 f.nv c0, .slice a1 f.np c1, .slice a2 f.nb c2] 26)).heap.size = w.heap.size + 1 by show (Array.push _ _).size = _; simp [Array.size_push]] at bb1
 have Bl := kept (bb0.keep hk1 (by simp))
 have Bm := kept bb1
 have HK := kept (hk0.and_then hk1)
 obtain ⟨l0, l1, l2⟩ := Bl.out.c3
 obtain ⟨m0, m1⟩ := Bm.out.c2
 simp at l0 l1 l2 m0 m1
 clear hk0 hk1 bb0 bb1
 go_enter Tryz.func5, Tryz.ntmps5
 cases h20 : joined20 f with
 | false =>
  rw [h20] at C20
  clear h20
  go_wp2_with (first | (go_at_call 8; refine (CLv.out _ (HTB.out.keep HK.out)).mono ?_; rintro e w3 ⟨rfl, k3⟩; clear l0 l1 l2 m0 m1; replace Bl := kept (Bl.out.keep k3 (by simp)); replace Bm := kept (Bm.out.keep k3 (by simp)); replace HK := kept (HK.out.and_then k3); obtain ⟨l0, l1, l2⟩ := Bl.out.c3; obtain ⟨m0, m1⟩ := Bm.out.c2; simp at l0 l1 l2 m0 m1; clear k3) | (go_at_call 20; refine (C20.out _ (HTB.out.keep HK.out) (HF.out.keep HK.out)).mono ?_; rintro e w3 ⟨rfl, k3⟩; clear l0 l1 l2 m0 m1; replace Bl := kept (Bl.out.keep k3 (by simp)); replace Bm := kept (Bm.out.keep k3 (by simp)); replace HK := kept (HK.out.and_then k3); obtain ⟨l0, l1, l2⟩ := Bl.out.c3; obtain ⟨m0, m1⟩ := Bm.out.c2; simp at l0 l1 l2 m0 m1; clear k3))
  go_ret
  exact ⟨rfl, HK.out⟩
 | true =>
  have HJ := kept (joined20_is h20)
  rw [h20] at C20
  clear h20
  have C18x := kept (C18.out HJ.out.few)
  clear C18
  have hnp9 := (shaped_np HJ.out.sh).1
  have HNPV := kept hnp9
  clear hnp9
  cases hSM : smallB i with
  | false =>
   rw [hSM] at CSM
   clear hSM
   go_wp2_with (first | (go_at_call 8; refine (CLv.out _ (HTB.out.keep HK.out)).mono ?_; rintro e w3 ⟨rfl, k3⟩; clear l0 l1 l2 m0 m1; replace Bl := kept (Bl.out.keep k3 (by simp)); replace Bm := kept (Bm.out.keep k3 (by simp)); replace HK := kept (HK.out.and_then k3); obtain ⟨l0, l1, l2⟩ := Bl.out.c3; obtain ⟨m0, m1⟩ := Bm.out.c2; simp at l0 l1 l2 m0 m1; clear k3) | (go_at_call 20; refine (C20.out _ (HTB.out.keep HK.out) (HF.out.keep HK.out)).mono ?_; rintro e w3 ⟨rfl, k3⟩; clear l0 l1 l2 m0 m1; replace Bl := kept (Bl.out.keep k3 (by simp)); replace Bm := kept (Bm.out.keep k3 (by simp)); replace HK := kept (HK.out.and_then k3); obtain ⟨l0, l1, l2⟩ := Bl.out.c3; obtain ⟨m0, m1⟩ := Bm.out.c2; simp at l0 l1 l2 m0 m1; clear k3) | (go_at_call 21; refine (CSM.out _ (HI.out.keep HK.out)).mono ?_; rintro e w3 ⟨rfl, k3⟩; clear l0 l1 l2 m0 m1; replace Bl := kept (Bl.out.keep k3 (by simp)); replace Bm := kept (Bm.out.keep k3 (by simp)); replace HK := kept (HK.out.and_then k3); obtain ⟨l0, l1, l2⟩ := Bl.out.c3; obtain ⟨m0, m1⟩ := Bm.out.c2; simp at l0 l1 l2 m0 m1; clear k3))
   go_ret
   exact ⟨rfl, HK.out⟩
  | true =>
   rw [hSM] at CSM
   have hsm := hSM
   unfold smallB at hsm
   simp only [Bool.and_eq_true, decide_eq_true_eq] at hsm
   have h20 : na ≤ 20 := by have := hsm.1; have := HNA.out; omega
   have h40 : nr ≤ 40 := by have := hsm.2.1; have := HNR.out; omega
   clear hsm hSM
   by_cases hR : rightZ f i = 0
   ·have HOKW := kept (run_ok (w := w) HF.out HI.out HJ.out.ty HJ.out.few HNU.out hR HJ.out.j)
    rw [hR] at CRT
    clear hR
    cases hG : guardedB f with
    | false =>
     rw [hG] at C18x
     clear hG
     go_wp2_with (first | (go_at_call 8; refine (CLv.out _ (HTB.out.keep HK.out)).mono ?_; rintro e w3 ⟨rfl, k3⟩; clear l0 l1 l2 m0 m1; replace Bl := kept (Bl.out.keep k3 (by simp)); replace Bm := kept (Bm.out.keep k3 (by simp)); replace HK := kept (HK.out.and_then k3); obtain ⟨l0, l1, l2⟩ := Bl.out.c3; obtain ⟨m0, m1⟩ := Bm.out.c2; simp at l0 l1 l2 m0 m1; clear k3) | (go_at_call 20; refine (C20.out _ (HTB.out.keep HK.out) (HF.out.keep HK.out)).mono ?_; rintro e w3 ⟨rfl, k3⟩; clear l0 l1 l2 m0 m1; replace Bl := kept (Bl.out.keep k3 (by simp)); replace Bm := kept (Bm.out.keep k3 (by simp)); replace HK := kept (HK.out.and_then k3); obtain ⟨l0, l1, l2⟩ := Bl.out.c3; obtain ⟨m0, m1⟩ := Bm.out.c2; simp at l0 l1 l2 m0 m1; clear k3) | (go_at_call 21; refine (CSM.out _ (HI.out.keep HK.out)).mono ?_; rintro e w3 ⟨rfl, k3⟩; clear l0 l1 l2 m0 m1; replace Bl := kept (Bl.out.keep k3 (by simp)); replace Bm := kept (Bm.out.keep k3 (by simp)); replace HK := kept (HK.out.and_then k3); obtain ⟨l0, l1, l2⟩ := Bl.out.c3; obtain ⟨m0, m1⟩ := Bm.out.c2; simp at l0 l1 l2 m0 m1; clear k3) | (go_at_call 22; refine (CRT.out HNPV.out (by omega) (by omega) _ (HF.out.keep HK.out) (HI.out.keep HK.out)).mono ?_; rintro e w3 ⟨rfl, k3⟩; clear l0 l1 l2 m0 m1; replace Bl := kept (Bl.out.keep k3 (by simp)); replace Bm := kept (Bm.out.keep k3 (by simp)); replace HK := kept (HK.out.and_then k3); obtain ⟨l0, l1, l2⟩ := Bl.out.c3; obtain ⟨m0, m1⟩ := Bm.out.c2; simp at l0 l1 l2 m0 m1; clear k3) | (go_at_call 18; refine (C18x.out _ (HTB.out.keep HK.out) (HF.out.keep HK.out)).mono ?_; rintro e w3 ⟨rfl, k3⟩; clear l0 l1 l2 m0 m1; replace Bl := kept (Bl.out.keep k3 (by simp)); replace Bm := kept (Bm.out.keep k3 (by simp)); replace HK := kept (HK.out.and_then k3); obtain ⟨l0, l1, l2⟩ := Bl.out.c3; obtain ⟨m0, m1⟩ := Bm.out.c2; simp at l0 l1 l2 m0 m1; clear k3))
     go_ret
     exact ⟨rfl, HK.out⟩
    | true =>
     have HSL := kept (safe_law (i := i) HJ.out hG (m % 501))
     rw [hG] at C18x
     clear hG
     have hr1 := rem501 m hm
     have hr2 : IntKind.u16.wrap ((m % 501 : Nat) : Int) = ((m % 501 : Nat) : Int) := by rw [show IntKind.u16.wrap ((m % 501 : Nat) : Int) = ((m % 501 : Nat) : Int) % 65536 from rfl]; omega
     have hr3 : IntKind.i64.wrap ((m % 501 : Nat) : Int) = ((m % 501 : Nat) : Int) := IntWalk.i64_in _ (by omega)
     have HKB := kept (show m % 501 ≤ 500 by omega)
     generalize m % 501 = kk at *
     have CRK := kept (fun W h => run_lit f i kk W h (by have := HKB.out; omega))
     rw [HVF.out, HVI.out] at CRK
     generalize (runOf f i kk).ending = ez at *
     have HEZ := kept (show (ez != 2) = true by simpa using HSL.out)
     clear HSL
     go_wp2_with (first | (go_at_call 8; refine (CLv.out _ (HTB.out.keep HK.out)).mono ?_; rintro e w3 ⟨rfl, k3⟩; clear l0 l1 l2 m0 m1; replace Bl := kept (Bl.out.keep k3 (by simp)); replace Bm := kept (Bm.out.keep k3 (by simp)); replace HK := kept (HK.out.and_then k3); obtain ⟨l0, l1, l2⟩ := Bl.out.c3; obtain ⟨m0, m1⟩ := Bm.out.c2; simp at l0 l1 l2 m0 m1; clear k3) | (go_at_call 20; refine (C20.out _ (HTB.out.keep HK.out) (HF.out.keep HK.out)).mono ?_; rintro e w3 ⟨rfl, k3⟩; clear l0 l1 l2 m0 m1; replace Bl := kept (Bl.out.keep k3 (by simp)); replace Bm := kept (Bm.out.keep k3 (by simp)); replace HK := kept (HK.out.and_then k3); obtain ⟨l0, l1, l2⟩ := Bl.out.c3; obtain ⟨m0, m1⟩ := Bm.out.c2; simp at l0 l1 l2 m0 m1; clear k3) | (go_at_call 21; refine (CSM.out _ (HI.out.keep HK.out)).mono ?_; rintro e w3 ⟨rfl, k3⟩; clear l0 l1 l2 m0 m1; replace Bl := kept (Bl.out.keep k3 (by simp)); replace Bm := kept (Bm.out.keep k3 (by simp)); replace HK := kept (HK.out.and_then k3); obtain ⟨l0, l1, l2⟩ := Bl.out.c3; obtain ⟨m0, m1⟩ := Bm.out.c2; simp at l0 l1 l2 m0 m1; clear k3) | (go_at_call 22; refine (CRT.out HNPV.out (by omega) (by omega) _ (HF.out.keep HK.out) (HI.out.keep HK.out)).mono ?_; rintro e w3 ⟨rfl, k3⟩; clear l0 l1 l2 m0 m1; replace Bl := kept (Bl.out.keep k3 (by simp)); replace Bm := kept (Bm.out.keep k3 (by simp)); replace HK := kept (HK.out.and_then k3); obtain ⟨l0, l1, l2⟩ := Bl.out.c3; obtain ⟨m0, m1⟩ := Bm.out.c2; simp at l0 l1 l2 m0 m1; clear k3) | (go_at_call 18; refine (C18x.out _ (HTB.out.keep HK.out) (HF.out.keep HK.out)).mono ?_; rintro e w3 ⟨rfl, k3⟩; clear l0 l1 l2 m0 m1; replace Bl := kept (Bl.out.keep k3 (by simp)); replace Bm := kept (Bm.out.keep k3 (by simp)); replace HK := kept (HK.out.and_then k3); obtain ⟨l0, l1, l2⟩ := Bl.out.c3; obtain ⟨m0, m1⟩ := Bm.out.c2; simp at l0 l1 l2 m0 m1; clear k3) | (go_at_call 23; refine (CRK.out _ (HOKW.out.keep HK.out)).mono ?_; rintro e w3 ⟨⟨ov, rfl, hol⟩, k3⟩; obtain ⟨y1, y2, sa, sn, sc, y3, y4, y5, y6, y7, y8, y9, y10, y11, rfl⟩ := hol; have hkf := kout0 ez y1 y2 sa sn sc y3 y4 y5 y6 y7 y8 y9 y10 y11; clear l0 l1 l2 m0 m1; replace Bl := kept (Bl.out.keep k3 (by simp)); replace Bm := kept (Bm.out.keep k3 (by simp)); replace HK := kept (HK.out.and_then k3); obtain ⟨l0, l1, l2⟩ := Bl.out.c3; obtain ⟨m0, m1⟩ := Bm.out.c2; simp at l0 l1 l2 m0 m1; clear k3))
     go_ret
     exact ⟨ret_bool HEZ.out, HK.out⟩
   ·have hRb : (rightZ f i == 0) = false := by simpa using hR
    generalize rightZ f i = rz at *
    clear hR
    go_wp2_with (first | (go_at_call 8; refine (CLv.out _ (HTB.out.keep HK.out)).mono ?_; rintro e w3 ⟨rfl, k3⟩; clear l0 l1 l2 m0 m1; replace Bl := kept (Bl.out.keep k3 (by simp)); replace Bm := kept (Bm.out.keep k3 (by simp)); replace HK := kept (HK.out.and_then k3); obtain ⟨l0, l1, l2⟩ := Bl.out.c3; obtain ⟨m0, m1⟩ := Bm.out.c2; simp at l0 l1 l2 m0 m1; clear k3) | (go_at_call 20; refine (C20.out _ (HTB.out.keep HK.out) (HF.out.keep HK.out)).mono ?_; rintro e w3 ⟨rfl, k3⟩; clear l0 l1 l2 m0 m1; replace Bl := kept (Bl.out.keep k3 (by simp)); replace Bm := kept (Bm.out.keep k3 (by simp)); replace HK := kept (HK.out.and_then k3); obtain ⟨l0, l1, l2⟩ := Bl.out.c3; obtain ⟨m0, m1⟩ := Bm.out.c2; simp at l0 l1 l2 m0 m1; clear k3) | (go_at_call 21; refine (CSM.out _ (HI.out.keep HK.out)).mono ?_; rintro e w3 ⟨rfl, k3⟩; clear l0 l1 l2 m0 m1; replace Bl := kept (Bl.out.keep k3 (by simp)); replace Bm := kept (Bm.out.keep k3 (by simp)); replace HK := kept (HK.out.and_then k3); obtain ⟨l0, l1, l2⟩ := Bl.out.c3; obtain ⟨m0, m1⟩ := Bm.out.c2; simp at l0 l1 l2 m0 m1; clear k3) | (go_at_call 22; refine (CRT.out HNPV.out (by omega) (by omega) _ (HF.out.keep HK.out) (HI.out.keep HK.out)).mono ?_; rintro e w3 ⟨rfl, k3⟩; clear l0 l1 l2 m0 m1; replace Bl := kept (Bl.out.keep k3 (by simp)); replace Bm := kept (Bm.out.keep k3 (by simp)); replace HK := kept (HK.out.and_then k3); obtain ⟨l0, l1, l2⟩ := Bl.out.c3; obtain ⟨m0, m1⟩ := Bm.out.c2; simp at l0 l1 l2 m0 m1; clear k3))
    go_ret
    exact ⟨rfl, HK.out⟩
end Go.Proofs.YtjllbchfojonhaaGreatDoor
