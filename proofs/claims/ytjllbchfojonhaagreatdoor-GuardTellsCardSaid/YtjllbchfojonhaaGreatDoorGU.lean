/- Of a typed program: graph.Order, Preds, Reach; slices.Repeat of one bool; contracts. -/
import Derived.Test.YtjllbchfojonhaaGreatDoorGT
import Derived.Test.YtjllbchfojonhaaGreatDoorTypB
import Derived.Laws.CopyOwn
import Derived.Deep.RegionLaw
import Derived.Deep.CutBlock
import Derived.Deep.Cut
namespace Go.Proofs.YtjllbchfojonhaaGreatDoor
open Go.RowKit Go.Shelf Go.Lib
set_option linter.unusedVariables false
set_option linter.unusedSimpArgs false

theorem typed_shaped {f : FuncM} (h : typedE f = 0) : shapedB f = true ∧ typedB f = true := by
  unfold typedE at h
  by_cases e : (shapedB f && typedB f) = true
  · rw [Bool.and_eq_true] at e; exact e
  · rw [if_neg e] at h; omega
theorem ends_ok {f : FuncM} (h : typedE f = 0) (hfew : FewP f) : EndsOK f := by
  obtain ⟨hS, _⟩ := typed_shaped h
  have hb := shaped_blocks hS
  have hnb : 1 ≤ f.nb := by
    unfold shapedB namesB at hS
    simp only [Bool.and_eq_true, decide_eq_true_eq] at hS
    omega
  exact ⟨by omega, by have := hfew.nb; omega, fun c hc => (hb _ (bang_mem hc)).2.2⟩

set_option maxRecDepth 100000 in
set_option maxHeartbeats 200000000 in
theorem right_any (f : FuncM) (w : World) (ht : Tabs w) (hf : FuncAt w f) (hfew : FewP f) (hT : typedE f = 0) : Calls Tryz.prog 100 #[f.val] w fun e w' => e = .returned (.bool true) ∧ Keeps w w' [] := by
  have CT := kept (fun W h1 (h2 : FuncAt W f) => typedF_any f W h1 h2 hfew)
  rw [hT] at CT
  have HTB := kept ht
  obtain ⟨a0, c0, e0, -, -, hc0⟩ := hf.vars.open_
  obtain ⟨a1, c1, e1, -, -, hc1⟩ := (show Row w 1 f.params.1 (f.params.2.map intCells) from hf.params).open_
  obtain ⟨a2, c2, e2, -, -, hc2⟩ := hf.blocks.open_
  have hval : f.val = .agg #[.slice a0 f.nv c0, .slice a1 f.np c1, .slice a2 f.nb c2] := by unfold FuncM.val FuncM.nv FuncM.np FuncM.nb; rw [e0, e1, e2]
  have h1 : #[f.vars.1, f.params.1, f.blocks.1] = #[.slice a0 f.nv c0, .slice a1 f.np c1, .slice a2 f.nb c2] := by unfold FuncM.nv FuncM.np FuncM.nb; rw [e0, e1, e2]
  have HF := kept hf
  have HC0 := kept hc0
  have HC1 := kept hc1
  have HC2 := kept hc2
  have HNV := kept (show f.vars.2.length = f.nv from rfl)
  have HNP := kept (show f.params.2.length = f.np from rfl)
  have HNB := kept (show f.blocks.2.length = f.nb from rfl)
  rw [hval] at CT ⊢
  clear hval h1 e0 e1 e2 hc0 hc1 hc2 hf HC0 HC1 HC2 ht hT
  have hk0 : Keeps w (w.alloc (.cells #[.slice a0 f.nv c0, .slice a1 f.np c1, .slice a2 f.nb c2] 26)) [] := (Keeps.refl _ []).alloc _
  have bb0 := Blk.new w 26 #[.slice a0 f.nv c0, .slice a1 f.np c1, .slice a2 f.nb c2]
  have Bl := kept bb0
  have HK := kept hk0
  obtain ⟨l0, l1, l2⟩ := Bl.out.c3
  simp at l0 l1 l2
  clear hk0 bb0
  go_enter Tryz.func100, Tryz.ntmps100
  go_wp2_with (first | (go_at_call 33; refine (CT.out _ (HTB.out.keep HK.out) (HF.out.keep HK.out)).mono ?_; rintro e w3 ⟨rfl, k3⟩; clear l0 l1 l2; replace Bl := kept (Bl.out.keep k3 (by simp)); replace HK := kept (HK.out.and_then k3); obtain ⟨l0, l1, l2⟩ := Bl.out.c3; simp at l0 l1 l2; clear k3))
  go_ret
  exact ⟨rfl, HK.out⟩

set_option maxRecDepth 100000 in
set_option maxHeartbeats 200000000 in
theorem orderT_any (f : FuncM) (w : World) (ht : Tabs w) (hf : FuncAt w f) (hfew : FewP f) (hT : typedE f = 0) : Calls Tryz.prog 61 #[f.val] w fun e w' => (∃ v, e = .returned v ∧ ∃ ord, w'.ownsRow w.heap.size 3 1 v ord.length (natV ord) ∧ OrdOK f ord) ∧ Keeps w w' [] := by
  have CR := kept (fun W h1 (h2 : FuncAt W f) => right_any f W h1 h2 hfew hT)
  have CI := kept (fun W (h2 : FuncAt W f) => order_any f W h2 (ends_ok hT hfew))
  have HTB := kept ht
  obtain ⟨a0, c0, e0, -, -, hc0⟩ := hf.vars.open_
  obtain ⟨a1, c1, e1, -, -, hc1⟩ := (show Row w 1 f.params.1 (f.params.2.map intCells) from hf.params).open_
  obtain ⟨a2, c2, e2, -, -, hc2⟩ := hf.blocks.open_
  have hval : f.val = .agg #[.slice a0 f.nv c0, .slice a1 f.np c1, .slice a2 f.nb c2] := by unfold FuncM.val FuncM.nv FuncM.np FuncM.nb; rw [e0, e1, e2]
  have h1 : #[f.vars.1, f.params.1, f.blocks.1] = #[.slice a0 f.nv c0, .slice a1 f.np c1, .slice a2 f.nb c2] := by unfold FuncM.nv FuncM.np FuncM.nb; rw [e0, e1, e2]
  have HF := kept hf
  have HC0 := kept hc0
  have HC1 := kept hc1
  have HC2 := kept hc2
  have HNV := kept (show f.vars.2.length = f.nv from rfl)
  have HNP := kept (show f.params.2.length = f.np from rfl)
  have HNB := kept (show f.blocks.2.length = f.nb from rfl)
  rw [hval] at CR CI ⊢
  clear hval h1 e0 e1 e2 hc0 hc1 hc2 hf HC0 HC1 HC2 ht hT
  have hk0 : Keeps w (w.alloc (.cells #[.slice a0 f.nv c0, .slice a1 f.np c1, .slice a2 f.nb c2] 26)) [] := (Keeps.refl _ []).alloc _
  have bb0 := Blk.new w 26 #[.slice a0 f.nv c0, .slice a1 f.np c1, .slice a2 f.nb c2]
  have Bl := kept bb0
  have HK := kept hk0
  obtain ⟨l0, l1, l2⟩ := Bl.out.c3
  simp at l0 l1 l2
  clear hk0 bb0
  go_enter Tryz.func61, Tryz.ntmps61
  go_upto_region 3 with (first | (go_at_call 100; refine (CR.out _ (HTB.out.keep HK.out) (HF.out.keep HK.out)).mono ?_; rintro e w3 ⟨rfl, k3⟩; clear l0 l1 l2; replace Bl := kept (Bl.out.keep k3 (by simp)); replace HK := kept (HK.out.and_then k3); obtain ⟨l0, l1, l2⟩ := Bl.out.c3; simp at l0 l1 l2; clear k3))
  have hz := HK.out.size
  go_wp2_with (first | (go_at_call 103; refine (CI.out _ (HF.out.keep HK.out)).mono ?_; rintro e w3 ⟨⟨ov, ord, rfl, hown, hord⟩, k3⟩; have OO := kept hown; have HO := kept hord; clear hown hord; clear l0 l1 l2; replace Bl := kept (Bl.out.keep k3 (by simp)); replace HK := kept (HK.out.and_then k3); obtain ⟨l0, l1, l2⟩ := Bl.out.c3; simp at l0 l1 l2; clear k3))
  go_ret
  exact ⟨⟨_, rfl, _, own_low OO.out hz, HO.out⟩, HK.out⟩

set_option maxRecDepth 100000 in
set_option maxHeartbeats 200000000 in
theorem reachT_any (f : FuncM) (w : World) (ht : Tabs w) (hf : FuncAt w f) (hfew : FewP f) (hT : typedE f = 0) : Calls Tryz.prog 59 #[f.val] w fun e w' => (∃ v, e = .returned v ∧ ∃ th, w'.ownsRow w.heap.size 4 1 v f.nb (bitV th) ∧ ReachOK f th) ∧ Keeps w w' [] := by
  have CR := kept (fun W h1 (h2 : FuncAt W f) => right_any f W h1 h2 hfew hT)
  have CI := kept (fun W (h2 : FuncAt W f) => reach_any f W h2 (ends_ok hT hfew))
  have HTB := kept ht
  obtain ⟨a0, c0, e0, -, -, hc0⟩ := hf.vars.open_
  obtain ⟨a1, c1, e1, -, -, hc1⟩ := (show Row w 1 f.params.1 (f.params.2.map intCells) from hf.params).open_
  obtain ⟨a2, c2, e2, -, -, hc2⟩ := hf.blocks.open_
  have hval : f.val = .agg #[.slice a0 f.nv c0, .slice a1 f.np c1, .slice a2 f.nb c2] := by unfold FuncM.val FuncM.nv FuncM.np FuncM.nb; rw [e0, e1, e2]
  have h1 : #[f.vars.1, f.params.1, f.blocks.1] = #[.slice a0 f.nv c0, .slice a1 f.np c1, .slice a2 f.nb c2] := by unfold FuncM.nv FuncM.np FuncM.nb; rw [e0, e1, e2]
  have HF := kept hf
  have HC0 := kept hc0
  have HC1 := kept hc1
  have HC2 := kept hc2
  have HNV := kept (show f.vars.2.length = f.nv from rfl)
  have HNP := kept (show f.params.2.length = f.np from rfl)
  have HNB := kept (show f.blocks.2.length = f.nb from rfl)
  rw [hval] at CR CI ⊢
  clear hval h1 e0 e1 e2 hc0 hc1 hc2 hf HC0 HC1 HC2 ht hT
  have hk0 : Keeps w (w.alloc (.cells #[.slice a0 f.nv c0, .slice a1 f.np c1, .slice a2 f.nb c2] 26)) [] := (Keeps.refl _ []).alloc _
  have bb0 := Blk.new w 26 #[.slice a0 f.nv c0, .slice a1 f.np c1, .slice a2 f.nb c2]
  have Bl := kept bb0
  have HK := kept hk0
  obtain ⟨l0, l1, l2⟩ := Bl.out.c3
  simp at l0 l1 l2
  clear hk0 bb0
  go_enter Tryz.func59, Tryz.ntmps59
  go_upto_region 3 with (first | (go_at_call 100; refine (CR.out _ (HTB.out.keep HK.out) (HF.out.keep HK.out)).mono ?_; rintro e w3 ⟨rfl, k3⟩; clear l0 l1 l2; replace Bl := kept (Bl.out.keep k3 (by simp)); replace HK := kept (HK.out.and_then k3); obtain ⟨l0, l1, l2⟩ := Bl.out.c3; simp at l0 l1 l2; clear k3))
  have hz := HK.out.size
  go_wp2_with (first | (go_at_call 101; refine (CI.out _ (HF.out.keep HK.out)).mono ?_; rintro e w3 ⟨⟨ov, rfl, th, hown, hord⟩, k3⟩; have OO := kept hown; have HO := kept hord; clear hown hord; clear l0 l1 l2; replace Bl := kept (Bl.out.keep k3 (by simp)); replace HK := kept (HK.out.and_then k3); obtain ⟨l0, l1, l2⟩ := Bl.out.c3; simp at l0 l1 l2; clear k3))
  go_ret
  exact ⟨⟨_, rfl, _, own_low OO.out hz, HO.out⟩, HK.out⟩

set_option maxRecDepth 100000 in
set_option maxHeartbeats 200000000 in
theorem predsT_any (f : FuncM) (w : World) (ht : Tabs w) (hf : FuncAt w f) (hfew : FewP f) (hT : typedE f = 0) : Calls Tryz.prog 60 #[f.val] w fun e w' => (∃ g, e = .returned (.slice (some ⟨g, 0, none⟩) f.nb f.nb) ∧ ∃ vs P, PrRow w' w.heap.size g f.nb vs P ∧ PredsOK f P) ∧ Keeps w w' [] := by
  have CR := kept (fun W h1 (h2 : FuncAt W f) => right_any f W h1 h2 hfew hT)
  have CI := kept (fun W (h2 : FuncAt W f) => preds_any f W h2 (ends_ok hT hfew))
  have HTB := kept ht
  obtain ⟨a0, c0, e0, -, -, hc0⟩ := hf.vars.open_
  obtain ⟨a1, c1, e1, -, -, hc1⟩ := (show Row w 1 f.params.1 (f.params.2.map intCells) from hf.params).open_
  obtain ⟨a2, c2, e2, -, -, hc2⟩ := hf.blocks.open_
  have hval : f.val = .agg #[.slice a0 f.nv c0, .slice a1 f.np c1, .slice a2 f.nb c2] := by unfold FuncM.val FuncM.nv FuncM.np FuncM.nb; rw [e0, e1, e2]
  have h1 : #[f.vars.1, f.params.1, f.blocks.1] = #[.slice a0 f.nv c0, .slice a1 f.np c1, .slice a2 f.nb c2] := by unfold FuncM.nv FuncM.np FuncM.nb; rw [e0, e1, e2]
  have HF := kept hf
  have HC0 := kept hc0
  have HC1 := kept hc1
  have HC2 := kept hc2
  have HNV := kept (show f.vars.2.length = f.nv from rfl)
  have HNP := kept (show f.params.2.length = f.np from rfl)
  have HNB := kept (show f.blocks.2.length = f.nb from rfl)
  rw [hval] at CR CI ⊢
  clear hval h1 e0 e1 e2 hc0 hc1 hc2 hf HC0 HC1 HC2 ht hT
  have hk0 : Keeps w (w.alloc (.cells #[.slice a0 f.nv c0, .slice a1 f.np c1, .slice a2 f.nb c2] 26)) [] := (Keeps.refl _ []).alloc _
  have bb0 := Blk.new w 26 #[.slice a0 f.nv c0, .slice a1 f.np c1, .slice a2 f.nb c2]
  have Bl := kept bb0
  have HK := kept hk0
  obtain ⟨l0, l1, l2⟩ := Bl.out.c3
  simp at l0 l1 l2
  clear hk0 bb0
  go_enter Tryz.func60, Tryz.ntmps60
  go_upto_region 3 with (first | (go_at_call 100; refine (CR.out _ (HTB.out.keep HK.out) (HF.out.keep HK.out)).mono ?_; rintro e w3 ⟨rfl, k3⟩; clear l0 l1 l2; replace Bl := kept (Bl.out.keep k3 (by simp)); replace HK := kept (HK.out.and_then k3); obtain ⟨l0, l1, l2⟩ := Bl.out.c3; simp at l0 l1 l2; clear k3))
  have hz := HK.out.size
  go_wp2_with (first | (go_at_call 102; refine (CI.out _ (HF.out.keep HK.out)).mono ?_; rintro e w3 ⟨⟨g, rfl, vs, P, hP, hord⟩, k3⟩; have OO := kept hP; have HO := kept hord; clear hP hord; clear l0 l1 l2; replace Bl := kept (Bl.out.keep k3 (by simp)); replace HK := kept (HK.out.and_then k3); obtain ⟨l0, l1, l2⟩ := Bl.out.c3; simp at l0 l1 l2; clear k3))
  go_ret
  exact ⟨⟨_, rfl, _, _, ⟨OO.out.lv, OO.out.lp, OO.out.g, fun b hb => own_low (OO.out.r b hb) hz, OO.out.ap⟩, HO.out⟩, HK.out⟩

def repC (m n : Nat) : List Value := List.replicate m (.bool true) ++ List.replicate (n - m) (.bool false)
theorem repC_len (m n : Nat) (h : m ≤ n) : (repC m n).length = n := by simp [repC]; omega
theorem repC_at {m n j : Nat} (h : j < m) : (repC m n)[j]? = some (.bool true) := by
  unfold repC; rw [List.getElem?_append_left (by simpa using h)]; simp [h]
theorem repC_splice {m n k : Nat} (hm : m + k ≤ n) : splice (repC m n) m (List.replicate k (.bool true)) = repC (m + k) n := by
  unfold splice repC
  have e1 : (List.replicate m (Value.bool true) ++ List.replicate (n - m) (Value.bool false)).take m = List.replicate m (Value.bool true) := List.take_left' (by simp)
  have e2 : (List.replicate m (Value.bool true) ++ List.replicate (n - m) (Value.bool false)).drop (m + k) = List.replicate (n - (m + k)) (Value.bool false) := by
    rw [List.drop_append, List.drop_of_length_le (by simp), List.nil_append, List.length_replicate, List.drop_replicate]
    congr 1; omega
  rw [e1, List.length_replicate, e2, ← List.append_assoc, List.replicate_append_replicate]
theorem repC_zero (n : Nat) : bitsR (List.replicate n false) = (repC 0 n).toArray := by simp [bitsR, repC]
theorem keeps_of_below {w w' : World} (h : Below w.heap.size w w') : Keeps w w' [] := by
  obtain ⟨h1, h2, h3, h4, h5⟩ := h
  exact ⟨h1, h2, h3, h4, fun k hk _ => h5 k hk⟩
theorem repC_full (n : Nat) : repC n n = bitV (List.replicate n true) := by simp [repC, bitV]
theorem make_boolsB (q : Nat) (hq : q ≤ 100000) (w : World) : (Instr.makeSlice 39 (.int .i64 (q : Int)) (.int .i64 (q : Int))).run Tryz.prog w = .ok (.slice (some ⟨w.heap.size, 0, none⟩) q q) (w.alloc (.cells (bitsR (List.replicate q false)) 4)) := by
  obtain ⟨i, hi, he⟩ := Option.map_eq_some_iff.1 info4r
  simp only [Prod.mk.injEq] at he
  obtain ⟨hz, hsz, hby⟩ := he
  have hr := Go.run_makeSlice (P := Tryz.prog) (w := w) 39 4 i (.bool false) (by kernel_rfl) hi hz .i64 .i64 (q : Int) (q : Int) (by omega) (Int.le_refl _) (by rw [hsz]; omega) (by rw [hby]; omega) (by omega)
  rw [hsz, Int.toNat_natCast, Nat.mul_one, made_bits] at hr
  exact hr
theorem mul_any (n : Nat) (hn : n ≤ 100000) (w : World) : Calls Tryz.prog 104 #[.int .u64 1, .int .u64 (n : Nat)] w fun e w' => e = .returned (.tuple #[.int .u64 0, .int .u64 (n : Nat)]) ∧ w = w' :=
  (show Calls Tryz.prog 104 #[.int .u64 ((1 : Nat) : Int), .int .u64 (n : Nat)] w fun e w' => e = .returned (.tuple #[.int .u64 ((1 * n / 18446744073709551616 : Nat) : Int), .int .u64 ((1 * n % 18446744073709551616 : Nat) : Int)]) ∧ w' = w from Any.bits_Mul Tryz.laysMul 1 n (by omega) (by omega) w).mono fun _ _ h => ⟨by rw [h.1, Nat.one_mul, Nat.div_eq_of_lt (by omega), Nat.mod_eq_of_lt (by omega)]; rfl, h.2.symm⟩

set_option maxRecDepth 100000 in
set_option maxHeartbeats 200000000 in
theorem repeat_any (n b : Nat) (w : World) (hn : n ≤ 100000) (hs : Blk w b 4 #[.bool true]) : Calls Tryz.prog 62 #[.slice (some ⟨b, 0, none⟩) 1 1, .int .i64 (n : Nat)] w fun e w' => (∃ v, e = .returned v ∧ w'.ownsRow w.heap.size 4 1 v n (bitV (List.replicate n true))) ∧ Keeps w w' [] := by
  have hmk := make_boolsB n hn
  have h0 : ¬ (n : Int) < 0 := by omega
  have hw : IntKind.u64.wrap (n : Int) = (n : Int) := by rw [IntKind.wrap_u64]; omega
  have hw2 : IntKind.i64.wrap (n : Int) = (n : Int) := IntWalk.i64_in _ (by omega)
  have hbig : ¬ (9223372036854775807 : Int) < (n : Int) := by omega
  have HS := kept hs
  clear hs
  go_enter Tryz.func62, Tryz.ntmps62
  go_upto_region 7 with (first | (go_at_call 104; refine (mul_any n hn _).mono ?_; rintro e w3 ⟨rfl, rfl⟩))
  have k1 : Keeps w (w.alloc (.cells (bitsR (List.replicate n false)) 4)) [] := (Keeps.refl _ []).alloc _
  have b1 := Blk.new w 4 (bitsR (List.replicate n false))
  rw [repC_zero] at k1 b1 ⊢
  have HS1 := kept (HS.out.keep k1 (by simp))
  have HK := kept k1
  have HB := kept b1
  clear k1 b1 hmk hw hw2
  skip
  generalize w.alloc (.cells (repC 0 n).toArray 4) = W1 at *
  obtain ⟨g, hg⟩ : ∃ g, g = w.heap.size := ⟨_, rfl⟩
  rw [← hg] at HB
  simp only [← hg]
  have HG := kept (show w.heap.size ≤ g by omega)
  clear hg
  obtain ⟨m0, hm0⟩ : ∃ m0, min 1 n = m0 := ⟨_, rfl⟩
  have hm1 : m0 ≤ 1 ∧ m0 ≤ n ∧ (n = 0 ∨ 0 < m0) := by omega
  go_wp2_with (first | (show wpList _ _ _ (⟨some 33, _, _, _, _, _⟩ :: _) _ _; go_must (refine wpList_copy_splice rfl (.tmp 31) (.tmp 32) 39 39 rfl 4 Tryz.underlying39 (by kernel_rfl) (some ⟨g, 0, none⟩) (some ⟨b, 0, none⟩) n n 1 1 rfl rfl g 0 (repC 0 n) 4 HB.out (List.replicate m0 (.bool true)) (by rw [List.length_replicate]; exact hm0.symm) (fun _ => ⟨rfl, _, rfl, fun j v hj => by have hj1 := (List.getElem?_eq_some_iff.1 hj).1; rw [List.length_replicate] at hj1; obtain rfl : j = 0 := (by omega); have ev : v = .bool true := (List.mem_replicate.1 (List.mem_of_getElem? hj)).2; rw [ev]; exact HS1.out.cell 0⟩) (by rw [repC_len _ _ (Nat.zero_le _), List.length_replicate]; omega) (fun v hv => by rw [(List.mem_replicate.1 hv).2]; rfl) w.heap.size w (Keeps.below HK.out (Nat.le_refl _) (by simp)) HG.out ?_); go_must (intro w4 hg4 hb4; have HB4 : Hid (Blk w4 g 4 (repC m0 n).toArray) := (by have h9 := hg4.out; rw [repC_splice (by omega), Nat.zero_add] at h9; exact h9); have HK4 := kept (keeps_of_below hb4); clear hg4 hb4; rw [List.length_replicate])))
  have HR4 := kept (show m0 ≤ n ∧ (n = 0 ∨ 0 < m0) from ⟨hm1.2.1, hm1.2.2⟩)
  clear hm0 HB HK HS1
  go_loopw [8] (fun a' wx => ∃ m : Nat, m ≤ n ∧ (n = 0 ∨ 0 < m) ∧ a' = .int .i64 m ∧ Hid (Blk wx g 4 (repC m n).toArray) ∧ Keeps w wx []) (fun a' _ => n - (intOf a').toNat)
  case atStart => exact ⟨m0, HR4.out.1, HR4.out.2, rfl, HB4.out, HK4.out⟩
  case round =>
    obtain ⟨m, hm, hm0, rfl, hB, hr⟩ := hrel
    have HB := kept hB.out
    have HK := kept hr
    clear hB hr HB4 HK4
    by_cases hlm : m < n
    · have hlmz : (m : Int) < (n : Int) := by omega
      have hmz : (m : Int) ≤ (n : Int) := by omega
      obtain ⟨k, hk⟩ : ∃ k, min m (n - m) = k := ⟨_, rfl⟩
      have hk1 : 0 < k ∧ m + k ≤ n := by omega
      have hadd : (if n = m then (some ⟨g, 0, none⟩ : Option Addr) else Option.map (fun (x : Addr) => x.add m) (some (⟨g, 0, none⟩ : Addr))) = some ⟨g, m, none⟩ := by rw [if_neg (by omega), Option.map_some, add_plain, Nat.zero_add]
      have HBh : wr.heap[g]? = some (.cells (repC m n).toArray 4 (0, 0)) := HB.out
      have hsrc : ∀ j v, (List.replicate k (Value.bool true))[j]? = some v → wr.cell? ((⟨g, 0, none⟩ : Addr).add j) = some v := fun j v hj => by
        have hj1 := (List.getElem?_eq_some_iff.1 hj).1
        rw [List.length_replicate] at hj1
        have ev : v = .bool true := (List.mem_replicate.1 (List.mem_of_getElem? hj)).2
        rw [ev, add_plain, Nat.zero_add, HB.out.cell j, List.getElem?_toArray]; exact repC_at (by omega)
      have hbel : Below w.heap.size w wr := Keeps.below HK.out (Nat.le_refl _) (by simp)
      go_upto_region 9 with (fail)
      refine wp_region_held_drew (S := fun _ => True) (by kernel_rfl) trivial (fun hHeld => ?_)
      have HB0 := kept (show wr.drew.heap[g]? = some (.cells (repC m n).toArray 4 (0, 0)) from HBh)
      have hsrc0 : ∀ j v, (List.replicate k (Value.bool true))[j]? = some v → wr.drew.cell? ((⟨g, 0, none⟩ : Addr).add j) = some v := hsrc
      have HK0 := kept (show Keeps w wr.drew [] from HK.out.drew)
      have hbel0 : Below w.heap.size w wr.drew := Keeps.below HK0.out (Nat.le_refl _) (by simp)
      clear HBh hsrc hbel HK HB
      generalize wr.drew = X0 at *
      refine tl 0 ⟨some 38, .move (.tmp 8), 3, "slices.go:528", #[], none⟩ rfl hHeld ?_
      refine tl 1 ⟨some 39, .move (.tmp 7), 39, "slices.go:528", #[], none⟩ rfl hHeld ?_
      refine tl 2 ⟨some 40, .move (.tmp 8), 3, "slices.go:528", #[], none⟩ rfl hHeld ?_
      refine tl 3 ⟨some 41, .slice 39 (.tmp 39) (some (.tmp 40)) none none, 39, "slices.go:528", #[⟨1, .data⟩, ⟨2, .data⟩], none⟩ rfl hHeld ?_
      refine tl 4 ⟨some 42, .move (.tmp 7), 39, "slices.go:528", #[], none⟩ rfl hHeld ?_
      refine tl 5 ⟨some 43, .move (.tmp 8), 3, "slices.go:528", #[], none⟩ rfl hHeld ?_
      refine tl 6 ⟨some 44, .slice 39 (.tmp 42) none (some (.tmp 43)) none, 39, "slices.go:528", #[⟨4, .data⟩, ⟨5, .data⟩], none⟩ rfl hHeld ?_
      rw [if_neg (show ¬ n = m by omega)]
      refine wpAnyH_ready (rs := [7]) (by kernel_rfl) (by simp) ?_
      refine AllReadyH.cons (o := ⟨some 45, .call ⟨.builtin .copy, #[.tmp 41, .tmp 44], #[39, 39]⟩, 3, "slices.go:528", #[⟨3, .data⟩, ⟨6, .data⟩], none⟩) rfl (fun K hK => ?_) AllReadyH.nil
      refine step_copy_splice rfl (.tmp 41) (.tmp 44) 39 39 rfl 4 Tryz.underlying39 (by kernel_rfl) (some ⟨g, m, none⟩) (some ⟨g, 0, none⟩) (n - m) (n - m) m n rfl rfl g m (repC m n) 4 HB0.out (List.replicate k (.bool true)) (by rw [List.length_replicate]; exact hk.symm) (fun _ => ⟨rfl, _, rfl, hsrc0⟩) (by rw [repC_len _ _ hm, List.length_replicate]; omega) (fun v hv => by rw [(List.mem_replicate.1 hv).2]; rfl) w.heap.size w hbel0 HG.out ?_
      intro w5 hg5 hb5
      have HB5 : Hid (Blk w5 g 4 (repC (m + k) n).toArray) := (by have h9 := hg5.out; rw [repC_splice hk1.2] at h9; exact h9)
      have HK5 := kept (keeps_of_below hb5)
      clear hg5 hb5 hHeld
      rw [List.length_replicate]
      show K _ _
      refine hK.out _ _ trivial (fun hHeld => ?_)
      clear hK K
      try simp only [Act.put, sA, sB, sC]
      refine tl 8 ⟨some 46, .binOp BinOp.add 3 (.tmp 38) (.tmp 45) 3, 3, "slices.go:528", #[⟨0, .data⟩, ⟨7, .data⟩], none⟩ rfl hHeld ?_
      refine tl 9 ⟨some 8, .assign (.tmp 46), 3, "slices.go:528", #[⟨8, .data⟩, ⟨7, .chain⟩, ⟨0, .phase⟩, ⟨1, .phase⟩, ⟨2, .phase⟩, ⟨3, .phase⟩, ⟨4, .phase⟩, ⟨5, .phase⟩, ⟨6, .phase⟩, ⟨7, .phase⟩, ⟨8, .phase⟩], none⟩ rfl hHeld ?_
      refine wpAnyH_done (by kernel_rfl) ?_ _
      clear hHeld
      have hwm : IntKind.i64.wrap ((m : Int) + (k : Int)) = ((m + k : Nat) : Int) := by rw [IntWalk.i64_in _ (by omega)]; omega
      go_wp2
      try rw [hwm]
      go_roundw
      case rel => exact ⟨m + k, hk1.2, .inr (by omega), by go_num, HB5.out, HK5.out⟩
      case measure => simp [intOf]; omega
    · have hlmz : ¬ (m : Int) < (n : Int) := by omega
      obtain rfl : m = n := by omega
      go_wp2
      go_ret
      exact ⟨⟨_, rfl, by rw [← repC_full]; exact ⟨by rw [repC_len _ _ (Nat.le_refl _), Nat.mul_one], .inr ⟨g, m, (repC m m).toArray, rfl, HG.out, HB.out, Nat.le_refl _, by unfold maxLen; omega, by simp [repC], by simp [repC]⟩⟩⟩, HK.out⟩
end Go.Proofs.YtjllbchfojonhaaGreatDoor
