/- A block is entered, a step of a run of a slot program; contracts. -/
import Derived.Test.YtjllbchfojonhaaDoorR8D
import Derived.Test.YtjllbchfojonhaaDoorR8E
import Derived.Test.YtjllbchfojonhaaDoorB5
import Derived.Deep.RegionHeldLaw
import Derived.Deep.Cut
import Derived.Deep.CutRange
namespace Go.Proofs.YtjllbchfojonhaaDoor
open Go.RowKit
set_option linter.unusedVariables false
set_option linter.unusedSimpArgs false

theorem run_inst (wB W : World) (g : Nat) (R : RepM) (f : FuncM) (n K : Nat) (ty : Int → Int) (s : StM) (x : InstM) (hx : InstOK n ty x) (hn : inI x.num = true) (h : WAt wB W g R f n s) (hG : GoodM n K s) (hA : IntsAt wB x.args) (hK : K < 1000000) : Calls Tryd.prog 83 #[.pointer (some ⟨g, 0, none⟩), .agg #[.int .i64 x.op, .int .i64 x.dst, x.args.1, .int .i64 x.num]] W (RunRet wB g f n (instM s x)) := by
 by_cases e : x.op < 14
 ·exact inst_lo wB W g R f n K ty s x e hx hn h hG hA hK
 ·exact inst_hi wB W g R f n K ty s x (by omega) hx hn h hG hA hK
theorem own_mono {w : World} {base base' n size : Nat} {e : TypeId} {v : Value} {xs : List Value} (h : w.ownsRow base e size v n xs) (hb : base' ≤ base) : w.ownsRow base' e size v n xs := by
 refine ⟨h.1, ?_⟩
 rcases h.2 with h2 | ⟨g, cap, cur, h1, h2, r⟩
 ·exact .inl h2
 ·exact .inr ⟨g, cap, cur, h1, Nat.le_trans hb h2, r⟩
theorem info4r : (Tryd.prog.info? 4).map (fun i => (i.zero, i.size, i.bytes)) = some (some (.bool false), 1, 1) := by kernel_rfl
theorem blk_here (W : World) (t : TypeId) (cs : Array Value) {g : Nat} (hg : W.heap.size = g) : Blk (W.alloc (.cells cs t)) g t cs := by
 subst hg; exact Blk.new W t cs
theorem run_copy (w : World) (g : Nat) (t ty e : TypeId) (i : TypeInfo) (z : Value) (bytes : Nat) (h1 : Tryd.prog.underlying t = some (.slice e)) (h2 : Tryd.prog.info? e = some i) (h3 : i.zero = some z) (h4 : i.size = 1) (h5 : i.bytes = bytes) (h6 : z.cells.size = 1)
  (hB : Blk w g e #[]) (ad : Addr) (m c : Nat) (news : List Value) (hn : news.length = m) (hc : ∀ j u, news[j]? = some u → w.cell? (ad.add j) = some u) (h1c : ∀ u ∈ news, u.oneCell' = true)
  (b1 : m ≤ maxLen) (b2 : m * bytes ≤ 140737488355328) :
  ∃ v' w', (Builtin.append_ #[t, t] ty #[.slice (some ⟨g, 0, none⟩) 0 0, .slice (some ad) m c]).run Tryd.prog w = .ok v' w' ∧ w'.ownsRow g e 1 v' m news ∧ Keeps w w' [] := by
 by_cases hm : m = 0
 ·subst hm
  obtain rfl : news = [] := List.eq_nil_of_length_eq_zero hn
  refine ⟨.slice (some ⟨g, 0, none⟩) 0 0, w, ?_, ⟨rfl, .inr ⟨g, 0, #[], rfl, Nat.le_refl _, hB, Nat.le_refl _, by simp [maxLen], rfl, rfl⟩⟩, Keeps.refl _ _⟩
  simp [Builtin.append_, run_underlying h1, sizeOf, typeInfo, h2, Builtin.lenOf, Builtin.firstCells, loadCells, loadCellsFrom, storeCells]
 ·obtain ⟨v', w', hr, r1, r2⟩ := run_append_arg_grows (P := Tryd.prog) w t ty e i z 1 bytes h1 h2 h3 h4 h5 h6 (by decide) ⟨g, 0, none⟩ 0 0 [] rfl (by simp) ad m c news (by omega) hc (by omega) (by omega) (by simpa using b2)
  refine ⟨v', w', hr, ?_, (Keeps.refl w []).grown r2 (fun k hk => by cases hk)⟩
  have hg : g < w.heap.size := hB.lt
  rw [Nat.zero_add, List.nil_append] at r1
  exact own_mono r1 (by omega)
theorem step_copy {ops : Array Oper} {o : Oper} {a : Act} {w : World} {K : Act → World → Prop} {Q : Exit → Act → World → Prop} {E : Prop}
  (hg : o.guard = none) (s x : Operand) (t : TypeId) (hop : o.op = .call ⟨.builtin .append, #[s, x], #[t, t]⟩) (g : Nat)
  (e : TypeId) (i : TypeInfo) (z : Value) (bytes : Nat) (h1 : Tryd.prog.underlying t = some (.slice e)) (h2 : Tryd.prog.info? e = some i) (h3 : i.zero = some z) (h4 : i.size = 1) (h5 : i.bytes = bytes) (h6 : z.cells.size = 1)
  (hs : a.eval s = .slice (some ⟨g, 0, none⟩) 0 0) (hB : Blk w g e #[]) (ad : Addr) (m c : Nat) (news : List Value) (hx : a.eval x = .slice (some ad) m c) (hn : news.length = m) (hc : ∀ j u, news[j]? = some u → w.cell? (ad.add j) = some u) (h1c : ∀ u ∈ news, u.oneCell' = true)
  (b1 : m ≤ maxLen) (b2 : m * bytes ≤ 140737488355328)
  (hK : ∀ v' w', w'.ownsRow g e 1 v' m news → Keeps w w' [] → K (a.put o.dst v') w') :
  if Region.wanted o (yielded ops a.tmps) = true then Oper.wp Tryd.prog o a w K Q else E := by
 have hw : Region.wanted o (yielded ops a.tmps) = true := by simp [Region.wanted, hg]
 rw [if_pos hw]
 obtain ⟨v', w', hrun, r1, r2⟩ := run_copy w g t o.type e i z bytes h1 h2 h3 h4 h5 h6 hB ad m c news hn hc h1c b1 b2
 unfold Oper.wp
 simp [execOp, hop, resolve, invoke, builtin, hs, hx, hrun, Result.andThen]
 exact hK v' w' r1 r2
theorem stateC_goes (R : RepM) (f : FuncM) (n : Nat) (s : StM) (tb : Nat) : ((stateC R f n s).setIfInBounds 7 (.int .i64 (tb : Nat))).setIfInBounds 8 (.int .i64 0) = stateC R f n { s with block := tb, pc := 0 } := by simp [stateC]

set_option maxRecDepth 100000 in
set_option maxHeartbeats 200000000 in
theorem enter_any (wB W : World) (g : Nat) (R : RepM) (f : FuncM) (n : Nat) (s : StM) (h : WAt wB W g R f n s) (hf : FuncAt wB f) (tb : Nat) (ht : tb < f.blocks.2.length) (hphi : f.blocks.2[tb]!.phis.2 = []) (hn : n ≤ 1000) :
  Calls Tryd.prog 85 #[.pointer (some ⟨g, 0, none⟩), .int .i64 (tb : Nat)] W (RunRet wB g f n { s with block := tb, pc := 0 }) := by
 have HW := kept h
 obtain ⟨a2, cc2, e2, -, -, hc2⟩ := hf.blocks.open_
 obtain ⟨b, off, rfl, hb, hcell⟩ := hc2 tb ht
 obtain ⟨pa, pc, pe, _⟩ := (hf.block _ (bang_mem ht)).phis
 rw [List.length_map, hphi] at pe
 have q1 : wB.cell? ⟨b, off + tb * 7 + 1, none⟩ = some (.slice pa 0 pc) := (hcell 1 _ rfl).trans (by rw [pe]; rfl)
 have HQ := kept q1
 have c2 := h.c2
 rw [e2] at c2
 have q1 := h.k.cellOf HQ.out
 clear hcell hc2 h hf pe
 generalize f.blocks.2.length = nb at *
 go_enter Tryd.func85, Tryd.ntmps85
 go_wp2
 have kd : Keeps W (World.drew W) [] := (Keeps.refl W []).drew
 have HD := kept (HW.out.keep kd)
 have c3 := HD.out.c3
 have c4 := HD.out.c4
 have c5 := HD.out.c5
 have c3w := HW.out.c3
 have c4w := HW.out.c4
 have c5w := HW.out.c5
 go_loopw [24] (fun i wr => i = .int .i64 0 ∧ W = wr) (fun _ _ => 0)
 case atStart => exact ⟨rfl, rfl⟩
 case round =>
  obtain ⟨rfl, rfl⟩ := hrel
  go_wp2
  have HNI := kept (show ∀ j u, (s.ints.map (Value.int .i64))[j]? = some u → W.cell? ((⟨R.gi, 0, none⟩ : Addr).add j) = some u from fun j u hu => by rw [add_plain, Nat.zero_add, HW.out.bi.2.1.cell]; unfold i64C; rw [List.getElem?_toArray]; exact hu)
  have HNB := kept (show ∀ j u, (s.bools.map Value.bool)[j]? = some u → W.cell? ((⟨R.gb, 0, none⟩ : Addr).add j) = some u from fun j u hu => by rw [add_plain, Nat.zero_add, HW.out.bb.2.1.cell]; unfold bitsR; rw [List.getElem?_toArray]; exact hu)
  have HNA := kept (show ∀ j u, (s.arrs.map (Value.int .i64))[j]? = some u → W.cell? ((⟨R.ga, 0, none⟩ : Addr).add j) = some u from fun j u hu => by rw [add_plain, Nat.zero_add, HW.out.ba.2.1.cell]; unfold i64C; rw [List.getElem?_toArray]; exact hu)
  have HNIL := kept (show (s.ints.map (Value.int .i64)).length = n by rw [List.length_map]; exact HD.out.bi.2.2)
  have HNBL := kept (show (s.bools.map Value.bool).length = n by rw [List.length_map]; exact HD.out.bb.2.2)
  have HNAL := kept (show (s.arrs.map (Value.int .i64)).length = n by rw [List.length_map]; exact HD.out.ba.2.2)
  have HNIO := kept (show ∀ u ∈ s.ints.map (Value.int .i64), u.oneCell' = true from fun u hu => by obtain ⟨x, _, rfl⟩ := List.mem_map.1 hu; rfl)
  have HNBO := kept (show ∀ u ∈ s.bools.map Value.bool, u.oneCell' = true from fun u hu => by obtain ⟨x, _, rfl⟩ := List.mem_map.1 hu; rfl)
  have HNAO := kept (show ∀ u ∈ s.arrs.map (Value.int .i64), u.oneCell' = true from fun u hu => by obtain ⟨x, _, rfl⟩ := List.mem_map.1 hu; rfl)
  obtain ⟨i2', hi2, he2⟩ := Option.map_eq_some_iff.1 info2
  obtain ⟨i4', hi4, he4⟩ := Option.map_eq_some_iff.1 info4r
  obtain ⟨i3', hi3, he3⟩ := Option.map_eq_some_iff.1 info3
  simp only [Prod.mk.injEq] at he2 he3 he4
  obtain ⟨hz2, hs2, hb2⟩ := he2
  obtain ⟨hz3, hs3, hb3⟩ := he3
  obtain ⟨hz4, hs4, hb4⟩ := he4
  have hn9 : n ≤ 1000 := hn
  go_cut [9, 10, 11] from 67 to 84 (fun _ _ _ wx => Keeps W wx [])
  case first =>
   clear kd HD c3 c4 c5
   go_region_held_law (fun w' => w'.cell? ⟨g, 3, none⟩ = some (.slice (some ⟨R.gi, 0, none⟩) n n) ∧ w'.cell? ⟨g, 4, none⟩ = some (.slice (some ⟨R.gb, 0, none⟩) n n) ∧ w'.cell? ⟨g, 5, none⟩ = some (.slice (some ⟨R.ga, 0, none⟩) n n)) (exact ⟨Keeps.cellOf (by repeat' first | with_reducible exact Keeps.refl _ _ | with_reducible apply Keeps.drew | with_reducible apply Keeps.alloc | (with_reducible refine Keeps.and_then ?_ (by assumption))) c3w, Keeps.cellOf (by repeat' first | with_reducible exact Keeps.refl _ _ | with_reducible apply Keeps.drew | with_reducible apply Keeps.alloc | (with_reducible refine Keeps.and_then ?_ (by assumption))) c4w, Keeps.cellOf (by repeat' first | with_reducible exact Keeps.refl _ _ | with_reducible apply Keeps.drew | with_reducible apply Keeps.alloc | (with_reducible refine Keeps.and_then ?_ (by assumption))) c5w⟩) (first | (refine step_copy rfl (.tmp 67) (.tmp 71) 61 rfl _ 2 i2' (.int .i64 0) 8 Tryd.underlying61 hi2 hz2 hs2 hb2 rfl rfl (by repeat' first | with_reducible exact blk_here _ _ _ (by simp) | with_reducible refine Blk.keep ?_ ((Keeps.refl _ []).drew) (by simp) | with_reducible refine Blk.keep ?_ ((Keeps.refl _ []).alloc _) (by simp) | with_reducible refine Blk.keep ?_ (by assumption) (by simp)) ⟨R.gi, 0, none⟩ n n _ rfl HNIL.out (fun j u hu => Keeps.cellOf (by repeat' first | with_reducible exact Keeps.refl _ _ | with_reducible apply Keeps.drew | with_reducible apply Keeps.alloc | (with_reducible refine Keeps.and_then ?_ (by assumption))) (HNI.out j u hu)) HNIO.out (by unfold maxLen; omega) (by omega) ?_; intro v' w' hown' hkp; clear hown') | (refine step_copy rfl (.tmp 73) (.tmp 77) 101 rfl _ 4 i4' (.bool false) 1 Tryd.underlying101 hi4 hz4 hs4 hb4 rfl rfl (by repeat' first | with_reducible exact blk_here _ _ _ (by simp) | with_reducible refine Blk.keep ?_ ((Keeps.refl _ []).drew) (by simp) | with_reducible refine Blk.keep ?_ ((Keeps.refl _ []).alloc _) (by simp) | with_reducible refine Blk.keep ?_ (by assumption) (by simp)) ⟨R.gb, 0, none⟩ n n _ rfl HNBL.out (fun j u hu => Keeps.cellOf (by repeat' first | with_reducible exact Keeps.refl _ _ | with_reducible apply Keeps.drew | with_reducible apply Keeps.alloc | (with_reducible refine Keeps.and_then ?_ (by assumption))) (HNB.out j u hu)) HNBO.out (by unfold maxLen; omega) (by omega) ?_; intro v' w' hown' hkp; clear hown') | (refine step_copy rfl (.tmp 79) (.tmp 83) 23 rfl _ 3 i3' (.int .i64 0) 8 Tryd.underlying23 hi3 hz3 hs3 hb3 rfl rfl (by repeat' first | with_reducible exact blk_here _ _ _ (by simp) | with_reducible refine Blk.keep ?_ ((Keeps.refl _ []).drew) (by simp) | with_reducible refine Blk.keep ?_ ((Keeps.refl _ []).alloc _) (by simp) | with_reducible refine Blk.keep ?_ (by assumption) (by simp)) ⟨R.ga, 0, none⟩ n n _ rfl HNAL.out (fun j u hu => Keeps.cellOf (by repeat' first | with_reducible exact Keeps.refl _ _ | with_reducible apply Keeps.drew | with_reducible apply Keeps.alloc | (with_reducible refine Keeps.and_then ?_ (by assumption))) (HNA.out j u hu)) HNAO.out (by unfold maxLen; omega) (by omega) ?_; intro v' w' hown' hkp; clear hown'))
   all_goals (first | go_wp2 | skip)
   all_goals (try (rename_i hq; have hq2 := Option.some.inj (show (some 84 : Option Nat) = some _ from hq); subst hq2; clear hq))
   all_goals (try simp only [Act.put, sA, sB, sC])
   all_goals go_meet
   all_goals exact (by repeat' first | with_reducible exact Keeps.refl _ _ | with_reducible apply Keeps.drew | with_reducible apply Keeps.alloc | (with_reducible refine Keeps.and_then ?_ (by assumption)))
  case rest =>
   have HX := kept (HW.out.keep hcut)
   clear hcut c2 q1 c3 c4 c5 c3w c4w c5w HD kd HNI HNB HNA HNIL HNBL HNAL HNIO HNBO HNAO
   have c2 := HX.out.c2
   rw [e2] at c2
   have q1 := HX.out.k.cellOf HQ.out
   go_wp2
   go_loopw [95] (fun i wr => i = .int .i64 0 ∧ WAt wB wr g R f n s) (fun _ _ => 0)
   case atStart => exact ⟨rfl, HX.out⟩
   case round =>
    obtain ⟨rfl, hX⟩ := hrel
    clear HX c2 q1
    have HX := kept hX
    clear hX
    have f7 := HX.out.fz 7
    have f8 := HX.out.fz 8
    have c7 := HX.out.c7
    have c8 := HX.out.c8
    go_wp2
    first | (change bodyPost Tryd.prog Tryd.f85 _ Exit.normal _ _; refine bodyPost_end (v := .tuple #[]) (by have h : Tryd.f85.results = #[] := (by kernel_rfl); simp [results, h]) rfl ⟨rfl, R, ?_⟩) | (change bodyPost Tryd.prog Tryd.f85 _ Exit.ret _ _; refine bodyPost_ret (v := .tuple #[]) (by have h : Tryd.f85.results = #[] := (by kernel_rfl); simp [results, h]) rfl ⟨rfl, R, ?_⟩)
    exact HX.out.turn (keeps_set2 _ _ _ _ _ _) (by rw [← stateC_goes R f n s tb]; exact (HX.out.blk.set_ 7 _).set_ 8 _) rfl rfl rfl rfl rfl HX.out.ck
end Go.Proofs.YtjllbchfojonhaaDoor
