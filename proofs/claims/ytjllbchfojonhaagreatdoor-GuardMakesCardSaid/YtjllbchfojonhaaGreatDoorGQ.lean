/- The blocks that are reached, each behind one that leads to it (graph.order); the walk. -/
import Derived.Test.YtjllbchfojonhaaGreatDoorGK
import Derived.Test.YtjllbchfojonhaaGreatDoorGN
import Derived.Deep.CutBlock
import Derived.Deep.Cut
import Derived.Deep.CutRange
import Derived.Deep.LoopGhost
namespace Go.Proofs.YtjllbchfojonhaaGreatDoor
open Go.RowKit Go.Shelf Go.Lib
set_option linter.unusedVariables false
set_option linter.unusedSimpArgs false
def natV (l : List Nat) : List Value := l.map fun (c : Nat) => Value.int .i64 (c : Int)
def frC (p : Nat × Nat) : List Value := [.int .i64 (p.1 : Int), .int .i64 (p.2 : Int)]
def stV (st : List (Nat × Nat)) : List Value := (st.map frC).flatten
theorem stV_len (st : List (Nat × Nat)) : ∀ l ∈ st.map frC, l.length = 2 := fun l hl => by
 obtain ⟨p, _, rfl⟩ := List.mem_map.1 hl; rfl
theorem stV_top (pre : List (Nat × Nat)) (c k : Nat) : (stV (pre ++ [(c, k)]))[pre.length * 2]? = some (.int .i64 (c : Int)) ∧ (stV (pre ++ [(c, k)]))[pre.length * 2 + 1]? = some (.int .i64 (k : Int)) := by
 have h0 := flat_get (stV_len (pre ++ [(c, k)])) pre.length 0 (by omega)
 have h1 := flat_get (stV_len (pre ++ [(c, k)])) pre.length 1 (by omega)
 rw [List.map_append, List.getElem?_append_right (by simp)] at h0 h1
 simp [frC] at h0 h1
 unfold stV
 rw [List.map_append]
 exact ⟨by simpa [frC] using h0, by simpa [frC] using h1⟩
theorem stV_next (pre : List (Nat × Nat)) (c k : Nat) : (stV (pre ++ [(c, k)])).set (pre.length * 2 + 1) (.int .i64 ((k + 1 : Nat) : Int)) = stV (pre ++ [(c, k + 1)]) := by
 unfold stV
 rw [flat_set (stV_len _) pre.length 1 (by omega) (by simp)]
 congr 1
 rw [List.map_append, List.map_append, List.set_append_right _ _ (by simp)]
 simp [frC]
theorem stV_take (pre : List (Nat × Nat)) (c k : Nat) : (stV (pre ++ [(c, k)])).take (pre.length * 2) = stV pre := by
 unfold stV
 rw [List.map_append, List.flatten_append]
 have : (pre.map frC).flatten.length = pre.length * 2 := by rw [flat_len (stV_len pre)]; simp
 rw [← this, List.take_left']
 rfl
/-- an own row cut -/
theorem own_cut {w : World} {base size n m g cap : Nat} {e : TypeId} {xs : List Value} (h : w.ownsRow base e size (.slice (some ⟨g, 0, none⟩) n cap) n xs) (hm : m ≤ n) : w.ownsRow base e size (.slice (some ⟨g, 0, none⟩) m cap) m (xs.take (m * size)) := by
 obtain ⟨h1, h2 | ⟨g', cap', cur, h2, h3, h4, h5, h6, h7, h8⟩⟩ := h
 ·cases h2.1
 ·simp only [Value.slice.injEq, Option.some.injEq, Addr.mk.injEq] at h2
  obtain ⟨⟨rfl, -, -⟩, -, rfl⟩ := h2
  have hle : m * size ≤ n * size := Nat.mul_le_mul_right _ hm
  refine ⟨by rw [List.length_take, h1]; omega, .inr ⟨g, cap, cur, rfl, h3, h4, by omega, h6, h7, ?_⟩⟩
  rw [← h8, List.take_take, Nat.min_eq_left hle]
theorem stV_snoc (st : List (Nat × Nat)) (p : Nat × Nat) : stV (st ++ [p]) = stV st ++ [.int .i64 (p.1 : Int), .int .i64 (p.2 : Int)] := by unfold stV; simp [frC]
theorem fuel_pos (ends : Nat → List Nat) (seen : List Bool) (st : List (Nat × Nat)) (h : st ≠ []) : 0 < fuelD ends seen st := by
 cases st with
 | nil => exact absurd rfl h
 | cons p l => unfold fuelD; simp; omega
theorem fuel_start (f : FuncM) (hp : 0 < f.nb) : fuelD (endsN f) ((List.replicate f.nb false).set 0 true) [(0, 0)] ≤ 4 * f.nb + 3 := by
 have h1 := endsN_len f 0
 have h2 : cntF ((List.replicate f.nb false).set 0 true) ≤ f.nb := Nat.le_trans (List.length_filter_le _ _) (by simp)
 unfold fuelD
 simp; omega
structure OrdOK (f : FuncM) (ord : List Nat) : Prop where
 nd : ord.Nodup
 hd : ord.head? = some 0
 mem : ∀ c, c ∈ ord ↔ RWay (succF f) c
theorem ord_of {f : FuncM} (h : EndsOK f) {seen : List Bool} {out : List Nat} (hi : DfsInv (endsN f) f.nb seen out []) : OrdOK f out.reverse := by
 obtain ⟨h1, h2, h3⟩ := dfs_done hi (fun c hc d hd => ends_lt h hc hd)
 refine ⟨(List.reverse_perm out).nodup_iff.2 h1, by rw [List.head?_reverse]; exact h2, fun c => ?_⟩
 rw [List.mem_reverse, h3, rway_ends h]
theorem nodup_le {l m : List Nat} (h : l.Nodup) (hs : ∀ c ∈ l, c ∈ m) : l.length ≤ m.length := by
 induction l generalizing m with
 | nil => exact Nat.zero_le _
 | cons c l ih =>
  rw [List.nodup_cons] at h
  have hc := hs c (List.mem_cons_self ..)
  have h2 := ih h.2 (m := m.erase c) (fun d hd => by
   have hne : d ≠ c := fun e => h.1 (e ▸ hd)
   exact (List.mem_erase_of_ne hne).2 (hs d (List.mem_cons_of_mem _ hd)))
  rw [List.length_erase_of_mem hc] at h2
  have := List.length_pos_of_mem hc
  simp only [List.length_cons]; omega
theorem out_len {f : FuncM} {seen : List Bool} {out : List Nat} {st : List (Nat × Nat)} (hi : DfsInv (endsN f) f.nb seen out st) : out.length + st.length ≤ f.nb := by
 have h1 := hi.nd
 have h2 : ∀ c ∈ out ++ st.map Prod.fst, c < f.nb := fun c hc => by
  rcases List.mem_append.1 hc with h | h
  ·exact (hi.olt c h).1
  ·obtain ⟨p, hp, rfl⟩ := List.mem_map.1 h; exact (hi.slt p hp).1
 have h3 : (out ++ st.map Prod.fst).length ≤ (List.range f.nb).length := nodup_le h1 (fun c hc => List.mem_range.2 (h2 c hc))
 simpa using h3
theorem natV_ints (l : List Nat) : natV l = (l.map Int.ofNat).map (Value.int .i64) := by unfold natV; rw [List.map_map]; rfl
theorem reverse_nat (a0 : World) (zs : List Nat) (v : Value) (w : World) (hk : Keeps a0 w []) (h : w.ownsRow a0.heap.size 3 1 v zs.length (natV zs)) (hn : zs.length ≤ 100000) :
  Calls Tryz.prog 127 #[v] w fun e w' => e = .returned (.tuple #[]) ∧ w'.ownsRow a0.heap.size 3 1 v zs.length (natV zs.reverse) ∧ Keeps a0 w' [] := by
 rw [natV_ints] at h ⊢
 have := reverse_own a0 (zs.map Int.ofNat) v w hk (by rw [List.length_map]; exact h) (by rw [List.length_map]; exact hn)
 rw [List.length_map, ← List.map_reverse] at this
 exact this
theorem info182 : (Tryz.prog.info? 182).map (fun i => (i.zero, i.size, i.bytes)) = some (some (.agg #[.int .i64 0, .int .i64 0]), 2, 16) := by kernel_rfl
set_option maxRecDepth 100000 in
set_option maxHeartbeats 200000000 in
theorem order_any (f : FuncM) (w : World) (hf : FuncAt w f) (hE : EndsOK f) : Calls Tryz.prog 103 #[f.val] w fun e w' => (∃ v ord, e = .returned v ∧ w'.ownsRow w.heap.size 3 1 v ord.length (natV ord) ∧ OrdOK f ord) ∧ Keeps w w' [] := by
 obtain ⟨i3, hi3, he3⟩ := Option.map_eq_some_iff.1 info3c
 simp only [Prod.mk.injEq] at he3
 obtain ⟨hz3, hs3, hb3⟩ := he3
 obtain ⟨i182, hi182, he182⟩ := Option.map_eq_some_iff.1 info182
 simp only [Prod.mk.injEq] at he182
 obtain ⟨hz182, hs182, hb182⟩ := he182
 have hp := hE.pos
 have hn := hE.nb
 have hmk := make_bools f.nb hn
 have HE := kept hE
 obtain ⟨a0, c0, a1, c1, a2, c2, e0, e1, e2, hval, h1, HF, HC0, HC1, HC2, HNV, HNP, HNB⟩ := fopen hf
 rw [hval]
 clear hval h1 e0 e1 e2 hf HC0 HC1 hE
 obtain ⟨HK, Bl⟩ := fbox w 26 #[.slice a0 f.nv c0, .slice a1 f.np c1, .slice a2 f.nb c2]
 obtain ⟨l0, l1, l2⟩ := Bl.out.c3
 simp at l0 l1 l2
 go_enter Tryz.func103, Tryz.ntmps103
 go_upto_region 1 with (fail)
 have hszw : w.heap.size ≤ (w.alloc (.cells #[.slice a0 f.nv c0, .slice a1 f.np c1, .slice a2 f.nb c2] 26)).heap.size := by show _ ≤ (Array.push _ _).size; simp [Array.size_push]
 clear l0 l1 l2
 generalize (w.alloc (.cells #[.slice a0 f.nv c0, .slice a1 f.np c1, .slice a2 f.nb c2] 26)) = W0 at *
 have Bl_W0 := Bl
 have TW0 := HK
 clear HK
 have HK := kept (Keeps.refl W0 [])
 obtain ⟨l0, l1, l2⟩ := Bl.out.c3
 simp at l0 l1 l2
 have HSW := kept hszw
 clear hszw
 go_upto_region 2 with (fail)
 have k3 : Keeps W0 (W0.alloc (.cells (bitsR (List.replicate f.nb false)) 4)) [] := (Keeps.refl _ []).alloc _
 have bb := Blk.new W0 4 (bitsR (List.replicate f.nb false))
 clear l0 l1 l2
 replace Bl := kept (Bl.out.keep k3 (by simp))
 replace HK := kept (HK.out.and_then k3)
 obtain ⟨l0, l1, l2⟩ := Bl.out.c3
 simp at l0 l1 l2
 clear k3
 have BB := kept bb
 clear bb
 generalize (W0.alloc (.cells (bitsR (List.replicate f.nb false)) 4)) = W1 at *
 obtain ⟨gs, hgs⟩ : ∃ gs, gs = W0.heap.size := ⟨_, rfl⟩
 rw [← hgs] at BB
 simp only [← hgs]
 have HGS := kept (show W0.heap.size ≤ gs by omega)
 clear hgs hmk
 have b0 : W1.cell? ⟨gs, 0, none⟩ = some (.bool (List.replicate f.nb false)[0]!) := by rw [BB.out.cell 0, bitsR_at (by simpa using hp)]
 have b1 := BB.out.frozen 0
 go_upto_region 3 with (fail)
 have kz : Keeps W0 (W1.setCell ⟨gs, 0, none⟩ (.bool true)) [] := HK.out.setCell (.inr HGS.out) _
 have bz : Blk (W1.setCell ⟨gs, 0, none⟩ (.bool true)) gs 4 (bitsR ((List.replicate f.nb false).set 0 true)) := by rw [← bitsR_set]; exact BB.out.set_ 0 _
 clear b0 b1
 clear l0 l1 l2
 clear Bl HK BB
 generalize (W1.setCell ⟨gs, 0, none⟩ (.bool true)) = W3 at *
 have HK := kept kz
 have Bl := kept (Bl_W0.out.keep kz (by simp))
 have BB := kept bz
 clear kz bz
 obtain ⟨l0, l1, l2⟩ := Bl.out.c3
 simp at l0 l1 l2
 go_upto_region 5 with (fail)
 have k3 : Keeps W3 (W3.alloc (.cells #[.int .i64 0, .int .i64 0] 182)) [] := (Keeps.refl _ []).alloc _
 have bb := Blk.new W3 182 #[.int .i64 0, .int .i64 0]
 replace BB := kept (BB.out.keep k3 (by simp))
 have HG0 := kept HK.out.size
 clear l0 l1 l2
 replace Bl := kept (Bl.out.keep k3 (by simp))
 replace HK := kept (HK.out.and_then k3)
 obtain ⟨l0, l1, l2⟩ := Bl.out.c3
 simp at l0 l1 l2
 clear k3
 generalize (W3.alloc (.cells #[.int .i64 0, .int .i64 0] 182)) = W4 at *
 generalize W3.heap.size = gl at *
 have OL : Hid (W4.ownsRow W0.heap.size 182 2 (.slice (some ⟨gl, 0, none⟩) 1 1) 1 (stV [(0, 0)])) := ⟨rfl, .inr ⟨gl, 1, #[.int .i64 0, .int .i64 0], rfl, HG0.out, bb, Nat.le_refl _, by simp [maxLen], rfl, rfl⟩⟩
 clear bb HG0
 go_wp2
 go_loopg [4, 5] (4 * f.nb + 3) (fun g a4 a5 wx => ∃ (seen : List Bool) (out : List Nat) (st : List (Nat × Nat)), Hid (DfsInv (endsN f) f.nb seen out st) ∧ Hid (fuelD (endsN f) seen st ≤ g) ∧ Blk wx gs 4 (bitsR seen) ∧ wx.ownsRow W0.heap.size 3 1 a4 out.length (natV out) ∧ wx.ownsRow W0.heap.size 182 2 a5 st.length (stV st) ∧ Hid (∃ gl cap, a5 = .slice (some ⟨gl, 0, none⟩) st.length cap) ∧ Keeps W0 wx [])
 case atStart => exact ⟨_, [], [(0, 0)], dfs_start hp, fuel_start f hp, BB.out, World.ownsRow_nil _ _ _ _, OL.out, ⟨gl, 1, rfl⟩, HK.out⟩
 case round =>
  obtain ⟨seen, out, st, hI, hg, hB, hO, hL, hform, hr⟩ := hrel
  clear BB OL
  clear l0 l1 l2
  clear Bl HK
  have HK := kept hr
  have Bl := kept (Bl_W0.out.keep hr (by simp))
  clear hr
  obtain ⟨l0, l1, l2⟩ := Bl.out.c3
  simp at l0 l1 l2
  have BB := kept hB
  have OO := kept hO
  have OL := kept hL
  have HI := kept hI.out
  have HG := kept hg.out
  obtain ⟨gl, cap, rfl⟩ := hform.out
  clear hB hO hL hI hg hform
  obtain ⟨oa, oc, rfl, -, -⟩ := own_form OO.out
  rcases List.eq_nil_or_concat st with hst | ⟨pre, p, hst⟩
  ·subst hst
   have HLE := kept (out_len HI.out)
   have CRV := kept (fun W h1 (h : W.ownsRow W0.heap.size 3 1 (.slice oa out.length oc) out.length (natV out)) => reverse_nat W0 out _ W h1 h (by have h9 := HLE.out; simp at h9; omega))
   go_wp2_with (first | (go_at_call 127; go_must (refine (CRV.out _ HK.out OO.out).mono ?_); rintro e w3 ⟨rfl, hown, k3⟩; have OR := kept hown; replace HK := kept k3; clear hown k3))
   go_ret
   exact ⟨⟨_, out.reverse, rfl, by rw [List.length_reverse]; exact own_low OR.out HSW.out, ord_of HE.out HI.out⟩, (TW0.out.and_then HK.out)⟩
  ·obtain ⟨cb, k⟩ := p
   rw [List.concat_eq_append] at hst
   subst hst
   have hlen : (pre ++ [(cb, k)]).length = pre.length + 1 := by simp
   rw [hlen] at OL ⊢
   clear hlen
   have HSL := kept (HI.out.slt (cb, k) (by simp))
   have hcb : cb < f.nb := HSL.out.1
   have hkl : k ≤ (endsN f cb).length := HSL.out.2.2
   have HOL := kept (out_len HI.out)
   obtain ⟨m, hm⟩ : ∃ m, pre.length = m := ⟨_, rfl⟩
   have HPM := kept hm
   have htop := stV_top pre cb k
   rw [hm] at OL htop ⊢
   clear hm
   have hgo : (Value.slice (some ⟨gl, 0, none⟩) (m + 1) cap).ownBlock = some gl := rfl
   have HT0 := kept ((own_cellAt OL.out hgo (i := m * 2) (by omega)).1.trans htop.1)
   have HT1 := kept ((own_cellAt OL.out hgo (i := m * 2 + 1) (by omega)).1.trans htop.2)
   have HTF := kept ((own_cellAt OL.out hgo (i := m * 2 + 1) (by omega)).2)
   have HTP := kept htop
   clear htop
   have hmz : (((m + 1 : Nat) : Int)) - 1 = (m : Int) := by omega
   have hmp : (0 : Int) < ((m + 1 : Nat) : Int) := by omega
   have hcz : (cb : Int) < (f.nb : Int) := by omega
   have hmn : m ≤ 1000 := by have h9 := HOL.out; have h8 := HPM.out; simp at h9; omega
   obtain ⟨yb, yo, e8, hyb, hbc⟩ := HC2.out cb (by rw [HNB.out]; exact hcb)
   obtain rfl := e8
   have HY3 := kept ((TW0.out.and_then HK.out).cellOf (hbc 3 _ rfl))
   have HY4 := kept ((TW0.out.and_then HK.out).cellOf (hbc 4 _ rfl))
   have HY5 := kept ((TW0.out.and_then HK.out).cellOf (hbc 5 _ rfl))
   have HY6 := kept ((TW0.out.and_then HK.out).cellOf (hbc 6 _ rfl))
   clear hbc HC2
   have CE := kept (fun W => ends_any f.blocks.2[cb]!.kind f.blocks.2[cb]!.var f.blocks.2[cb]!.to0 f.blocks.2[cb]!.to1 f.blocks.2[cb]! rfl rfl rfl W)
   have HEA := kept (fun k (hk : k < (endsM f.blocks.2[cb]!).length) => ends_at HE.out hcb hk)
   have HEL := kept (show (endsN f cb).length = (endsM f.blocks.2[cb]!).length by unfold endsN; rw [List.length_map])
   generalize f.blocks.2[cb]!.kind = yk at *
   generalize f.blocks.2[cb]!.var = yv at *
   generalize f.blocks.2[cb]!.to0 = y0 at *
   generalize f.blocks.2[cb]!.to1 = y1 at *
   generalize endsM f.blocks.2[cb]! = EM at *
   obtain ⟨W5, hW5⟩ : ∃ W5 : World, W5 = wr := ⟨_, rfl⟩
   subst hW5
   clear l0 l1 l2
   have Bl_W5 := Bl
   have TW5 := HK
   clear HK
   have HK := kept (Keeps.refl W5 [])
   obtain ⟨l0, l1, l2⟩ := Bl.out.c3
   simp at l0 l1 l2
   clear l0 l1 l2
   obtain ⟨l0, l1, l2⟩ := Bl.out.c3
   simp at l0 l1 l2
   have n3 := HK.out.cellOf HY3.out
   have n4 := HK.out.cellOf HY4.out
   have n5 := HK.out.cellOf HY5.out
   have n6 := HK.out.cellOf HY6.out
   have t0 := HK.out.cellOf HT0.out
   have t1 := HK.out.cellOf HT1.out
   go_upto_region 7 with (fail)
   refine wp_region_held_drew (S := (fun w' => w'.cell? ⟨w.heap.size, 0, none⟩ = some (.slice a0 f.nv c0) ∧ w'.cell? ⟨w.heap.size, 1, none⟩ = some (.slice a1 f.np c1) ∧ w'.cell? ⟨w.heap.size, 2, none⟩ = some (.slice (some ⟨yb, yo, none⟩) f.nb c2) ∧ w'.cell? ⟨yb, yo + cb * 7 + 3, none⟩ = some (.int .i64 yk) ∧ w'.cell? ⟨yb, yo + cb * 7 + 4, none⟩ = some (.int .i64 yv) ∧ w'.cell? ⟨yb, yo + cb * 7 + 5, none⟩ = some (.int .i64 y0) ∧ w'.cell? ⟨yb, yo + cb * 7 + 6, none⟩ = some (.int .i64 y1) ∧ w'.cell? ⟨gl, m * 2, none⟩ = some (.int .i64 (cb : Nat)) ∧ w'.cell? ⟨gl, m * 2 + 1, none⟩ = some (.int .i64 (k : Nat)))) (by kernel_rfl) ?ahSs (fun hHeld => ?_)
   case ahSs => exact ⟨l0, l1, l2, n3, n4, n5, n6, t0, t1⟩
   clear l0 l1 l2 n3 n4 n5 n6 t0 t1
   replace Bl := kept (Bl.out.keep ((Keeps.refl _ []).drew) (by simp))
   replace HK := kept (HK.out.drew)
   generalize World.drew _ = X0 at *
   obtain ⟨l0, l1, l2⟩ := Bl.out.c3
   simp at l0 l1 l2
   have n3 := HK.out.cellOf HY3.out
   have n4 := HK.out.cellOf HY4.out
   have n5 := HK.out.cellOf HY5.out
   have n6 := HK.out.cellOf HY6.out
   have t0 := HK.out.cellOf HT0.out
   have t1 := HK.out.cellOf HT1.out
   refine tp 0 25 rfl hHeld ?_
   refine tp 1 26 rfl hHeld ?_
   refine tp 2 27 rfl hHeld ?_
   refine tp 3 28 rfl hHeld ?_
   refine tp 4 29 rfl hHeld ?_
   refine tp 5 30 rfl hHeld ?_
   refine tp 6 31 rfl hHeld ?_
   refine tp 7 32 rfl hHeld ?_
   refine tp 8 33 rfl hHeld ?_
   refine t2 [9] ?_
   refine t3 (fun K hK => ?_) AllReadyH.nil
   go_simp
   (with_reducible refine (CE.out _).mono ?_)
   rintro e wx ⟨⟨q, rfl, hq2, hq3, hq4⟩, k3⟩
   have HQA := kept hq3
   have HQL := kept hq2
   clear hq2 hq3 hq4
   show K _ _
   clear hHeld
   clear l0 l1 l2 n3 n4 n5 n6 t0 t1
   replace Bl := kept (Bl.out.keep k3 (by simp))
   replace HK := kept (HK.out.and_then k3)
   obtain ⟨l0, l1, l2⟩ := Bl.out.c3
   simp at l0 l1 l2
   have n3 := HK.out.cellOf HY3.out
   have n4 := HK.out.cellOf HY4.out
   have n5 := HK.out.cellOf HY5.out
   have n6 := HK.out.cellOf HY6.out
   have t0 := HK.out.cellOf HT0.out
   have t1 := HK.out.cellOf HT1.out
   clear k3
   refine hK.out _ _ ?ahS9 (fun hHeld => ?_)
   case ahS9 => exact ⟨l0, l1, l2, n3, n4, n5, n6, t0, t1⟩
   clear hK K
   try simp only [Act.put, sA, sB, sC]
   refine tp 10 7 rfl hHeld ?_
   refine wpAnyH_done (by kernel_rfl) ?_ _
   clear hHeld
   obtain ⟨ta, tc, e9, htl, htm, hte⟩ := Row.open_ (M := Int) (cells := intCells) HQA.out
   rw [e9]
   rw [HQL.out] at e9 htl hte ⊢
   have HTE := kept hte
   clear e9 hte HQA HQL
   have hTL : EM.length ≤ 1000 := by have h9 := endsN_len f cb; have h8 := HEL.out; omega
   have OO2 := kept (own_keep OO.out HK.out (by simp))
   have OL2 := kept (own_keep OL.out HK.out (by simp))
   have BB2 := kept (BB.out.keep HK.out (by simp))
   clear OO OL BB
   have OO := OO2
   have OL := OL2
   have BB := BB2
   clear OO2 OL2 BB2
   have HKT := kept (TW5.out.and_then HK.out)
   obtain ⟨W6, hW6⟩ : ∃ W6 : World, W6 = wx := ⟨_, rfl⟩
   subst hW6
   clear HT0 HT1 l0 l1 l2 n3 n4 n5 n6 t0 t1
   have t0 := (own_cellAt OL.out hgo (i := m * 2) (by omega)).1.trans HTP.out.1
   have t1 := (own_cellAt OL.out hgo (i := m * 2 + 1) (by omega)).1.trans HTP.out.2
   have tf := (own_cellAt OL.out hgo (i := m * 2 + 1) (by omega)).2
   have hcapz : (m : Int) ≤ (cap : Int) := by obtain ⟨g9, c9, e9, -, h9, -⟩ := own_some OL.out (by omega); simp only [Value.slice.injEq] at e9; omega
   have Blw := kept (Bl_W0.out.keep HKT.out (by simp))
   clear Bl
   by_cases hkt : k = EM.length
   ·have hol : out.length + 1 ≤ 1000 := by have h9 := HOL.out; have h8 := hn; simp at h9; omega
    have HSZ := kept HKT.out.size
    have hkz : ((k : Int) == (EM.length : Int)) = true := by simp [hkt]
    have HDP := kept (dfs_pop (show DfsInv (endsN f) f.nb seen out (pre ++ [(cb, (endsN f cb).length)]) by have h9 := HI.out; rwa [show k = (endsN f cb).length by rw [HEL.out]; exact hkt] at h9))
    go_wp2_with (first | (at_builtin; go_must (refine wpList_append_row rfl (.tmp 42) (.tmp 47) 23 rfl W0.heap.size 3 i3 (.int .i64 0) 1 8 Tryz.underlying23 hi3 hz3 hs3 hb3 rfl (by decide) (.slice oa out.length oc) out.length (natV out) rfl (own_keep OO.out ((Keeps.refl W6 []).alloc _) (by simp)) (.slice (some ⟨W6.heap.size, 0, none⟩) 1 1) [[.int .i64 (cb : Nat)]] rfl (row_single (Blk.new W6 3 _)) (by simp) (by simp [Value.oneCell']) (by simp; unfold maxLen; omega) (by simp; omega) (by rw [size_alloc1]; have h9 := HSZ.out; omega) ?_); intro v1 w4 hown hgrow; have hBB := kept (blk_grown BB.out OO.out (by decide) hgrow); have hOL := kept (own_grown OL.out OO.out (by decide) hgrow); have hKx := kept (keeps_grown HKT.out OO.out (Nat.le_refl _) hgrow); have hO4 := kept hown; clear hown hgrow))
    obtain ⟨gq, rfl⟩ : ∃ gq, gk = gq + 1 := ⟨gk - 1, by have h9 := HG.out; have h8 := fuel_pos (endsN f) seen (pre ++ [(cb, k)]) (by simp); omega⟩
    go_roundg gq
    case measure => omega
    case rel => exact ⟨seen, out ++ [cb], pre, HDP.out, kept (by have h9 := HG.out; have h8 := fuel_pop (ends := endsN f) (seen := seen) (pre := pre) (c := cb) (k := k); omega), hBB.out, by have h9 := hO4.out; simpa [natV] using h9, by have h9 := own_cut hOL.out (m := m) (by omega); rw [← HPM.out] at h9 ⊢; rw [stV_take] at h9; exact h9, ⟨gl, cap, by rw [HPM.out]⟩, hKx.out⟩
   ·have hklt : k < EM.length := by have h9 := HEL.out; omega
    have hkz : ((k : Int) == (EM.length : Int)) = false := beq_eq_false_iff_ne.2 (show (k : Int) ≠ (EM.length : Int) by omega)
    have hkzl : (k : Int) < (EM.length : Int) := by omega
    obtain ⟨hd1, hd2⟩ := HEA.out k hklt
    obtain ⟨eb, eo, e9, heb, hec⟩ := HTE.out k hklt
    obtain rfl := e9
    have e0 := hec 0 _ rfl
    simp only [Nat.mul_one, Nat.add_zero] at e0
    rw [← hd1] at e0
    obtain ⟨d, hdd⟩ : ∃ d, (endsN f cb)[k]! = d := ⟨_, rfl⟩
    have HDD := kept hdd
    rw [hdd] at hd2 e0
    clear hdd hd1 hec HTE HEA
    have hdz : (d : Int) < (f.nb : Int) := by omega
    go_upto_region 13 with (fail)
    have k4 : Keeps W6 (W6.setCell ⟨gl, m * 2 + 1, none⟩ (.int .i64 ((k : Int) + 1))) [gl] := (Keeps.refl W6 _).setCell (.inl (by simp)) _
    have HGL := kept (own_lt OL.out hgo).2
    have hO4 := own_keep OO.out k4 (fun k hk hm => by simp at hm; subst hm; exact own_apart OO.out OL.out (by decide) hk hgo)
    have hBB := BB.out.keep k4 (fun hm => by simp at hm; exact own_ne OL.out BB.out (by decide) (by rw [hgo, hm]))
    have hOL := own_setC OL.out hgo (m * 2 + 1) (.int .i64 ((k : Int) + 1))
    have hst : (stV (pre ++ [(cb, k)])).set (m * 2 + 1) (.int .i64 ((k : Int) + 1)) = stV (pre ++ [(cb, k + 1)]) := by rw [← HPM.out]; exact stV_next pre cb k
    rw [hst] at hOL
    clear hst
    have hKx := HKT.out.setCell (p := ⟨gl, m * 2 + 1, none⟩) (.inr HGL.out) (.int .i64 ((k : Int) + 1))
    clear t0 t1 tf e0 k4 OO OL BB HKT HK Blw
    generalize (W6.setCell ⟨gl, m * 2 + 1, none⟩ (.int .i64 ((k : Int) + 1))) = W7 at *
    have OO := kept hO4
    have OL := kept hOL
    have BB := kept hBB
    have HKT := kept hKx
    clear hO4 hOL hBB hKx
    have HSL2 := kept HI.out.sl
    have s0 : W7.cell? ⟨gs, d, none⟩ = some (.bool seen[d]!) := by rw [BB.out.cell d, bitsR_at (by rw [HSL2.out]; exact hd2)]
    have s1 := BB.out.frozen d
    have HSE := kept (show seen[d]! = seen[d]! from rfl)
    generalize hsd : seen[d]! = sd at s0
    replace HSE := kept hsd
    clear hsd
    cases sd
    ·go_upto_region 15 with (fail)
     have k4 : Keeps W7 (W7.setCell ⟨gs, d, none⟩ (.bool true)) [gs] := (Keeps.refl W7 _).setCell (.inl (by simp)) _
     have hO4 := own_keep OO.out k4 (fun k hk hm => by simp at hm; subst hm; exact own_ne OO.out BB.out (by decide) hk)
     have hOL := own_keep OL.out k4 (fun k hk hm => by simp at hm; subst hm; exact own_ne OL.out BB.out (by decide) hk)
     have hBB : Blk (W7.setCell ⟨gs, d, none⟩ (.bool true)) gs 4 (bitsR (seen.set d true)) := by rw [← bitsR_set]; exact BB.out.set_ d _
     have hKx := HKT.out.setCell (p := ⟨gs, d, none⟩) (.inr HGS.out) (.bool true)
     clear s0 s1 k4 OO OL BB HKT
     generalize (W7.setCell ⟨gs, d, none⟩ (.bool true)) = W8 at *
     have OO := kept hO4
     have OL := kept hOL
     have BB := kept hBB
     have HKT := kept hKx
     clear hO4 hOL hBB hKx
     have HSZ := kept HKT.out.size
     go_wp2_with (first | (at_builtin; go_must (refine wpList_append_row rfl (.tmp 76) (.tmp 79) 183 rfl W0.heap.size 182 i182 (.agg #[.int .i64 0, .int .i64 0]) 2 16 Tryz.underlying183 hi182 hz182 hs182 hb182 rfl (by decide) (.slice (some ⟨gl, 0, none⟩) (m + 1) cap) (m + 1) (stV (pre ++ [(cb, k + 1)])) rfl (own_keep OL.out ((Keeps.refl W8 []).alloc _) (by simp)) (.slice (some ⟨W8.heap.size, 0, none⟩) 1 1) [[.int .i64 (d : Nat), .int .i64 0]] rfl (row_single (Blk.new W8 182 _)) (by simp) (by simp [Value.oneCell']) (by simp; unfold maxLen; omega) (by simp; omega) (by rw [size_alloc1]; have h9 := HSZ.out; omega) ?_); intro v1 w4 hown hgrow; have hBB := kept (blk_grown BB.out OL.out (by decide) hgrow); have hOO := kept (own_grown OO.out OL.out (by decide) hgrow); have hKx := kept (keeps_grown HKT.out OL.out (Nat.le_refl _) hgrow); have hO4 := kept hown; clear hown hgrow))
     obtain ⟨gq, rfl⟩ : ∃ gq, gk = gq + 1 := ⟨gk - 1, by have h9 := HG.out; have h8 := fuel_pos (endsN f) seen (pre ++ [(cb, k)]) (by simp); omega⟩
     go_roundg gq
     case measure => omega
     case rel => exact ⟨seen.set d true, out, pre ++ [(cb, k + 1)] ++ [(d, 0)], by have h9 := dfs_new HI.out (by rw [HEL.out]; exact hklt) (by rw [HDD.out]; exact hd2) (by rw [HDD.out]; exact HSE.out); rw [HDD.out] at h9; exact h9, kept (by have h9 := HG.out; have h8 := fuel_new (ends := endsN f) (seen := seen) (pre := pre) (c := cb) (k := k) (d := d) (by rw [HEL.out]; exact hklt) (by rw [HSL2.out]; exact hd2) HSE.out (endsN_len f d); omega), hBB.out, hOO.out, by have h9 := hO4.out; simp only [List.length_append, List.length_singleton, HPM.out]; simp only [List.length_cons, List.length_nil, List.flatten_cons, List.flatten_nil, List.append_nil] at h9; rw [stV_snoc]; exact h9, by have h9 := hO4.out; obtain ⟨g9, c9, e9, -⟩ := own_some h9 (by simp); exact ⟨g9, c9, by rw [e9]; simp [HPM.out]⟩, hKx.out⟩
    ·go_wp2
     obtain ⟨gq, rfl⟩ : ∃ gq, gk = gq + 1 := ⟨gk - 1, by have h9 := HG.out; have h8 := fuel_pos (endsN f) seen (pre ++ [(cb, k)]) (by simp); omega⟩
     go_roundg gq
     case measure => omega
     case rel => exact ⟨seen, out, pre ++ [(cb, k + 1)], dfs_old HI.out (by rw [HEL.out]; exact hklt) (by rw [HDD.out]; exact HSE.out), kept (by have h9 := HG.out; have h8 := fuel_old (ends := endsN f) (seen := seen) (pre := pre) (c := cb) (k := k) (by rw [HEL.out]; exact hklt); omega), BB.out, OO.out, by simp only [List.length_append, List.length_singleton, HPM.out]; exact OL.out, ⟨gl, cap, by simp [HPM.out]⟩, HKT.out⟩
end Go.Proofs.YtjllbchfojonhaaGreatDoor
