/- What is good at the beginning of a block: what is good at the ends of all that lead there (guard.meet); the walk. -/
import Derived.Test.YtjllbchfojonhaaGreatDoorGU
import Derived.Deep.CutBlock
import Derived.Deep.Cut
namespace Go.Proofs.YtjllbchfojonhaaGreatDoor
open Go.RowKit Go.Shelf Go.Lib
set_option linter.unusedVariables false
set_option linter.unusedSimpArgs false

def thrB (f : FuncM) (cs : List CheckM) (i p : Nat) (g : Bool) : Bool := throughM f.blocks.2[p]! cs[i]!.op cs[i]!.args.2 f.blocks.2[p]!.insts.2.length g
def meetTo (f : FuncM) (cs : List CheckM) (th : List Bool) (I : List (List Bool)) (P : List Nat) (k : Nat) : List Bool := (List.range cs.length).map fun i => ((P.take k).filter fun p => th[p]!).all fun p => thrB f cs i p (I[p]![i]!)
def zipTo (a r : List Bool) (n j : Nat) : List Bool := (List.range n).map fun i => if i < j then (a[i]! && r[i]!) else a[i]!
theorem zipTo_len (a r : List Bool) (n j : Nat) : (zipTo a r n j).length = n := by simp [zipTo]
theorem zipTo_zero {a r : List Bool} {n : Nat} (h : a.length = n) : zipTo a r n 0 = a := (range_eq fun i hi => if_neg (Nat.not_lt_zero _)).trans (eq_range h).symm
theorem zipTo_at {a r : List Bool} {n j : Nat} (hj : j < n) : (zipTo a r n j)[j]! = a[j]! := by unfold zipTo; rw [range_at _ hj, if_neg (Nat.lt_irrefl _)]
theorem zipTo_step {a r : List Bool} {n j : Nat} (hj : j < n) : zipTo a r n (j + 1) = (zipTo a r n j).set j (a[j]! && r[j]!) := by
  unfold zipTo
  rw [set_range _ _ hj]
  refine range_eq fun i hi => ?_
  by_cases e : i = j
  · subst e; rw [if_pos (Nat.lt_succ_self _), if_pos rfl]
  · rw [if_neg e]
    by_cases h2 : i < j
    · rw [if_pos h2, if_pos (by omega)]
    · rw [if_neg h2, if_neg (by omega)]
section
variable {f : FuncM} {cs : List CheckM} {th : List Bool} {I : List (List Bool)} {P : List Nat} {k : Nat}
theorem meetTo_len : (meetTo f cs th I P k).length = cs.length := by simp [meetTo]
theorem meetTo_zero : meetTo f cs th I P 0 = List.replicate cs.length true := by
  unfold meetTo
  refine List.ext_getElem (by simp) fun i h1 h2 => by simp
theorem meetTo_no (hk : k < P.length) (h : th[P[k]!]! = false) : meetTo f cs th I P (k + 1) = meetTo f cs th I P k := by
  unfold meetTo
  refine range_eq fun i hi => ?_
  rw [List.take_succ_eq_append_getElem hk, List.filter_append, ← getElem!_pos P k hk, List.filter_cons_of_neg (by rw [h]; simp), List.filter_nil, List.append_nil]
theorem meetTo_yes (hk : k < P.length) (h : th[P[k]!]! = true) : meetTo f cs th I P (k + 1) = zipTo (meetTo f cs th I P k) (throughL cs f.blocks.2[P[k]!]! f.blocks.2[P[k]!]!.insts.2.length I[P[k]!]!) cs.length cs.length := by
  unfold zipTo
  conv => lhs; unfold meetTo
  refine range_eq fun i hi => ?_
  rw [if_pos hi, List.take_succ_eq_append_getElem hk, List.filter_append, ← getElem!_pos P k hk, List.filter_cons_of_pos (by rw [h]), List.filter_nil, List.all_append]
  unfold meetTo throughL
  rw [range_at _ hi, range_at _ hi]
  simp [thrB]
end
structure FieldOK (f : FuncM) (cs : List CheckM) (th : List Bool) (I : List (List Bool)) : Prop where
  nb : f.nb ≤ 1000
  nc : cs.length ≤ 100000
  lt : th.length = f.nb
  li : I.length = f.nb
  lw : ∀ b, b < f.nb → I[b]!.length = cs.length
  ok : ∀ b, b < f.nb → ChecksOK cs f.blocks.2[b]!
  bd : ∀ b, b < f.nb → f.blocks.2[b]!.phis.2.length ≤ 100000 ∧ f.blocks.2[b]!.insts.2.length ≤ 100000
theorem getElem?_pos_bang {α : Type} [Inhabited α] {l : List α} {i : Nat} (h : i < l.length) : l[i]? = some l[i]! := by rw [List.getElem?_eq_getElem h, getElem!_pos l i h]
theorem own_at {w : World} {base n : Nat} {e : TypeId} {v : Value} {xs : List Value} (h : w.ownsRow base e 1 v n xs) (hn : 0 < n) : ∃ g cap, v = .slice (some ⟨g, 0, none⟩) n cap ∧ base ≤ g ∧ v.ownBlock = some g ∧ ∀ j, j < n → w.cell? ⟨g, j, none⟩ = xs[j]? := by
  obtain ⟨g, cap, h1, h2, h3, -, -, -, hc, -⟩ := own_cellC h hn
  exact ⟨g, cap, h1, h2, h3, fun j hj => hc j (by omega)⟩

set_option maxRecDepth 100000 in
set_option maxHeartbeats 200000000 in
theorem meet_any (f : FuncM) (cs : List CheckM) (th : List Bool) (I : List (List Bool)) (lv tv iv : Value) (vs : List Value) (L : Nat) (q : IntsM) (P : List Nat) (w : World) (hF : FieldAt w L f cs th I lv tv iv vs) (hO : FieldOK f cs th I) (hq : IntsAt w q) (hP : q.2 = P.map Int.ofNat) (hPn : ∀ p ∈ P, p < f.nb) (hPl : P.length ≤ 100000) :
    Calls Tryz.prog 63 #[.pointer (some ⟨L, 0, none⟩), q.1] w fun e w' => (∃ v, e = .returned v ∧ w'.ownsRow w.heap.size 4 1 v cs.length (bitV (meetTo f cs th I P P.length))) ∧ Keeps w w' [] := by
  have HFA := kept hF
  have HFO := kept hO
  have hnc := hO.nc
  have hnb := hO.nb
  obtain ⟨qa, qc, e1, -, hqm, hqc⟩ := Row.open_ (M := Int) (cells := intCells) hq
  have HQC := kept (fun k (hk : k < P.length) => by have h9 := hqc k (by rw [hP, List.length_map]; exact hk); rwa [show q.2[k]! = ((P[k]! : Nat) : Int) by rw [hP, getElem!_pos _ k (by simpa using hk), List.getElem_map, getElem!_pos P k hk]; rfl] at h9)
  rw [e1]
  rw [show q.2.length = P.length by rw [hP, List.length_map]]
  have HPN := kept hPn
  clear hq hP e1 hqc hqm hPn hF hO
  obtain ⟨la, lc, rfl, -, -⟩ := own_form HFA.out.l
  obtain ⟨a2, c2, e2, -, -, hc2⟩ := HFA.out.fn.blocks.open_
  have CTh := kept (fun p (hp : p < f.nb) (W : World) (hW : Keeps w W []) => through_any cs f.blocks.2[p]! f.blocks.2[p]!.insts.2.length L (.slice la cs.length lc) tv iv f.vars.1 f.params.1 f.blocks.1 vs[p]! I[p]! W (HFA.out.box.keep hW (by simp)) (HFA.out.keep hW).row (HFA.out.keep hW).la (bits_of_own ((HFA.out.keep hW).ir p (by rw [HFO.out.li]; exact hp))) (HFO.out.lw p hp) hnc ((HFA.out.keep hW).fn.block _ (bang_mem hp)) (Nat.le_refl _) (HFO.out.bd p hp) (HFO.out.ok p hp))
  have HB0 := HFA.out.box
  rw [e2] at HB0
  have HBX := kept HB0
  have HC2 := kept hc2
  clear HB0 hc2 e2
  have HL2 : Hid (w.cell? ⟨L, 2, none⟩ = some (.slice a2 f.blocks.2.length c2)) := kept (by have h9 := HBX.out.cell 2; simpa using h9)
  have HL3 : Hid (w.cell? ⟨L, 3, none⟩ = some (.slice la cs.length lc)) := kept (by have h9 := HBX.out.cell 3; simpa using h9)
  have HL4 : Hid (w.cell? ⟨L, 4, none⟩ = some (tv)) := kept (by have h9 := HBX.out.cell 4; simpa using h9)
  have HL5 : Hid (w.cell? ⟨L, 5, none⟩ = some (iv)) := kept (by have h9 := HBX.out.cell 5; simpa using h9)
  have M0 := kept (meetTo_zero (f := f) (cs := cs) (th := th) (I := I) (P := P))
  have MN := kept (fun k (hk : k < P.length) => meetTo_no (f := f) (cs := cs) (th := th) (I := I) hk)
  have MY := kept (fun k (hk : k < P.length) => meetTo_yes (f := f) (cs := cs) (th := th) (I := I) hk)
  have ML := kept (fun k => meetTo_len (f := f) (cs := cs) (th := th) (I := I) (P := P) (k := k))
  have f3 := ((Keeps.refl w []).alloc (.cells #[.bool true] 4)).cellOf HL3.out
  go_enter Tryz.func63, Tryz.ntmps63
  go_wp2_with (first | (go_at_call 62; refine (repeat_any cs.length _ _ hnc (Blk.new w 4 #[.bool true])).mono ?_; rintro e w3 ⟨⟨ov, rfl, hown⟩, k3⟩; obtain ⟨oa, oc, rfl, -, -⟩ := own_form hown; have hsz := k3.size; have OO := kept (own_low (b := w.heap.size) hown (by rw [size_alloc1]; omega)); have HK := kept (((Keeps.refl w []).alloc (.cells #[.bool true] 4)).and_then k3); clear hown k3 hsz))
  clear f3
  go_loopw [20] (fun i' wx => ∃ k : Nat, k ≤ P.length ∧ i' = .int .i64 k ∧ wx.ownsRow w.heap.size 4 1 (.slice oa cs.length oc) cs.length (bitV (meetTo f cs th I P k)) ∧ Keeps w wx []) (fun i' _ => P.length - (intOf i').toNat)
  case atStart => exact ⟨0, Nat.zero_le _, rfl, by rw [M0.out]; exact OO.out, HK.out⟩
  case round =>
    obtain ⟨k, hk, rfl, hO, hr⟩ := hrel
    clear OO HK
    have OO := kept hO
    have HK := kept hr
    clear hO hr
    by_cases hlk : k < P.length
    · have hlkz : (k : Int) < (P.length : Int) := by omega
      obtain ⟨qb, qo, e8, hqb, hqc⟩ := HQC.out k hlk
      obtain rfl := e8
      have q0 := HK.out.cellOf (hqc 0 _ rfl)
      simp only [Nat.mul_one, Nat.add_zero] at q0
      have hpn := HPN.out _ (bang_mem hlk)
      have MNk := kept (MN.out k hlk)
      have MYk := kept (MY.out k hlk)
      generalize P[k]! = p at *
      clear MN MY hqc HQC HPN
      have hpz : (p : Int) < (f.nb : Int) := by omega
      obtain ⟨tg, tc, e9, -, -, htc⟩ := own_at HFA.out.t (by rw [HFO.out.lt]; omega)
      have HT4 := kept (HL4.out)
      rw [e9, HFO.out.lt] at HT4
      have f4 := HK.out.cellOf HT4.out
      have t0 := HK.out.cellOf ((htc p (by rw [HFO.out.lt]; exact hpn)).trans (bitV_at (by rw [HFO.out.lt]; exact hpn)))
      clear htc e9
      have HTP := kept (show th[p]! = th[p]! from rfl)
      generalize htp : th[p]! = tp at t0
      replace HTP := kept htp
      clear htp
      cases tp
      · go_wp2
        go_roundw
        case rel => exact ⟨k + 1, by omega, by go_num, by rw [MNk.out HTP.out]; exact OO.out, HK.out⟩
        case measure => simp [intOf]; omega
      · obtain ⟨yb, yo, e8, hyb, hbc⟩ := HC2.out p hpn
        obtain rfl := e8
        have f2 := HK.out.cellOf HL2.out
        obtain ⟨ia, ic, e7, -, hic, hii⟩ := own_at HFA.out.i (by rw [HFO.out.li]; omega)
        have HI5 := kept HL5.out
        rw [e7, HFO.out.li] at HI5
        have HIC := kept ((hii p (by rw [HFO.out.li]; exact hpn)).trans (getElem?_pos_bang (by have h9 := HFA.out.i.1; rw [HFO.out.li] at h9; omega)))
        clear hii e7
        have y0 := HK.out.cellOf (hbc 0 _ rfl)
        have y1 := HK.out.cellOf (hbc 1 _ rfl)
        have y2 := HK.out.cellOf (hbc 2 _ rfl)
        have y3 := HK.out.cellOf (hbc 3 _ rfl)
        have y4 := HK.out.cellOf (hbc 4 _ rfl)
        have y5 := HK.out.cellOf (hbc 5 _ rfl)
        have y6 := HK.out.cellOf (hbc 6 _ rfl)
        simp only [Nat.add_zero] at y0
        clear hbc HC2
        obtain ⟨ja, jc, e6, -, -, -⟩ := (HFA.out.fn.block _ (bang_mem (l := f.blocks.2) (k := p) hpn)).insts.open_
        obtain ⟨pa, pc, e5, -, -, -⟩ := (HFA.out.fn.block _ (bang_mem (l := f.blocks.2) (k := p) hpn)).phis.open_
        have CTp := kept (fun W h => CTh.out p hpn W h)
        have HYC := kept (show (f.blocks.2[p]!).cells.toArray = #[.string (f.blocks.2[p]!).name, .slice pa (f.blocks.2[p]!).phis.2.length pc, .slice ja (f.blocks.2[p]!).insts.2.length jc, .int .i64 (f.blocks.2[p]!).kind, .int .i64 (f.blocks.2[p]!).var, .int .i64 (f.blocks.2[p]!).to0, .int .i64 (f.blocks.2[p]!).to1] by unfold BlockM.cells; rw [e5, e6])
        rw [HYC.out] at CTp
        rw [e5] at y1
        rw [e6] at y2
        clear HYC e5 e6 CTh
        have hil : f.blocks.2[p]!.insts.2.length ≤ 100000 := (HFO.out.bd p hpn).2
        generalize throughL cs f.blocks.2[p]! f.blocks.2[p]!.insts.2.length I[p]! = R at *
        generalize (f.blocks.2[p]!).name = yn at *
        generalize (f.blocks.2[p]!).phis.2.length = pn at *
        generalize (f.blocks.2[p]!).insts.2.length = yil at *
        generalize (f.blocks.2[p]!).kind = yk at *
        generalize (f.blocks.2[p]!).var = yv at *
        generalize (f.blocks.2[p]!).to0 = yt0 at *
        generalize (f.blocks.2[p]!).to1 = yt1 at *
        generalize vs[p]! = vp at *
        go_upto_region 7 with (fail)
        clear y0 y1 y2 y3 y4 y5 y6 f2 f4 t0 q0
        have kx : Keeps wr (wr.alloc (.cells #[.string yn, .slice pa pn pc, .slice ja yil jc, .int .i64 yk, .int .i64 yv, .int .i64 yt0, .int .i64 yt1] 38)) [] := (Keeps.refl wr []).alloc _
        have bb := Blk.new wr 38 #[.string yn, .slice pa pn pc, .slice ja yil jc, .int .i64 yk, .int .i64 yv, .int .i64 yt0, .int .i64 yt1]
        have hOx := own_keep OO.out kx (by simp)
        have hKx := HK.out.and_then kx
        clear kx OO HK
        generalize (wr.alloc (.cells #[.string yn, .slice pa pn pc, .slice ja yil jc, .int .i64 yk, .int .i64 yv, .int .i64 yt0, .int .i64 yt1] 38)) = W4 at *
        generalize wr.heap.size = bx at *
        have OO := kept hOx
        have Bx := kept bb
        have HKw := kept hKx
        have HK := kept (Keeps.refl W4 [])
        clear hOx hKx bb
        obtain ⟨x0, x1, x2, x3, x4, x5, x6⟩ := Bx.out.c7
        simp at x0 x1 x2 x3 x4 x5 x6
        have f5 := (HKw.out.and_then HK.out).cellOf HI5.out
        have ip := (HKw.out.and_then HK.out).cellOf HIC.out
        refine wp_region_held_drew (S := (fun w' => w'.cell? ⟨bx, 0, none⟩ = some (.string yn) ∧ w'.cell? ⟨bx, 1, none⟩ = some (.slice pa pn pc) ∧ w'.cell? ⟨bx, 2, none⟩ = some (.slice ja yil jc) ∧ w'.cell? ⟨bx, 3, none⟩ = some (.int .i64 yk) ∧ w'.cell? ⟨bx, 4, none⟩ = some (.int .i64 yv) ∧ w'.cell? ⟨bx, 5, none⟩ = some (.int .i64 yt0) ∧ w'.cell? ⟨bx, 6, none⟩ = some (.int .i64 yt1) ∧ w'.cell? ⟨L, 5, none⟩ = some (.slice (some ⟨ia, 0, none⟩) f.nb ic) ∧ w'.cell? ⟨ia, p, none⟩ = some (vp))) (by kernel_rfl) ?bhSs (fun hHeld => ?_)
        case bhSs => exact ⟨x0, x1, x2, x3, x4, x5, x6, f5, ip⟩
        clear x0 x1 x2 x3 x4 x5 x6 f5 ip
        replace Bx := kept (Bx.out.keep ((Keeps.refl _ []).drew) (by simp))
        replace HK := kept (HK.out.drew)
        generalize World.drew _ = X0 at *
        obtain ⟨x0, x1, x2, x3, x4, x5, x6⟩ := Bx.out.c7
        simp at x0 x1 x2 x3 x4 x5 x6
        have f5 := (HKw.out.and_then HK.out).cellOf HI5.out
        have ip := (HKw.out.and_then HK.out).cellOf HIC.out
        refine tl 0 ⟨some 40, .move (.tmp 0), 85, "guard.go:82", #[], none⟩ rfl hHeld ?_
        refine tl 1 ⟨some 41, .move (.tmp 0), 85, "guard.go:82", #[], none⟩ rfl hHeld ?_
        refine tl 2 ⟨some 42, .nilCheck (.tmp 41), 0, "guard.go:82", #[⟨1, .data⟩], none⟩ rfl hHeld ?_
        refine tl 3 ⟨some 43, .fieldAddr 89 (.tmp 42) 3, 0, "guard.go:82", #[⟨2, .data⟩], none⟩ rfl hHeld ?_
        refine tl 4 ⟨some 44, .load 87 (.tmp 43), 87, "guard.go:82", #[⟨3, .data⟩], none⟩ rfl hHeld ?_
        refine tl 5 ⟨some 45, .move (.tmp 7), 3, "guard.go:82", #[], none⟩ rfl hHeld ?_
        refine tl 6 ⟨some 46, .indexAddr 87 (.tmp 44) (.tmp 45), 0, "guard.go:82", #[⟨4, .data⟩, ⟨5, .data⟩], none⟩ rfl hHeld ?_
        refine tl 7 ⟨some 47, .load 39 (.tmp 46), 39, "guard.go:82", #[⟨6, .data⟩], none⟩ rfl hHeld ?_
        refine tl 8 ⟨some 48, .load 38 (.tmp 8), 38, "guard.go:82", #[], none⟩ rfl hHeld ?_
        refine tl 9 ⟨some 49, .fieldAddr 38 (.tmp 8) 2, 0, "guard.go:82", #[], none⟩ rfl hHeld ?_
        refine tl 10 ⟨some 50, .load 32 (.tmp 49), 32, "guard.go:82", #[⟨9, .data⟩], none⟩ rfl hHeld ?_
        refine tl 11 ⟨some 51, .call ⟨.builtin .len, #[.tmp 50], #[32]⟩, 3, "guard.go:82", #[⟨10, .data⟩], none⟩ rfl hHeld ?_
        refine tl 14 ⟨some 54, .move (.const (Value.int IntKind.i64 0)), 3, "guard.go:82", #[], none⟩ rfl hHeld ?_
        refine wpAnyH_ready (rs := [12]) (by kernel_rfl) (by simp) ?_
        refine AllReadyH.cons (o := ⟨some 52, .call ⟨.value (.func 35), #[.tmp 40, .tmp 47, .tmp 48, .tmp 51], #[85, 39, 38, 3]⟩, 39, "guard.go:82", #[⟨0, .data⟩, ⟨7, .data⟩, ⟨8, .data⟩, ⟨11, .data⟩], none⟩) rfl (fun K hK => ?_) AllReadyH.nil
        go_simp
        (with_reducible refine (CTp.out _ (HKw.out.and_then HK.out)).mono ?_)
        rintro e wx ⟨⟨rv, rfl, hown⟩, k3⟩
        obtain ⟨ra, rc, rfl, -, -⟩ := own_form hown
        have OR := kept (own_low (b := W4.heap.size) hown HK.out.size)
        clear hown
        show K _ _
        clear hHeld
        clear x0 x1 x2 x3 x4 x5 x6 f5 ip
        replace Bx := kept (Bx.out.keep k3 (by simp))
        replace HK := kept (HK.out.and_then k3)
        obtain ⟨x0, x1, x2, x3, x4, x5, x6⟩ := Bx.out.c7
        simp at x0 x1 x2 x3 x4 x5 x6
        have f5 := (HKw.out.and_then HK.out).cellOf HI5.out
        have ip := (HKw.out.and_then HK.out).cellOf HIC.out
        clear k3
        refine hK.out _ _ ?bhS12 (fun hHeld => ?_)
        case bhS12 => exact ⟨x0, x1, x2, x3, x4, x5, x6, f5, ip⟩
        clear hK K
        try simp only [Act.put, sA, sB, sC]
        refine tl 13 ⟨some 53, .call ⟨.builtin .len, #[.tmp 52], #[39]⟩, 3, "guard.go:82", #[⟨12, .data⟩], none⟩ rfl hHeld ?_
        refine wpAnyH_done (by kernel_rfl) ?_ _
        clear hHeld
        have OO2 := kept (own_keep OO.out HK.out (by simp))
        have HKT := kept (HKw.out.and_then HK.out)
        have HAP := kept (show ∀ z, (Value.slice oa cs.length oc).ownBlock = some z → (Value.slice ra cs.length rc).ownBlock ≠ some z from fun z hz e => by have h8 := (own_lt OO.out hz).1; have h9 := (own_lt OR.out e).2; omega)
        clear OO HKw HK Bx x0 x1 x2 x3 x4 x5 x6 f5 ip
        have OO := OO2
        have HK := HKT
        clear OO2 HKT
        go_wp2
        go_loopw [54] (fun i' wx => ∃ j : Nat, j ≤ cs.length ∧ i' = .int .i64 j ∧ wx.ownsRow w.heap.size 4 1 (.slice oa cs.length oc) cs.length (bitV (zipTo (meetTo f cs th I P k) R cs.length j)) ∧ wx.ownsRow W4.heap.size 4 1 (.slice ra cs.length rc) cs.length (bitV R) ∧ Keeps w wx []) (fun i' _ => cs.length - (intOf i').toNat)
        case atStart => exact ⟨0, Nat.zero_le _, rfl, by rw [zipTo_zero (ML.out k)]; exact OO.out, OR.out, HK.out⟩
        case round =>
          obtain ⟨j, hj, rfl, hO, hR, hr⟩ := hrel
          clear OO HK OR
          have OO := kept hO
          have OR := kept hR
          have HK := kept hr
          clear hO hR hr
          by_cases hlj : j < cs.length
          · have hljz : (j : Int) < (cs.length : Int) := by omega
            obtain ⟨og, oc2, e1, hog, hogo, hoc⟩ := own_at OO.out (by omega)
            simp only [Value.slice.injEq] at e1
            obtain ⟨rfl, -, rfl⟩ := e1
            obtain ⟨rg, rc2, e1, hrg, hrgo, hrc⟩ := own_at OR.out (by omega)
            simp only [Value.slice.injEq] at e1
            obtain ⟨rfl, -, rfl⟩ := e1
            have HRL := kept (show R.length = cs.length by have h9 := OR.out.1; rw [bitV_len] at h9; omega)
            have o0 := (hoc j hlj).trans (bitV_at (by rw [zipTo_len]; exact hlj))
            have o1 := (own_cellAt OO.out hogo (i := j) (by omega)).2
            have r0 := (hrc j hlj).trans (bitV_at (by rw [HRL.out]; exact hlj))
            rw [zipTo_at hlj] at o0
            have HZS := kept (zipTo_step (a := meetTo f cs th I P k) (r := R) hlj)
            have HG := kept hog
            have HGO := kept hogo
            have HRGO := kept hrgo
            clear hoc hrc hog hogo hrg hrgo
            generalize (meetTo f cs th I P k)[j]! = aj at o0 HZS
            generalize R[j]! = rj at r0 HZS
            cases aj
            · cases rj
              · go_wp2
                go_roundw
                case rel => exact ⟨j + 1, by omega, by go_num, by rw [HZS.out, ← bitV_set]; exact own_setC OO.out HGO.out j _, own_keep OR.out ((Keeps.refl wr [og]).setCell (.inl (by simp)) _) (fun z hz hm => by simp at hm; subst hm; exact HAP.out _ HGO.out hz), HK.out.setCell (.inr HG.out) _⟩
                case measure => simp [intOf]; omega
              · go_wp2
                go_roundw
                case rel => exact ⟨j + 1, by omega, by go_num, by rw [HZS.out, ← bitV_set]; exact own_setC OO.out HGO.out j _, own_keep OR.out ((Keeps.refl wr [og]).setCell (.inl (by simp)) _) (fun z hz hm => by simp at hm; subst hm; exact HAP.out _ HGO.out hz), HK.out.setCell (.inr HG.out) _⟩
                case measure => simp [intOf]; omega
            · cases rj
              · go_wp2
                go_roundw
                case rel => exact ⟨j + 1, by omega, by go_num, by rw [HZS.out, ← bitV_set]; exact own_setC OO.out HGO.out j _, own_keep OR.out ((Keeps.refl wr [og]).setCell (.inl (by simp)) _) (fun z hz hm => by simp at hm; subst hm; exact HAP.out _ HGO.out hz), HK.out.setCell (.inr HG.out) _⟩
                case measure => simp [intOf]; omega
              · go_wp2
                go_roundw
                case rel => exact ⟨j + 1, by omega, by go_num, by rw [HZS.out, ← bitV_set]; exact own_setC OO.out HGO.out j _, own_keep OR.out ((Keeps.refl wr [og]).setCell (.inl (by simp)) _) (fun z hz hm => by simp at hm; subst hm; exact HAP.out _ HGO.out hz), HK.out.setCell (.inr HG.out) _⟩
                case measure => simp [intOf]; omega
          · have hljz : ¬ (j : Int) < (cs.length : Int) := by omega
            obtain rfl : j = cs.length := by omega
            go_wp2
            go_roundw
            case rel => exact ⟨k + 1, by omega, by go_num, by rw [MYk.out HTP.out]; exact OO.out, HK.out⟩
            case measure => simp [intOf]; omega
    · have hlkz : ¬ (k : Int) < (P.length : Int) := by omega
      obtain rfl : k = P.length := by omega
      go_wp2
      go_ret
      exact ⟨⟨_, rfl, OO.out⟩, HK.out⟩
end Go.Proofs.YtjllbchfojonhaaGreatDoor
