/- The check that matches an instruction: what the row of its arguments is made of; contracts. -/
import Derived.Test.YtjllbchfojonhaaGreatDoorHM
import Derived.Deep.CutBlock
import Derived.Deep.Cut
import Derived.Test.YtjllbchfojonhaaGreatDoorHF
namespace Go.Proofs.YtjllbchfojonhaaGreatDoor
open Go.RowKit Go.Shelf Go.Lib
set_option linter.unusedVariables false
set_option linter.unusedSimpArgs false
/-- the row is the call's own -/
def NeedO (x : InstM) (k : Nat) (w w' : World) (v : Value) : Prop := w'.ownsRow w.heap.size 3 1 v (needA x k).length ((needA x k).map (Value.int .i64))
/-- the row is there wherever the instruction's arguments are -/
def NeedW (x : InstM) (k : Nat) (v : Value) : Prop := ∀ W, InstAt W x → IntsAt W (v, needA x k)

set_option maxRecDepth 100000 in
set_option maxHeartbeats 200000000 in
theorem needs45R_any (x : InstM) (k : Nat) (w : World) (hx : InstAt w x) (hk : k < 27) (ho : x.op = k) (hl : x.args.2.length = (ktakes k).size) : Calls Tryz.prog 45 #[.agg #[.int .i64 x.op, .int .i64 x.dst, x.args.1, .int .i64 x.num]] w fun e w' => (∃ v, e = .returned (.tuple #[.int .i64 (needC k).1, v, .bool (inL rawL (k : Int))]) ∧ NeedO x k w w' v) ∧ Keeps w w' [] := by
 obtain ⟨xa, xc, xe, hxl, hxm, hxc⟩ := Row.open_ (M := Int) (cells := intCells) (show Row w 1 x.args.1 (x.args.2.map intCells) from hx)
 have HX := kept (show Row w 1 x.args.1 (x.args.2.map intCells) from hx)
 rw [xe] at HX
 have CR := kept (fun W => raw_any (k : Int) W)
 have CTk := kept (fun W => takes_len k hk W)
 have HNA := kept (show ∀ W v, W.ownsRow w.heap.size 3 1 v (needA x k).length ((needA x k).map (Value.int .i64)) → NeedO x k w W v from fun _ _ h => h)
 have HND := kept (show needA x k = (x.args.2.drop (needC k).2.1).take (needC k).2.2 from rfl)
 rw [xe, ho]
 obtain ⟨al, hal⟩ : ∃ al, x.args.2 = al := ⟨_, rfl⟩
 rw [hal] at hl hxl hxc HX HND ⊢
 have HXM := kept hxm
 have htB : (ktakes k).size ≤ 100 := (takes_small k hk).1
 generalize hts : (ktakes k).size = xn at *
 rw [hl] at hxl hxc HX ⊢
 have HTS := kept hts
 have HAL := kept hl
 clear hts hl hx xe ho hal
 generalize x.dst = xd at *
 generalize x.num = xm at *
 obtain ⟨HK, Bl⟩ := fbox w 43 #[.int .i64 (k : Nat), .int .i64 xd, .slice xa xn xc, .int .i64 xm]
 obtain ⟨l0, l1, l2, l3⟩ := Bl.out.c4
 simp at l0 l1 l2 l3
 go_enter Tryz.func45, Tryz.ntmps45
 go_upto_region 1 with (fail)
 clear l0 l1 l2 l3
 generalize (w.alloc (.cells #[.int .i64 (k : Nat), .int .i64 xd, .slice xa xn xc, .int .i64 xm] 43)) = W0 at *
 have Bl_W0 := Bl
 have TW0 := HK
 clear HK
 have HK := kept (Keeps.refl W0 [])
 obtain ⟨l0, l1, l2, l3⟩ := Bl.out.c4
 simp at l0 l1 l2 l3
 cases hrw : inL rawL (k : Int) with
 | false =>
  rw [hrw] at CR
  have HRW := kept hrw
  clear hrw CTk
  refine wp_region_held_drew (S := (fun w' => w'.cell? ⟨w.heap.size, 0, none⟩ = some (.int .i64 (k : Nat)) ∧ w'.cell? ⟨w.heap.size, 1, none⟩ = some (.int .i64 xd) ∧ w'.cell? ⟨w.heap.size, 2, none⟩ = some (.slice xa xn xc) ∧ w'.cell? ⟨w.heap.size, 3, none⟩ = some (.int .i64 xm))) (by kernel_rfl) ?ahSs (fun hHeld => ?_)
  case ahSs => exact ⟨l0, l1, l2, l3⟩
  clear l0 l1 l2 l3
  replace Bl := kept (Bl.out.keep ((Keeps.refl _ []).drew) (by simp))
  replace HK := kept (HK.out.drew)
  generalize World.drew _ = X0 at *
  obtain ⟨l0, l1, l2, l3⟩ := Bl.out.c4
  simp at l0 l1 l2 l3
  refine tp 0 7 rfl hHeld ?_
  refine tp 1 8 rfl hHeld ?_
  refine t1 2 fun K hK => ?_
  go_simp
  (with_reducible refine (CR.out _).mono ?_)
  rintro e wx ⟨rfl, k3⟩
  show K _ _
  clear hHeld
  clear l0 l1 l2 l3
  replace Bl := kept (Bl.out.keep k3 (by simp))
  replace HK := kept (HK.out.and_then k3)
  obtain ⟨l0, l1, l2, l3⟩ := Bl.out.c4
  simp at l0 l1 l2 l3
  clear k3
  refine hK.out _ _ ?ahS2 (fun hHeld => ?_)
  case ahS2 => exact ⟨l0, l1, l2, l3⟩
  clear hK K
  try simp only [Act.put, sA, sB, sC]
  refine tp 3 10 rfl hHeld ?_
  refine tp 4 11 rfl hHeld ?_
  refine tu 5 ⟨some 12, .fieldAddr 43 (.tmp 1) 2, _, _, _, _⟩ rfl hHeld ?_
  refine tu 6 ⟨some 13, .load 23 (.tmp 12), _, _, _, _⟩ rfl hHeld ?_
  refine tu 7 ⟨some 14, .call ⟨.builtin .len, #[.tmp 13], #[23]⟩, _, _, _, _⟩ rfl hHeld ?_
  refine tu 8 ⟨some 15, .fieldAddr 43 (.tmp 1) 0, _, _, _, _⟩ rfl hHeld ?_
  refine tu 9 ⟨some 16, .load 41 (.tmp 15), _, _, _, _⟩ rfl hHeld ?_
  refine tu 10 ⟨some 17, .call ⟨.value (.func 74), #[.tmp 16], #[41]⟩, _, _, _, _⟩ rfl hHeld ?_
  refine tu 11 ⟨some 18, .call ⟨.builtin .len, #[.tmp 17], #[133]⟩, _, _, _, _⟩ rfl hHeld ?_
  refine tu 12 ⟨some 19, .binOp BinOp.lss 3 (.tmp 14) (.tmp 18) 3, _, _, _, _⟩ rfl hHeld ?_
  refine tp 13 20 rfl hHeld ?_
  refine wpAnyH_done (by kernel_rfl) ?_ _
  clear hHeld
  go_wp2
  go_ret3
  exact ⟨⟨.slice none 0 0, by rw [needC_no HRW.out, HRW.out]; rfl, HNA.out _ _ (by rw [HND.out, needC_no HRW.out]; exact World.ownsRow_nil _ _ _ _)⟩, (TW0.out.and_then HK.out)⟩
 | true =>
  rw [hrw] at CR
  have HRW := kept hrw
  clear hrw
  refine wp_region_held_drew (S := (fun w' => w'.cell? ⟨w.heap.size, 0, none⟩ = some (.int .i64 (k : Nat)) ∧ w'.cell? ⟨w.heap.size, 1, none⟩ = some (.int .i64 xd) ∧ w'.cell? ⟨w.heap.size, 2, none⟩ = some (.slice xa xn xc) ∧ w'.cell? ⟨w.heap.size, 3, none⟩ = some (.int .i64 xm))) (by kernel_rfl) ?bhSs (fun hHeld => ?_)
  case bhSs => exact ⟨l0, l1, l2, l3⟩
  clear l0 l1 l2 l3
  replace Bl := kept (Bl.out.keep ((Keeps.refl _ []).drew) (by simp))
  replace HK := kept (HK.out.drew)
  generalize World.drew _ = X0 at *
  obtain ⟨l0, l1, l2, l3⟩ := Bl.out.c4
  simp at l0 l1 l2 l3
  refine tp 0 7 rfl hHeld ?_
  refine tp 1 8 rfl hHeld ?_
  refine t1 2 fun K hK => ?_
  go_simp
  (with_reducible refine (CR.out _).mono ?_)
  rintro e wx ⟨rfl, k3⟩
  show K _ _
  clear hHeld
  clear l0 l1 l2 l3
  replace Bl := kept (Bl.out.keep k3 (by simp))
  replace HK := kept (HK.out.and_then k3)
  obtain ⟨l0, l1, l2, l3⟩ := Bl.out.c4
  simp at l0 l1 l2 l3
  clear k3
  refine hK.out _ _ ?bhS2 (fun hHeld => ?_)
  case bhS2 => exact ⟨l0, l1, l2, l3⟩
  clear hK K
  try simp only [Act.put, sA, sB, sC]
  refine tp 3 10 rfl hHeld ?_
  refine tp 4 11 rfl hHeld ?_
  refine tp 5 12 rfl hHeld ?_
  refine tp 6 13 rfl hHeld ?_
  refine tp 7 14 rfl hHeld ?_
  refine tp 8 15 rfl hHeld ?_
  refine tp 9 16 rfl hHeld ?_
  refine t1 10 fun K hK => ?_
  go_simp
  (with_reducible refine (CTk.out _).mono ?_)
  rintro e wx ⟨tva, tvc, rfl, k3⟩
  show K _ _
  clear hHeld
  clear l0 l1 l2 l3
  replace Bl := kept (Bl.out.keep k3 (by simp))
  replace HK := kept (HK.out.and_then k3)
  obtain ⟨l0, l1, l2, l3⟩ := Bl.out.c4
  simp at l0 l1 l2 l3
  clear k3
  refine hK.out _ _ ?bhS10 (fun hHeld => ?_)
  case bhS10 => exact ⟨l0, l1, l2, l3⟩
  clear hK K
  try simp only [Act.put, sA, sB, sC]
  refine tp 11 18 rfl hHeld ?_
  refine tp 12 19 rfl hHeld ?_
  refine tp 13 20 rfl hHeld ?_
  refine wpAnyH_done (by kernel_rfl) ?_ _
  clear hHeld
  have hlz : ¬ (xn : Int) < (xn : Int) := by omega
  have HRC := kept (raw_cases hk HRW.out)
  obtain ⟨ab, ao, rfl, -, -⟩ := hxc 0 (by have h9 := HRC.out; have h8 := HTS.out; rcases h9 with h | h | h | h | h | h <;> (subst h; rw [← h8]; decide))
  clear hxc CR CTk HRW
  rcases HRC.out with h | h | h | h | h | h
  ·subst h
   have hs : (ktakes 5).size = 2 := by decide
   have hxn2 : xn = 2 := by have h8 := HTS.out; omega
   subst hxn2
   have hb1 : (2 : Int) ≤ (xc : Int) := by omega
   have hb2 : ¬ xc = 1 := by omega
   go_wp2_with (first | (go_at_call 36; refine (clone_ints _ ((al.drop 1).take 1) _ (need_row (Row.keep HX.out (TW0.out.and_then HK.out)) 1 1 (by omega) (by omega)) (by rw [List.length_take]; omega)).mono ?_; rintro e w9 ⟨⟨nv, rfl, hnv⟩, k9⟩; have HNV := kept (own_low hnv (TW0.out.and_then HK.out).size); have HK9 := kept k9; clear hnv k9))
   go_ret3
   exact ⟨⟨_, rfl, HNA.out _ _ (by rw [HND.out]; exact HNV.out)⟩, (TW0.out.and_then HK.out).and_then HK9.out⟩
  ·subst h
   have hs : (ktakes 6).size = 2 := by decide
   have hxn2 : xn = 2 := by have h8 := HTS.out; omega
   subst hxn2
   have hb1 : (2 : Int) ≤ (xc : Int) := by omega
   have hb2 : ¬ xc = 1 := by omega
   go_wp2_with (first | (go_at_call 36; refine (clone_ints _ ((al.drop 1).take 1) _ (need_row (Row.keep HX.out (TW0.out.and_then HK.out)) 1 1 (by omega) (by omega)) (by rw [List.length_take]; omega)).mono ?_; rintro e w9 ⟨⟨nv, rfl, hnv⟩, k9⟩; have HNV := kept (own_low hnv (TW0.out.and_then HK.out).size); have HK9 := kept k9; clear hnv k9))
   go_ret3
   exact ⟨⟨_, rfl, HNA.out _ _ (by rw [HND.out]; exact HNV.out)⟩, (TW0.out.and_then HK.out).and_then HK9.out⟩
  ·subst h
   have hs : (ktakes 12).size = 1 := by decide
   have hxn2 : xn = 1 := by have h8 := HTS.out; omega
   subst hxn2
   have hb1 : (1 : Int) ≤ (xc : Int) := by omega
   have hb2 : ¬ xc = 0 := by omega
   go_wp2_with (first | (go_at_call 36; refine (clone_ints _ ((al.drop 0).take 1) _ (need_row (Row.keep HX.out (TW0.out.and_then HK.out)) 0 1 (by omega) (by omega)) (by rw [List.length_take]; omega)).mono ?_; rintro e w9 ⟨⟨nv, rfl, hnv⟩, k9⟩; have HNV := kept (own_low hnv (TW0.out.and_then HK.out).size); have HK9 := kept k9; clear hnv k9))
   go_ret3
   exact ⟨⟨_, rfl, HNA.out _ _ (by rw [HND.out]; exact HNV.out)⟩, (TW0.out.and_then HK.out).and_then HK9.out⟩
  ·subst h
   have hs : (ktakes 13).size = 2 := by decide
   have hxn2 : xn = 2 := by have h8 := HTS.out; omega
   subst hxn2
   have hb1 : (2 : Int) ≤ (xc : Int) := by omega
   have hb2 : ¬ xc = 0 := by omega
   go_wp2_with (first | (go_at_call 36; refine (clone_ints _ ((al.drop 0).take 2) _ (need_row (Row.keep HX.out (TW0.out.and_then HK.out)) 0 2 (by omega) (by omega)) (by rw [List.length_take]; omega)).mono ?_; rintro e w9 ⟨⟨nv, rfl, hnv⟩, k9⟩; have HNV := kept (own_low hnv (TW0.out.and_then HK.out).size); have HK9 := kept k9; clear hnv k9))
   go_ret3
   exact ⟨⟨_, rfl, HNA.out _ _ (by rw [HND.out]; exact HNV.out)⟩, (TW0.out.and_then HK.out).and_then HK9.out⟩
  ·subst h
   have hs : (ktakes 14).size = 3 := by decide
   have hxn2 : xn = 3 := by have h8 := HTS.out; omega
   subst hxn2
   have hb1 : (2 : Int) ≤ (xc : Int) := by omega
   have hb2 : ¬ xc = 0 := by omega
   go_wp2_with (first | (go_at_call 36; refine (clone_ints _ ((al.drop 0).take 2) _ (need_row (Row.keep HX.out (TW0.out.and_then HK.out)) 0 2 (by omega) (by omega)) (by rw [List.length_take]; omega)).mono ?_; rintro e w9 ⟨⟨nv, rfl, hnv⟩, k9⟩; have HNV := kept (own_low hnv (TW0.out.and_then HK.out).size); have HK9 := kept k9; clear hnv k9))
   go_ret3
   exact ⟨⟨_, rfl, HNA.out _ _ (by rw [HND.out]; exact HNV.out)⟩, (TW0.out.and_then HK.out).and_then HK9.out⟩
  ·subst h
   have hs : (ktakes 15).size = 1 := by decide
   have hxn2 : xn = 1 := by have h8 := HTS.out; omega
   subst hxn2
   have hb1 : (1 : Int) ≤ (xc : Int) := by omega
   have hb2 : ¬ xc = 0 := by omega
   go_wp2_with (first | (go_at_call 36; refine (clone_ints _ ((al.drop 0).take 1) _ (need_row (Row.keep HX.out (TW0.out.and_then HK.out)) 0 1 (by omega) (by omega)) (by rw [List.length_take]; omega)).mono ?_; rintro e w9 ⟨⟨nv, rfl, hnv⟩, k9⟩; have HNV := kept (own_low hnv (TW0.out.and_then HK.out).size); have HK9 := kept k9; clear hnv k9))
   go_ret3
   exact ⟨⟨_, rfl, HNA.out _ _ (by rw [HND.out]; exact HNV.out)⟩, (TW0.out.and_then HK.out).and_then HK9.out⟩

set_option maxRecDepth 100000 in
set_option maxHeartbeats 200000000 in
theorem needs29R_any (x : InstM) (k : Nat) (w : World) (hx : InstAt w x) (hk : k < 27) (ho : x.op = k) (hl : x.args.2.length = (ktakes k).size) : Calls Tryz.prog 29 #[.agg #[.int .i64 x.op, .int .i64 x.dst, x.args.1, .int .i64 x.num]] w fun e w' => (∃ v, e = .returned (.tuple #[.int .i64 (needC k).1, v, .bool (inL rawL (k : Int))]) ∧ NeedW x k v) ∧ Keeps w w' [] := by
 obtain ⟨xa, xc, xe, hxl, hxm, hxc⟩ := Row.open_ (M := Int) (cells := intCells) (show Row w 1 x.args.1 (x.args.2.map intCells) from hx)
 have HX := kept (show Row w 1 x.args.1 (x.args.2.map intCells) from hx)
 rw [xe] at HX
 have CRW := kept (fun W => rows_at k hk W)
 have HXE := kept (show ∀ W, InstAt W x → Row W 1 x.args.1 (x.args.2.map intCells) from fun _ h => h)
 rw [xe] at HXE
 have HNA := kept (show ∀ v, (∀ W, InstAt W x → IntsAt W (v, needA x k)) → NeedW x k v from fun _ h => h)
 have HND := kept (show needA x k = (x.args.2.drop (needC k).2.1).take (needC k).2.2 from rfl)
 rw [xe, ho]
 obtain ⟨al, hal⟩ : ∃ al, x.args.2 = al := ⟨_, rfl⟩
 rw [hal] at hl hxl hxc HX HXE HND ⊢
 have HXM := kept hxm
 have htB : (ktakes k).size ≤ 100 := (takes_small k hk).1
 have HTS0 := kept (show (ktakes k).size = (ktakes k).size from rfl)
 obtain ⟨xn, hts⟩ : ∃ z, (ktakes k).size = z := ⟨_, rfl⟩
 rw [hts] at hl htB
 rw [hl] at hxl hxc HX HXE ⊢
 have HTS := kept hts
 have HAL := kept hl
 clear hts hl hx xe ho hal HTS0
 generalize x.dst = xd at *
 generalize x.num = xm at *
 obtain ⟨g5, g6, g13, g14, g12, g15⟩ := kwordN k hk
 have HG := kept (And.intro g5 (And.intro g6 (And.intro g13 (And.intro g14 (And.intro g12 g15)))))
 clear g5 g6 g13 g14 g12 g15
 generalize kword k = wd at *
 obtain ⟨HK, Bl⟩ := fbox w 43 #[.int .i64 (k : Nat), .int .i64 xd, .slice xa xn xc, .int .i64 xm]
 obtain ⟨l0, l1, l2, l3⟩ := Bl.out.c4
 simp at l0 l1 l2 l3
 go_enter Tryz.func29, Tryz.ntmps29
 go_upto_region 1 with (fail)
 clear l0 l1 l2 l3
 generalize (w.alloc (.cells #[.int .i64 (k : Nat), .int .i64 xd, .slice xa xn xc, .int .i64 xm] 43)) = W0 at *
 have Bl_W0 := Bl
 have TW0 := HK
 clear HK
 have HK := kept (Keeps.refl W0 [])
 obtain ⟨l0, l1, l2, l3⟩ := Bl.out.c4
 simp at l0 l1 l2 l3
 have hkz : (k : Int) < 27 := by omega
 refine wp_region_held_drew (S := (fun w' => w'.cell? ⟨w.heap.size, 0, none⟩ = some (.int .i64 (k : Nat)) ∧ w'.cell? ⟨w.heap.size, 1, none⟩ = some (.int .i64 xd) ∧ w'.cell? ⟨w.heap.size, 2, none⟩ = some (.slice xa xn xc) ∧ w'.cell? ⟨w.heap.size, 3, none⟩ = some (.int .i64 xm))) (by kernel_rfl) ?ahSs (fun hHeld => ?_)
 case ahSs => exact ⟨l0, l1, l2, l3⟩
 clear l0 l1 l2 l3
 replace Bl := kept (Bl.out.keep ((Keeps.refl _ []).drew) (by simp))
 replace HK := kept (HK.out.drew)
 generalize World.drew _ = X0 at *
 obtain ⟨l0, l1, l2, l3⟩ := Bl.out.c4
 simp at l0 l1 l2 l3
 refine tp 1 6 rfl hHeld ?_
 refine tp 2 7 rfl hHeld ?_
 refine t1 0 fun K hK => ?_
 go_simp
 (with_reducible refine (CRW.out _).mono ?_)
 rintro e wx ⟨rg, rfl, k3, hr0, -, -⟩
 have RR := kept hr0
 clear hr0
 show K _ _
 clear hHeld
 clear l0 l1 l2 l3
 replace Bl := kept (Bl.out.keep k3 (by simp))
 replace HK := kept (HK.out.and_then k3)
 obtain ⟨l0, l1, l2, l3⟩ := Bl.out.c4
 simp at l0 l1 l2 l3
 clear k3
 refine hK.out _ _ ?ahS0 (fun hHeld => ?_)
 case ahS0 => exact ⟨l0, l1, l2, l3⟩
 clear hK K
 try simp only [Act.put, sA, sB, sC]
 refine tp 3 8 rfl hHeld ?_
 refine tp 4 9 rfl hHeld ?_
 refine t1 5 fun K hK => ?_
 have r0 := RR.out
 go_simp
 show K _ _
 refine hK.out _ _ ?ahS5 (fun hHeld => ?_)
 case ahS5 => exact ⟨l0, l1, l2, l3⟩
 clear hK K
 try simp only [Act.put, sA, sB, sC]
 refine wpAnyH_done (by kernel_rfl) ?_ _
 clear hHeld
 obtain ⟨W5, hW5⟩ : ∃ W5 : World, W5 = wx := ⟨_, rfl⟩
 subst hW5
 clear RR CRW
 (try clear r0)
 clear l0 l1 l2 l3
 have Bl_W5 := Bl
 have TW5 := HK
 clear HK
 have HK := kept (Keeps.refl W5 [])
 obtain ⟨l0, l1, l2, l3⟩ := Bl.out.c4
 simp at l0 l1 l2 l3
 cases hrw : inL rawL (k : Int) with
 | false =>
  have HRW := kept hrw
  have hnk : k ≠ 5 ∧ k ≠ 6 ∧ k ≠ 12 ∧ k ≠ 13 ∧ k ≠ 14 ∧ k ≠ 15 := by refine ⟨?_, ?_, ?_, ?_, ?_, ?_⟩ <;> (intro h; subst h; revert hrw; decide)
  clear hrw
  have s5 : (wd.toList == [100, 105, 118]) = false := HG.out.1.trans (decide_eq_false (by omega))
  have s6 : (wd.toList == [114, 101, 109]) = false := HG.out.2.1.trans (decide_eq_false (by omega))
  have s13 : (wd.toList == [108, 111, 97, 100]) = false := HG.out.2.2.1.trans (decide_eq_false (by omega))
  have s14 : (wd.toList == [115, 116, 111, 114, 101]) = false := HG.out.2.2.2.1.trans (decide_eq_false (by omega))
  have s12 : (wd.toList == [108, 101, 110]) = false := HG.out.2.2.2.2.1.trans (decide_eq_false (by omega))
  have s15 : (wd.toList == [110, 101, 119]) = false := HG.out.2.2.2.2.2.trans (decide_eq_false (by omega))
  clear HG hnk
  go_wp2
  go_ret3
  exact ⟨⟨.slice none 0 0, by rw [needC_no HRW.out, HRW.out]; rfl, HNA.out _ (fun W hW => by rw [HND.out, needC_no HRW.out]; exact row_none)⟩, (TW0.out.and_then (TW5.out.and_then HK.out))⟩
 | true =>
  have HRW := kept hrw
  clear hrw
  have HRC := kept (raw_cases hk HRW.out)
  obtain ⟨ab, ao, rfl, -, -⟩ := hxc 0 (by have h9 := HRC.out; have h8 := HTS.out; rcases h9 with h | h | h | h | h | h <;> (subst h; rw [← h8]; decide))
  clear hxc
  rcases HRC.out with h | h | h | h | h | h
  ·subst h
   have hs : (ktakes 5).size = 2 := by decide
   have hxn2 : xn = 2 := by have h8 := HTS.out; omega
   subst hxn2
   have hb1 : (2 : Int) ≤ (xc : Int) := by omega
   have hb2 : ¬ xc = 1 := by omega
   have s5 : (wd.toList == [100, 105, 118]) = true := HG.out.1.trans (decide_eq_true (by omega))
   clear HG HRC
   go_wp2
   go_quiet (fail)
   go_wp2
   go_ret3
   exact ⟨⟨_, rfl, HNA.out _ (fun W hW => by rw [HND.out]; exact need_row (HXE.out W hW) 1 1 (by omega) (by omega))⟩, ((TW0.out.and_then (TW5.out.and_then HK.out))).drewN _⟩
  ·subst h
   have hs : (ktakes 6).size = 2 := by decide
   have hxn2 : xn = 2 := by have h8 := HTS.out; omega
   subst hxn2
   have hb1 : (2 : Int) ≤ (xc : Int) := by omega
   have hb2 : ¬ xc = 1 := by omega
   have s5 : (wd.toList == [100, 105, 118]) = false := HG.out.1.trans (decide_eq_false (by omega))
   have s6 : (wd.toList == [114, 101, 109]) = true := HG.out.2.1.trans (decide_eq_true (by omega))
   clear HG HRC
   go_wp2
   go_quiet (fail)
   go_wp2
   go_ret3
   exact ⟨⟨_, rfl, HNA.out _ (fun W hW => by rw [HND.out]; exact need_row (HXE.out W hW) 1 1 (by omega) (by omega))⟩, ((TW0.out.and_then (TW5.out.and_then HK.out))).drewN _⟩
  ·subst h
   have hs : (ktakes 12).size = 1 := by decide
   have hxn2 : xn = 1 := by have h8 := HTS.out; omega
   subst hxn2
   have hb1 : (1 : Int) ≤ (xc : Int) := by omega
   have hb2 : ¬ xc = 0 := by omega
   have s5 : (wd.toList == [100, 105, 118]) = false := HG.out.1.trans (decide_eq_false (by omega))
   have s6 : (wd.toList == [114, 101, 109]) = false := HG.out.2.1.trans (decide_eq_false (by omega))
   have s13 : (wd.toList == [108, 111, 97, 100]) = false := HG.out.2.2.1.trans (decide_eq_false (by omega))
   have s14 : (wd.toList == [115, 116, 111, 114, 101]) = false := HG.out.2.2.2.1.trans (decide_eq_false (by omega))
   have s12 : (wd.toList == [108, 101, 110]) = true := HG.out.2.2.2.2.1.trans (decide_eq_true (by omega))
   clear HG HRC
   go_wp2
   go_quiet (fail)
   go_wp2
   go_ret3
   exact ⟨⟨_, rfl, HNA.out _ (fun W hW => by rw [HND.out]; exact need_row (HXE.out W hW) 0 1 (by omega) (by omega))⟩, ((TW0.out.and_then (TW5.out.and_then HK.out))).drewN _⟩
  ·subst h
   have hs : (ktakes 13).size = 2 := by decide
   have hxn2 : xn = 2 := by have h8 := HTS.out; omega
   subst hxn2
   have hb1 : (2 : Int) ≤ (xc : Int) := by omega
   have hb2 : ¬ xc = 0 := by omega
   have s5 : (wd.toList == [100, 105, 118]) = false := HG.out.1.trans (decide_eq_false (by omega))
   have s6 : (wd.toList == [114, 101, 109]) = false := HG.out.2.1.trans (decide_eq_false (by omega))
   have s13 : (wd.toList == [108, 111, 97, 100]) = true := HG.out.2.2.1.trans (decide_eq_true (by omega))
   clear HG HRC
   go_wp2
   go_quiet (fail)
   go_wp2
   go_ret3
   exact ⟨⟨_, rfl, HNA.out _ (fun W hW => by rw [HND.out]; exact need_row (HXE.out W hW) 0 2 (by omega) (by omega))⟩, ((TW0.out.and_then (TW5.out.and_then HK.out))).drewN _⟩
  ·subst h
   have hs : (ktakes 14).size = 3 := by decide
   have hxn2 : xn = 3 := by have h8 := HTS.out; omega
   subst hxn2
   have hb1 : (2 : Int) ≤ (xc : Int) := by omega
   have hb2 : ¬ xc = 0 := by omega
   have s5 : (wd.toList == [100, 105, 118]) = false := HG.out.1.trans (decide_eq_false (by omega))
   have s6 : (wd.toList == [114, 101, 109]) = false := HG.out.2.1.trans (decide_eq_false (by omega))
   have s13 : (wd.toList == [108, 111, 97, 100]) = false := HG.out.2.2.1.trans (decide_eq_false (by omega))
   have s14 : (wd.toList == [115, 116, 111, 114, 101]) = true := HG.out.2.2.2.1.trans (decide_eq_true (by omega))
   clear HG HRC
   go_wp2
   go_quiet (fail)
   go_wp2
   go_ret3
   exact ⟨⟨_, rfl, HNA.out _ (fun W hW => by rw [HND.out]; exact need_row (HXE.out W hW) 0 2 (by omega) (by omega))⟩, ((TW0.out.and_then (TW5.out.and_then HK.out))).drewN _⟩
  ·subst h
   have hs : (ktakes 15).size = 1 := by decide
   have hxn2 : xn = 1 := by have h8 := HTS.out; omega
   subst hxn2
   have hb1 : (1 : Int) ≤ (xc : Int) := by omega
   have hb2 : ¬ xc = 0 := by omega
   have s5 : (wd.toList == [100, 105, 118]) = false := HG.out.1.trans (decide_eq_false (by omega))
   have s6 : (wd.toList == [114, 101, 109]) = false := HG.out.2.1.trans (decide_eq_false (by omega))
   have s13 : (wd.toList == [108, 111, 97, 100]) = false := HG.out.2.2.1.trans (decide_eq_false (by omega))
   have s14 : (wd.toList == [115, 116, 111, 114, 101]) = false := HG.out.2.2.2.1.trans (decide_eq_false (by omega))
   have s12 : (wd.toList == [108, 101, 110]) = false := HG.out.2.2.2.2.1.trans (decide_eq_false (by omega))
   have s15 : (wd.toList == [110, 101, 119]) = true := HG.out.2.2.2.2.2.trans (decide_eq_true (by omega))
   clear HG HRC
   go_wp2
   go_quiet (fail)
   go_wp2
   go_ret3
   exact ⟨⟨_, rfl, HNA.out _ (fun W hW => by rw [HND.out]; exact need_row (HXE.out W hW) 0 1 (by omega) (by omega))⟩, ((TW0.out.and_then (TW5.out.and_then HK.out))).drewN _⟩
end Go.Proofs.YtjllbchfojonhaaGreatDoor
