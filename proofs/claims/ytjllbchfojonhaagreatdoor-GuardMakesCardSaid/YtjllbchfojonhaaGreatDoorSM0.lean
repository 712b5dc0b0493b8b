/- Two programs of the same content are the same (ref04.Same): the equations of '!=', the rows of numbers. -/
import Derived.Test.YtjllbchfojonhaaGreatDoorMS
import Derived.Laws.StructEq
import Derived.ChangeKeysEq
namespace Go.Proofs.YtjllbchfojonhaaGreatDoor
open Go.RowKit
set_option linter.unusedVariables false
set_option linter.unusedSimpArgs false
theorem eq83 (s : ByteArray) (t : Int) (w : World) : (Op.equalIn 10000 83 (.agg #[.string s, .int .i64 t]) (.agg #[.string s, .int .i64 t])).run Tryz.prog w = .ok true w := by
 have hf : Tryz.prog.fieldsOf 83 = #[{ name := "Name", type := 9, offset := 0, embedded := false, tag := "", pkgPath := "", byteOffset := 0 }, { name := "Type", type := 81, offset := 1, embedded := false, tag := "", pkgPath := "", byteOffset := 16 }] := by
  unfold Program.fieldsOf; rw [Tryz.underlying83]
 obtain ⟨i, hi⟩ : ∃ i, Tryz.prog.info? 9 = some i := Option.isSome_iff_exists.1 (by kernel_rfl)
 obtain ⟨j, hj⟩ : ∃ i, Tryz.prog.info? 81 = some i := Option.isSome_iff_exists.1 (by kernel_rfl)
 rw [show 10000 = 9999 + 1 from rfl, run_equalIn_struct (P := Tryz.prog) w 9999 83 #[.string s, .int .i64 t] #[.string s, .int .i64 t] (by rw [hf]; exact Tryz.underlying83) (by kernel_rfl), hf]
 simp [Op.eqFields, go_sem, hi, hj, run_equalIn_string _ _ _ _ _ Tryz.underlying9, run_equalIn_int _ _ _ _ _ _ _ Tryz.underlying81]
theorem eq36 (a b c d : Int) (w : World) : (Op.equalIn 10000 36 (.agg #[.int .i64 a, .int .i64 b, .int .i64 c, .int .i64 d]) (.agg #[.int .i64 a, .int .i64 b, .int .i64 c, .int .i64 d])).run Tryz.prog w = .ok true w := by
 have hf : Tryz.prog.fieldsOf 36 = #[{ name := "Kind", type := 33, offset := 0, embedded := false, tag := "", pkgPath := "", byteOffset := 0 }, { name := "Var", type := 3, offset := 1, embedded := false, tag := "", pkgPath := "", byteOffset := 8 }, { name := "To", type := 34, offset := 2, embedded := false, tag := "", pkgPath := "", byteOffset := 16 }] := by
  unfold Program.fieldsOf; rw [Tryz.underlying36]
 rw [show 10000 = 9999 + 1 from rfl, run_equalIn_struct (P := Tryz.prog) w 9999 36 #[.int .i64 a, .int .i64 b, .int .i64 c, .int .i64 d] #[.int .i64 a, .int .i64 b, .int .i64 c, .int .i64 d] (by rw [hf]; exact Tryz.underlying36) (by kernel_rfl), hf]
 obtain ⟨i, hi⟩ : ∃ i, Tryz.prog.info? 3 = some i := Option.isSome_iff_exists.1 (by kernel_rfl)
 have e34 : (Op.equalIn 9999 34 (.agg #[.int .i64 c, .int .i64 d]) (.agg #[.int .i64 c, .int .i64 d])).run Tryz.prog w = .ok true w := by
  rw [show 9999 = 9998 + 1 from rfl, run_equalIn_array (P := Tryz.prog) (w := w) 9998 #[.int .i64 c, .int .i64 d] #[.int .i64 c, .int .i64 d] Tryz.underlying34 hi]
  rw [show Tryz.prog.cellsOf 3 = 1 by kernel_rfl, show List.range 2 = [0, 1] from rfl]
  simp [Op.eqItems, go_sem, run_equalIn_int _ _ _ _ _ _ _ Tryz.underlying3]
 obtain ⟨i33, hi33, he33⟩ := Option.map_eq_some_iff.1 (show (Tryz.prog.info? 33).map (fun i => i.size) = some 1 by kernel_rfl)
 obtain ⟨i3, hi3, he3⟩ := Option.map_eq_some_iff.1 (show (Tryz.prog.info? 3).map (fun i => i.size) = some 1 by kernel_rfl)
 obtain ⟨i34, hi34, he34⟩ := Option.map_eq_some_iff.1 (show (Tryz.prog.info? 34).map (fun i => i.size) = some 2 by kernel_rfl)
 simp [Op.eqFields, go_sem, hi33, hi3, hi34, he33, he3, he34, e34, run_equalIn_int _ _ _ _ _ _ _ Tryz.underlying33, run_equalIn_int _ _ _ _ _ _ _ Tryz.underlying3]
set_option maxRecDepth 100000 in
set_option maxHeartbeats 20000000 in
theorem ints53_any (p q : IntsM) (w : World) (hp : IntsAt w p) (hq : IntsAt w q) (h : p.2 = q.2) : Calls Tryz.prog 53 #[p.1, q.1] w fun e w' => e = .returned (.bool true) ∧ Keeps w w' [] := by
 obtain ⟨a, c, e, hl, hm, hc⟩ := (show Row w 1 p.1 (p.2.map intCells) from hp).open_
 obtain ⟨a2, c2, e2, -, -, hc2⟩ := (show Row w 1 q.1 (q.2.map intCells) from hq).open_
 rw [← h] at e2 hc2
 rw [e, e2]
 have HC := kept hc
 have HC2 := kept hc2
 obtain ⟨n, hn⟩ : ∃ n, p.2.length = n := ⟨_, rfl⟩
 rw [hn] at HC HC2 hl ⊢
 have hnb : n ≤ 9223372036854775807 := by unfold maxLen at hm; omega
 clear e e2 hc hc2 hp hq
 go_enter Tryz.func53, Tryz.ntmps53
 go_wp2
 go_loopw [13] (fun i' wx => ∃ (k : Nat), k ≤ n ∧ i' = .int .i64 k ∧ Keeps w wx []) (fun i' _ => n - (intOf i').toNat)
 case atStart => exact ⟨0, Nat.zero_le _, rfl, Keeps.refl _ []⟩
 case round =>
  obtain ⟨k, hk, rfl, hw⟩ := hrel
  have HK := kept hw
  clear hw
  by_cases hlk : k < n
  ·have hlz : (k : Int) < (n : Int) := by omega
   obtain ⟨b, off, e1, -, h1⟩ := HC.out k hlk
   obtain ⟨b2, off2, e3, -, h2⟩ := HC2.out k hlk
   obtain rfl := e1
   obtain rfl := e3
   have n0 := HK.out.cellOf (h1 0 _ rfl)
   have m0 := HK.out.cellOf (h2 0 _ rfl)
   simp only [Nat.add_zero, Nat.mul_one] at n0 m0
   clear h1 h2
   generalize p.2[k]! = z at *
   go_wp2_with (first | (go_quiet (fail)))
   go_roundw
   case rel => exact ⟨k + 1, by omega, by go_num, HK.out.drewN _⟩
   case measure => simp [intOf]; omega
  ·have hlz : ¬ (k : Int) < (n : Int) := by omega
   go_wp2
   go_ret
   exact ⟨rfl, HK.out⟩
end Go.Proofs.YtjllbchfojonhaaGreatDoor
