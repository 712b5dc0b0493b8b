/- Package ops: the contracts of Makes. -/
import Derived.Test.YtjllbchfojonhaaDoorOpSmall
import Derived.Laws.RangeString
namespace Go.Proofs.YtjllbchfojonhaaDoor
open Go.RowKit
set_option linter.unusedVariables false

set_option maxRecDepth 100000 in
set_option maxHeartbeats 4000000 in
theorem makes_none (op : Int) (x y : ByteArray) (C : ∀ w, Calls Tryd.prog 98 #[.int .i64 op] w fun e w' => e = .returned (.agg #[.string x, .string y, .string ⟨#[]⟩]) ∧ Keeps w w' []) (w : World) : Calls Tryd.prog 71 #[.int .i64 op] w fun e w' => e = .returned (.tuple #[.int .i64 0, .bool false]) ∧ Keeps w w' [] := by
  have C' := kept C
  clear C
  have hf := kfield2 x y ⟨#[]⟩
  go_enter Tryd.func71, Tryd.ntmps71
  go_wp2_with fail
  refine (C'.out _).mono ?_
  rintro e w1 ⟨rfl, k1⟩
  have K1 := kept k1
  clear k1
  go_wp2
  go_loopw [] (fun wr => wr = w1.iter ⟨#[]⟩ 0) (fun _ => 0)
  case atStart => rfl
  case round =>
    subst hrel
    have hnx := fun ty => run_next_end (P := Tryd.prog) w1 ⟨#[]⟩ 0 ty (by decide)
    go_wp2
    go_ret2
    exact ⟨rfl, K1.out.alloc _⟩

set_option maxRecDepth 100000 in
set_option maxHeartbeats 4000000 in
theorem makes_some (op : Int) (x y : ByteArray) (c : UInt8) (hc : c.toNat < 128) (C : ∀ w, Calls Tryd.prog 98 #[.int .i64 op] w fun e w' => e = .returned (.agg #[.string x, .string y, .string ⟨#[c]⟩]) ∧ Keeps w w' []) (w : World) : Calls Tryd.prog 71 #[.int .i64 op] w fun e w' => e = .returned (.tuple #[.int .i64 (tsign c.toNat), .bool true]) ∧ Keeps w w' [] := by
  have C' := kept C
  clear C
  have hf := kfield2 x y ⟨#[c]⟩
  have D := kept (fun w => typed_any (c.toNat : Int) w)
  go_enter Tryd.func71, Tryd.ntmps71
  go_wp2_with fail
  refine (C'.out _).mono ?_
  rintro e w1 ⟨rfl, k1⟩
  have K1 := kept k1
  clear k1
  go_wp2
  go_loopw [] (fun wr => wr = w1.iter ⟨#[c]⟩ 0) (fun _ => 0)
  case atStart => rfl
  case round =>
    subst hrel
    have hnx := fun ty => run_next_ascii (P := Tryd.prog) w1 ⟨#[c]⟩ 0 ty Nat.zero_lt_one hc
    go_wp2_with fail
    refine (D.out _).mono ?_
    rintro e w2 ⟨rfl, rfl⟩
    go_wp2
    go_ret2
    exact ⟨rfl, K1.out.alloc _⟩
end Go.Proofs.YtjllbchfojonhaaDoor
