/- The chapter's example; contract. -/
import Derived.Test.YtjllbchfojonhaaDoorFew
namespace Go.Proofs.YtjllbchfojonhaaDoor
open Go.RowKit
set_option linter.unusedVariables false
set_option linter.unusedSimpArgs false

theorem row_single {w : World} {g : Nat} {t : TypeId} {size : Nat} {cs : List Value} (h : Blk w g t cs.toArray) : Row w size (.slice (some ⟨g, 0, none⟩) 1 1) [cs] := by
  refine ⟨_, 1, rfl, Nat.le_refl _, by simp [maxLen], .inr ⟨g, 0, rfl, h.lt, fun j e he i x hx => ?_⟩⟩
  have hj : j = 0 ∧ cs = e := by
    rcases j with _ | j
    · exact ⟨rfl, by simpa using he⟩
    · simp at he
  obtain ⟨rfl, rfl⟩ := hj
  simp only [Nat.zero_mul, Nat.zero_add]
  rw [h.cell i]
  simpa using hx
theorem row_ints3 {w : World} {g : Nat} {t : TypeId} {a b c : Int} (h : Blk w g t #[.int .i64 a, .int .i64 b, .int .i64 c]) : IntsAt w (.slice (some ⟨g, 0, none⟩) 3 3, [a, b, c]) := by
  refine ⟨_, 3, rfl, Nat.le_refl _, by simp [maxLen], .inr ⟨g, 0, rfl, h.lt, fun j e he i x hx => ?_⟩⟩
  simp only [Nat.mul_one, Nat.zero_add]
  have hi : i = 0 := by
    rcases i with _ | i
    · rfl
    · have : e.length = 1 := by
        simp only [List.map_cons, List.map_nil] at he
        rcases j with _ | _ | _ | j <;> simp at he <;> (first | (rw [← he]; rfl) | cases he)
      have := (List.getElem?_eq_some_iff.1 hx).1
      omega
  subst hi
  rw [Nat.add_zero, h.cell j]
  rcases j with _ | _ | _ | j <;> simp [intCells] at he <;> (subst he; simpa using hx)
theorem row_none {w : World} {size : Nat} : Row w size (.slice none 0 0) [] := ⟨none, 0, rfl, Nat.le_refl _, by simp [maxLen], .inl rfl⟩
def exF (g0 g1 g2 : Nat) : FuncM := ⟨(.slice (some ⟨g0, 0, none⟩) 1 1, [⟨⟨#[110]⟩, 0⟩]), (.slice (some ⟨g1, 0, none⟩) 1 1, [0]), (.slice (some ⟨g2, 0, none⟩) 1 1, [⟨⟨#[97]⟩, (.slice none 0 0, []), (.slice none 0 0, []), 2, 0, 0, 0⟩])⟩
def exI (g5 : Nat) : InstM := ⟨14, -1, (.slice (some ⟨g5, 0, none⟩) 3 3, [0, 0, 0]), 0⟩
def exG (g0 g1 g7 g6 g5 : Nat) : FuncM := ⟨(.slice (some ⟨g0, 0, none⟩) 1 1, [⟨⟨#[110]⟩, 0⟩]), (.slice (some ⟨g1, 0, none⟩) 1 1, [0]), (.slice (some ⟨g7, 0, none⟩) 1 1, [⟨⟨#[97]⟩, (.slice none 0 0, []), (.slice (some ⟨g6, 0, none⟩) 1 1, [exI g5]), 2, 0, 0, 0⟩])⟩
theorem exF_slot (g0 g1 g2 : Nat) : slotE (exF g0 g1 g2) = 0 := by kernel_rfl
theorem exG_typed (g0 g1 g7 g6 g5 : Nat) : typedE (exG g0 g1 g7 g6 g5) = 3 := by kernel_rfl
theorem exF_few (g0 g1 g2 : Nat) : FewP (exF g0 g1 g2) := ⟨by show 1 ≤ 100; omega, by show 1 ≤ 40; omega, by show 1 ≤ 20; omega, fun b hb => by
  rw [List.mem_singleton.1 hb]; exact ⟨Nat.zero_le _, Nat.zero_le _⟩⟩
theorem exG_few (g0 g1 g7 g6 g5 : Nat) : FewP (exG g0 g1 g7 g6 g5) := ⟨by show 1 ≤ 100; omega, by show 1 ≤ 40; omega, by show 1 ≤ 20; omega, fun b hb => by
  rw [List.mem_singleton.1 hb]; exact ⟨Nat.zero_le _, by show 1 ≤ 400; omega⟩⟩
theorem exF_at {w : World} {g0 g1 g2 : Nat} (h0 : Blk w g0 69 #[.string ⟨#[110]⟩, .int .i64 0]) (h1 : Blk w g1 3 #[.int .i64 0]) (h2 : Blk w g2 39 #[.string ⟨#[97]⟩, .slice none 0 0, .slice none 0 0, .int .i64 2, .int .i64 0, .int .i64 0, .int .i64 0]) : FuncAt w (exF g0 g1 g2) :=
  ⟨row_single (cs := [.string ⟨#[110]⟩, .int .i64 0]) h0, fun v hv => by rw [List.mem_singleton.1 hv]; show 1 ≤ maxLen; simp [maxLen], row_single (cs := [.int .i64 0]) h1, row_single (cs := [.string ⟨#[97]⟩, .slice none 0 0, .slice none 0 0, .int .i64 2, .int .i64 0, .int .i64 0, .int .i64 0]) h2, fun b hb => by
    rw [List.mem_singleton.1 hb]
    exact ⟨row_none, fun p hp => absurd hp List.not_mem_nil, row_none, fun p hp => absurd hp List.not_mem_nil, by show 1 ≤ maxLen; simp [maxLen]⟩⟩
theorem exG_at {w : World} {g0 g1 g7 g6 g5 : Nat} (h0 : Blk w g0 69 #[.string ⟨#[110]⟩, .int .i64 0]) (h1 : Blk w g1 3 #[.int .i64 0]) (h7 : Blk w g7 39 #[.string ⟨#[97]⟩, .slice none 0 0, .slice (some ⟨g6, 0, none⟩) 1 1, .int .i64 2, .int .i64 0, .int .i64 0, .int .i64 0])
    (h6 : Blk w g6 42 #[.int .i64 14, .int .i64 (-1), .slice (some ⟨g5, 0, none⟩) 3 3, .int .i64 0]) (h5 : Blk w g5 3 #[.int .i64 0, .int .i64 0, .int .i64 0]) : FuncAt w (exG g0 g1 g7 g6 g5) :=
  ⟨row_single (cs := [.string ⟨#[110]⟩, .int .i64 0]) h0, fun v hv => by rw [List.mem_singleton.1 hv]; show 1 ≤ maxLen; simp [maxLen], row_single (cs := [.int .i64 0]) h1, row_single (cs := [.string ⟨#[97]⟩, .slice none 0 0, .slice (some ⟨g6, 0, none⟩) 1 1, .int .i64 2, .int .i64 0, .int .i64 0, .int .i64 0]) h7, fun b hb => by
    rw [List.mem_singleton.1 hb]
    exact ⟨row_none, fun p hp => absurd hp List.not_mem_nil, row_single (cs := (exI g5).cells) h6, fun p hp => by rw [List.mem_singleton.1 hp]; exact row_ints3 h5, by show 1 ≤ maxLen; simp [maxLen]⟩⟩

set_option maxRecDepth 100000 in
set_option maxHeartbeats 8000000 in
theorem lives6_any (w : World) (ht : Tabs w) : Calls Tryd.prog 10 #[] w fun e w' => e = .returned (.bool true) ∧ Keeps w w' [] := by
  have hk0 : Keeps w (w.alloc (.cells #[Value.string ⟨#[110]⟩, .int .i64 0] 69)) [] := (Keeps.refl _ []).alloc _
  have bb0 := Blk.new w 69 #[Value.string ⟨#[110]⟩, .int .i64 0]
  have hk1 : Keeps (w.alloc (.cells #[Value.string ⟨#[110]⟩, .int .i64 0] 69)) ((w.alloc (.cells #[Value.string ⟨#[110]⟩, .int .i64 0] 69)).alloc (.cells #[.int .i64 0] 3)) [] := (Keeps.refl _ []).alloc _
  have bb1 := Blk.new (w.alloc (.cells #[Value.string ⟨#[110]⟩, .int .i64 0] 69)) 3 #[.int .i64 0]
  have hk2 : Keeps ((w.alloc (.cells #[Value.string ⟨#[110]⟩, .int .i64 0] 69)).alloc (.cells #[.int .i64 0] 3)) (((w.alloc (.cells #[Value.string ⟨#[110]⟩, .int .i64 0] 69)).alloc (.cells #[.int .i64 0] 3)).alloc (.cells #[.string ⟨#[97]⟩, .slice none 0 0, .slice none 0 0, .int .i64 2, .int .i64 0, .int .i64 0, .int .i64 0] 39)) [] := (Keeps.refl _ []).alloc _
  have bb2 := Blk.new ((w.alloc (.cells #[Value.string ⟨#[110]⟩, .int .i64 0] 69)).alloc (.cells #[.int .i64 0] 3)) 39 #[.string ⟨#[97]⟩, .slice none 0 0, .slice none 0 0, .int .i64 2, .int .i64 0, .int .i64 0, .int .i64 0]
  have hk3 : Keeps (((w.alloc (.cells #[Value.string ⟨#[110]⟩, .int .i64 0] 69)).alloc (.cells #[.int .i64 0] 3)).alloc (.cells #[.string ⟨#[97]⟩, .slice none 0 0, .slice none 0 0, .int .i64 2, .int .i64 0, .int .i64 0, .int .i64 0] 39)) ((((w.alloc (.cells #[Value.string ⟨#[110]⟩, .int .i64 0] 69)).alloc (.cells #[.int .i64 0] 3)).alloc (.cells #[.string ⟨#[97]⟩, .slice none 0 0, .slice none 0 0, .int .i64 2, .int .i64 0, .int .i64 0, .int .i64 0] 39)).alloc (.cells #[.slice (some ⟨w.heap.size, 0, none⟩) 1 1, .slice (some ⟨w.heap.size + 1, 0, none⟩) 1 1, .slice (some ⟨w.heap.size + 1 + 1, 0, none⟩) 1 1] 26)) [] := (Keeps.refl _ []).alloc _
  have bb3 := Blk.new (((w.alloc (.cells #[Value.string ⟨#[110]⟩, .int .i64 0] 69)).alloc (.cells #[.int .i64 0] 3)).alloc (.cells #[.string ⟨#[97]⟩, .slice none 0 0, .slice none 0 0, .int .i64 2, .int .i64 0, .int .i64 0, .int .i64 0] 39)) 26 #[.slice (some ⟨w.heap.size, 0, none⟩) 1 1, .slice (some ⟨w.heap.size + 1, 0, none⟩) 1 1, .slice (some ⟨w.heap.size + 1 + 1, 0, none⟩) 1 1]
  have hk4 : Keeps ((((w.alloc (.cells #[Value.string ⟨#[110]⟩, .int .i64 0] 69)).alloc (.cells #[.int .i64 0] 3)).alloc (.cells #[.string ⟨#[97]⟩, .slice none 0 0, .slice none 0 0, .int .i64 2, .int .i64 0, .int .i64 0, .int .i64 0] 39)).alloc (.cells #[.slice (some ⟨w.heap.size, 0, none⟩) 1 1, .slice (some ⟨w.heap.size + 1, 0, none⟩) 1 1, .slice (some ⟨w.heap.size + 1 + 1, 0, none⟩) 1 1] 26)) (((((w.alloc (.cells #[Value.string ⟨#[110]⟩, .int .i64 0] 69)).alloc (.cells #[.int .i64 0] 3)).alloc (.cells #[.string ⟨#[97]⟩, .slice none 0 0, .slice none 0 0, .int .i64 2, .int .i64 0, .int .i64 0, .int .i64 0] 39)).alloc (.cells #[.slice (some ⟨w.heap.size, 0, none⟩) 1 1, .slice (some ⟨w.heap.size + 1, 0, none⟩) 1 1, .slice (some ⟨w.heap.size + 1 + 1, 0, none⟩) 1 1] 26)).alloc (.cells #[.slice (some ⟨w.heap.size, 0, none⟩) 1 1, .slice (some ⟨w.heap.size + 1, 0, none⟩) 1 1, .slice (some ⟨w.heap.size + 1 + 1 + 1 + 1 + 1 + 1 + 1, 0, none⟩) 1 1] 26)) [] := (Keeps.refl _ []).alloc _
  have bb4 := Blk.new ((((w.alloc (.cells #[Value.string ⟨#[110]⟩, .int .i64 0] 69)).alloc (.cells #[.int .i64 0] 3)).alloc (.cells #[.string ⟨#[97]⟩, .slice none 0 0, .slice none 0 0, .int .i64 2, .int .i64 0, .int .i64 0, .int .i64 0] 39)).alloc (.cells #[.slice (some ⟨w.heap.size, 0, none⟩) 1 1, .slice (some ⟨w.heap.size + 1, 0, none⟩) 1 1, .slice (some ⟨w.heap.size + 1 + 1, 0, none⟩) 1 1] 26)) 26 #[.slice (some ⟨w.heap.size, 0, none⟩) 1 1, .slice (some ⟨w.heap.size + 1, 0, none⟩) 1 1, .slice (some ⟨w.heap.size + 1 + 1 + 1 + 1 + 1 + 1 + 1, 0, none⟩) 1 1]
  have hk5 : Keeps (((((w.alloc (.cells #[Value.string ⟨#[110]⟩, .int .i64 0] 69)).alloc (.cells #[.int .i64 0] 3)).alloc (.cells #[.string ⟨#[97]⟩, .slice none 0 0, .slice none 0 0, .int .i64 2, .int .i64 0, .int .i64 0, .int .i64 0] 39)).alloc (.cells #[.slice (some ⟨w.heap.size, 0, none⟩) 1 1, .slice (some ⟨w.heap.size + 1, 0, none⟩) 1 1, .slice (some ⟨w.heap.size + 1 + 1, 0, none⟩) 1 1] 26)).alloc (.cells #[.slice (some ⟨w.heap.size, 0, none⟩) 1 1, .slice (some ⟨w.heap.size + 1, 0, none⟩) 1 1, .slice (some ⟨w.heap.size + 1 + 1 + 1 + 1 + 1 + 1 + 1, 0, none⟩) 1 1] 26)) ((((((w.alloc (.cells #[Value.string ⟨#[110]⟩, .int .i64 0] 69)).alloc (.cells #[.int .i64 0] 3)).alloc (.cells #[.string ⟨#[97]⟩, .slice none 0 0, .slice none 0 0, .int .i64 2, .int .i64 0, .int .i64 0, .int .i64 0] 39)).alloc (.cells #[.slice (some ⟨w.heap.size, 0, none⟩) 1 1, .slice (some ⟨w.heap.size + 1, 0, none⟩) 1 1, .slice (some ⟨w.heap.size + 1 + 1, 0, none⟩) 1 1] 26)).alloc (.cells #[.slice (some ⟨w.heap.size, 0, none⟩) 1 1, .slice (some ⟨w.heap.size + 1, 0, none⟩) 1 1, .slice (some ⟨w.heap.size + 1 + 1 + 1 + 1 + 1 + 1 + 1, 0, none⟩) 1 1] 26)).alloc (.cells #[.int .i64 0, .int .i64 0, .int .i64 0] 3)) [] := (Keeps.refl _ []).alloc _
  have bb5 := Blk.new (((((w.alloc (.cells #[Value.string ⟨#[110]⟩, .int .i64 0] 69)).alloc (.cells #[.int .i64 0] 3)).alloc (.cells #[.string ⟨#[97]⟩, .slice none 0 0, .slice none 0 0, .int .i64 2, .int .i64 0, .int .i64 0, .int .i64 0] 39)).alloc (.cells #[.slice (some ⟨w.heap.size, 0, none⟩) 1 1, .slice (some ⟨w.heap.size + 1, 0, none⟩) 1 1, .slice (some ⟨w.heap.size + 1 + 1, 0, none⟩) 1 1] 26)).alloc (.cells #[.slice (some ⟨w.heap.size, 0, none⟩) 1 1, .slice (some ⟨w.heap.size + 1, 0, none⟩) 1 1, .slice (some ⟨w.heap.size + 1 + 1 + 1 + 1 + 1 + 1 + 1, 0, none⟩) 1 1] 26)) 3 #[.int .i64 0, .int .i64 0, .int .i64 0]
  have hk6 : Keeps ((((((w.alloc (.cells #[Value.string ⟨#[110]⟩, .int .i64 0] 69)).alloc (.cells #[.int .i64 0] 3)).alloc (.cells #[.string ⟨#[97]⟩, .slice none 0 0, .slice none 0 0, .int .i64 2, .int .i64 0, .int .i64 0, .int .i64 0] 39)).alloc (.cells #[.slice (some ⟨w.heap.size, 0, none⟩) 1 1, .slice (some ⟨w.heap.size + 1, 0, none⟩) 1 1, .slice (some ⟨w.heap.size + 1 + 1, 0, none⟩) 1 1] 26)).alloc (.cells #[.slice (some ⟨w.heap.size, 0, none⟩) 1 1, .slice (some ⟨w.heap.size + 1, 0, none⟩) 1 1, .slice (some ⟨w.heap.size + 1 + 1 + 1 + 1 + 1 + 1 + 1, 0, none⟩) 1 1] 26)).alloc (.cells #[.int .i64 0, .int .i64 0, .int .i64 0] 3)) (((((((w.alloc (.cells #[Value.string ⟨#[110]⟩, .int .i64 0] 69)).alloc (.cells #[.int .i64 0] 3)).alloc (.cells #[.string ⟨#[97]⟩, .slice none 0 0, .slice none 0 0, .int .i64 2, .int .i64 0, .int .i64 0, .int .i64 0] 39)).alloc (.cells #[.slice (some ⟨w.heap.size, 0, none⟩) 1 1, .slice (some ⟨w.heap.size + 1, 0, none⟩) 1 1, .slice (some ⟨w.heap.size + 1 + 1, 0, none⟩) 1 1] 26)).alloc (.cells #[.slice (some ⟨w.heap.size, 0, none⟩) 1 1, .slice (some ⟨w.heap.size + 1, 0, none⟩) 1 1, .slice (some ⟨w.heap.size + 1 + 1 + 1 + 1 + 1 + 1 + 1, 0, none⟩) 1 1] 26)).alloc (.cells #[.int .i64 0, .int .i64 0, .int .i64 0] 3)).alloc (.cells #[.int .i64 14, .int .i64 (-1), .slice (some ⟨w.heap.size + 1 + 1 + 1 + 1 + 1, 0, none⟩) 3 3, .int .i64 0] 42)) [] := (Keeps.refl _ []).alloc _
  have bb6 := Blk.new ((((((w.alloc (.cells #[Value.string ⟨#[110]⟩, .int .i64 0] 69)).alloc (.cells #[.int .i64 0] 3)).alloc (.cells #[.string ⟨#[97]⟩, .slice none 0 0, .slice none 0 0, .int .i64 2, .int .i64 0, .int .i64 0, .int .i64 0] 39)).alloc (.cells #[.slice (some ⟨w.heap.size, 0, none⟩) 1 1, .slice (some ⟨w.heap.size + 1, 0, none⟩) 1 1, .slice (some ⟨w.heap.size + 1 + 1, 0, none⟩) 1 1] 26)).alloc (.cells #[.slice (some ⟨w.heap.size, 0, none⟩) 1 1, .slice (some ⟨w.heap.size + 1, 0, none⟩) 1 1, .slice (some ⟨w.heap.size + 1 + 1 + 1 + 1 + 1 + 1 + 1, 0, none⟩) 1 1] 26)).alloc (.cells #[.int .i64 0, .int .i64 0, .int .i64 0] 3)) 42 #[.int .i64 14, .int .i64 (-1), .slice (some ⟨w.heap.size + 1 + 1 + 1 + 1 + 1, 0, none⟩) 3 3, .int .i64 0]
  have hk7 : Keeps (((((((w.alloc (.cells #[Value.string ⟨#[110]⟩, .int .i64 0] 69)).alloc (.cells #[.int .i64 0] 3)).alloc (.cells #[.string ⟨#[97]⟩, .slice none 0 0, .slice none 0 0, .int .i64 2, .int .i64 0, .int .i64 0, .int .i64 0] 39)).alloc (.cells #[.slice (some ⟨w.heap.size, 0, none⟩) 1 1, .slice (some ⟨w.heap.size + 1, 0, none⟩) 1 1, .slice (some ⟨w.heap.size + 1 + 1, 0, none⟩) 1 1] 26)).alloc (.cells #[.slice (some ⟨w.heap.size, 0, none⟩) 1 1, .slice (some ⟨w.heap.size + 1, 0, none⟩) 1 1, .slice (some ⟨w.heap.size + 1 + 1 + 1 + 1 + 1 + 1 + 1, 0, none⟩) 1 1] 26)).alloc (.cells #[.int .i64 0, .int .i64 0, .int .i64 0] 3)).alloc (.cells #[.int .i64 14, .int .i64 (-1), .slice (some ⟨w.heap.size + 1 + 1 + 1 + 1 + 1, 0, none⟩) 3 3, .int .i64 0] 42)) ((((((((w.alloc (.cells #[Value.string ⟨#[110]⟩, .int .i64 0] 69)).alloc (.cells #[.int .i64 0] 3)).alloc (.cells #[.string ⟨#[97]⟩, .slice none 0 0, .slice none 0 0, .int .i64 2, .int .i64 0, .int .i64 0, .int .i64 0] 39)).alloc (.cells #[.slice (some ⟨w.heap.size, 0, none⟩) 1 1, .slice (some ⟨w.heap.size + 1, 0, none⟩) 1 1, .slice (some ⟨w.heap.size + 1 + 1, 0, none⟩) 1 1] 26)).alloc (.cells #[.slice (some ⟨w.heap.size, 0, none⟩) 1 1, .slice (some ⟨w.heap.size + 1, 0, none⟩) 1 1, .slice (some ⟨w.heap.size + 1 + 1 + 1 + 1 + 1 + 1 + 1, 0, none⟩) 1 1] 26)).alloc (.cells #[.int .i64 0, .int .i64 0, .int .i64 0] 3)).alloc (.cells #[.int .i64 14, .int .i64 (-1), .slice (some ⟨w.heap.size + 1 + 1 + 1 + 1 + 1, 0, none⟩) 3 3, .int .i64 0] 42)).alloc (.cells #[.string ⟨#[97]⟩, .slice none 0 0, .slice (some ⟨w.heap.size + 1 + 1 + 1 + 1 + 1 + 1, 0, none⟩) 1 1, .int .i64 2, .int .i64 0, .int .i64 0, .int .i64 0] 39)) [] := (Keeps.refl _ []).alloc _
  have bb7 := Blk.new (((((((w.alloc (.cells #[Value.string ⟨#[110]⟩, .int .i64 0] 69)).alloc (.cells #[.int .i64 0] 3)).alloc (.cells #[.string ⟨#[97]⟩, .slice none 0 0, .slice none 0 0, .int .i64 2, .int .i64 0, .int .i64 0, .int .i64 0] 39)).alloc (.cells #[.slice (some ⟨w.heap.size, 0, none⟩) 1 1, .slice (some ⟨w.heap.size + 1, 0, none⟩) 1 1, .slice (some ⟨w.heap.size + 1 + 1, 0, none⟩) 1 1] 26)).alloc (.cells #[.slice (some ⟨w.heap.size, 0, none⟩) 1 1, .slice (some ⟨w.heap.size + 1, 0, none⟩) 1 1, .slice (some ⟨w.heap.size + 1 + 1 + 1 + 1 + 1 + 1 + 1, 0, none⟩) 1 1] 26)).alloc (.cells #[.int .i64 0, .int .i64 0, .int .i64 0] 3)).alloc (.cells #[.int .i64 14, .int .i64 (-1), .slice (some ⟨w.heap.size + 1 + 1 + 1 + 1 + 1, 0, none⟩) 3 3, .int .i64 0] 42)) 39 #[.string ⟨#[97]⟩, .slice none 0 0, .slice (some ⟨w.heap.size + 1 + 1 + 1 + 1 + 1 + 1, 0, none⟩) 1 1, .int .i64 2, .int .i64 0, .int .i64 0, .int .i64 0]
  have hs0 : w.heap.size = w.heap.size := rfl
  have hs1 : (w.alloc (.cells #[Value.string ⟨#[110]⟩, .int .i64 0] 69)).heap.size = w.heap.size + 1 := (show (Array.push _ _).size = _ from (Array.size_push _).trans (congrArg (fun z => z + 1) hs0))
  rw [hs1] at bb1
  have hs2 : ((w.alloc (.cells #[Value.string ⟨#[110]⟩, .int .i64 0] 69)).alloc (.cells #[.int .i64 0] 3)).heap.size = w.heap.size + 1 + 1 := (show (Array.push _ _).size = _ from (Array.size_push _).trans (congrArg (fun z => z + 1) hs1))
  rw [hs2] at bb2
  have hs3 : (((w.alloc (.cells #[Value.string ⟨#[110]⟩, .int .i64 0] 69)).alloc (.cells #[.int .i64 0] 3)).alloc (.cells #[.string ⟨#[97]⟩, .slice none 0 0, .slice none 0 0, .int .i64 2, .int .i64 0, .int .i64 0, .int .i64 0] 39)).heap.size = w.heap.size + 1 + 1 + 1 := (show (Array.push _ _).size = _ from (Array.size_push _).trans (congrArg (fun z => z + 1) hs2))
  rw [hs3] at bb3
  have hs4 : ((((w.alloc (.cells #[Value.string ⟨#[110]⟩, .int .i64 0] 69)).alloc (.cells #[.int .i64 0] 3)).alloc (.cells #[.string ⟨#[97]⟩, .slice none 0 0, .slice none 0 0, .int .i64 2, .int .i64 0, .int .i64 0, .int .i64 0] 39)).alloc (.cells #[.slice (some ⟨w.heap.size, 0, none⟩) 1 1, .slice (some ⟨w.heap.size + 1, 0, none⟩) 1 1, .slice (some ⟨w.heap.size + 1 + 1, 0, none⟩) 1 1] 26)).heap.size = w.heap.size + 1 + 1 + 1 + 1 := (show (Array.push _ _).size = _ from (Array.size_push _).trans (congrArg (fun z => z + 1) hs3))
  rw [hs4] at bb4
  have hs5 : (((((w.alloc (.cells #[Value.string ⟨#[110]⟩, .int .i64 0] 69)).alloc (.cells #[.int .i64 0] 3)).alloc (.cells #[.string ⟨#[97]⟩, .slice none 0 0, .slice none 0 0, .int .i64 2, .int .i64 0, .int .i64 0, .int .i64 0] 39)).alloc (.cells #[.slice (some ⟨w.heap.size, 0, none⟩) 1 1, .slice (some ⟨w.heap.size + 1, 0, none⟩) 1 1, .slice (some ⟨w.heap.size + 1 + 1, 0, none⟩) 1 1] 26)).alloc (.cells #[.slice (some ⟨w.heap.size, 0, none⟩) 1 1, .slice (some ⟨w.heap.size + 1, 0, none⟩) 1 1, .slice (some ⟨w.heap.size + 1 + 1 + 1 + 1 + 1 + 1 + 1, 0, none⟩) 1 1] 26)).heap.size = w.heap.size + 1 + 1 + 1 + 1 + 1 := (show (Array.push _ _).size = _ from (Array.size_push _).trans (congrArg (fun z => z + 1) hs4))
  rw [hs5] at bb5
  have hs6 : ((((((w.alloc (.cells #[Value.string ⟨#[110]⟩, .int .i64 0] 69)).alloc (.cells #[.int .i64 0] 3)).alloc (.cells #[.string ⟨#[97]⟩, .slice none 0 0, .slice none 0 0, .int .i64 2, .int .i64 0, .int .i64 0, .int .i64 0] 39)).alloc (.cells #[.slice (some ⟨w.heap.size, 0, none⟩) 1 1, .slice (some ⟨w.heap.size + 1, 0, none⟩) 1 1, .slice (some ⟨w.heap.size + 1 + 1, 0, none⟩) 1 1] 26)).alloc (.cells #[.slice (some ⟨w.heap.size, 0, none⟩) 1 1, .slice (some ⟨w.heap.size + 1, 0, none⟩) 1 1, .slice (some ⟨w.heap.size + 1 + 1 + 1 + 1 + 1 + 1 + 1, 0, none⟩) 1 1] 26)).alloc (.cells #[.int .i64 0, .int .i64 0, .int .i64 0] 3)).heap.size = w.heap.size + 1 + 1 + 1 + 1 + 1 + 1 := (show (Array.push _ _).size = _ from (Array.size_push _).trans (congrArg (fun z => z + 1) hs5))
  rw [hs6] at bb6
  have hs7 : (((((((w.alloc (.cells #[Value.string ⟨#[110]⟩, .int .i64 0] 69)).alloc (.cells #[.int .i64 0] 3)).alloc (.cells #[.string ⟨#[97]⟩, .slice none 0 0, .slice none 0 0, .int .i64 2, .int .i64 0, .int .i64 0, .int .i64 0] 39)).alloc (.cells #[.slice (some ⟨w.heap.size, 0, none⟩) 1 1, .slice (some ⟨w.heap.size + 1, 0, none⟩) 1 1, .slice (some ⟨w.heap.size + 1 + 1, 0, none⟩) 1 1] 26)).alloc (.cells #[.slice (some ⟨w.heap.size, 0, none⟩) 1 1, .slice (some ⟨w.heap.size + 1, 0, none⟩) 1 1, .slice (some ⟨w.heap.size + 1 + 1 + 1 + 1 + 1 + 1 + 1, 0, none⟩) 1 1] 26)).alloc (.cells #[.int .i64 0, .int .i64 0, .int .i64 0] 3)).alloc (.cells #[.int .i64 14, .int .i64 (-1), .slice (some ⟨w.heap.size + 1 + 1 + 1 + 1 + 1, 0, none⟩) 3 3, .int .i64 0] 42)).heap.size = w.heap.size + 1 + 1 + 1 + 1 + 1 + 1 + 1 := (show (Array.push _ _).size = _ from (Array.size_push _).trans (congrArg (fun z => z + 1) hs6))
  rw [hs7] at bb7
  have b0 := (((((((bb0.keep hk1 (by simp)).keep hk2 (by simp)).keep hk3 (by simp)).keep hk4 (by simp)).keep hk5 (by simp)).keep hk6 (by simp)).keep hk7 (by simp))
  have b1 := ((((((bb1.keep hk2 (by simp)).keep hk3 (by simp)).keep hk4 (by simp)).keep hk5 (by simp)).keep hk6 (by simp)).keep hk7 (by simp))
  have b2 := (((((bb2.keep hk3 (by simp)).keep hk4 (by simp)).keep hk5 (by simp)).keep hk6 (by simp)).keep hk7 (by simp))
  have b3 := ((((bb3.keep hk4 (by simp)).keep hk5 (by simp)).keep hk6 (by simp)).keep hk7 (by simp))
  have b4 := (((bb4.keep hk5 (by simp)).keep hk6 (by simp)).keep hk7 (by simp))
  have b5 := ((bb5.keep hk6 (by simp)).keep hk7 (by simp))
  have b6 := (bb6.keep hk7 (by simp))
  have b7 := bb7
  have HK := kept (((((((hk0.and_then hk1).and_then hk2).and_then hk3).and_then hk4).and_then hk5).and_then hk6).and_then hk7)
  clear hs0 hs1 hs2 hs3 hs4 hs5 hs6 hs7 bb0 bb1 bb2 bb3 bb4 bb5 bb6 bb7 hk0 hk1 hk2 hk3 hk4 hk5 hk6 hk7
  have HF := kept (exF_at b0 b1 b2)
  have HG := kept (exG_at b0 b1 b7 b6 b5)
  have HT := kept (ht.keep HK.out)
  have C1 := kept (slotF_any _ _ HT.out HF.out (exF_few _ _ _))
  rw [exF_slot] at C1
  have C2 := kept (fun W (kW : Keeps _ W []) => typedF_any _ W (HT.out.keep kW) (HG.out.keep kW) (exG_few _ _ _ _ _))
  simp only [exG_typed] at C2
  have B4 := kept b4
  clear b0 b1 b2 b3 b4 b5 b6 b7 HF HG ht
  go_enter Tryd.func10, Tryd.ntmps10
  go_wp2_with fail
  refine (C1.out).mono ?_
  rintro e w3 ⟨rfl, k3⟩
  have K3 := kept k3
  have b4 := B4.out.keep k3 (by simp)
  have l0 := b4.cell 0
  have l1 := b4.cell 1
  have l2 := b4.cell 2
  simp at l0 l1 l2
  clear k3 b4
  go_wp2_with fail
  refine (C2.out _ K3.out).mono ?_
  rintro e w4 ⟨rfl, k4⟩
  have K4 := kept k4
  clear k4
  go_wp2
  go_ret
  exact ⟨rfl, HK.out.and_then (K3.out.and_then K4.out)⟩
end Go.Proofs.YtjllbchfojonhaaDoor
