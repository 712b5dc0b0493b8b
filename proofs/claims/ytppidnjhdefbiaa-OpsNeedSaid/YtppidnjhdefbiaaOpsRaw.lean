/- Package ops: the contracts of Index, Contains, Raw, Pure, TypeOf. -/
import Derived.Test.YtppidnjhdefbiaaOpsSmall
namespace Go.Proofs.Ytppidnjhdefbiaa
open Go.RowKit
set_option linter.unusedVariables false

/-- the first place of a number in a list; -1 where there is none -/
def place (l : List Int) (v : Int) : Int := match l.findIdx? (· == v) with | some i => i | none => -1
theorem place_at {l : List Int} {v : Int} {k : Nat} (hk : k < l.length) (hv : l[k] = v) (h : ∀ j (hj : j < k), l[j] ≠ v) : place l v = k := by
  unfold place
  have : l.findIdx? (· == v) = some k := by
    rw [List.findIdx?_eq_some_iff_getElem]
    exact ⟨hk, by simpa using hv, fun j hj => by simpa using h j hj⟩
  rw [this]
theorem place_no {l : List Int} {v : Int} (h : ∀ j (hj : j < l.length), l[j] ≠ v) : place l v = -1 := by
  unfold place
  have : l.findIdx? (· == v) = none := by
    rw [List.findIdx?_eq_none_iff]
    intro x hx
    obtain ⟨j, hj, rfl⟩ := List.getElem_of_mem hx
    simpa using h j hj
  rw [this]

set_option maxHeartbeats 4000000 in
theorem index_any (w : World) (b : Nat) (l : List Int) (v : Int) (c : Nat) (hl : l.length ≤ 1000) (hc : ∀ j (hj : j < l.length), w.cell? ⟨b, j, none⟩ = some (.int .i64 l[j])) :
    Calls Try.prog 99 #[.slice (some ⟨b, 0, none⟩) l.length c, .int .i64 v] w fun e w' => e = .returned (.int .i64 (place l v)) ∧ w = w' := by
  have HC := kept hc
  clear hc
  go_enter Try.func99, Try.ntmps99
  go_wp2
  go_loop [8] (fun i => ∃ k : Nat, k ≤ l.length ∧ i = .int .i64 k ∧ ∀ j (hj : j < k) (hl : j < l.length), l[j] ≠ v) (fun i => l.length - (intOf i).toNat)
  case atStart => exact ⟨0, by omega, rfl, fun j hj => by omega⟩
  case round =>
    obtain ⟨k, hk, rfl, hn⟩ := hrel
    have HN := kept hn
    clear hn
    by_cases hlt : k < l.length
    · have q := HC.out k hlt
      obtain ⟨x, hx⟩ : ∃ x, l[k] = x := ⟨_, rfl⟩
      rw [hx] at q
      have HX := kept hx
      clear hx
      rcases Bool.eq_false_or_eq_true (v == x) with he | he
      · have e : place l v = k := place_at hlt (by rw [HX.out]; have : v = x := by simpa using he
                                                   exact this.symm) (fun j hj => HN.out j hj (by omega))
        have E := kept e
        clear e
        go_wp2
        go_ret
        exact ⟨ret_int E.out.symm, rfl⟩
      · go_wp2
        go_round
        case rel => exact ⟨k + 1, by omega, by go_num, fun j hj hl => by
          by_cases e : j = k
          · subst e; rw [HX.out]; intro h; rw [h] at he; simp at he
          · exact HN.out j (by omega) hl⟩
        case measure => simp [intOf]; omega
    · have E := kept (place_no (l := l) (v := v) (fun j hj => HN.out j (by omega) hj))
      go_wp2
      go_ret
      exact ⟨ret_int E.out.symm, rfl⟩

theorem contains_any (w : World) (b : Nat) (l : List Int) (v : Int) (c : Nat) (hl : l.length ≤ 1000) (hc : ∀ j (hj : j < l.length), w.cell? ⟨b, j, none⟩ = some (.int .i64 l[j])) :
    Calls Try.prog 89 #[.slice (some ⟨b, 0, none⟩) l.length c, .int .i64 v] w fun e w' => e = .returned (.bool (decide (0 ≤ place l v))) ∧ w = w' := by
  have C := kept (index_any w b l v c hl hc)
  clear hc
  go_enter Try.func89, Try.ntmps89
  go_wp2_with fail
  refine C.out.mono ?_
  rintro e w' ⟨rfl, rfl⟩
  go_wp2
  go_ret
  exact ⟨rfl, rfl⟩

def raws : List Int := [5, 6, 12, 13, 14, 15]
def rawB (op : Int) : Bool := decide (0 ≤ place raws op)
theorem raw_any (op : Int) (w : World) : Calls Try.prog 51 #[.int .i64 op] w fun e w' => e = .returned (.bool (rawB op)) ∧ Keeps w w' [] := by
  have C := kept (contains_any (w.alloc (.cells #[.int .i64 5, .int .i64 6, .int .i64 12, .int .i64 13, .int .i64 14, .int .i64 15] 44)) w.heap.size raws op 6 (by decide) (fun j hj => by
    have hb := (Blk.new w 44 #[.int .i64 5, .int .i64 6, .int .i64 12, .int .i64 13, .int .i64 14, .int .i64 15]).cell j
    rw [hb]
    have : j < 6 := hj
    match j, this with
    | 0, _ => rfl
    | 1, _ => rfl
    | 2, _ => rfl
    | 3, _ => rfl
    | 4, _ => rfl
    | 5, _ => rfl))
  go_enter Try.func51, Try.ntmps51
  go_wp2_with fail
  refine C.out.mono ?_
  rintro e w' ⟨rfl, rfl⟩
  go_wp2
  go_ret
  exact ⟨rfl, (Keeps.refl w []).alloc _⟩
end Go.Proofs.Ytppidnjhdefbiaa
