/- A map from strings to numbers that a call makes: each string that lies there lies with 1. -/
import Derived.Test.YtjllbchfojonhaaGreatDoorB1
import Derived.MapKept
namespace Go.Proofs.YtjllbchfojonhaaGreatDoor
open Go.RowKit
open Go.MapKept (run_findKey heap_set IsKey findNow_spec)
set_option linter.unusedVariables false

def entriesOf (es : Array MapEntry) (c : Nat) (l : List ByteArray) : Prop :=
 (∀ e ∈ es.toList, (∃ x, x ∈ l ∧ e.key = .string x) ∧ e.val = .int .i64 1 ∧ e.born < c) ∧ ∀ x ∈ l, ∃ e ∈ es.toList, e.key = .string x
/-- block b is a map where just the strings of l lie, each with 1 -/
def MapOf (w : World) (b : Nat) (l : List ByteArray) : Prop := ∃ es c, w.heap[b]? = some (.map es c) ∧ entriesOf es c l
def World.setObj (w : World) (b : Nat) (o : Obj) : World := { w with heap := w.heap.setIfInBounds b o }
theorem keeps_setObj (w : World) (b : Nat) (o : Obj) : Keeps w (World.setObj w b o) [b] :=
 ⟨rfl, rfl, rfl, by simp [World.setObj], fun k hk hn => by
  simp at hn
  simp [World.setObj, Ne.symm hn]⟩
theorem MapOf.keep {w w' : World} {b : Nat} {l : List ByteArray} {S : List Nat} (h : MapOf w b l) (k : Keeps w w' S) (hb : b ∉ S) : MapOf w' b l := by
 obtain ⟨es, c, h1, h2⟩ := h
 exact ⟨es, c, (k.block b (Array.getElem?_eq_some_iff.1 h1).1 hb).trans h1, h2⟩
theorem MapOf.lt {w : World} {b : Nat} {l : List ByteArray} (h : MapOf w b l) : b < w.heap.size := by
 obtain ⟨es, c, h1, _⟩ := h
 exact (Array.getElem?_eq_some_iff.1 h1).1
theorem MapOf.new (w : World) : MapOf (w.alloc (.map #[] 0)) w.heap.size [] := ⟨#[], 0, heap_alloc_new w _, by constructor <;> simp⟩
theorem entries_keys {es : Array MapEntry} {c : Nat} {l : List ByteArray} (h : entriesOf es c l) : ∀ x ∈ es.toList, IsKey .string x.key := fun e he => by
 obtain ⟨⟨x, _, hx⟩, _⟩ := h.1 e he
 rw [hx]
 exact True.intro
theorem entries_no {es : Array MapEntry} {c : Nat} {l : List ByteArray} {s : ByteArray} (h : entriesOf es c l) (hs : s ∉ l) : Instr.findNow .string (.string s) es.toList 0 = some none := by
 rcases findNow_spec (d := .string) (k := .string s) True.intro es.toList 0 (entries_keys h) with ⟨h1, _⟩ | ⟨j, e, h1, h2, h3⟩
 ·exact h1
 ·obtain ⟨⟨x, hx, h4⟩, _⟩ := h.1 e (List.mem_of_getElem? h2)
  rw [h3] at h4
  injection h4 with h4
  exact absurd (h4 ▸ hx) hs
theorem entries_yes {es : Array MapEntry} {c : Nat} {l : List ByteArray} {s : ByteArray} (h : entriesOf es c l) (hs : s ∈ l) : ∃ j e, Instr.findNow .string (.string s) es.toList 0 = some (some (j, .int .i64 1)) ∧ es.toList[j]? = some e ∧ e.key = .string s := by
 rcases findNow_spec (d := .string) (k := .string s) True.intro es.toList 0 (entries_keys h) with ⟨_, h2⟩ | ⟨j, e, h1, h2, h3⟩
 ·obtain ⟨e, he, hk⟩ := h.2 s hs
  exact absurd hk (h2 e he)
 ·obtain ⟨_, hv, _⟩ := h.1 e (List.mem_of_getElem? h2)
  rw [hv] at h1
  refine ⟨j, e, by simpa using h1, h2, h3⟩

section
variable {P : Program} {T K E : TypeId} (hT : P.underlying T = some (.map K E)) (hK : P.underlying K = some .string) (hz : ∀ w, (zeroValue E).run P w = .ok (.int .i64 0) w)
include hT hK
theorem look_yes {w : World} {b : Nat} {l : List ByteArray} {s : ByteArray} (h : MapOf w b l) (hs : s ∈ l) : (Instr.lookup T (.map (some b)) (.string s) false).run P w = .ok (.int .i64 1) w := by
 obtain ⟨es, c, hb, he⟩ := h
 obtain ⟨j, e, hf, _, _⟩ := entries_yes he hs
 have hk : ∀ w, (Instr.findKey K (.string s) es.toList).run P w = .ok (some (j, .int .i64 1)) w := fun w => run_findKey hK hf
 have hc : ∀ e w, (Instr.checkKey e 10000 K (.string s)).run P w = .ok () w := fun e w => Go.MapKept.run_checkKey hK (by simp [IsKey]) e 9999
 unfold Instr.lookup
 simp only [Sem.run_bind, run_underlying hT, Result.andThen_ok, Go.MapKept.run_getObj_map (P := P) hb, Sem.run_pure, hc, hk]
 rfl
include hz in
theorem look_no {w : World} {b : Nat} {l : List ByteArray} {s : ByteArray} (h : MapOf w b l) (hs : s ∉ l) : (Instr.lookup T (.map (some b)) (.string s) false).run P w = .ok (.int .i64 0) w := by
 obtain ⟨es, c, hb, he⟩ := h
 have hf := entries_no he hs
 have hk : ∀ w, (Instr.findKey K (.string s) es.toList).run P w = .ok none w := fun w => run_findKey hK hf
 have hc : ∀ e w, (Instr.checkKey e 10000 K (.string s)).run P w = .ok () w := fun e w => Go.MapKept.run_checkKey hK (by simp [IsKey]) e 9999
 unfold Instr.lookup
 simp only [Sem.run_bind, run_underlying hT, Result.andThen_ok, Go.MapKept.run_getObj_map (P := P) hb, Sem.run_pure, hc, hk, hz]
 rfl
theorem put_any {w : World} {b : Nat} {l : List ByteArray} (s : ByteArray) (h : MapOf w b l) : ∃ w', (Instr.mapUpdate T (.map (some b)) (.string s) (.int .i64 1)).run P w = .ok () w' ∧ MapOf w' b (l ++ [s]) ∧ Keeps w w' [b] := by
 obtain ⟨es, c, hb, he⟩ := h
 have hc : ∀ e w, (Instr.checkKey e 10000 K (.string s)).run P w = .ok () w := fun e w => Go.MapKept.run_checkKey hK (by simp [IsKey]) e 9999
 by_cases hs : s ∈ l
 ·obtain ⟨j, e, hf, hj, hek⟩ := entries_yes he hs
  have hk : ∀ w, (Instr.findKey K (.string s) es.toList).run P w = .ok (some (j, .int .i64 1)) w := fun w => run_findKey hK hf
  rw [Array.getElem?_toList] at hj
  have hkey : ((es[j]?).map (·.key)).getD (.string s) = .string s := by rw [hj]; exact hek
  have hst : ∀ w, (Instr.keyThatStays (.string s) (.string s)).run P w = .ok (.string s) w := fun w => by
   have : Instr.sameBits 10000 (.string s) (.string s) = true := by
    show (s == s) = true
    exact (Go.MapKept.bytes_beq s s).2 rfl
   simp [Instr.keyThatStays, this]
  have hmod : es.modify j (fun e => { e with key := .string s, val := .int .i64 1 }) = es := by
   apply Array.ext_getElem?
   intro i
   rw [Array.getElem?_modify]
   split
   ·rename_i hij
    subst hij
    rw [hj]
    obtain ⟨k, v, bn⟩ := e
    have hv := (he.1 _ (List.mem_of_getElem? (by rw [Array.getElem?_toList]; exact hj))).2.1
    simp only at hek hv
    subst hek hv
    rfl
   ·rfl
  refine ⟨World.setObj w b (.map es c), ?_, ⟨es, c, (heap_set hb).1, ?_, ?_⟩, keeps_setObj _ _ _⟩
  ·unfold Instr.mapUpdate
   simp only [Sem.run_bind, run_underlying hT, Result.andThen_ok, Go.MapKept.run_getObj_map (P := P) hb, hc, hk, hkey, hst, hmod, Go.MapKept.run_setObj_map (P := P) _ hb]
   rfl
  ·intro e' hm
   obtain ⟨⟨x, hx, h1⟩, h2⟩ := he.1 e' hm
   exact ⟨⟨x, by simp [hx], h1⟩, h2⟩
  ·intro x hx
   simp at hx
   rcases hx with hx | rfl
   ·exact he.2 x hx
   ·exact he.2 x hs
 ·have hf := entries_no he hs
  have hk : ∀ w, (Instr.findKey K (.string s) es.toList).run P w = .ok none w := fun w => run_findKey hK hf
  refine ⟨World.setObj w b (.map (es.push ⟨.string s, .int .i64 1, c⟩) (c + 1)), ?_, ⟨_, _, (heap_set hb).1, ?_, ?_⟩, keeps_setObj _ _ _⟩
  ·unfold Instr.mapUpdate
   simp only [Sem.run_bind, run_underlying hT, Result.andThen_ok, Go.MapKept.run_getObj_map (P := P) hb, hc, hk, Go.MapKept.run_setObj_map (P := P) _ hb]
   rfl
  ·intro e hm
   simp only [Array.toList_push, List.mem_append, List.mem_singleton] at hm
   rcases hm with hm | rfl
   ·obtain ⟨⟨x, hx, h1⟩, h2, h3⟩ := he.1 e hm
    exact ⟨⟨x, by simp [hx], h1⟩, h2, by omega⟩
   ·exact ⟨⟨s, by simp, rfl⟩, rfl, by simp⟩
  ·intro x hx
   simp at hx
   rcases hx with hx | rfl
   ·obtain ⟨e, hm, h1⟩ := he.2 x hx
    exact ⟨e, by simp [hm], h1⟩
   ·exact ⟨⟨.string x, .int .i64 1, c⟩, by simp, rfl⟩
end
end Go.Proofs.YtjllbchfojonhaaGreatDoor
