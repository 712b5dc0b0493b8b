/- Two runs held against one another (the law's Both); contract. -/
import Derived.Test.YtjllbchfojonhaaDoorB2
import Derived.Deep.RegionHeld3
import Derived.Deep.CutBlock
import Derived.Deep.Cut
namespace Go.Proofs.YtjllbchfojonhaaDoor
open Go.RowKit
set_option linter.unusedVariables false
set_option linter.unusedSimpArgs false
section
variable {P : Program} {ops : Array Oper} {Q : Exit → Act → World → Prop} {md : Region.Mode} {S : World → Prop}
/-- each of these comes up next; behind it J holds -/
def AllReadyJ (P : Program) (ops : Array Oper) (Q : Exit → Act → World → Prop) (S : World → Prop) (J : Array Bool → Act → World → Prop) (listed : Array Bool) (a : Act) (w : World) (rs : List Nat) : Prop :=
 ∀ i ∈ rs, wpOp P ops Q i (fun a' w' => S w' ∧ J (listed.setIfInBounds i true) a' w') a w
theorem AllReadyJ.nil {J : Array Bool → Act → World → Prop} {listed : Array Bool} {a : Act} {w : World} : AllReadyJ P ops Q S J listed a w [] := fun _ h => by cases h
theorem AllReadyJ.cons {J : Array Bool → Act → World → Prop} {listed : Array Bool} {a : Act} {w : World} {i : Nat} {o : Oper} {rs : List Nat} (ho : ops[i]? = some o)
  (h : ∀ K' : Act → World → Prop, Shut (∀ a w, S w → J (listed.setIfInBounds i true) a w → K' a w) → if Region.wanted o (yielded ops a.tmps) = true then Oper.wp P o a w K' Q else K' (a.put o.dst undef) w)
  (hs : AllReadyJ P ops Q S J listed a w rs) : AllReadyJ P ops Q S J listed a w (i :: rs) := fun j hj => by
 rcases List.mem_cons.1 hj with rfl | hj
 ·exact wpOp_step ho (fun K' hK => h K' (fun a w hS hJ => hK a w ⟨hS, hJ⟩))
 ·exact hs j hj
theorem wpOp_weaken {i : Nat} {K K' : Act → World → Prop} {a : Act} {w : World} (h : ∀ a w, K a w → K' a w) (hw : wpOp P ops Q i K a w) : wpOp P ops Q i K' a w := wpOp_mono h hw
theorem wpAnyH_inv (J : Nat → Array Bool → Act → World → Prop) (k : Nat) (h0 : ∀ listed a w, S w → J 0 listed a w → wpAnyH P md ops Q S k listed a w)
  (hs : ∀ m listed a w, S w → J (m + 1) listed a w → ∃ rs, Region.ready md ops listed = rs ∧ rs ≠ [] ∧ AllReadyJ P ops Q S (J m) listed a w rs) :
  ∀ m listed a w, S w → J m listed a w → wpAnyH P md ops Q S (m + k) listed a w := by
 intro m
 induction m with
 | zero => intro listed a w hS hJ; rw [Nat.zero_add]; exact h0 listed a w hS hJ
 | succ m ih =>
  intro listed a w hS hJ
  obtain ⟨rs, h1, h2, h3⟩ := hs m listed a w hS hJ
  rw [show m + 1 + k = (m + k) + 1 by omega]
  exact wpAnyH_all h1 h2 fun i hi => wpOp_mono (fun a' w' h' => ⟨h'.1, ih _ _ _ h'.1 h'.2⟩) (h3 i hi)
end

/-- an outcome, its trace in memory -/
def OutAt (w : World) (x : Value) (e v t : Int) (l : List Int) (s : Int) (c : Nat → Int) : Prop := ∃ ua uc, x = .agg #[.int .i64 e, .int .i64 v, .int .i64 t, .slice ua l.length uc, .int .i64 s, .int .i64 (c 0), .int .i64 (c 1), .int .i64 (c 2), .int .i64 (c 3), .int .i64 (c 4), .int .i64 (c 5), .int .i64 (c 6), .int .i64 (c 7)] ∧ ∃ base, w.ownsRow base 2 1 (.slice ua l.length uc) l.length (l.map (Value.int .i64))
def RunLit (w : World) (e v t : Int) (l : List Int) (s : Int) (c : Nat → Int) (x : Ending) (w' : World) : Prop := (∃ y, x = .returned y ∧ OutAt w' y e v t l s c) ∧ Keeps w w' []
theorem OutAt.keep {w w' : World} {x : Value} {e v t : Int} {l : List Int} {s : Int} {c : Nat → Int} (h : OutAt w x e v t l s c) (k : Keeps w w' []) : OutAt w' x e v t l s c := by
 obtain ⟨ua, uc, h1, base, h2⟩ := h
 exact ⟨ua, uc, h1, base, own_keep h2 k (by simp)⟩
def zOut : Array Value := #[.int .i64 0, .int .i64 0, .int .i64 0, .slice none 0 0, .int .i64 0, .int .i64 0, .int .i64 0, .int .i64 0, .int .i64 0, .int .i64 0, .int .i64 0, .int .i64 0, .int .i64 0]
def NewAt (b : Nat) (w : World) (z : Bool) (p : Value) : Prop := z = true → ∃ g, p = .pointer (some ⟨g, 0, none⟩) ∧ Blk w g 63 zOut ∧ b ≤ g
def NeP (z z' : Bool) (p p' : Value) : Prop := z = true → z' = true → p ≠ p'
theorem NewAt.keep {b : Nat} {w w' : World} {z : Bool} {p : Value} (h : NewAt b w z p) (k : Keeps w w' []) : NewAt b w' z p := fun hz => by
 obtain ⟨g, h1, h2, h3⟩ := h hz
 exact ⟨g, h1, h2.keep k (by simp), h3⟩
theorem NewAt.new {b : Nat} {w : World} (hb : b ≤ w.heap.size) : NewAt b (w.alloc (.cells zOut 63)) true (.pointer (some ⟨w.heap.size, 0, none⟩)) := fun _ => ⟨_, rfl, Blk.new w 63 zOut, hb⟩
theorem NeP.new {b : Nat} {w : World} {z : Bool} {p : Value} (h : NewAt b w z p) : NeP z true p (.pointer (some ⟨w.heap.size, 0, none⟩)) := fun hz _ e => by
 obtain ⟨g, h1, h2, _⟩ := h hz
 have := h2.lt
 rw [h1] at e
 simp at e
 try omega
theorem NeP.new' {b : Nat} {w : World} {z : Bool} {p : Value} (h : NewAt b w z p) : NeP true z (.pointer (some ⟨w.heap.size, 0, none⟩)) p := fun h1 h2 e => NeP.new h h2 h1 e.symm
structure BR (W0 w : World) (y1 y2 y3 z1 z2 z3 : Bool) (p1 p2 p3 x1 x2 x3 : Value) (O1 O2 O3 : World → Value → Prop) : Prop where
 k : Keeps W0 w []
 r2 : y2 = true → y1 = true
 r3 : y3 = true → y2 = true
 o1 : y1 = true → O1 w x1
 o2 : y2 = true → O2 w x2
 o3 : y3 = true → O3 w x3
 n1 : NewAt W0.heap.size w z1 p1
 n2 : NewAt W0.heap.size w z2 p2
 n3 : NewAt W0.heap.size w z3 p3
 e12 : NeP z1 z2 p1 p2
 e13 : NeP z1 z3 p1 p3
 e23 : NeP z2 z3 p2 p3
section
variable {W0 w w' : World} {y1 y2 y3 z1 z2 z3 : Bool} {p1 p2 p3 x1 x2 x3 : Value} {O1 O2 O3 : World → Value → Prop}
def Stay (O : World → Value → Prop) : Prop := ∀ w w' x, O w x → Keeps w w' [] → O w' x
theorem BR.a1 (h1 : Stay O1) (h2 : Stay O2) (h3 : Stay O3) (h : BR W0 w y1 y2 y3 false z2 z3 p1 p2 p3 x1 x2 x3 O1 O2 O3) : BR W0 (w.alloc (.cells zOut 63)) y1 y2 y3 true z2 z3 (.pointer (some ⟨w.heap.size, 0, none⟩)) p2 p3 x1 x2 x3 O1 O2 O3 :=
 have k := (Keeps.refl w []).alloc (.cells zOut 63)
 ⟨h.k.alloc _, h.r2, h.r3, fun e => h1 _ _ _ (h.o1 e) k, fun e => h2 _ _ _ (h.o2 e) k, fun e => h3 _ _ _ (h.o3 e) k, NewAt.new h.k.size, h.n2.keep k, h.n3.keep k, NeP.new' h.n2, NeP.new' h.n3, h.e23⟩
theorem BR.a2 (h1 : Stay O1) (h2 : Stay O2) (h3 : Stay O3) (h : BR W0 w y1 y2 y3 z1 false z3 p1 p2 p3 x1 x2 x3 O1 O2 O3) : BR W0 (w.alloc (.cells zOut 63)) y1 y2 y3 z1 true z3 p1 (.pointer (some ⟨w.heap.size, 0, none⟩)) p3 x1 x2 x3 O1 O2 O3 :=
 have k := (Keeps.refl w []).alloc (.cells zOut 63)
 ⟨h.k.alloc _, h.r2, h.r3, fun e => h1 _ _ _ (h.o1 e) k, fun e => h2 _ _ _ (h.o2 e) k, fun e => h3 _ _ _ (h.o3 e) k, h.n1.keep k, NewAt.new h.k.size, h.n3.keep k, NeP.new h.n1, h.e13, NeP.new' h.n3⟩
theorem BR.a3 (h1 : Stay O1) (h2 : Stay O2) (h3 : Stay O3) (h : BR W0 w y1 y2 y3 z1 z2 false p1 p2 p3 x1 x2 x3 O1 O2 O3) : BR W0 (w.alloc (.cells zOut 63)) y1 y2 y3 z1 z2 true p1 p2 (.pointer (some ⟨w.heap.size, 0, none⟩)) x1 x2 x3 O1 O2 O3 :=
 have k := (Keeps.refl w []).alloc (.cells zOut 63)
 ⟨h.k.alloc _, h.r2, h.r3, fun e => h1 _ _ _ (h.o1 e) k, fun e => h2 _ _ _ (h.o2 e) k, fun e => h3 _ _ _ (h.o3 e) k, h.n1.keep k, h.n2.keep k, NewAt.new h.k.size, h.e12, NeP.new h.n1, NeP.new h.n2⟩
theorem BR.c1 {x : Value} (h : BR W0 w false false false z1 z2 z3 p1 p2 p3 x1 x2 x3 O1 O2 O3) (k : Keeps w w' []) (ho : O1 w' x) : BR W0 w' true false false z1 z2 z3 p1 p2 p3 x x2 x3 O1 O2 O3 :=
 ⟨h.k.and_then k, fun _ => rfl, h.r3, fun _ => ho, fun e => (by cases e), fun e => (by cases e), h.n1.keep k, h.n2.keep k, h.n3.keep k, h.e12, h.e13, h.e23⟩
theorem BR.c2 {x : Value} (h1 : Stay O1) (h : BR W0 w true false false z1 z2 z3 p1 p2 p3 x1 x2 x3 O1 O2 O3) (k : Keeps w w' []) (ho : O2 w' x) : BR W0 w' true true false z1 z2 z3 p1 p2 p3 x1 x x3 O1 O2 O3 :=
 ⟨h.k.and_then k, fun _ => rfl, fun _ => rfl, fun e => h1 _ _ _ (h.o1 e) k, fun _ => ho, fun e => (by cases e), h.n1.keep k, h.n2.keep k, h.n3.keep k, h.e12, h.e13, h.e23⟩
theorem BR.c3 {x : Value} (h1 : Stay O1) (h2 : Stay O2) (h : BR W0 w true true false z1 z2 z3 p1 p2 p3 x1 x2 x3 O1 O2 O3) (k : Keeps w w' []) (ho : O3 w' x) : BR W0 w' true true true z1 z2 z3 p1 p2 p3 x1 x2 x O1 O2 O3 :=
 ⟨h.k.and_then k, fun _ => rfl, fun _ => rfl, fun e => h1 _ _ _ (h.o1 e) k, fun e => h2 _ _ _ (h.o2 e) k, fun _ => ho, h.n1.keep k, h.n2.keep k, h.n3.keep k, h.e12, h.e13, h.e23⟩
end
theorem wpAnyH_inv0 {P : Program} {ops : Array Oper} {Q : Exit → Act → World → Prop} {md : Region.Mode} {S : World → Prop} (J : Act → Nat → Array Bool → Act → World → Prop) (k m : Nat) {listed : Array Bool} {a0 : Act} {w : World} (hS : S w) (start : J a0 m listed a0 w)
  (last : ∀ listed a w, S w → J a0 0 listed a w → wpAnyH P md ops Q S k listed a w)
  (next : ∀ m listed a w, S w → J a0 (m + 1) listed a w → ∃ rs, Region.ready md ops listed = rs ∧ rs ≠ [] ∧ AllReadyJ P ops Q S (J a0 m) listed a w rs) : wpAnyH P md ops Q S (m + k) listed a0 w :=
 wpAnyH_inv (J a0) k last next m listed a0 w hS start
def cntB (l : List Bool) : Nat := (l.filter (fun b => !b)).length
theorem cntB_all {y1 y2 y3 z1 z2 z3 : Bool} (h : 0 = cntB [y1, y2, y3, z1, z2, z3]) : y1 = true ∧ y2 = true ∧ y3 = true ∧ z1 = true ∧ z2 = true ∧ z3 = true := by
 cases y1 <;> cases y2 <;> cases y3 <;> cases z1 <;> cases z2 <;> cases z3 <;> simp [cntB] at h ⊢
section
variable {X : World} {g ty : Nat} (a0 a1 a2 a3 a4 a5 a6 a7 a8 a9 a10 a11 a12 : Value)
def put13 (X : World) (g : Nat) (a0 a1 a2 a3 a4 a5 a6 a7 a8 a9 a10 a11 a12 : Value) : World := (((((((((((((X.setCell ⟨g, 0, none⟩ a0).setCell ⟨g, 1, none⟩ a1).setCell ⟨g, 2, none⟩ a2).setCell ⟨g, 3, none⟩ a3).setCell ⟨g, 4, none⟩ a4).setCell ⟨g, 5, none⟩ a5).setCell ⟨g, 6, none⟩ a6).setCell ⟨g, 7, none⟩ a7).setCell ⟨g, 8, none⟩ a8).setCell ⟨g, 9, none⟩ a9).setCell ⟨g, 10, none⟩ a10).setCell ⟨g, 11, none⟩ a11).setCell ⟨g, 12, none⟩ a12)
theorem blk13 (h : Blk X g ty zOut) : Blk (put13 X g a0 a1 a2 a3 a4 a5 a6 a7 a8 a9 a10 a11 a12) g ty #[a0, a1, a2, a3, a4, a5, a6, a7, a8, a9, a10, a11, a12] := by
 have h9 := (((((((((((((h.set_ 0 a0).set_ 1 a1).set_ 2 a2).set_ 3 a3).set_ 4 a4).set_ 5 a5).set_ 6 a6).set_ 7 a7).set_ 8 a8).set_ 9 a9).set_ 10 a10).set_ 11 a11).set_ 12 a12)
 unfold zOut at h9
 simp only [List.setIfInBounds_toArray, List.set_cons_zero, List.set_cons_succ] at h9
 unfold put13
 exact h9
theorem keeps13 {W : World} {T : List Nat} (k : Keeps W X T) (hg : g ∈ T ∨ W.heap.size ≤ g) : Keeps W (put13 X g a0 a1 a2 a3 a4 a5 a6 a7 a8 a9 a10 a11 a12) T :=
 (((((((((((((k.setCell (p := ⟨g, 0, none⟩) hg a0).setCell (p := ⟨g, 1, none⟩) hg a1).setCell (p := ⟨g, 2, none⟩) hg a2).setCell (p := ⟨g, 3, none⟩) hg a3).setCell (p := ⟨g, 4, none⟩) hg a4).setCell (p := ⟨g, 5, none⟩) hg a5).setCell (p := ⟨g, 6, none⟩) hg a6).setCell (p := ⟨g, 7, none⟩) hg a7).setCell (p := ⟨g, 8, none⟩) hg a8).setCell (p := ⟨g, 9, none⟩) hg a9).setCell (p := ⟨g, 10, none⟩) hg a10).setCell (p := ⟨g, 11, none⟩) hg a11).setCell (p := ⟨g, 12, none⟩) hg a12)
end

def q0 : Oper := ⟨some 27, .call ⟨.value (.func 26), #[.tmp 24, .tmp 25, .tmp 26], #[26, 53, 3]⟩, 63, "law.go:131", #[⟨0, .data⟩, ⟨1, .data⟩, ⟨2, .data⟩], none⟩
def q1 : Oper := ⟨some 9, .alloc 63, 0, "law.go:131", #[], none⟩
def q2 : Oper := ⟨some 10, .alloc 63, 0, "law.go:131", #[], none⟩
def q3 : Oper := ⟨some 11, .alloc 63, 0, "law.go:131", #[], none⟩
def q4 : Oper := ⟨some 32, .call ⟨.value (.func 26), #[.tmp 28, .tmp 29, .tmp 31], #[26, 53, 3]⟩, 63, "law.go:131", #[⟨4, .data⟩, ⟨5, .data⟩, ⟨7, .data⟩, ⟨3, .chain⟩], none⟩
def q5 : Oper := ⟨some 36, .call ⟨.value (.func 26), #[.tmp 33, .tmp 34, .tmp 35], #[26, 53, 3]⟩, 63, "law.go:131", #[⟨9, .data⟩, ⟨10, .data⟩, ⟨11, .data⟩, ⟨8, .chain⟩], none⟩

set_option maxRecDepth 100000 in
set_option maxHeartbeats 200000000 in
theorem both_yes (a0 a3 : Option Addr) (nv b0 b3 : Nat) (f1 f2 g1 g2 i0 i1 : Value) (n : Nat) (w : World) (hn : n ≤ 1000) (e1 v1 t1 s1 e2 v2 t2 s2 e3 v3 t3 s3 : Int) (L1 L2 L3 : List Int) (c1 c2 c3 : Nat → Int) (hl : L1.length ≤ 4096)
 (hAl : ∀ (l : List Int) (va vb : Value) (e v t s1 s2 : Int) (c d : Nat → Int) (w : World), Row w 1 va (l.map intCells) → Row w 1 vb (l.map intCells) → l.length ≤ 4096 →
  Calls Tryd.prog 53 #[.agg #[.int .i64 e, .int .i64 v, .int .i64 t, va, .int .i64 s1, .int .i64 (c 0), .int .i64 (c 1), .int .i64 (c 2), .int .i64 (c 3), .int .i64 (c 4), .int .i64 (c 5), .int .i64 (c 6), .int .i64 (c 7)], .agg #[.int .i64 e, .int .i64 v, .int .i64 t, vb, .int .i64 s2, .int .i64 (d 0), .int .i64 (d 1), .int .i64 (d 2), .int .i64 (d 3), .int .i64 (d 4), .int .i64 (d 5), .int .i64 (d 6), .int .i64 (d 7)]] w fun x w' => x = .returned (.bool true) ∧ Keeps w w' [])
 (hEq : ∀ (a b c d e f g h : Int) (w : World), (Op.equalIn 10000 31 (.agg #[.int .i64 a, .int .i64 b, .int .i64 c, .int .i64 d, .int .i64 e, .int .i64 f, .int .i64 g, .int .i64 h]) (.agg #[.int .i64 a, .int .i64 b, .int .i64 c, .int .i64 d, .int .i64 e, .int .i64 f, .int .i64 g, .int .i64 h])).run Tryd.prog w = .ok true w)
 (h54 : ∀ W, Keeps w W [] → Calls Tryd.prog 54 #[.agg #[.slice a3 nv b3, g1, g2]] W fun e w' => e = .returned (.bool true) ∧ Keeps W w' [])
 (hA : ∀ W, Keeps w W [] → Calls Tryd.prog 26 #[.agg #[.slice a0 nv b0, f1, f2], .agg #[i0, i1], .int .i64 (n : Nat)] W (RunLit W e1 v1 t1 L1 s1 c1))
 (hB : ∀ W, Keeps w W [] → Calls Tryd.prog 26 #[.agg #[.slice a3 nv b3, g1, g2], .agg #[i0, i1], .int .i64 (2 * (n : Nat))] W (RunLit W e2 v2 t2 L2 s2 c2))
 (hC : ∀ W, Keeps w W [] → Calls Tryd.prog 26 #[.agg #[.slice a3 nv b3, g1, g2], .agg #[i0, i1], .int .i64 (n : Nat)] W (RunLit W e3 v3 t3 L3 s3 c3))
 (h12 : e1 ≠ 3 → e2 = e1 ∧ v2 = v1 ∧ t2 = t1 ∧ L2 = L1 ∧ c2 = c1) (h13 : e3 ≠ 3 → e3 = e1 ∧ v3 = v1 ∧ t3 = t1 ∧ L3 = L1 ∧ c3 = c1) :
 Calls Tryd.prog 28 #[.agg #[.slice a0 nv b0, f1, f2], .agg #[.slice a3 nv b3, g1, g2], .agg #[i0, i1], .int .i64 (n : Nat)] w fun e w' => e = .returned (.bool true) ∧ Keeps w w' [] := by
 have H54 := kept h54
 have HA := kept hA
 have HB := kept hB
 have HC := kept hC
 have H12 := kept h12
 have H13 := kept h13
 have HL := kept hl
 have HAL := kept hAl
 have HEQ := kept hEq
 clear hAl hEq h54 hA hB hC h12 h13 hl
 have hr3 : IntKind.i64.wrap (2 * ((n : Nat) : Int)) = 2 * ((n : Nat) : Int) := IntWalk.i64_in _ (by omega)
 have hk0 : Keeps w (w.alloc (.cells #[.slice a0 nv b0, f1, f2] 26)) [] := (Keeps.refl _ []).alloc _
 have bb0 := Blk.new w 26 #[.slice a0 nv b0, f1, f2]
 have hk1 : Keeps (w.alloc (.cells #[.slice a0 nv b0, f1, f2] 26)) ((w.alloc (.cells #[.slice a0 nv b0, f1, f2] 26)).alloc (.cells #[.slice a3 nv b3, g1, g2] 26)) [] := (Keeps.refl _ []).alloc _
 have bb1 := Blk.new (w.alloc (.cells #[.slice a0 nv b0, f1, f2] 26)) 26 #[.slice a3 nv b3, g1, g2]
 rw [show (w.alloc (.cells #[.slice a0 nv b0, f1, f2] 26)).heap.size = w.heap.size + 1 by show (Array.push _ _).size = _; simp [Array.size_push]] at bb1
 have hk2 : Keeps ((w.alloc (.cells #[.slice a0 nv b0, f1, f2] 26)).alloc (.cells #[.slice a3 nv b3, g1, g2] 26)) (((w.alloc (.cells #[.slice a0 nv b0, f1, f2] 26)).alloc (.cells #[.slice a3 nv b3, g1, g2] 26)).alloc (.cells #[i0, i1] 53)) [] := (Keeps.refl _ []).alloc _
 have bb2 := Blk.new ((w.alloc (.cells #[.slice a0 nv b0, f1, f2] 26)).alloc (.cells #[.slice a3 nv b3, g1, g2] 26)) 53 #[i0, i1]
 rw [show ((w.alloc (.cells #[.slice a0 nv b0, f1, f2] 26)).alloc (.cells #[.slice a3 nv b3, g1, g2] 26)).heap.size = w.heap.size + 2 by show (Array.push _ _).size = _; simp [Array.size_push]] at bb2
 have Bl := kept ((bb0.keep hk1 (by simp)).keep hk2 (by simp))
 have Bm := kept (bb1.keep hk2 (by simp))
 have Bo := kept bb2
 have HK := kept ((hk0.and_then hk1).and_then hk2)
 obtain ⟨l0, l1, l2⟩ := Bl.out.c3
 obtain ⟨m0, m1, m2⟩ := Bm.out.c3
 obtain ⟨o0, o1⟩ := Bo.out.c2
 simp at l0 l1 l2 m0 m1 m2 o0 o1
 clear hk0 hk1 hk2 bb0 bb1 bb2
 go_enter Tryd.func28, Tryd.ntmps28
 go_upto_region 3 with (first | (go_at_call 54; refine (H54.out _ HK.out).mono ?_; rintro e w3 ⟨rfl, k3⟩; clear l0 l1 l2 m0 m1 m2 o0 o1; replace Bl := kept (Bl.out.keep k3 (by simp)); replace Bm := kept (Bm.out.keep k3 (by simp)); replace Bo := kept (Bo.out.keep k3 (by simp)); replace HK := kept (HK.out.and_then k3); obtain ⟨l0, l1, l2⟩ := Bl.out.c3; obtain ⟨m0, m1, m2⟩ := Bm.out.c3; obtain ⟨o0, o1⟩ := Bo.out.c2; simp at l0 l1 l2 m0 m1 m2 o0 o1; clear k3))
 have HSK := kept (show ∀ w', Keeps w3 w' [] → w'.cell? ⟨w.heap.size, 0, none⟩ = some (.slice a0 nv b0) ∧ w'.cell? ⟨w.heap.size, 1, none⟩ = some (f1) ∧ w'.cell? ⟨w.heap.size, 2, none⟩ = some (f2) ∧ w'.cell? ⟨w.heap.size + 1, 0, none⟩ = some (.slice a3 nv b3) ∧ w'.cell? ⟨w.heap.size + 1, 1, none⟩ = some (g1) ∧ w'.cell? ⟨w.heap.size + 1, 2, none⟩ = some (g2) ∧ w'.cell? ⟨w.heap.size + 2, 0, none⟩ = some (i0) ∧ w'.cell? ⟨w.heap.size + 2, 1, none⟩ = some (i1) from fun w' k => ⟨k.cellOf l0, k.cellOf l1, k.cellOf l2, k.cellOf m0, k.cellOf m1, k.cellOf m2, k.cellOf o0, k.cellOf o1⟩)
 clear l0 l1 l2 m0 m1 m2 o0 o1
 have Bl_w3 := Bl
 have Bm_w3 := Bm
 have Bo_w3 := Bo
 have Tw3 := HK
 clear HK
 have HK := kept (Keeps.refl w3 [])
 obtain ⟨l0, l1, l2⟩ := Bl.out.c3
 obtain ⟨m0, m1, m2⟩ := Bm.out.c3
 obtain ⟨o0, o1⟩ := Bo.out.c2
 simp at l0 l1 l2 m0 m1 m2 o0 o1
 refine wp_region_held_drew (S := (fun w' => w'.cell? ⟨w.heap.size, 0, none⟩ = some (.slice a0 nv b0) ∧ w'.cell? ⟨w.heap.size, 1, none⟩ = some (f1) ∧ w'.cell? ⟨w.heap.size, 2, none⟩ = some (f2) ∧ w'.cell? ⟨w.heap.size + 1, 0, none⟩ = some (.slice a3 nv b3) ∧ w'.cell? ⟨w.heap.size + 1, 1, none⟩ = some (g1) ∧ w'.cell? ⟨w.heap.size + 1, 2, none⟩ = some (g2) ∧ w'.cell? ⟨w.heap.size + 2, 0, none⟩ = some (i0) ∧ w'.cell? ⟨w.heap.size + 2, 1, none⟩ = some (i1))) (by kernel_rfl) (HSK.out _ (Keeps.refl _ []).drew) (fun hHeld => ?_)
 have KX := kept ((Keeps.refl w3 []).drew)
 generalize World.drew w3 = X0 at *
 clear l0 l1 l2 m0 m1 m2 o0 o1
 refine tl 0 ⟨some 24, .load 26 (.tmp 4), 26, "law.go:131", #[], none⟩ rfl hHeld ?_
 refine tl 1 ⟨some 25, .load 53 (.tmp 6), 53, "law.go:131", #[], none⟩ rfl hHeld ?_
 refine tl 2 ⟨some 26, .move (.tmp 3), 3, "law.go:131", #[], none⟩ rfl hHeld ?_
 refine tl 4 ⟨some 28, .load 26 (.tmp 5), 26, "law.go:131", #[], none⟩ rfl hHeld ?_
 refine tl 5 ⟨some 29, .load 53 (.tmp 6), 53, "law.go:131", #[], none⟩ rfl hHeld ?_
 refine tl 6 ⟨some 30, .move (.tmp 3), 3, "law.go:131", #[], none⟩ rfl hHeld ?_
 refine tl 7 ⟨some 31, .binOp BinOp.mul 3 (.const (Value.int IntKind.i64 2)) (.tmp 30) 3, 3, "law.go:131", #[⟨6, .data⟩], none⟩ rfl hHeld ?_
 refine tl 9 ⟨some 33, .load 26 (.tmp 5), 26, "law.go:131", #[], none⟩ rfl hHeld ?_
 refine tl 10 ⟨some 34, .load 53 (.tmp 6), 53, "law.go:131", #[], none⟩ rfl hHeld ?_
 refine tl 11 ⟨some 35, .move (.tmp 3), 3, "law.go:131", #[], none⟩ rfl hHeld ?_
 have hs1 : Stay (fun W x => OutAt W x e1 v1 t1 L1 s1 c1) := fun _ _ _ h k => OutAt.keep h k
 have hs2 : Stay (fun W x => OutAt W x e2 v2 t2 L2 s2 c2) := fun _ _ _ h k => OutAt.keep h k
 have hs3 : Stay (fun W x => OutAt W x e3 v3 t3 L3 s3 c3) := fun _ _ _ h k => OutAt.keep h k
 have HS1 := kept hs1
 have HS2 := kept hs2
 have HS3 := kept hs3
 clear hs1 hs2 hs3
 refine wpAnyH_inv0 (fun a0 m listed a w' => ∃ (y1 y2 y3 z1 z2 z3 : Bool) (p1 p2 p3 x1 x2 x3 : Value), m = cntB [y1, y2, y3, z1, z2, z3] ∧ listed = #[true, true, true, y1, true, true, true, true, y2, true, true, true, y3, z1, z2, z3, false, false, false] ∧ a = (((((a0.put (some 9) p1).put (some 10) p2).put (some 11) p3).put (some 27) x1).put (some 32) x2).put (some 36) x3 ∧ BR w3 w' y1 y2 y3 z1 z2 z3 p1 p2 p3 x1 x2 x3 (fun W x => OutAt W x e1 v1 t1 L1 s1 c1) (fun W x => OutAt W x e2 v2 t2 L2 s2 c2) (fun W x => OutAt W x e3 v3 t3 L3 s3 c3)) 3 6 hHeld ?start ?last ?next
 case start => exact ⟨false, false, false, false, false, false, undef, undef, undef, undef, undef, undef, rfl, rfl, rfl, ⟨KX.out, fun e => (by cases e), fun e => (by cases e), fun e => (by cases e), fun e => (by cases e), fun e => (by cases e), fun e => (by cases e), fun e => (by cases e), fun e => (by cases e), fun e => (by cases e), fun e => (by cases e), fun e => (by cases e)⟩⟩
 case next =>
  as_aux_lemma =>
   intro m listed a w' hS hJ
   obtain ⟨y1, y2, y3, z1, z2, z3, p1, p2, p3, x1, x2, x3, hm, rfl, rfl, hb⟩ := hJ
   have HBR := kept hb
   clear hb
   cases y1
   ·cases y2
    ·cases y3
     ·cases z1
      ·cases z2
       ·cases z3
        ·refine ⟨[3, 13, 14, 15], by kernel_rfl, by simp, ?_⟩
         simp only [Act.put, sA, sB, sC]
         refine AllReadyJ.cons (o := q0) rfl (fun K hK => ?_) ?_
         ·unfold q0; go_simp
          (with_reducible refine (HA.out _ (Tw3.out.and_then HBR.out.k)).mono ?_)
          rintro e wx ⟨⟨y, rfl, ho⟩, k3⟩
          show K _ _
          refine hK.out _ _ (HSK.out _ (HBR.out.k.and_then k3)) ?_
          exact ⟨true, false, false, false, false, false, p1, p2, p3, _, x2, x3, by simpa [cntB] using hm, rfl, rfl, HBR.out.c1 k3 ho⟩
         refine AllReadyJ.cons (o := q1) rfl (fun K hK => ?_) ?_
         ·unfold q1; go_simp
          refine hK.out _ _ (HSK.out _ (HBR.out.k.alloc _)) ?_
          exact ⟨false, false, false, true, false, false, _, p2, p3, x1, x2, x3, by simpa [cntB] using hm, rfl, rfl, BR.a1 HS1.out HS2.out HS3.out HBR.out⟩
         refine AllReadyJ.cons (o := q2) rfl (fun K hK => ?_) ?_
         ·unfold q2; go_simp
          refine hK.out _ _ (HSK.out _ (HBR.out.k.alloc _)) ?_
          exact ⟨false, false, false, false, true, false, p1, _, p3, x1, x2, x3, by simpa [cntB] using hm, rfl, rfl, BR.a2 HS1.out HS2.out HS3.out HBR.out⟩
         refine AllReadyJ.cons (o := q3) rfl (fun K hK => ?_) ?_
         ·unfold q3; go_simp
          refine hK.out _ _ (HSK.out _ (HBR.out.k.alloc _)) ?_
          exact ⟨false, false, false, false, false, true, p1, p2, _, x1, x2, x3, by simpa [cntB] using hm, rfl, rfl, BR.a3 HS1.out HS2.out HS3.out HBR.out⟩
         exact AllReadyJ.nil
        ·refine ⟨[3, 13, 14], by kernel_rfl, by simp, ?_⟩
         simp only [Act.put, sA, sB, sC]
         refine AllReadyJ.cons (o := q0) rfl (fun K hK => ?_) ?_
         ·unfold q0; go_simp
          (with_reducible refine (HA.out _ (Tw3.out.and_then HBR.out.k)).mono ?_)
          rintro e wx ⟨⟨y, rfl, ho⟩, k3⟩
          show K _ _
          refine hK.out _ _ (HSK.out _ (HBR.out.k.and_then k3)) ?_
          exact ⟨true, false, false, false, false, true, p1, p2, p3, _, x2, x3, by simpa [cntB] using hm, rfl, rfl, HBR.out.c1 k3 ho⟩
         refine AllReadyJ.cons (o := q1) rfl (fun K hK => ?_) ?_
         ·unfold q1; go_simp
          refine hK.out _ _ (HSK.out _ (HBR.out.k.alloc _)) ?_
          exact ⟨false, false, false, true, false, true, _, p2, p3, x1, x2, x3, by simpa [cntB] using hm, rfl, rfl, BR.a1 HS1.out HS2.out HS3.out HBR.out⟩
         refine AllReadyJ.cons (o := q2) rfl (fun K hK => ?_) ?_
         ·unfold q2; go_simp
          refine hK.out _ _ (HSK.out _ (HBR.out.k.alloc _)) ?_
          exact ⟨false, false, false, false, true, true, p1, _, p3, x1, x2, x3, by simpa [cntB] using hm, rfl, rfl, BR.a2 HS1.out HS2.out HS3.out HBR.out⟩
         exact AllReadyJ.nil
       ·cases z3
        ·refine ⟨[3, 13, 15], by kernel_rfl, by simp, ?_⟩
         simp only [Act.put, sA, sB, sC]
         refine AllReadyJ.cons (o := q0) rfl (fun K hK => ?_) ?_
         ·unfold q0; go_simp
          (with_reducible refine (HA.out _ (Tw3.out.and_then HBR.out.k)).mono ?_)
          rintro e wx ⟨⟨y, rfl, ho⟩, k3⟩
          show K _ _
          refine hK.out _ _ (HSK.out _ (HBR.out.k.and_then k3)) ?_
          exact ⟨true, false, false, false, true, false, p1, p2, p3, _, x2, x3, by simpa [cntB] using hm, rfl, rfl, HBR.out.c1 k3 ho⟩
         refine AllReadyJ.cons (o := q1) rfl (fun K hK => ?_) ?_
         ·unfold q1; go_simp
          refine hK.out _ _ (HSK.out _ (HBR.out.k.alloc _)) ?_
          exact ⟨false, false, false, true, true, false, _, p2, p3, x1, x2, x3, by simpa [cntB] using hm, rfl, rfl, BR.a1 HS1.out HS2.out HS3.out HBR.out⟩
         refine AllReadyJ.cons (o := q3) rfl (fun K hK => ?_) ?_
         ·unfold q3; go_simp
          refine hK.out _ _ (HSK.out _ (HBR.out.k.alloc _)) ?_
          exact ⟨false, false, false, false, true, true, p1, p2, _, x1, x2, x3, by simpa [cntB] using hm, rfl, rfl, BR.a3 HS1.out HS2.out HS3.out HBR.out⟩
         exact AllReadyJ.nil
        ·refine ⟨[3, 13], by kernel_rfl, by simp, ?_⟩
         simp only [Act.put, sA, sB, sC]
         refine AllReadyJ.cons (o := q0) rfl (fun K hK => ?_) ?_
         ·unfold q0; go_simp
          (with_reducible refine (HA.out _ (Tw3.out.and_then HBR.out.k)).mono ?_)
          rintro e wx ⟨⟨y, rfl, ho⟩, k3⟩
          show K _ _
          refine hK.out _ _ (HSK.out _ (HBR.out.k.and_then k3)) ?_
          exact ⟨true, false, false, false, true, true, p1, p2, p3, _, x2, x3, by simpa [cntB] using hm, rfl, rfl, HBR.out.c1 k3 ho⟩
         refine AllReadyJ.cons (o := q1) rfl (fun K hK => ?_) ?_
         ·unfold q1; go_simp
          refine hK.out _ _ (HSK.out _ (HBR.out.k.alloc _)) ?_
          exact ⟨false, false, false, true, true, true, _, p2, p3, x1, x2, x3, by simpa [cntB] using hm, rfl, rfl, BR.a1 HS1.out HS2.out HS3.out HBR.out⟩
         exact AllReadyJ.nil
      ·cases z2
       ·cases z3
        ·refine ⟨[3, 14, 15], by kernel_rfl, by simp, ?_⟩
         simp only [Act.put, sA, sB, sC]
         refine AllReadyJ.cons (o := q0) rfl (fun K hK => ?_) ?_
         ·unfold q0; go_simp
          (with_reducible refine (HA.out _ (Tw3.out.and_then HBR.out.k)).mono ?_)
          rintro e wx ⟨⟨y, rfl, ho⟩, k3⟩
          show K _ _
          refine hK.out _ _ (HSK.out _ (HBR.out.k.and_then k3)) ?_
          exact ⟨true, false, false, true, false, false, p1, p2, p3, _, x2, x3, by simpa [cntB] using hm, rfl, rfl, HBR.out.c1 k3 ho⟩
         refine AllReadyJ.cons (o := q2) rfl (fun K hK => ?_) ?_
         ·unfold q2; go_simp
          refine hK.out _ _ (HSK.out _ (HBR.out.k.alloc _)) ?_
          exact ⟨false, false, false, true, true, false, p1, _, p3, x1, x2, x3, by simpa [cntB] using hm, rfl, rfl, BR.a2 HS1.out HS2.out HS3.out HBR.out⟩
         refine AllReadyJ.cons (o := q3) rfl (fun K hK => ?_) ?_
         ·unfold q3; go_simp
          refine hK.out _ _ (HSK.out _ (HBR.out.k.alloc _)) ?_
          exact ⟨false, false, false, true, false, true, p1, p2, _, x1, x2, x3, by simpa [cntB] using hm, rfl, rfl, BR.a3 HS1.out HS2.out HS3.out HBR.out⟩
         exact AllReadyJ.nil
        ·refine ⟨[3, 14], by kernel_rfl, by simp, ?_⟩
         simp only [Act.put, sA, sB, sC]
         refine AllReadyJ.cons (o := q0) rfl (fun K hK => ?_) ?_
         ·unfold q0; go_simp
          (with_reducible refine (HA.out _ (Tw3.out.and_then HBR.out.k)).mono ?_)
          rintro e wx ⟨⟨y, rfl, ho⟩, k3⟩
          show K _ _
          refine hK.out _ _ (HSK.out _ (HBR.out.k.and_then k3)) ?_
          exact ⟨true, false, false, true, false, true, p1, p2, p3, _, x2, x3, by simpa [cntB] using hm, rfl, rfl, HBR.out.c1 k3 ho⟩
         refine AllReadyJ.cons (o := q2) rfl (fun K hK => ?_) ?_
         ·unfold q2; go_simp
          refine hK.out _ _ (HSK.out _ (HBR.out.k.alloc _)) ?_
          exact ⟨false, false, false, true, true, true, p1, _, p3, x1, x2, x3, by simpa [cntB] using hm, rfl, rfl, BR.a2 HS1.out HS2.out HS3.out HBR.out⟩
         exact AllReadyJ.nil
       ·cases z3
        ·refine ⟨[3, 15], by kernel_rfl, by simp, ?_⟩
         simp only [Act.put, sA, sB, sC]
         refine AllReadyJ.cons (o := q0) rfl (fun K hK => ?_) ?_
         ·unfold q0; go_simp
          (with_reducible refine (HA.out _ (Tw3.out.and_then HBR.out.k)).mono ?_)
          rintro e wx ⟨⟨y, rfl, ho⟩, k3⟩
          show K _ _
          refine hK.out _ _ (HSK.out _ (HBR.out.k.and_then k3)) ?_
          exact ⟨true, false, false, true, true, false, p1, p2, p3, _, x2, x3, by simpa [cntB] using hm, rfl, rfl, HBR.out.c1 k3 ho⟩
         refine AllReadyJ.cons (o := q3) rfl (fun K hK => ?_) ?_
         ·unfold q3; go_simp
          refine hK.out _ _ (HSK.out _ (HBR.out.k.alloc _)) ?_
          exact ⟨false, false, false, true, true, true, p1, p2, _, x1, x2, x3, by simpa [cntB] using hm, rfl, rfl, BR.a3 HS1.out HS2.out HS3.out HBR.out⟩
         exact AllReadyJ.nil
        ·refine ⟨[3], by kernel_rfl, by simp, ?_⟩
         simp only [Act.put, sA, sB, sC]
         refine AllReadyJ.cons (o := q0) rfl (fun K hK => ?_) ?_
         ·unfold q0; go_simp
          (with_reducible refine (HA.out _ (Tw3.out.and_then HBR.out.k)).mono ?_)
          rintro e wx ⟨⟨y, rfl, ho⟩, k3⟩
          show K _ _
          refine hK.out _ _ (HSK.out _ (HBR.out.k.and_then k3)) ?_
          exact ⟨true, false, false, true, true, true, p1, p2, p3, _, x2, x3, by simpa [cntB] using hm, rfl, rfl, HBR.out.c1 k3 ho⟩
         exact AllReadyJ.nil
     ·cases z1
      ·cases z2
       ·cases z3
        ·exact absurd (HBR.out.r3 rfl) (by decide)
        ·exact absurd (HBR.out.r3 rfl) (by decide)
       ·cases z3
        ·exact absurd (HBR.out.r3 rfl) (by decide)
        ·exact absurd (HBR.out.r3 rfl) (by decide)
      ·cases z2
       ·cases z3
        ·exact absurd (HBR.out.r3 rfl) (by decide)
        ·exact absurd (HBR.out.r3 rfl) (by decide)
       ·cases z3
        ·exact absurd (HBR.out.r3 rfl) (by decide)
        ·exact absurd (HBR.out.r3 rfl) (by decide)
    ·cases y3
     ·cases z1
      ·cases z2
       ·cases z3
        ·exact absurd (HBR.out.r2 rfl) (by decide)
        ·exact absurd (HBR.out.r2 rfl) (by decide)
       ·cases z3
        ·exact absurd (HBR.out.r2 rfl) (by decide)
        ·exact absurd (HBR.out.r2 rfl) (by decide)
      ·cases z2
       ·cases z3
        ·exact absurd (HBR.out.r2 rfl) (by decide)
        ·exact absurd (HBR.out.r2 rfl) (by decide)
       ·cases z3
        ·exact absurd (HBR.out.r2 rfl) (by decide)
        ·exact absurd (HBR.out.r2 rfl) (by decide)
     ·cases z1
      ·cases z2
       ·cases z3
        ·exact absurd (HBR.out.r2 rfl) (by decide)
        ·exact absurd (HBR.out.r2 rfl) (by decide)
       ·cases z3
        ·exact absurd (HBR.out.r2 rfl) (by decide)
        ·exact absurd (HBR.out.r2 rfl) (by decide)
      ·cases z2
       ·cases z3
        ·exact absurd (HBR.out.r2 rfl) (by decide)
        ·exact absurd (HBR.out.r2 rfl) (by decide)
       ·cases z3
        ·exact absurd (HBR.out.r2 rfl) (by decide)
        ·exact absurd (HBR.out.r2 rfl) (by decide)
   ·cases y2
    ·cases y3
     ·cases z1
      ·cases z2
       ·cases z3
        ·refine ⟨[8, 13, 14, 15], by kernel_rfl, by simp, ?_⟩
         simp only [Act.put, sA, sB, sC]
         refine AllReadyJ.cons (o := q4) rfl (fun K hK => ?_) ?_
         ·unfold q4; go_simp
          (with_reducible refine (HB.out _ (Tw3.out.and_then HBR.out.k)).mono ?_)
          rintro e wx ⟨⟨y, rfl, ho⟩, k3⟩
          show K _ _
          refine hK.out _ _ (HSK.out _ (HBR.out.k.and_then k3)) ?_
          exact ⟨true, true, false, false, false, false, p1, p2, p3, x1, _, x3, by simpa [cntB] using hm, rfl, rfl, BR.c2 HS1.out HBR.out k3 ho⟩
         refine AllReadyJ.cons (o := q1) rfl (fun K hK => ?_) ?_
         ·unfold q1; go_simp
          refine hK.out _ _ (HSK.out _ (HBR.out.k.alloc _)) ?_
          exact ⟨true, false, false, true, false, false, _, p2, p3, x1, x2, x3, by simpa [cntB] using hm, rfl, rfl, BR.a1 HS1.out HS2.out HS3.out HBR.out⟩
         refine AllReadyJ.cons (o := q2) rfl (fun K hK => ?_) ?_
         ·unfold q2; go_simp
          refine hK.out _ _ (HSK.out _ (HBR.out.k.alloc _)) ?_
          exact ⟨true, false, false, false, true, false, p1, _, p3, x1, x2, x3, by simpa [cntB] using hm, rfl, rfl, BR.a2 HS1.out HS2.out HS3.out HBR.out⟩
         refine AllReadyJ.cons (o := q3) rfl (fun K hK => ?_) ?_
         ·unfold q3; go_simp
          refine hK.out _ _ (HSK.out _ (HBR.out.k.alloc _)) ?_
          exact ⟨true, false, false, false, false, true, p1, p2, _, x1, x2, x3, by simpa [cntB] using hm, rfl, rfl, BR.a3 HS1.out HS2.out HS3.out HBR.out⟩
         exact AllReadyJ.nil
        ·refine ⟨[8, 13, 14], by kernel_rfl, by simp, ?_⟩
         simp only [Act.put, sA, sB, sC]
         refine AllReadyJ.cons (o := q4) rfl (fun K hK => ?_) ?_
         ·unfold q4; go_simp
          (with_reducible refine (HB.out _ (Tw3.out.and_then HBR.out.k)).mono ?_)
          rintro e wx ⟨⟨y, rfl, ho⟩, k3⟩
          show K _ _
          refine hK.out _ _ (HSK.out _ (HBR.out.k.and_then k3)) ?_
          exact ⟨true, true, false, false, false, true, p1, p2, p3, x1, _, x3, by simpa [cntB] using hm, rfl, rfl, BR.c2 HS1.out HBR.out k3 ho⟩
         refine AllReadyJ.cons (o := q1) rfl (fun K hK => ?_) ?_
         ·unfold q1; go_simp
          refine hK.out _ _ (HSK.out _ (HBR.out.k.alloc _)) ?_
          exact ⟨true, false, false, true, false, true, _, p2, p3, x1, x2, x3, by simpa [cntB] using hm, rfl, rfl, BR.a1 HS1.out HS2.out HS3.out HBR.out⟩
         refine AllReadyJ.cons (o := q2) rfl (fun K hK => ?_) ?_
         ·unfold q2; go_simp
          refine hK.out _ _ (HSK.out _ (HBR.out.k.alloc _)) ?_
          exact ⟨true, false, false, false, true, true, p1, _, p3, x1, x2, x3, by simpa [cntB] using hm, rfl, rfl, BR.a2 HS1.out HS2.out HS3.out HBR.out⟩
         exact AllReadyJ.nil
       ·cases z3
        ·refine ⟨[8, 13, 15], by kernel_rfl, by simp, ?_⟩
         simp only [Act.put, sA, sB, sC]
         refine AllReadyJ.cons (o := q4) rfl (fun K hK => ?_) ?_
         ·unfold q4; go_simp
          (with_reducible refine (HB.out _ (Tw3.out.and_then HBR.out.k)).mono ?_)
          rintro e wx ⟨⟨y, rfl, ho⟩, k3⟩
          show K _ _
          refine hK.out _ _ (HSK.out _ (HBR.out.k.and_then k3)) ?_
          exact ⟨true, true, false, false, true, false, p1, p2, p3, x1, _, x3, by simpa [cntB] using hm, rfl, rfl, BR.c2 HS1.out HBR.out k3 ho⟩
         refine AllReadyJ.cons (o := q1) rfl (fun K hK => ?_) ?_
         ·unfold q1; go_simp
          refine hK.out _ _ (HSK.out _ (HBR.out.k.alloc _)) ?_
          exact ⟨true, false, false, true, true, false, _, p2, p3, x1, x2, x3, by simpa [cntB] using hm, rfl, rfl, BR.a1 HS1.out HS2.out HS3.out HBR.out⟩
         refine AllReadyJ.cons (o := q3) rfl (fun K hK => ?_) ?_
         ·unfold q3; go_simp
          refine hK.out _ _ (HSK.out _ (HBR.out.k.alloc _)) ?_
          exact ⟨true, false, false, false, true, true, p1, p2, _, x1, x2, x3, by simpa [cntB] using hm, rfl, rfl, BR.a3 HS1.out HS2.out HS3.out HBR.out⟩
         exact AllReadyJ.nil
        ·refine ⟨[8, 13], by kernel_rfl, by simp, ?_⟩
         simp only [Act.put, sA, sB, sC]
         refine AllReadyJ.cons (o := q4) rfl (fun K hK => ?_) ?_
         ·unfold q4; go_simp
          (with_reducible refine (HB.out _ (Tw3.out.and_then HBR.out.k)).mono ?_)
          rintro e wx ⟨⟨y, rfl, ho⟩, k3⟩
          show K _ _
          refine hK.out _ _ (HSK.out _ (HBR.out.k.and_then k3)) ?_
          exact ⟨true, true, false, false, true, true, p1, p2, p3, x1, _, x3, by simpa [cntB] using hm, rfl, rfl, BR.c2 HS1.out HBR.out k3 ho⟩
         refine AllReadyJ.cons (o := q1) rfl (fun K hK => ?_) ?_
         ·unfold q1; go_simp
          refine hK.out _ _ (HSK.out _ (HBR.out.k.alloc _)) ?_
          exact ⟨true, false, false, true, true, true, _, p2, p3, x1, x2, x3, by simpa [cntB] using hm, rfl, rfl, BR.a1 HS1.out HS2.out HS3.out HBR.out⟩
         exact AllReadyJ.nil
      ·cases z2
       ·cases z3
        ·refine ⟨[8, 14, 15], by kernel_rfl, by simp, ?_⟩
         simp only [Act.put, sA, sB, sC]
         refine AllReadyJ.cons (o := q4) rfl (fun K hK => ?_) ?_
         ·unfold q4; go_simp
          (with_reducible refine (HB.out _ (Tw3.out.and_then HBR.out.k)).mono ?_)
          rintro e wx ⟨⟨y, rfl, ho⟩, k3⟩
          show K _ _
          refine hK.out _ _ (HSK.out _ (HBR.out.k.and_then k3)) ?_
          exact ⟨true, true, false, true, false, false, p1, p2, p3, x1, _, x3, by simpa [cntB] using hm, rfl, rfl, BR.c2 HS1.out HBR.out k3 ho⟩
         refine AllReadyJ.cons (o := q2) rfl (fun K hK => ?_) ?_
         ·unfold q2; go_simp
          refine hK.out _ _ (HSK.out _ (HBR.out.k.alloc _)) ?_
          exact ⟨true, false, false, true, true, false, p1, _, p3, x1, x2, x3, by simpa [cntB] using hm, rfl, rfl, BR.a2 HS1.out HS2.out HS3.out HBR.out⟩
         refine AllReadyJ.cons (o := q3) rfl (fun K hK => ?_) ?_
         ·unfold q3; go_simp
          refine hK.out _ _ (HSK.out _ (HBR.out.k.alloc _)) ?_
          exact ⟨true, false, false, true, false, true, p1, p2, _, x1, x2, x3, by simpa [cntB] using hm, rfl, rfl, BR.a3 HS1.out HS2.out HS3.out HBR.out⟩
         exact AllReadyJ.nil
        ·refine ⟨[8, 14], by kernel_rfl, by simp, ?_⟩
         simp only [Act.put, sA, sB, sC]
         refine AllReadyJ.cons (o := q4) rfl (fun K hK => ?_) ?_
         ·unfold q4; go_simp
          (with_reducible refine (HB.out _ (Tw3.out.and_then HBR.out.k)).mono ?_)
          rintro e wx ⟨⟨y, rfl, ho⟩, k3⟩
          show K _ _
          refine hK.out _ _ (HSK.out _ (HBR.out.k.and_then k3)) ?_
          exact ⟨true, true, false, true, false, true, p1, p2, p3, x1, _, x3, by simpa [cntB] using hm, rfl, rfl, BR.c2 HS1.out HBR.out k3 ho⟩
         refine AllReadyJ.cons (o := q2) rfl (fun K hK => ?_) ?_
         ·unfold q2; go_simp
          refine hK.out _ _ (HSK.out _ (HBR.out.k.alloc _)) ?_
          exact ⟨true, false, false, true, true, true, p1, _, p3, x1, x2, x3, by simpa [cntB] using hm, rfl, rfl, BR.a2 HS1.out HS2.out HS3.out HBR.out⟩
         exact AllReadyJ.nil
       ·cases z3
        ·refine ⟨[8, 15], by kernel_rfl, by simp, ?_⟩
         simp only [Act.put, sA, sB, sC]
         refine AllReadyJ.cons (o := q4) rfl (fun K hK => ?_) ?_
         ·unfold q4; go_simp
          (with_reducible refine (HB.out _ (Tw3.out.and_then HBR.out.k)).mono ?_)
          rintro e wx ⟨⟨y, rfl, ho⟩, k3⟩
          show K _ _
          refine hK.out _ _ (HSK.out _ (HBR.out.k.and_then k3)) ?_
          exact ⟨true, true, false, true, true, false, p1, p2, p3, x1, _, x3, by simpa [cntB] using hm, rfl, rfl, BR.c2 HS1.out HBR.out k3 ho⟩
         refine AllReadyJ.cons (o := q3) rfl (fun K hK => ?_) ?_
         ·unfold q3; go_simp
          refine hK.out _ _ (HSK.out _ (HBR.out.k.alloc _)) ?_
          exact ⟨true, false, false, true, true, true, p1, p2, _, x1, x2, x3, by simpa [cntB] using hm, rfl, rfl, BR.a3 HS1.out HS2.out HS3.out HBR.out⟩
         exact AllReadyJ.nil
        ·refine ⟨[8], by kernel_rfl, by simp, ?_⟩
         simp only [Act.put, sA, sB, sC]
         refine AllReadyJ.cons (o := q4) rfl (fun K hK => ?_) ?_
         ·unfold q4; go_simp
          (with_reducible refine (HB.out _ (Tw3.out.and_then HBR.out.k)).mono ?_)
          rintro e wx ⟨⟨y, rfl, ho⟩, k3⟩
          show K _ _
          refine hK.out _ _ (HSK.out _ (HBR.out.k.and_then k3)) ?_
          exact ⟨true, true, false, true, true, true, p1, p2, p3, x1, _, x3, by simpa [cntB] using hm, rfl, rfl, BR.c2 HS1.out HBR.out k3 ho⟩
         exact AllReadyJ.nil
     ·cases z1
      ·cases z2
       ·cases z3
        ·exact absurd (HBR.out.r3 rfl) (by decide)
        ·exact absurd (HBR.out.r3 rfl) (by decide)
       ·cases z3
        ·exact absurd (HBR.out.r3 rfl) (by decide)
        ·exact absurd (HBR.out.r3 rfl) (by decide)
      ·cases z2
       ·cases z3
        ·exact absurd (HBR.out.r3 rfl) (by decide)
        ·exact absurd (HBR.out.r3 rfl) (by decide)
       ·cases z3
        ·exact absurd (HBR.out.r3 rfl) (by decide)
        ·exact absurd (HBR.out.r3 rfl) (by decide)
    ·cases y3
     ·cases z1
      ·cases z2
       ·cases z3
        ·refine ⟨[12, 13, 14, 15], by kernel_rfl, by simp, ?_⟩
         simp only [Act.put, sA, sB, sC]
         refine AllReadyJ.cons (o := q5) rfl (fun K hK => ?_) ?_
         ·unfold q5; go_simp
          (with_reducible refine (HC.out _ (Tw3.out.and_then HBR.out.k)).mono ?_)
          rintro e wx ⟨⟨y, rfl, ho⟩, k3⟩
          show K _ _
          refine hK.out _ _ (HSK.out _ (HBR.out.k.and_then k3)) ?_
          exact ⟨true, true, true, false, false, false, p1, p2, p3, x1, x2, _, by simpa [cntB] using hm, rfl, rfl, BR.c3 HS1.out HS2.out HBR.out k3 ho⟩
         refine AllReadyJ.cons (o := q1) rfl (fun K hK => ?_) ?_
         ·unfold q1; go_simp
          refine hK.out _ _ (HSK.out _ (HBR.out.k.alloc _)) ?_
          exact ⟨true, true, false, true, false, false, _, p2, p3, x1, x2, x3, by simpa [cntB] using hm, rfl, rfl, BR.a1 HS1.out HS2.out HS3.out HBR.out⟩
         refine AllReadyJ.cons (o := q2) rfl (fun K hK => ?_) ?_
         ·unfold q2; go_simp
          refine hK.out _ _ (HSK.out _ (HBR.out.k.alloc _)) ?_
          exact ⟨true, true, false, false, true, false, p1, _, p3, x1, x2, x3, by simpa [cntB] using hm, rfl, rfl, BR.a2 HS1.out HS2.out HS3.out HBR.out⟩
         refine AllReadyJ.cons (o := q3) rfl (fun K hK => ?_) ?_
         ·unfold q3; go_simp
          refine hK.out _ _ (HSK.out _ (HBR.out.k.alloc _)) ?_
          exact ⟨true, true, false, false, false, true, p1, p2, _, x1, x2, x3, by simpa [cntB] using hm, rfl, rfl, BR.a3 HS1.out HS2.out HS3.out HBR.out⟩
         exact AllReadyJ.nil
        ·refine ⟨[12, 13, 14], by kernel_rfl, by simp, ?_⟩
         simp only [Act.put, sA, sB, sC]
         refine AllReadyJ.cons (o := q5) rfl (fun K hK => ?_) ?_
         ·unfold q5; go_simp
          (with_reducible refine (HC.out _ (Tw3.out.and_then HBR.out.k)).mono ?_)
          rintro e wx ⟨⟨y, rfl, ho⟩, k3⟩
          show K _ _
          refine hK.out _ _ (HSK.out _ (HBR.out.k.and_then k3)) ?_
          exact ⟨true, true, true, false, false, true, p1, p2, p3, x1, x2, _, by simpa [cntB] using hm, rfl, rfl, BR.c3 HS1.out HS2.out HBR.out k3 ho⟩
         refine AllReadyJ.cons (o := q1) rfl (fun K hK => ?_) ?_
         ·unfold q1; go_simp
          refine hK.out _ _ (HSK.out _ (HBR.out.k.alloc _)) ?_
          exact ⟨true, true, false, true, false, true, _, p2, p3, x1, x2, x3, by simpa [cntB] using hm, rfl, rfl, BR.a1 HS1.out HS2.out HS3.out HBR.out⟩
         refine AllReadyJ.cons (o := q2) rfl (fun K hK => ?_) ?_
         ·unfold q2; go_simp
          refine hK.out _ _ (HSK.out _ (HBR.out.k.alloc _)) ?_
          exact ⟨true, true, false, false, true, true, p1, _, p3, x1, x2, x3, by simpa [cntB] using hm, rfl, rfl, BR.a2 HS1.out HS2.out HS3.out HBR.out⟩
         exact AllReadyJ.nil
       ·cases z3
        ·refine ⟨[12, 13, 15], by kernel_rfl, by simp, ?_⟩
         simp only [Act.put, sA, sB, sC]
         refine AllReadyJ.cons (o := q5) rfl (fun K hK => ?_) ?_
         ·unfold q5; go_simp
          (with_reducible refine (HC.out _ (Tw3.out.and_then HBR.out.k)).mono ?_)
          rintro e wx ⟨⟨y, rfl, ho⟩, k3⟩
          show K _ _
          refine hK.out _ _ (HSK.out _ (HBR.out.k.and_then k3)) ?_
          exact ⟨true, true, true, false, true, false, p1, p2, p3, x1, x2, _, by simpa [cntB] using hm, rfl, rfl, BR.c3 HS1.out HS2.out HBR.out k3 ho⟩
         refine AllReadyJ.cons (o := q1) rfl (fun K hK => ?_) ?_
         ·unfold q1; go_simp
          refine hK.out _ _ (HSK.out _ (HBR.out.k.alloc _)) ?_
          exact ⟨true, true, false, true, true, false, _, p2, p3, x1, x2, x3, by simpa [cntB] using hm, rfl, rfl, BR.a1 HS1.out HS2.out HS3.out HBR.out⟩
         refine AllReadyJ.cons (o := q3) rfl (fun K hK => ?_) ?_
         ·unfold q3; go_simp
          refine hK.out _ _ (HSK.out _ (HBR.out.k.alloc _)) ?_
          exact ⟨true, true, false, false, true, true, p1, p2, _, x1, x2, x3, by simpa [cntB] using hm, rfl, rfl, BR.a3 HS1.out HS2.out HS3.out HBR.out⟩
         exact AllReadyJ.nil
        ·refine ⟨[12, 13], by kernel_rfl, by simp, ?_⟩
         simp only [Act.put, sA, sB, sC]
         refine AllReadyJ.cons (o := q5) rfl (fun K hK => ?_) ?_
         ·unfold q5; go_simp
          (with_reducible refine (HC.out _ (Tw3.out.and_then HBR.out.k)).mono ?_)
          rintro e wx ⟨⟨y, rfl, ho⟩, k3⟩
          show K _ _
          refine hK.out _ _ (HSK.out _ (HBR.out.k.and_then k3)) ?_
          exact ⟨true, true, true, false, true, true, p1, p2, p3, x1, x2, _, by simpa [cntB] using hm, rfl, rfl, BR.c3 HS1.out HS2.out HBR.out k3 ho⟩
         refine AllReadyJ.cons (o := q1) rfl (fun K hK => ?_) ?_
         ·unfold q1; go_simp
          refine hK.out _ _ (HSK.out _ (HBR.out.k.alloc _)) ?_
          exact ⟨true, true, false, true, true, true, _, p2, p3, x1, x2, x3, by simpa [cntB] using hm, rfl, rfl, BR.a1 HS1.out HS2.out HS3.out HBR.out⟩
         exact AllReadyJ.nil
      ·cases z2
       ·cases z3
        ·refine ⟨[12, 14, 15], by kernel_rfl, by simp, ?_⟩
         simp only [Act.put, sA, sB, sC]
         refine AllReadyJ.cons (o := q5) rfl (fun K hK => ?_) ?_
         ·unfold q5; go_simp
          (with_reducible refine (HC.out _ (Tw3.out.and_then HBR.out.k)).mono ?_)
          rintro e wx ⟨⟨y, rfl, ho⟩, k3⟩
          show K _ _
          refine hK.out _ _ (HSK.out _ (HBR.out.k.and_then k3)) ?_
          exact ⟨true, true, true, true, false, false, p1, p2, p3, x1, x2, _, by simpa [cntB] using hm, rfl, rfl, BR.c3 HS1.out HS2.out HBR.out k3 ho⟩
         refine AllReadyJ.cons (o := q2) rfl (fun K hK => ?_) ?_
         ·unfold q2; go_simp
          refine hK.out _ _ (HSK.out _ (HBR.out.k.alloc _)) ?_
          exact ⟨true, true, false, true, true, false, p1, _, p3, x1, x2, x3, by simpa [cntB] using hm, rfl, rfl, BR.a2 HS1.out HS2.out HS3.out HBR.out⟩
         refine AllReadyJ.cons (o := q3) rfl (fun K hK => ?_) ?_
         ·unfold q3; go_simp
          refine hK.out _ _ (HSK.out _ (HBR.out.k.alloc _)) ?_
          exact ⟨true, true, false, true, false, true, p1, p2, _, x1, x2, x3, by simpa [cntB] using hm, rfl, rfl, BR.a3 HS1.out HS2.out HS3.out HBR.out⟩
         exact AllReadyJ.nil
        ·refine ⟨[12, 14], by kernel_rfl, by simp, ?_⟩
         simp only [Act.put, sA, sB, sC]
         refine AllReadyJ.cons (o := q5) rfl (fun K hK => ?_) ?_
         ·unfold q5; go_simp
          (with_reducible refine (HC.out _ (Tw3.out.and_then HBR.out.k)).mono ?_)
          rintro e wx ⟨⟨y, rfl, ho⟩, k3⟩
          show K _ _
          refine hK.out _ _ (HSK.out _ (HBR.out.k.and_then k3)) ?_
          exact ⟨true, true, true, true, false, true, p1, p2, p3, x1, x2, _, by simpa [cntB] using hm, rfl, rfl, BR.c3 HS1.out HS2.out HBR.out k3 ho⟩
         refine AllReadyJ.cons (o := q2) rfl (fun K hK => ?_) ?_
         ·unfold q2; go_simp
          refine hK.out _ _ (HSK.out _ (HBR.out.k.alloc _)) ?_
          exact ⟨true, true, false, true, true, true, p1, _, p3, x1, x2, x3, by simpa [cntB] using hm, rfl, rfl, BR.a2 HS1.out HS2.out HS3.out HBR.out⟩
         exact AllReadyJ.nil
       ·cases z3
        ·refine ⟨[12, 15], by kernel_rfl, by simp, ?_⟩
         simp only [Act.put, sA, sB, sC]
         refine AllReadyJ.cons (o := q5) rfl (fun K hK => ?_) ?_
         ·unfold q5; go_simp
          (with_reducible refine (HC.out _ (Tw3.out.and_then HBR.out.k)).mono ?_)
          rintro e wx ⟨⟨y, rfl, ho⟩, k3⟩
          show K _ _
          refine hK.out _ _ (HSK.out _ (HBR.out.k.and_then k3)) ?_
          exact ⟨true, true, true, true, true, false, p1, p2, p3, x1, x2, _, by simpa [cntB] using hm, rfl, rfl, BR.c3 HS1.out HS2.out HBR.out k3 ho⟩
         refine AllReadyJ.cons (o := q3) rfl (fun K hK => ?_) ?_
         ·unfold q3; go_simp
          refine hK.out _ _ (HSK.out _ (HBR.out.k.alloc _)) ?_
          exact ⟨true, true, false, true, true, true, p1, p2, _, x1, x2, x3, by simpa [cntB] using hm, rfl, rfl, BR.a3 HS1.out HS2.out HS3.out HBR.out⟩
         exact AllReadyJ.nil
        ·refine ⟨[12], by kernel_rfl, by simp, ?_⟩
         simp only [Act.put, sA, sB, sC]
         refine AllReadyJ.cons (o := q5) rfl (fun K hK => ?_) ?_
         ·unfold q5; go_simp
          (with_reducible refine (HC.out _ (Tw3.out.and_then HBR.out.k)).mono ?_)
          rintro e wx ⟨⟨y, rfl, ho⟩, k3⟩
          show K _ _
          refine hK.out _ _ (HSK.out _ (HBR.out.k.and_then k3)) ?_
          exact ⟨true, true, true, true, true, true, p1, p2, p3, x1, x2, _, by simpa [cntB] using hm, rfl, rfl, BR.c3 HS1.out HS2.out HBR.out k3 ho⟩
         exact AllReadyJ.nil
     ·cases z1
      ·cases z2
       ·cases z3
        ·refine ⟨[13, 14, 15], by kernel_rfl, by simp, ?_⟩
         simp only [Act.put, sA, sB, sC]
         refine AllReadyJ.cons (o := q1) rfl (fun K hK => ?_) ?_
         ·unfold q1; go_simp
          refine hK.out _ _ (HSK.out _ (HBR.out.k.alloc _)) ?_
          exact ⟨true, true, true, true, false, false, _, p2, p3, x1, x2, x3, by simpa [cntB] using hm, rfl, rfl, BR.a1 HS1.out HS2.out HS3.out HBR.out⟩
         refine AllReadyJ.cons (o := q2) rfl (fun K hK => ?_) ?_
         ·unfold q2; go_simp
          refine hK.out _ _ (HSK.out _ (HBR.out.k.alloc _)) ?_
          exact ⟨true, true, true, false, true, false, p1, _, p3, x1, x2, x3, by simpa [cntB] using hm, rfl, rfl, BR.a2 HS1.out HS2.out HS3.out HBR.out⟩
         refine AllReadyJ.cons (o := q3) rfl (fun K hK => ?_) ?_
         ·unfold q3; go_simp
          refine hK.out _ _ (HSK.out _ (HBR.out.k.alloc _)) ?_
          exact ⟨true, true, true, false, false, true, p1, p2, _, x1, x2, x3, by simpa [cntB] using hm, rfl, rfl, BR.a3 HS1.out HS2.out HS3.out HBR.out⟩
         exact AllReadyJ.nil
        ·refine ⟨[13, 14], by kernel_rfl, by simp, ?_⟩
         simp only [Act.put, sA, sB, sC]
         refine AllReadyJ.cons (o := q1) rfl (fun K hK => ?_) ?_
         ·unfold q1; go_simp
          refine hK.out _ _ (HSK.out _ (HBR.out.k.alloc _)) ?_
          exact ⟨true, true, true, true, false, true, _, p2, p3, x1, x2, x3, by simpa [cntB] using hm, rfl, rfl, BR.a1 HS1.out HS2.out HS3.out HBR.out⟩
         refine AllReadyJ.cons (o := q2) rfl (fun K hK => ?_) ?_
         ·unfold q2; go_simp
          refine hK.out _ _ (HSK.out _ (HBR.out.k.alloc _)) ?_
          exact ⟨true, true, true, false, true, true, p1, _, p3, x1, x2, x3, by simpa [cntB] using hm, rfl, rfl, BR.a2 HS1.out HS2.out HS3.out HBR.out⟩
         exact AllReadyJ.nil
       ·cases z3
        ·refine ⟨[13, 15], by kernel_rfl, by simp, ?_⟩
         simp only [Act.put, sA, sB, sC]
         refine AllReadyJ.cons (o := q1) rfl (fun K hK => ?_) ?_
         ·unfold q1; go_simp
          refine hK.out _ _ (HSK.out _ (HBR.out.k.alloc _)) ?_
          exact ⟨true, true, true, true, true, false, _, p2, p3, x1, x2, x3, by simpa [cntB] using hm, rfl, rfl, BR.a1 HS1.out HS2.out HS3.out HBR.out⟩
         refine AllReadyJ.cons (o := q3) rfl (fun K hK => ?_) ?_
         ·unfold q3; go_simp
          refine hK.out _ _ (HSK.out _ (HBR.out.k.alloc _)) ?_
          exact ⟨true, true, true, false, true, true, p1, p2, _, x1, x2, x3, by simpa [cntB] using hm, rfl, rfl, BR.a3 HS1.out HS2.out HS3.out HBR.out⟩
         exact AllReadyJ.nil
        ·refine ⟨[13], by kernel_rfl, by simp, ?_⟩
         simp only [Act.put, sA, sB, sC]
         refine AllReadyJ.cons (o := q1) rfl (fun K hK => ?_) ?_
         ·unfold q1; go_simp
          refine hK.out _ _ (HSK.out _ (HBR.out.k.alloc _)) ?_
          exact ⟨true, true, true, true, true, true, _, p2, p3, x1, x2, x3, by simpa [cntB] using hm, rfl, rfl, BR.a1 HS1.out HS2.out HS3.out HBR.out⟩
         exact AllReadyJ.nil
      ·cases z2
       ·cases z3
        ·refine ⟨[14, 15], by kernel_rfl, by simp, ?_⟩
         simp only [Act.put, sA, sB, sC]
         refine AllReadyJ.cons (o := q2) rfl (fun K hK => ?_) ?_
         ·unfold q2; go_simp
          refine hK.out _ _ (HSK.out _ (HBR.out.k.alloc _)) ?_
          exact ⟨true, true, true, true, true, false, p1, _, p3, x1, x2, x3, by simpa [cntB] using hm, rfl, rfl, BR.a2 HS1.out HS2.out HS3.out HBR.out⟩
         refine AllReadyJ.cons (o := q3) rfl (fun K hK => ?_) ?_
         ·unfold q3; go_simp
          refine hK.out _ _ (HSK.out _ (HBR.out.k.alloc _)) ?_
          exact ⟨true, true, true, true, false, true, p1, p2, _, x1, x2, x3, by simpa [cntB] using hm, rfl, rfl, BR.a3 HS1.out HS2.out HS3.out HBR.out⟩
         exact AllReadyJ.nil
        ·refine ⟨[14], by kernel_rfl, by simp, ?_⟩
         simp only [Act.put, sA, sB, sC]
         refine AllReadyJ.cons (o := q2) rfl (fun K hK => ?_) ?_
         ·unfold q2; go_simp
          refine hK.out _ _ (HSK.out _ (HBR.out.k.alloc _)) ?_
          exact ⟨true, true, true, true, true, true, p1, _, p3, x1, x2, x3, by simpa [cntB] using hm, rfl, rfl, BR.a2 HS1.out HS2.out HS3.out HBR.out⟩
         exact AllReadyJ.nil
       ·cases z3
        ·refine ⟨[15], by kernel_rfl, by simp, ?_⟩
         simp only [Act.put, sA, sB, sC]
         refine AllReadyJ.cons (o := q3) rfl (fun K hK => ?_) ?_
         ·unfold q3; go_simp
          refine hK.out _ _ (HSK.out _ (HBR.out.k.alloc _)) ?_
          exact ⟨true, true, true, true, true, true, p1, p2, _, x1, x2, x3, by simpa [cntB] using hm, rfl, rfl, BR.a3 HS1.out HS2.out HS3.out HBR.out⟩
         exact AllReadyJ.nil
        ·simp [cntB] at hm
 case last =>
  intro listed a w' hS hJ
  obtain ⟨y1, y2, y3, z1, z2, z3, p1, p2, p3, x1, x2, x3, hm, rfl, rfl, hb⟩ := hJ
  obtain ⟨rfl, rfl, rfl, rfl, rfl, rfl⟩ := cntB_all hm
  clear hm
  obtain ⟨ua1, uc1, rfl, bs1, hr1⟩ := hb.o1 rfl
  obtain ⟨ua2, uc2, rfl, bs2, hr2⟩ := hb.o2 rfl
  obtain ⟨ua3, uc3, rfl, bs3, hr3'⟩ := hb.o3 rfl
  obtain ⟨q1, rfl, bq1, gq1⟩ := hb.n1 rfl
  obtain ⟨q2, rfl, bq2, gq2⟩ := hb.n2 rfl
  obtain ⟨q3, rfl, bq3, gq3⟩ := hb.n3 rfl
  have n12 : ¬ q1 = q2 := fun e => hb.e12 rfl rfl (by rw [e])
  have n13 : ¬ q1 = q3 := fun e => hb.e13 rfl rfl (by rw [e])
  have n23 : ¬ q2 = q3 := fun e => hb.e23 rfl rfl (by rw [e])
  have N12 := kept n12
  have N13 := kept n13
  have N23 := kept n23
  have GQ1 := kept gq1
  have GQ2 := kept gq2
  have GQ3 := kept gq3
  have R1 := kept hr1
  have R2 := kept hr2
  have R3 := kept hr3'
  have KW := kept hb.k
  have Q1 := kept bq1
  have Q2 := kept bq2
  have Q3 := kept bq3
  clear n12 n13 n23 gq1 gq2 gq3 hr1 hr2 hr3' bq1 bq2 bq3 hb hS
  simp only [Act.put, sA, sB, sC]
  refine wpAnyH_ready (rs := [16]) (by kernel_rfl) (by simp) ?_
  refine AllReadyH.cons (o := ⟨none, .store 63 (.tmp 9) (.tmp 27), 0, "law.go:131", #[⟨13, .data⟩, ⟨3, .data⟩, ⟨12, .chain⟩, ⟨0, .phase⟩, ⟨1, .phase⟩, ⟨2, .phase⟩, ⟨3, .phase⟩, ⟨4, (.textOnly .lateStores)⟩, ⟨5, (.textOnly .lateStores)⟩, ⟨6, (.textOnly .lateStores)⟩, ⟨7, (.textOnly .lateStores)⟩, ⟨8, (.textOnly .lateStoresUnsure)⟩, ⟨9, (.textOnly .lateStores)⟩, ⟨10, (.textOnly .lateStores)⟩, ⟨11, (.textOnly .lateStores)⟩, ⟨12, (.textOnly .lateStoresUnsure)⟩, ⟨13, .phase⟩, ⟨14, .phase⟩, ⟨15, .phase⟩], none⟩) rfl (fun K hK => ?_) AllReadyH.nil
  have b0 := Q1.out.cell 0
  have b1 := Q1.out.cell 1
  have b2 := Q1.out.cell 2
  have b3 := Q1.out.cell 3
  have b4 := Q1.out.cell 4
  have b5 := Q1.out.cell 5
  have b6 := Q1.out.cell 6
  have b7 := Q1.out.cell 7
  have b8 := Q1.out.cell 8
  have b9 := Q1.out.cell 9
  have b10 := Q1.out.cell 10
  have b11 := Q1.out.cell 11
  have b12 := Q1.out.cell 12
  have f0 := Q1.out.frozen 0
  have f1 := Q1.out.frozen 1
  have f2 := Q1.out.frozen 2
  have f3 := Q1.out.frozen 3
  have f4 := Q1.out.frozen 4
  have f5 := Q1.out.frozen 5
  have f6 := Q1.out.frozen 6
  have f7 := Q1.out.frozen 7
  have f8 := Q1.out.frozen 8
  have f9 := Q1.out.frozen 9
  have f10 := Q1.out.frozen 10
  have f11 := Q1.out.frozen 11
  have f12 := Q1.out.frozen 12
  simp [zOut] at b0 b1 b2 b3 b4 b5 b6 b7 b8 b9 b10 b11 b12
  go_simp
  clear b0 b1 b2 b3 b4 b5 b6 b7 b8 b9 b10 b11 b12 f0 f1 f2 f3 f4 f5 f6 f7 f8 f9 f10 f11 f12
  show K _ (put13 w' q1 (.int .i64 e1) (.int .i64 v1) (.int .i64 t1) (.slice ua1 L1.length uc1) (.int .i64 s1) (.int .i64 (c1 0)) (.int .i64 (c1 1)) (.int .i64 (c1 2)) (.int .i64 (c1 3)) (.int .i64 (c1 4)) (.int .i64 (c1 5)) (.int .i64 (c1 6)) (.int .i64 (c1 7)))
  have kk : Keeps w3 (put13 w' q1 (.int .i64 e1) (.int .i64 v1) (.int .i64 t1) (.slice ua1 L1.length uc1) (.int .i64 s1) (.int .i64 (c1 0)) (.int .i64 (c1 1)) (.int .i64 (c1 2)) (.int .i64 (c1 3)) (.int .i64 (c1 4)) (.int .i64 (c1 5)) (.int .i64 (c1 6)) (.int .i64 (c1 7))) [] := keeps13 _ _ _ _ _ _ _ _ _ _ _ _ _ KW.out (.inr GQ1.out)
  have kq : Keeps w' (put13 w' q1 (.int .i64 e1) (.int .i64 v1) (.int .i64 t1) (.slice ua1 L1.length uc1) (.int .i64 s1) (.int .i64 (c1 0)) (.int .i64 (c1 1)) (.int .i64 (c1 2)) (.int .i64 (c1 3)) (.int .i64 (c1 4)) (.int .i64 (c1 5)) (.int .i64 (c1 6)) (.int .i64 (c1 7))) [q1] := keeps13 _ _ _ _ _ _ _ _ _ _ _ _ _ (Keeps.refl _ _) (.inl (by simp))
  have bn := blk13 (.int .i64 e1) (.int .i64 v1) (.int .i64 t1) (.slice ua1 L1.length uc1) (.int .i64 s1) (.int .i64 (c1 0)) (.int .i64 (c1 1)) (.int .i64 (c1 2)) (.int .i64 (c1 3)) (.int .i64 (c1 4)) (.int .i64 (c1 5)) (.int .i64 (c1 6)) (.int .i64 (c1 7)) Q1.out
  replace Q2 := kept (Q2.out.keep kq (by simp; exact (Ne.symm N12.out)))
  replace Q3 := kept (Q3.out.keep kq (by simp; exact (Ne.symm N13.out)))
  replace R1 := kept (own_keep R1.out kq (fun b hb e => own_ne R1.out Q1.out (by decide) (by rw [hb, List.mem_singleton.1 e])))
  replace R2 := kept (own_keep R2.out kq (fun b hb e => own_ne R2.out Q1.out (by decide) (by rw [hb, List.mem_singleton.1 e])))
  replace R3 := kept (own_keep R3.out kq (fun b hb e => own_ne R3.out Q1.out (by decide) (by rw [hb, List.mem_singleton.1 e])))
  replace Q1 := kept bn
  replace KW := kept kk
  clear bn kq kk
  generalize put13 w' q1 (.int .i64 e1) (.int .i64 v1) (.int .i64 t1) (.slice ua1 L1.length uc1) (.int .i64 s1) (.int .i64 (c1 0)) (.int .i64 (c1 1)) (.int .i64 (c1 2)) (.int .i64 (c1 3)) (.int .i64 (c1 4)) (.int .i64 (c1 5)) (.int .i64 (c1 6)) (.int .i64 (c1 7)) = Y1 at *
  refine hK.out _ _ (HSK.out _ KW.out) (fun hHeld => ?_)
  clear hK K
  try simp only [sA, sB, sC]
  refine wpAnyH_ready (rs := [17]) (by kernel_rfl) (by simp) ?_
  refine AllReadyH.cons (o := ⟨none, .store 63 (.tmp 10) (.tmp 32), 0, "law.go:131", #[⟨14, .data⟩, ⟨8, .data⟩, ⟨16, .chain⟩, ⟨0, .phase⟩, ⟨1, .phase⟩, ⟨2, .phase⟩, ⟨3, .phase⟩, ⟨4, .phase⟩, ⟨5, .phase⟩, ⟨6, .phase⟩, ⟨7, .phase⟩, ⟨8, .phase⟩, ⟨9, (.textOnly .lateStores)⟩, ⟨10, (.textOnly .lateStores)⟩, ⟨11, (.textOnly .lateStores)⟩, ⟨12, (.textOnly .lateStoresUnsure)⟩, ⟨13, .phase⟩, ⟨14, .phase⟩, ⟨15, .phase⟩, ⟨16, .phase⟩], none⟩) rfl (fun K hK => ?_) AllReadyH.nil
  have b0 := Q2.out.cell 0
  have b1 := Q2.out.cell 1
  have b2 := Q2.out.cell 2
  have b3 := Q2.out.cell 3
  have b4 := Q2.out.cell 4
  have b5 := Q2.out.cell 5
  have b6 := Q2.out.cell 6
  have b7 := Q2.out.cell 7
  have b8 := Q2.out.cell 8
  have b9 := Q2.out.cell 9
  have b10 := Q2.out.cell 10
  have b11 := Q2.out.cell 11
  have b12 := Q2.out.cell 12
  have f0 := Q2.out.frozen 0
  have f1 := Q2.out.frozen 1
  have f2 := Q2.out.frozen 2
  have f3 := Q2.out.frozen 3
  have f4 := Q2.out.frozen 4
  have f5 := Q2.out.frozen 5
  have f6 := Q2.out.frozen 6
  have f7 := Q2.out.frozen 7
  have f8 := Q2.out.frozen 8
  have f9 := Q2.out.frozen 9
  have f10 := Q2.out.frozen 10
  have f11 := Q2.out.frozen 11
  have f12 := Q2.out.frozen 12
  simp [zOut] at b0 b1 b2 b3 b4 b5 b6 b7 b8 b9 b10 b11 b12
  go_simp
  clear b0 b1 b2 b3 b4 b5 b6 b7 b8 b9 b10 b11 b12 f0 f1 f2 f3 f4 f5 f6 f7 f8 f9 f10 f11 f12
  show K _ (put13 Y1 q2 (.int .i64 e2) (.int .i64 v2) (.int .i64 t2) (.slice ua2 L2.length uc2) (.int .i64 s2) (.int .i64 (c2 0)) (.int .i64 (c2 1)) (.int .i64 (c2 2)) (.int .i64 (c2 3)) (.int .i64 (c2 4)) (.int .i64 (c2 5)) (.int .i64 (c2 6)) (.int .i64 (c2 7)))
  have kk : Keeps w3 (put13 Y1 q2 (.int .i64 e2) (.int .i64 v2) (.int .i64 t2) (.slice ua2 L2.length uc2) (.int .i64 s2) (.int .i64 (c2 0)) (.int .i64 (c2 1)) (.int .i64 (c2 2)) (.int .i64 (c2 3)) (.int .i64 (c2 4)) (.int .i64 (c2 5)) (.int .i64 (c2 6)) (.int .i64 (c2 7))) [] := keeps13 _ _ _ _ _ _ _ _ _ _ _ _ _ KW.out (.inr GQ2.out)
  have kq : Keeps Y1 (put13 Y1 q2 (.int .i64 e2) (.int .i64 v2) (.int .i64 t2) (.slice ua2 L2.length uc2) (.int .i64 s2) (.int .i64 (c2 0)) (.int .i64 (c2 1)) (.int .i64 (c2 2)) (.int .i64 (c2 3)) (.int .i64 (c2 4)) (.int .i64 (c2 5)) (.int .i64 (c2 6)) (.int .i64 (c2 7))) [q2] := keeps13 _ _ _ _ _ _ _ _ _ _ _ _ _ (Keeps.refl _ _) (.inl (by simp))
  have bn := blk13 (.int .i64 e2) (.int .i64 v2) (.int .i64 t2) (.slice ua2 L2.length uc2) (.int .i64 s2) (.int .i64 (c2 0)) (.int .i64 (c2 1)) (.int .i64 (c2 2)) (.int .i64 (c2 3)) (.int .i64 (c2 4)) (.int .i64 (c2 5)) (.int .i64 (c2 6)) (.int .i64 (c2 7)) Q2.out
  replace Q1 := kept (Q1.out.keep kq (by simp; exact N12.out))
  replace Q3 := kept (Q3.out.keep kq (by simp; exact (Ne.symm N23.out)))
  replace R1 := kept (own_keep R1.out kq (fun b hb e => own_ne R1.out Q2.out (by decide) (by rw [hb, List.mem_singleton.1 e])))
  replace R2 := kept (own_keep R2.out kq (fun b hb e => own_ne R2.out Q2.out (by decide) (by rw [hb, List.mem_singleton.1 e])))
  replace R3 := kept (own_keep R3.out kq (fun b hb e => own_ne R3.out Q2.out (by decide) (by rw [hb, List.mem_singleton.1 e])))
  replace Q2 := kept bn
  replace KW := kept kk
  clear bn kq kk
  generalize put13 Y1 q2 (.int .i64 e2) (.int .i64 v2) (.int .i64 t2) (.slice ua2 L2.length uc2) (.int .i64 s2) (.int .i64 (c2 0)) (.int .i64 (c2 1)) (.int .i64 (c2 2)) (.int .i64 (c2 3)) (.int .i64 (c2 4)) (.int .i64 (c2 5)) (.int .i64 (c2 6)) (.int .i64 (c2 7)) = Y2 at *
  refine hK.out _ _ (HSK.out _ KW.out) (fun hHeld => ?_)
  clear hK K
  try simp only [sA, sB, sC]
  refine wpAnyH_ready (rs := [18]) (by kernel_rfl) (by simp) ?_
  refine AllReadyH.cons (o := ⟨none, .store 63 (.tmp 11) (.tmp 36), 0, "law.go:131", #[⟨15, .data⟩, ⟨12, .data⟩, ⟨17, .chain⟩, ⟨0, .phase⟩, ⟨1, .phase⟩, ⟨2, .phase⟩, ⟨3, .phase⟩, ⟨4, .phase⟩, ⟨5, .phase⟩, ⟨6, .phase⟩, ⟨7, .phase⟩, ⟨8, .phase⟩, ⟨9, .phase⟩, ⟨10, .phase⟩, ⟨11, .phase⟩, ⟨12, .phase⟩, ⟨13, .phase⟩, ⟨14, .phase⟩, ⟨15, .phase⟩, ⟨16, .phase⟩, ⟨17, .phase⟩], none⟩) rfl (fun K hK => ?_) AllReadyH.nil
  have b0 := Q3.out.cell 0
  have b1 := Q3.out.cell 1
  have b2 := Q3.out.cell 2
  have b3 := Q3.out.cell 3
  have b4 := Q3.out.cell 4
  have b5 := Q3.out.cell 5
  have b6 := Q3.out.cell 6
  have b7 := Q3.out.cell 7
  have b8 := Q3.out.cell 8
  have b9 := Q3.out.cell 9
  have b10 := Q3.out.cell 10
  have b11 := Q3.out.cell 11
  have b12 := Q3.out.cell 12
  have f0 := Q3.out.frozen 0
  have f1 := Q3.out.frozen 1
  have f2 := Q3.out.frozen 2
  have f3 := Q3.out.frozen 3
  have f4 := Q3.out.frozen 4
  have f5 := Q3.out.frozen 5
  have f6 := Q3.out.frozen 6
  have f7 := Q3.out.frozen 7
  have f8 := Q3.out.frozen 8
  have f9 := Q3.out.frozen 9
  have f10 := Q3.out.frozen 10
  have f11 := Q3.out.frozen 11
  have f12 := Q3.out.frozen 12
  simp [zOut] at b0 b1 b2 b3 b4 b5 b6 b7 b8 b9 b10 b11 b12
  go_simp
  clear b0 b1 b2 b3 b4 b5 b6 b7 b8 b9 b10 b11 b12 f0 f1 f2 f3 f4 f5 f6 f7 f8 f9 f10 f11 f12
  show K _ (put13 Y2 q3 (.int .i64 e3) (.int .i64 v3) (.int .i64 t3) (.slice ua3 L3.length uc3) (.int .i64 s3) (.int .i64 (c3 0)) (.int .i64 (c3 1)) (.int .i64 (c3 2)) (.int .i64 (c3 3)) (.int .i64 (c3 4)) (.int .i64 (c3 5)) (.int .i64 (c3 6)) (.int .i64 (c3 7)))
  have kk : Keeps w3 (put13 Y2 q3 (.int .i64 e3) (.int .i64 v3) (.int .i64 t3) (.slice ua3 L3.length uc3) (.int .i64 s3) (.int .i64 (c3 0)) (.int .i64 (c3 1)) (.int .i64 (c3 2)) (.int .i64 (c3 3)) (.int .i64 (c3 4)) (.int .i64 (c3 5)) (.int .i64 (c3 6)) (.int .i64 (c3 7))) [] := keeps13 _ _ _ _ _ _ _ _ _ _ _ _ _ KW.out (.inr GQ3.out)
  have kq : Keeps Y2 (put13 Y2 q3 (.int .i64 e3) (.int .i64 v3) (.int .i64 t3) (.slice ua3 L3.length uc3) (.int .i64 s3) (.int .i64 (c3 0)) (.int .i64 (c3 1)) (.int .i64 (c3 2)) (.int .i64 (c3 3)) (.int .i64 (c3 4)) (.int .i64 (c3 5)) (.int .i64 (c3 6)) (.int .i64 (c3 7))) [q3] := keeps13 _ _ _ _ _ _ _ _ _ _ _ _ _ (Keeps.refl _ _) (.inl (by simp))
  have bn := blk13 (.int .i64 e3) (.int .i64 v3) (.int .i64 t3) (.slice ua3 L3.length uc3) (.int .i64 s3) (.int .i64 (c3 0)) (.int .i64 (c3 1)) (.int .i64 (c3 2)) (.int .i64 (c3 3)) (.int .i64 (c3 4)) (.int .i64 (c3 5)) (.int .i64 (c3 6)) (.int .i64 (c3 7)) Q3.out
  replace Q1 := kept (Q1.out.keep kq (by simp; exact N13.out))
  replace Q2 := kept (Q2.out.keep kq (by simp; exact N23.out))
  replace R1 := kept (own_keep R1.out kq (fun b hb e => own_ne R1.out Q3.out (by decide) (by rw [hb, List.mem_singleton.1 e])))
  replace R2 := kept (own_keep R2.out kq (fun b hb e => own_ne R2.out Q3.out (by decide) (by rw [hb, List.mem_singleton.1 e])))
  replace R3 := kept (own_keep R3.out kq (fun b hb e => own_ne R3.out Q3.out (by decide) (by rw [hb, List.mem_singleton.1 e])))
  replace Q3 := kept bn
  replace KW := kept kk
  clear bn kq kk
  generalize put13 Y2 q3 (.int .i64 e3) (.int .i64 v3) (.int .i64 t3) (.slice ua3 L3.length uc3) (.int .i64 s3) (.int .i64 (c3 0)) (.int .i64 (c3 1)) (.int .i64 (c3 2)) (.int .i64 (c3 3)) (.int .i64 (c3 4)) (.int .i64 (c3 5)) (.int .i64 (c3 6)) (.int .i64 (c3 7)) = Y3 at *
  refine hK.out _ _ (HSK.out _ KW.out) (fun hHeld => ?_)
  clear hK K
  try simp only [sA, sB, sC]
  refine wpAnyH_done (by kernel_rfl) ?_ _
  clear Bl Bm Bo HK
  have HK := kept KW.out
  have Bl := kept (Bl_w3.out.keep KW.out (by simp))
  have Bm := kept (Bm_w3.out.keep KW.out (by simp))
  have Bo := kept (Bo_w3.out.keep KW.out (by simp))
  have Bda := Q1
  have Bdb := Q2
  have Bdc := Q3
  clear KW Q1 Q2 Q3
  have Bl_Y3 := Bl
  have Bm_Y3 := Bm
  have Bo_Y3 := Bo
  have Bda_Y3 := Bda
  have Bdb_Y3 := Bdb
  have Bdc_Y3 := Bdc
  have TY3 := HK
  clear HK
  have HK := kept (Keeps.refl Y3 [])
  obtain ⟨l0, l1, l2⟩ := Bl.out.c3
  obtain ⟨m0, m1, m2⟩ := Bm.out.c3
  obtain ⟨o0, o1⟩ := Bo.out.c2
  obtain ⟨da0, da1, da2, da3, da4, da5, da6, da7, da8, da9, da10, da11, da12⟩ := Bda.out.c13
  obtain ⟨db0, db1, db2, db3, db4, db5, db6, db7, db8, db9, db10, db11, db12⟩ := Bdb.out.c13
  obtain ⟨dc0, dc1, dc2, dc3, dc4, dc5, dc6, dc7, dc8, dc9, dc10, dc11, dc12⟩ := Bdc.out.c13
  simp at l0 l1 l2 m0 m1 m2 o0 o1 da0 da1 da2 da3 da4 da5 da6 da7 da8 da9 da10 da11 da12 db0 db1 db2 db3 db4 db5 db6 db7 db8 db9 db10 db11 db12 dc0 dc1 dc2 dc3 dc4 dc5 dc6 dc7 dc8 dc9 dc10 dc11 dc12
  have RW1 := kept (show Row Y3 1 (.slice ua1 L1.length uc1) (L1.map intCells) from by have h := row_of_own R1.out; rw [List.map_map] at h; exact h)
  have RW2 := kept (show Row Y3 1 (.slice ua2 L2.length uc2) (L2.map intCells) from by have h := row_of_own R2.out; rw [List.map_map] at h; exact h)
  have RW3 := kept (show Row Y3 1 (.slice ua3 L3.length uc3) (L3.map intCells) from by have h := row_of_own R3.out; rw [List.map_map] at h; exact h)
  clear R1 R2 R3
  by_cases h1 : e1 = 3
  ·by_cases h3 : e3 = 3
   ·subst h1
    subst h3
    go_wp2
    go_ret
    exact ⟨rfl, (Tw3.out.and_then (TY3.out.and_then HK.out))⟩
   ·subst h1
    obtain ⟨g1, g2, g3, g4, g5⟩ := H13.out h3
    subst e3 v3 t3 L3 c3
    exact absurd rfl h3
  ·by_cases h3 : e3 = 3
   ·obtain ⟨g1, g2, g3, g4, g5⟩ := H12.out h1
    subst e2 v2 t2 L2 c2
    have hx1 : (e1 == 3) = false := by simpa using h1
    have CAB := kept (HAL.out L1 (.slice ua1 L1.length uc1) (.slice ua2 L1.length uc2) e1 v1 t1 s1 s2 c1 c1)
    have HE1 := HEQ.out (c1 0) (c1 1) (c1 2) (c1 3) (c1 4) (c1 5) (c1 6) (c1 7)
    subst h3
    go_wp2_with (first | (go_at_call 53; refine (CAB.out _ (Row.keep RW1.out HK.out) (Row.keep RW2.out HK.out) HL.out).mono ?_; rintro e w3 ⟨rfl, k3⟩; clear CAB; clear l0 l1 l2 m0 m1 m2 o0 o1 da0 da1 da2 da3 da4 da5 da6 da7 da8 da9 da10 da11 da12 db0 db1 db2 db3 db4 db5 db6 db7 db8 db9 db10 db11 db12 dc0 dc1 dc2 dc3 dc4 dc5 dc6 dc7 dc8 dc9 dc10 dc11 dc12; replace Bl := kept (Bl.out.keep k3 (by simp)); replace Bm := kept (Bm.out.keep k3 (by simp)); replace Bo := kept (Bo.out.keep k3 (by simp)); replace Bda := kept (Bda.out.keep k3 (by simp)); replace Bdb := kept (Bdb.out.keep k3 (by simp)); replace Bdc := kept (Bdc.out.keep k3 (by simp)); replace HK := kept (HK.out.and_then k3); obtain ⟨l0, l1, l2⟩ := Bl.out.c3; obtain ⟨m0, m1, m2⟩ := Bm.out.c3; obtain ⟨o0, o1⟩ := Bo.out.c2; obtain ⟨da0, da1, da2, da3, da4, da5, da6, da7, da8, da9, da10, da11, da12⟩ := Bda.out.c13; obtain ⟨db0, db1, db2, db3, db4, db5, db6, db7, db8, db9, db10, db11, db12⟩ := Bdb.out.c13; obtain ⟨dc0, dc1, dc2, dc3, dc4, dc5, dc6, dc7, dc8, dc9, dc10, dc11, dc12⟩ := Bdc.out.c13; simp at l0 l1 l2 m0 m1 m2 o0 o1 da0 da1 da2 da3 da4 da5 da6 da7 da8 da9 da10 da11 da12 db0 db1 db2 db3 db4 db5 db6 db7 db8 db9 db10 db11 db12 dc0 dc1 dc2 dc3 dc4 dc5 dc6 dc7 dc8 dc9 dc10 dc11 dc12; clear k3))
    go_ret
    exact ⟨rfl, (Tw3.out.and_then (TY3.out.and_then HK.out))⟩
   ·obtain ⟨g1, g2, g3, g4, g5⟩ := H12.out h1
    subst e2 v2 t2 L2 c2
    have hx1 : (e1 == 3) = false := by simpa using h1
    have CAB := kept (HAL.out L1 (.slice ua1 L1.length uc1) (.slice ua2 L1.length uc2) e1 v1 t1 s1 s2 c1 c1)
    have HE1 := HEQ.out (c1 0) (c1 1) (c1 2) (c1 3) (c1 4) (c1 5) (c1 6) (c1 7)
    obtain ⟨g1, g2, g3, g4, g5⟩ := H13.out h3
    subst e3 v3 t3 L3 c3
    have CAC := kept (HAL.out L1 (.slice ua1 L1.length uc1) (.slice ua3 L1.length uc3) e1 v1 t1 s1 s3 c1 c1)
    go_wp2_with (first | (go_at_call 53; refine (CAB.out _ (Row.keep RW1.out HK.out) (Row.keep RW2.out HK.out) HL.out).mono ?_; rintro e w3 ⟨rfl, k3⟩; clear CAB; clear l0 l1 l2 m0 m1 m2 o0 o1 da0 da1 da2 da3 da4 da5 da6 da7 da8 da9 da10 da11 da12 db0 db1 db2 db3 db4 db5 db6 db7 db8 db9 db10 db11 db12 dc0 dc1 dc2 dc3 dc4 dc5 dc6 dc7 dc8 dc9 dc10 dc11 dc12; replace Bl := kept (Bl.out.keep k3 (by simp)); replace Bm := kept (Bm.out.keep k3 (by simp)); replace Bo := kept (Bo.out.keep k3 (by simp)); replace Bda := kept (Bda.out.keep k3 (by simp)); replace Bdb := kept (Bdb.out.keep k3 (by simp)); replace Bdc := kept (Bdc.out.keep k3 (by simp)); replace HK := kept (HK.out.and_then k3); obtain ⟨l0, l1, l2⟩ := Bl.out.c3; obtain ⟨m0, m1, m2⟩ := Bm.out.c3; obtain ⟨o0, o1⟩ := Bo.out.c2; obtain ⟨da0, da1, da2, da3, da4, da5, da6, da7, da8, da9, da10, da11, da12⟩ := Bda.out.c13; obtain ⟨db0, db1, db2, db3, db4, db5, db6, db7, db8, db9, db10, db11, db12⟩ := Bdb.out.c13; obtain ⟨dc0, dc1, dc2, dc3, dc4, dc5, dc6, dc7, dc8, dc9, dc10, dc11, dc12⟩ := Bdc.out.c13; simp at l0 l1 l2 m0 m1 m2 o0 o1 da0 da1 da2 da3 da4 da5 da6 da7 da8 da9 da10 da11 da12 db0 db1 db2 db3 db4 db5 db6 db7 db8 db9 db10 db11 db12 dc0 dc1 dc2 dc3 dc4 dc5 dc6 dc7 dc8 dc9 dc10 dc11 dc12; clear k3) | (go_at_call 53; refine (CAC.out _ (Row.keep RW1.out HK.out) (Row.keep RW3.out HK.out) HL.out).mono ?_; rintro e w3 ⟨rfl, k3⟩; clear CAC; clear l0 l1 l2 m0 m1 m2 o0 o1 da0 da1 da2 da3 da4 da5 da6 da7 da8 da9 da10 da11 da12 db0 db1 db2 db3 db4 db5 db6 db7 db8 db9 db10 db11 db12 dc0 dc1 dc2 dc3 dc4 dc5 dc6 dc7 dc8 dc9 dc10 dc11 dc12; replace Bl := kept (Bl.out.keep k3 (by simp)); replace Bm := kept (Bm.out.keep k3 (by simp)); replace Bo := kept (Bo.out.keep k3 (by simp)); replace Bda := kept (Bda.out.keep k3 (by simp)); replace Bdb := kept (Bdb.out.keep k3 (by simp)); replace Bdc := kept (Bdc.out.keep k3 (by simp)); replace HK := kept (HK.out.and_then k3); obtain ⟨l0, l1, l2⟩ := Bl.out.c3; obtain ⟨m0, m1, m2⟩ := Bm.out.c3; obtain ⟨o0, o1⟩ := Bo.out.c2; obtain ⟨da0, da1, da2, da3, da4, da5, da6, da7, da8, da9, da10, da11, da12⟩ := Bda.out.c13; obtain ⟨db0, db1, db2, db3, db4, db5, db6, db7, db8, db9, db10, db11, db12⟩ := Bdb.out.c13; obtain ⟨dc0, dc1, dc2, dc3, dc4, dc5, dc6, dc7, dc8, dc9, dc10, dc11, dc12⟩ := Bdc.out.c13; simp at l0 l1 l2 m0 m1 m2 o0 o1 da0 da1 da2 da3 da4 da5 da6 da7 da8 da9 da10 da11 da12 db0 db1 db2 db3 db4 db5 db6 db7 db8 db9 db10 db11 db12 dc0 dc1 dc2 dc3 dc4 dc5 dc6 dc7 dc8 dc9 dc10 dc11 dc12; clear k3))
    go_ret
    exact ⟨rfl, (Tw3.out.and_then (TY3.out.and_then HK.out))⟩
end Go.Proofs.YtjllbchfojonhaaDoor
