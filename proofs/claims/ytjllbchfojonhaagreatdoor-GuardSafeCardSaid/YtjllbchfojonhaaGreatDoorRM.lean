/- A program's run, plainly: the mirror of the document's interpreter; what every state of a run keeps to. -/
import Derived.Test.YtjllbchfojonhaaGreatDoorB2
import Derived.Test.YtjllbchfojonhaaGreatDoorB3
import Derived.Test.YtjllbchfojonhaaGreatDoorShape
namespace Go.Proofs.YtjllbchfojonhaaGreatDoor
set_option linter.unusedVariables false
def inI (n : Int) : Bool := decide (-9223372036854775808 ≤ n ∧ n ≤ 9223372036854775807)
def wrapI (n : Int) : Int := (n + 9223372036854775808) % 18446744073709551616 - 9223372036854775808
structure OutM where
 ending : Int
 value : Int
 trap : Int
 trace : List Int
 steps : Nat
 checks : List Nat
structure StM where
 ints : List Int
 bools : List Bool
 arrs : List Int
 arrays : List (List Int)
 block : Nat
 pc : Nat
 out : OutM
 ended : Bool
def StM.I (s : StM) (v : Int) : Int := s.ints[v.toNat]!
def StM.B (s : StM) (v : Int) : Bool := s.bools[v.toNat]!
def StM.A (s : StM) (v : Int) : Int := s.arrs[v.toNat]!
def StM.fin (s : StM) (e : Int) : StM := { s with out := { s.out with ending := e }, ended := true }
def StM.setI (s : StM) (d x : Int) : StM := { s with ints := s.ints.set d.toNat x }
def StM.setB (s : StM) (d : Int) (x : Bool) : StM := { s with bools := s.bools.set d.toNat x }
def StM.setA (s : StM) (d x : Int) : StM := { s with arrs := s.arrs.set d.toNat x }
def placeM (s : StM) (a i : Int) : Bool := decide (0 ≤ a) && decide (a < s.arrays.length) && decide (0 ≤ i) && decide (i < s.arrays[a.toNat]!.length)
def passM (s : StM) (op : Int) (l : List Int) : Bool :=
 let a := s.I l[0]!
 let b := if 1 < l.length then s.I l[1]! else 0
 if op = 18 then placeM s (s.A l[0]!) b
 else if op = 19 then decide (0 ≤ s.A l[0]!)
 else if op = 20 then !(a == 0)
 else if op = 21 then inI (a + b)
 else if op = 22 then inI (a - b)
 else if op = 23 then inI (a * b)
 else decide (0 ≤ a) && decide (a ≤ 64)
def checkM (s : StM) (op : Int) (l : List Int) : StM :=
 let t := (op - 17).toNat
 let s1 : StM := { s with out := { s.out with checks := s.out.checks.set t (s.out.checks[t]! + 1) } }
 if passM s op l = true then s1 else StM.fin { s1 with out := { s1.out with trap := op - 17 } } 1
def rawM (s : StM) (x : InstM) : StM :=
 let l := x.args.2
 let a := if 0 < l.length then s.I l[0]! else 0
 let p := if 0 < l.length then s.B l[0]! else false
 let arr := if 0 < l.length then s.A l[0]! else -1
 let b := if 1 < l.length then s.I l[1]! else 0
 let q := if 1 < l.length then s.B l[1]! else false
 let d := x.dst
 if x.op = 0 then s.setI d x.num
 else if x.op = 1 ∨ x.op = 25 ∨ x.op = 26 then ((s.setI d a).setB d p).setA d arr
 else if x.op = 2 then s.setI d (wrapI (a + b))
 else if x.op = 3 then s.setI d (wrapI (a - b))
 else if x.op = 4 then s.setI d (wrapI (a * b))
 else if x.op = 5 then if b = 0 then s.fin 2 else s.setI d (wrapI (a.tdiv b))
 else if x.op = 6 then if b = 0 then s.fin 2 else s.setI d (a.tmod b)
 else if x.op = 7 then s.setB d (a == b)
 else if x.op = 8 then s.setB d (decide (a < b))
 else if x.op = 9 then s.setB d (decide (a ≤ b))
 else if x.op = 10 then s.setB d (!p)
 else if x.op = 11 then s.setB d (p && q)
 else if x.op = 12 then if arr < 0 then s.fin 2 else s.setI d s.arrays[arr.toNat]!.length
 else if x.op = 13 then if placeM s arr b = true then s.setI d s.arrays[arr.toNat]![b.toNat]! else s.fin 2
 else if x.op = 14 then if placeM s arr b = true then { s with arrays := s.arrays.set arr.toNat (s.arrays[arr.toNat]!.set b.toNat (s.I l[2]!)) } else s.fin 2
 else if x.op = 15 then
  if a < 0 ∨ 64 < a then s.fin 2
  else if 32 ≤ s.arrays.length then s.fin 3
  else ({ s with arrays := s.arrays ++ [List.replicate a.toNat 0] }).setA d s.arrays.length
 else if x.op = 16 then s.setA d (-1)
 else if x.op = 17 then if 4096 ≤ s.out.trace.length then s.fin 3 else { s with out := { s.out with trace := s.out.trace ++ [a] } }
 else s
def instM (s : StM) (x : InstM) : StM := if 18 ≤ x.op ∧ x.op ≤ 24 then checkM s x.op x.args.2 else rawM s x
/-- the argument of a phi that comes from a block; none: there is no such pair -/
def phiArg (p : PhiM) (b : Nat) : Option Int :=
 ((List.range p.froms.2.length).find? fun i => p.froms.2[i]! == (b : Int)).map fun i => p.args.2[i]!
def phisRun (l : List PhiM) (old s : StM) (b : Nat) : StM :=
 l.foldl (fun s p => match phiArg p b with
  | some a => ((s.setI p.dst (old.I a)).setB p.dst (old.B a)).setA p.dst (old.A a)
  | none => s) s
def enterM (blk : Nat → BlockM) (s : StM) (to : Nat) : StM :=
 if ((blk to).phis.2.all fun p => (phiArg p s.block).isSome) = true then { phisRun (blk to).phis.2 s s s.block with block := to, pc := 0 }
 else StM.fin { s with block := to, pc := 0 } 2
def stepM (blk : Nat → BlockM) (s0 : StM) : StM :=
 let s : StM := { s0 with out := { s0.out with steps := s0.out.steps + 1 } }
 let b := blk s.block
 if s.pc < b.insts.2.length then instM { s with pc := s.pc + 1 } b.insts.2[s.pc]!
 else if b.kind = 2 then StM.fin { s with out := { s.out with value := s.I b.var } } 0
 else if b.kind = 0 ∨ s.B b.var = true then enterM blk s b.to0.toNat
 else enterM blk s b.to1.toNat
def runM (blk : Nat → BlockM) : Nat → StM → StM
 | 0, s => s
 | k + 1, s => if s.ended = true then s else runM blk k (stepM blk s)
end Go.Proofs.YtjllbchfojonhaaGreatDoor
namespace Go.Proofs.YtjllbchfojonhaaGreatDoor
set_option linter.unusedVariables false
set_option linter.unusedSimpArgs false
def sigT : Nat → List Int
 | 2 => [0, 0] | 3 => [0, 0] | 4 => [0, 0] | 5 => [0, 0] | 6 => [0, 0] | 7 => [0, 0] | 8 => [0, 0] | 9 => [0, 0]
 | 10 => [1] | 11 => [1, 1] | 12 => [2] | 13 => [2, 0] | 14 => [2, 0, 0] | 15 => [0] | 17 => [0]
 | 18 => [2, 0] | 19 => [2] | 20 => [0] | 21 => [0, 0] | 22 => [0, 0] | 23 => [0, 0] | 24 => [0] | 25 => [0, 0] | 26 => [0, 2]
 | _ => []
def sigD : Nat → Option Int
 | 0 => some 0 | 2 => some 0 | 3 => some 0 | 4 => some 0 | 5 => some 0 | 6 => some 0
 | 7 => some 1 | 8 => some 1 | 9 => some 1 | 10 => some 1 | 11 => some 1
 | 12 => some 0 | 13 => some 0 | 15 => some 2 | 16 => some 2 | 25 => some 0 | 26 => some 0
 | _ => none
def okD (n : Nat) (ty : Int → Int) (d : Int) : Option Int → Prop
 | some t => 0 ≤ d ∧ d < (n : Int) ∧ ty d = t
 | none => d = -1
/-- a typed instruction -/
structure InstOK (n : Nat) (ty : Int → Int) (x : InstM) : Prop where
 op : 0 ≤ x.op ∧ x.op < 27
 arg : ∀ a ∈ x.args.2, 0 ≤ a ∧ a < (n : Int)
 copy : x.op = 1 → x.args.2.length = 1 ∧ 0 ≤ x.dst ∧ x.dst < (n : Int) ∧ ty x.dst = ty x.args.2[0]!
 len : x.op ≠ 1 → x.args.2.length = (sigT x.op.toNat).length
 typ : x.op ≠ 1 → ∀ i, i < x.args.2.length → ty x.args.2[i]! = (sigT x.op.toNat)[i]!
 dst : x.op ≠ 1 → okD n ty x.dst (sigD x.op.toNat)
/-- a state of n variables -/
structure Full (n : Nat) (s : StM) : Prop where
 i : s.ints.length = n
 b : s.bools.length = n
 a : s.arrs.length = n
structure Rest (s s' : StM) : Prop where
 arrays : s.arrays = s'.arrays
 block : s.block = s'.block
 pc : s.pc = s'.pc
 out : s.out = s'.out
 ended : s.ended = s'.ended
section
variable {n : Nat} {ty : Int → Int} {s s' : StM}
theorem getset {α : Type} [Inhabited α] (l : List α) {d v : Int} (x : α) (hd : 0 ≤ d ∧ d < (l.length : Int)) (hv : 0 ≤ v) : (l.set d.toNat x)[v.toNat]! = if v = d then x else l[v.toNat]! := by
 by_cases h : v.toNat < l.length
 ·rw [getElem!_pos _ _ (by simpa using h), getElem!_pos l _ h, List.getElem_set]
  by_cases e : v = d
  ·subst e; simp
  ·rw [if_neg e, if_neg (by omega)]
 ·rw [getElem!_neg _ _ (by simpa using h), getElem!_neg l _ h, if_neg (by omega)]
theorem I_setI (s : StM) {d v : Int} (x : Int) (hd : 0 ≤ d ∧ d < (s.ints.length : Int)) (hv : 0 ≤ v) : (s.setI d x).I v = if v = d then x else s.I v := getset s.ints x hd hv
theorem A_setA (s : StM) {d v : Int} (x : Int) (hd : 0 ≤ d ∧ d < (s.arrs.length : Int)) (hv : 0 ≤ v) : (s.setA d x).A v = if v = d then x else s.A v := getset s.arrs x hd hv
theorem Full.setI (h : Full n s) (d x : Int) : Full n (s.setI d x) := ⟨by show (s.ints.set _ _).length = n; rw [List.length_set, h.i], h.b, h.a⟩
theorem Full.setB (h : Full n s) (d : Int) (x : Bool) : Full n (s.setB d x) := ⟨h.i, by show (s.bools.set _ _).length = n; rw [List.length_set, h.b], h.a⟩
theorem Full.setA (h : Full n s) (d x : Int) : Full n (s.setA d x) := ⟨h.i, h.b, by show (s.arrs.set _ _).length = n; rw [List.length_set, h.a]⟩
theorem Full.fin (h : Full n s) (e : Int) : Full n (s.fin e) := ⟨h.i, h.b, h.a⟩
theorem Rest.setI (h : Rest s s') (d x y : Int) : Rest (s.setI d x) (s'.setI d y) := ⟨h.arrays, h.block, h.pc, h.out, h.ended⟩
theorem Rest.setB (h : Rest s s') (d : Int) (x y : Bool) : Rest (s.setB d x) (s'.setB d y) := ⟨h.arrays, h.block, h.pc, h.out, h.ended⟩
theorem Rest.setA (h : Rest s s') (d x y : Int) : Rest (s.setA d x) (s'.setA d y) := ⟨h.arrays, h.block, h.pc, h.out, h.ended⟩
theorem Rest.fin (h : Rest s s') (e : Int) : Rest (s.fin e) (s'.fin e) := ⟨h.arrays, h.block, h.pc, by show { s.out with ending := e } = { s'.out with ending := e }; rw [h.out], rfl⟩
end
section
variable {n : Nat} {ty : Int → Int} {s s' : StM}
theorem op_cases {z : Int} (h : 0 ≤ z ∧ z < 27) : z = 0 ∨ z = 1 ∨ z = 2 ∨ z = 3 ∨ z = 4 ∨ z = 5 ∨ z = 6 ∨ z = 7 ∨ z = 8 ∨ z = 9 ∨ z = 10 ∨ z = 11 ∨ z = 12 ∨ z = 13 ∨ z = 14 ∨ z = 15 ∨ z = 16 ∨ z = 17 ∨ z = 18 ∨ z = 19 ∨ z = 20 ∨ z = 21 ∨ z = 22 ∨ z = 23 ∨ z = 24 ∨ z = 25 ∨ z = 26 := by omega
theorem nth_mem {l : List Int} {i : Nat} (h : i < l.length) : l[i]! ∈ l := by rw [getElem!_pos l i h]; exact List.getElem_mem h
end
end Go.Proofs.YtjllbchfojonhaaGreatDoor
namespace Go.Proofs.YtjllbchfojonhaaGreatDoor
set_option linter.unusedVariables false
set_option linter.unusedSimpArgs false
/-- the beginning -/
structure ArgM where
  int : Int
  bool : Bool
  arr : Int
instance : Inhabited ArgM := ⟨⟨0, false, 0⟩⟩
def beginM (n : Nat) (ty : Int → Int) (args : List ArgM) (arrays : List (List Int)) : StM :=
  { ints := (List.range n).map fun i => if i < args.length ∧ ty i = 0 then args[i]!.int else 0
    bools := (List.range n).map fun i => if i < args.length ∧ ty i = 1 then args[i]!.bool else false
    arrs := (List.range n).map fun i => if i < args.length ∧ ¬ ty i = 0 ∧ ¬ ty i = 1 then args[i]!.arr else -1
    arrays := arrays, block := 0, pc := 0
    out := { ending := 3, value := 0, trap := 0, trace := [], steps := 0, checks := [0, 0, 0, 0, 0, 0, 0, 0] }
    ended := false }
/-- a block of a typed slot program -/
structure BlockOK (nb n : Nat) (ty : Int → Int) (b : BlockM) : Prop where
  inst : ∀ x ∈ b.insts.2, InstOK n ty x
  kind : b.kind = 0 ∨ b.kind = 1 ∨ b.kind = 2
  jump : b.kind = 0 → 0 ≤ b.to0 ∧ b.to0 < (nb : Int)
  iff : b.kind = 1 → 0 ≤ b.to0 ∧ b.to0 < (nb : Int) ∧ 0 ≤ b.to1 ∧ b.to1 < (nb : Int) ∧ 0 ≤ b.var ∧ b.var < (n : Int) ∧ ty b.var = 1
  ret : b.kind = 2 → 0 ≤ b.var ∧ b.var < (n : Int) ∧ ty b.var = 0
def Stays (s t : StM) : Prop := t.block = s.block ∧ t.pc = s.pc
theorem stays_ite {s a b : StM} {c : Prop} [Decidable c] (h1 : Stays s a) (h2 : Stays s b) : Stays s (if c then a else b) := by split <;> assumption
theorem raw_stays (s : StM) (x : InstM) : Stays s (rawM s x) := by
  unfold rawM
  simp only
  repeat' (first | exact ⟨rfl, rfl⟩ | apply stays_ite)
theorem check_stays (s : StM) (op : Int) (l : List Int) : Stays s (checkM s op l) := by
  unfold checkM
  simp only
  repeat' (first | exact ⟨rfl, rfl⟩ | apply stays_ite)
theorem inst_stays (s : StM) (x : InstM) : (instM s x).block = s.block ∧ (instM s x).pc = s.pc := stays_ite (check_stays _ _ _) (raw_stays _ _)
section
variable {n : Nat} {s : StM}
def StM.tick (s : StM) : StM := { s with out := { s.out with steps := s.out.steps + 1 } }
def StM.next (s : StM) : StM := { s with pc := s.pc + 1 }
def StM.val (s : StM) (x : Int) : StM := { s with out := { s.out with value := x } }
theorem step_eq (blk : Nat → BlockM) (s : StM) : stepM blk s =
    if s.pc < (blk s.block).insts.2.length then instM s.tick.next (blk s.block).insts.2[s.pc]!
    else if (blk s.block).kind = 2 then (s.tick.val (s.I (blk s.block).var)).fin 0
    else if (blk s.block).kind = 0 ∨ s.B (blk s.block).var = true then enterM blk s.tick (blk s.block).to0.toNat
    else enterM blk s.tick (blk s.block).to1.toNat := rfl
theorem Full.of (h : Full n s) {t : StM} (hi : t.ints = s.ints) (hb : t.bools = s.bools) (ha : t.arrs = s.arrs) : Full n t := ⟨by rw [hi]; exact h.i, by rw [hb]; exact h.b, by rw [ha]; exact h.a⟩
theorem begin_full (n : Nat) (ty : Int → Int) (args : List ArgM) (arrays : List (List Int)) : Full n (beginM n ty args arrays) := ⟨by simp [beginM], by simp [beginM], by simp [beginM]⟩
end
end Go.Proofs.YtjllbchfojonhaaGreatDoor
namespace Go.Proofs.YtjllbchfojonhaaGreatDoor
set_option linter.unusedVariables false
set_option linter.unusedSimpArgs false
/-- what every state of a run keeps to -/
structure GoodM (n K : Nat) (s : StM) : Prop where
 f : Full n s
 i : ∀ x ∈ s.ints, inI x = true
 e : ∀ l ∈ s.arrays, ∀ x ∈ l, inI x = true
 z : ∀ l ∈ s.arrays, l.length ≤ 64
 a : ∀ x ∈ s.arrs, -1 ≤ x ∧ x < (s.arrays.length : Int)
 m : s.arrays.length ≤ 32
 t : s.out.trace.length ≤ 4096
 c : s.out.checks.length = 8
 k : ∀ x ∈ s.out.checks, x ≤ K
section
variable {n K : Nat} {ty : Int → Int} {s : StM}
theorem good_ite {c : Prop} [Decidable c] {a b : StM} (h1 : c → GoodM n K a) (h2 : ¬ c → GoodM n K b) : GoodM n K (if c then a else b) := by
 split
 ·exact h1 ‹_›
 ·exact h2 ‹_›
theorem GoodM.more (h : GoodM n K s) {K2 : Nat} (hk : K ≤ K2) : GoodM n K2 s := ⟨h.f, h.i, h.e, h.z, h.a, h.m, h.t, h.c, fun x hx => Nat.le_trans (h.k x hx) hk⟩
theorem mem_set_or {α : Type} {l : List α} {i : Nat} {x y : α} (h : y ∈ l.set i x) : y ∈ l ∨ y = x := List.mem_or_eq_of_mem_set h
theorem inI_wrap (z : Int) : inI (wrapI z) = true := by
 unfold inI wrapI
 rw [decide_eq_true_eq]
 omega
theorem inI_zero : inI 0 = true := by decide
theorem GoodM.I (h : GoodM n K s) (v : Int) : inI (s.I v) = true := by
 unfold StM.I
 by_cases hv : v.toNat < s.ints.length
 ·exact h.i _ (by rw [getElem!_pos s.ints _ hv]; exact List.getElem_mem hv)
 ·rw [getElem!_neg s.ints _ hv]; exact inI_zero
theorem GoodM.A (h : GoodM n K s) {v : Int} (h0 : 0 ≤ v ∧ v < (n : Int)) : -1 ≤ s.A v ∧ s.A v < (s.arrays.length : Int) := by
 unfold StM.A
 have hv : v.toNat < s.arrs.length := by rw [h.f.a]; omega
 exact h.a _ (by rw [getElem!_pos s.arrs _ hv]; exact List.getElem_mem hv)
theorem GoodM.elem (h : GoodM n K s) (a b : Nat) : inI s.arrays[a]![b]! = true := by
 by_cases ha : a < s.arrays.length
 ·by_cases hb : b < s.arrays[a]!.length
  ·refine h.e s.arrays[a]! ?_ _ ?_
   ·rw [getElem!_pos s.arrays a ha]; exact List.getElem_mem ha
   ·rw [getElem!_pos s.arrays[a]! b hb]; exact List.getElem_mem hb
  ·rw [getElem!_neg s.arrays[a]! b hb]; exact inI_zero
 ·rw [getElem!_neg s.arrays a ha]
  rw [getElem!_neg (default : List Int) b (by show ¬ b < ([] : List Int).length; simp)]; exact inI_zero
theorem GoodM.long (h : GoodM n K s) (a : Nat) : s.arrays[a]!.length ≤ 64 := by
 by_cases ha : a < s.arrays.length
 ·exact h.z _ (by rw [getElem!_pos s.arrays a ha]; exact List.getElem_mem ha)
 ·rw [getElem!_neg s.arrays a ha]; show ([] : List Int).length ≤ 64; simp
theorem inI_nat {k : Nat} (h : k ≤ 4096) : inI (k : Int) = true := by simp [inI]; omega
theorem GoodM.setI (h : GoodM n K s) (d : Int) {x : Int} (hx : inI x = true) : GoodM n K (s.setI d x) :=
 ⟨h.f.setI d x, fun y hy => (mem_set_or hy).elim (h.i y) (fun e => e ▸ hx), h.e, h.z, h.a, h.m, h.t, h.c, h.k⟩
theorem GoodM.setB (h : GoodM n K s) (d : Int) (x : Bool) : GoodM n K (s.setB d x) := ⟨h.f.setB d x, h.i, h.e, h.z, h.a, h.m, h.t, h.c, h.k⟩
theorem GoodM.setA (h : GoodM n K s) (d : Int) {x : Int} (hx : -1 ≤ x ∧ x < (s.arrays.length : Int)) : GoodM n K (s.setA d x) :=
 ⟨h.f.setA d x, h.i, h.e, h.z, fun y hy => (mem_set_or hy).elim (h.a y) (fun e => e ▸ hx), h.m, h.t, h.c, h.k⟩
theorem GoodM.fin (h : GoodM n K s) (z : Int) : GoodM n K (s.fin z) := ⟨h.f.fin z, h.i, h.e, h.z, h.a, h.m, h.t, h.c, h.k⟩
theorem inI_tmod {a b : Int} (ha : inI a = true) (hb : ¬ b = 0) : inI (a.tmod b) = true := by
 simp only [inI, decide_eq_true_eq] at ha ⊢
 have h1 : (a.tmod b).natAbs ≤ a.natAbs := by rw [Int.natAbs_tmod]; exact Nat.mod_le _ _
 rcases Int.le_total 0 a with h0 | h0
 ·have := Int.tmod_nonneg b h0; omega
 ·have e : a.tmod b = -((-a).tmod b) := by rw [Int.neg_tmod]; omega
  have := Int.tmod_nonneg b (show 0 ≤ -a by omega)
  omega
theorem check_good (h : GoodM n K s) (op : Int) (l : List Int) : GoodM n (K + 1) (checkM s op l) := by
 unfold checkM
 simp only
 have hc : (s.out.checks.set (op - 17).toNat (s.out.checks[(op - 17).toNat]! + 1)).length = 8 := by rw [List.length_set]; exact h.c
 have hk : ∀ x ∈ s.out.checks.set (op - 17).toNat (s.out.checks[(op - 17).toNat]! + 1), x ≤ K + 1 := fun x hx => (mem_set_or hx).elim (fun hm => by have := h.k x hm; omega) (fun e => by
  subst e
  by_cases hl : (op - 17).toNat < s.out.checks.length
  ·have := h.k _ (by rw [getElem!_pos s.out.checks _ hl]; exact List.getElem_mem hl : s.out.checks[(op - 17).toNat]! ∈ s.out.checks)
   omega
  ·rw [getElem!_neg s.out.checks _ hl]; show 0 + 1 ≤ K + 1; omega)
 refine good_ite (fun _ => ?_) (fun _ => GoodM.fin ?_ 1)
 ·exact ⟨⟨h.f.i, h.f.b, h.f.a⟩, h.i, h.e, h.z, h.a, h.m, h.t, hc, hk⟩
 ·exact ⟨⟨h.f.i, h.f.b, h.f.a⟩, h.i, h.e, h.z, h.a, h.m, h.t, hc, hk⟩
theorem GoodM.out_ (h : GoodM n K s) (o : OutM) (ht : o.trace.length ≤ 4096) (hc : o.checks = s.out.checks) : GoodM n K { s with out := o } :=
 ⟨⟨h.f.i, h.f.b, h.f.a⟩, h.i, h.e, h.z, h.a, h.m, ht, by show o.checks.length = 8; rw [hc]; exact h.c, by show ∀ x ∈ o.checks, _; rw [hc]; exact h.k⟩
theorem raw_good (h : GoodM n K s) {x : InstM} (hx : InstOK n ty x) (hn : inI x.num = true) : GoodM n K (rawM s x) := by
 have hI : ∀ i, inI (if i < x.args.2.length then s.I x.args.2[i]! else 0) = true := fun i => by
  split
  ·exact h.I _
  ·exact inI_zero
 have hA : -1 ≤ (if 0 < x.args.2.length then s.A x.args.2[0]! else -1) ∧ (if 0 < x.args.2.length then s.A x.args.2[0]! else -1) < (s.arrays.length : Int) := by
  split
  ·exact h.A (hx.arg _ (nth_mem ‹_›))
  ·omega
 unfold rawM
 simp only
 have ha := hI 0
 have hb := hI 1
 generalize (if 0 < x.args.2.length then s.I x.args.2[0]! else 0) = a at *
 generalize (if 1 < x.args.2.length then s.I x.args.2[1]! else 0) = b at *
 generalize (if 0 < x.args.2.length then s.A x.args.2[0]! else -1) = arr at *
 refine good_ite (fun _ => h.setI _ hn) (fun _ => ?_)
 refine good_ite (fun _ => ((h.setI _ ha).setB _ _).setA _ hA) (fun _ => ?_)
 refine good_ite (fun _ => h.setI _ (inI_wrap _)) (fun _ => ?_)
 refine good_ite (fun _ => h.setI _ (inI_wrap _)) (fun _ => ?_)
 refine good_ite (fun _ => h.setI _ (inI_wrap _)) (fun _ => ?_)
 refine good_ite (fun _ => good_ite (fun _ => h.fin 2) (fun _ => h.setI _ (inI_wrap _))) (fun _ => ?_)
 refine good_ite (fun _ => good_ite (fun _ => h.fin 2) (fun hb0 => h.setI _ (inI_tmod ha hb0))) (fun _ => ?_)
 refine good_ite (fun _ => h.setB _ _) (fun _ => ?_)
 refine good_ite (fun _ => h.setB _ _) (fun _ => ?_)
 refine good_ite (fun _ => h.setB _ _) (fun _ => ?_)
 refine good_ite (fun _ => h.setB _ _) (fun _ => ?_)
 refine good_ite (fun _ => h.setB _ _) (fun _ => ?_)
 refine good_ite (fun _ => good_ite (fun _ => h.fin 2) (fun _ => h.setI _ (inI_nat (by have := h.long arr.toNat; omega)))) (fun _ => ?_)
 refine good_ite (fun _ => good_ite (fun _ => h.setI _ (h.elem _ _)) (fun _ => h.fin 2)) (fun _ => ?_)
 refine good_ite (fun _ => good_ite (fun _ => ?_) (fun _ => h.fin 2)) (fun _ => ?_)
 ·refine ⟨⟨h.f.i, h.f.b, h.f.a⟩, h.i, fun l hl => ?_, fun l hl => ?_, fun y hy => by show _ ∧ _ < ((s.arrays.set _ _).length : Int); rw [List.length_set]; exact h.a y hy, by show (s.arrays.set _ _).length ≤ 32; rw [List.length_set]; exact h.m, h.t, h.c, h.k⟩
  ·rcases mem_set_or hl with hl | rfl
   ·exact h.e l hl
   ·intro y hy
    rcases mem_set_or hy with hy | rfl
    ·by_cases har : arr.toNat < s.arrays.length
     ·exact h.e _ (by rw [getElem!_pos s.arrays _ har]; exact List.getElem_mem har) y hy
     ·rw [getElem!_neg s.arrays _ har] at hy; cases hy
    ·exact h.I _
  ·rcases mem_set_or hl with hl | rfl
   ·exact h.z l hl
   ·rw [List.length_set]; exact h.long _
 refine good_ite (fun _ => good_ite (fun _ => h.fin 2) (fun h64 => good_ite (fun _ => h.fin 3) (fun h32 => ?_))) (fun _ => ?_)
 ·refine GoodM.setA (s := { s with arrays := s.arrays ++ [List.replicate a.toNat 0] }) ⟨⟨h.f.i, h.f.b, h.f.a⟩, h.i, fun l hl => ?_, fun l hl => ?_, fun y hy => ?_, ?_, h.t, h.c, h.k⟩ _ ?_
  ·rcases List.mem_append.1 hl with hl | hl
   ·exact h.e l hl
   ·rw [List.mem_singleton.1 hl]; intro y hy; rw [List.eq_of_mem_replicate hy]; exact inI_zero
  ·rcases List.mem_append.1 hl with hl | hl
   ·exact h.z l hl
   ·rw [List.mem_singleton.1 hl, List.length_replicate]; omega
  ·have := h.a y hy; show _ ∧ _ < ((s.arrays ++ _).length : Int); rw [List.length_append]; constructor <;> omega
  ·show (s.arrays ++ _).length ≤ 32; rw [List.length_append, List.length_singleton]; omega
  ·show _ ∧ _ < ((s.arrays ++ _).length : Int); rw [List.length_append, List.length_singleton]; constructor <;> omega
 refine good_ite (fun _ => h.setA _ (by omega)) (fun _ => ?_)
 refine good_ite (fun _ => good_ite (fun _ => h.fin 3) (fun ht => h.out_ _ ?_ rfl)) (fun _ => h)
 show (s.out.trace ++ [a]).length ≤ 4096
 rw [List.length_append, List.length_singleton]; omega
theorem inst_good (h : GoodM n K s) {x : InstM} (hx : InstOK n ty x) (hn : inI x.num = true) : GoodM n (K + 1) (instM s x) := by
 unfold instM
 exact good_ite (fun _ => check_good h _ _) (fun _ => (raw_good h hx hn).more (Nat.le_succ K))
end
end Go.Proofs.YtjllbchfojonhaaGreatDoor
