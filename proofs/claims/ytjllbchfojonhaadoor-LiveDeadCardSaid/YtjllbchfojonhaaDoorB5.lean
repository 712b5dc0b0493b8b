/- A program's run, plainly: the mirror of the document's interpreter; Two runs side by side: an instruction, a block's end, of values that agree; Two runs of a slot program whose states agree on what is live: they come to the same; A program into which something is put where a variable isn't live, beside the program itself: they come to the same; What every state of a run keeps to. -/
import Derived.Test.YtjllbchfojonhaaDoorB2
import Derived.Test.YtjllbchfojonhaaDoorLiveOne
namespace Go.Proofs.YtjllbchfojonhaaDoor
set_option linter.unusedVariables false

def inI (n : Int) : Bool := decide (-9223372036854775808 ≤ n ∧ n ≤ 9223372036854775807)
def wrapI (n : Int) : Int := (n + 9223372036854775808) % 18446744073709551616 - 9223372036854775808
structure OutM where
 ending : Int
 value : Int
 trap : Int
 trace : List Int
 steps : Nat
 checks : List Nat
structure StM where
 ints : List Int
 bools : List Bool
 arrs : List Int
 arrays : List (List Int)
 block : Nat
 pc : Nat
 out : OutM
 ended : Bool
def StM.I (s : StM) (v : Int) : Int := s.ints[v.toNat]!
def StM.B (s : StM) (v : Int) : Bool := s.bools[v.toNat]!
def StM.A (s : StM) (v : Int) : Int := s.arrs[v.toNat]!
def StM.fin (s : StM) (e : Int) : StM := { s with out := { s.out with ending := e }, ended := true }
def StM.setI (s : StM) (d x : Int) : StM := { s with ints := s.ints.set d.toNat x }
def StM.setB (s : StM) (d : Int) (x : Bool) : StM := { s with bools := s.bools.set d.toNat x }
def StM.setA (s : StM) (d x : Int) : StM := { s with arrs := s.arrs.set d.toNat x }
def placeM (s : StM) (a i : Int) : Bool := decide (0 ≤ a) && decide (a < s.arrays.length) && decide (0 ≤ i) && decide (i < s.arrays[a.toNat]!.length)
def passM (s : StM) (op : Int) (l : List Int) : Bool :=
 let a := s.I l[0]!
 let b := if 1 < l.length then s.I l[1]! else 0
 if op = 18 then placeM s (s.A l[0]!) b
 else if op = 19 then decide (0 ≤ s.A l[0]!)
 else if op = 20 then !(a == 0)
 else if op = 21 then inI (a + b)
 else if op = 22 then inI (a - b)
 else if op = 23 then inI (a * b)
 else decide (0 ≤ a) && decide (a ≤ 64)
def checkM (s : StM) (op : Int) (l : List Int) : StM :=
 let t := (op - 17).toNat
 let s1 : StM := { s with out := { s.out with checks := s.out.checks.set t (s.out.checks[t]! + 1) } }
 if passM s op l = true then s1 else StM.fin { s1 with out := { s1.out with trap := op - 17 } } 1
def rawM (s : StM) (x : InstM) : StM :=
 let l := x.args.2
 let a := if 0 < l.length then s.I l[0]! else 0
 let p := if 0 < l.length then s.B l[0]! else false
 let arr := if 0 < l.length then s.A l[0]! else -1
 let b := if 1 < l.length then s.I l[1]! else 0
 let q := if 1 < l.length then s.B l[1]! else false
 let d := x.dst
 if x.op = 0 then s.setI d x.num
 else if x.op = 1 ∨ x.op = 25 ∨ x.op = 26 then ((s.setI d a).setB d p).setA d arr
 else if x.op = 2 then s.setI d (wrapI (a + b))
 else if x.op = 3 then s.setI d (wrapI (a - b))
 else if x.op = 4 then s.setI d (wrapI (a * b))
 else if x.op = 5 then if b = 0 then s.fin 2 else s.setI d (wrapI (a.tdiv b))
 else if x.op = 6 then if b = 0 then s.fin 2 else s.setI d (a.tmod b)
 else if x.op = 7 then s.setB d (a == b)
 else if x.op = 8 then s.setB d (decide (a < b))
 else if x.op = 9 then s.setB d (decide (a ≤ b))
 else if x.op = 10 then s.setB d (!p)
 else if x.op = 11 then s.setB d (p && q)
 else if x.op = 12 then if arr < 0 then s.fin 2 else s.setI d s.arrays[arr.toNat]!.length
 else if x.op = 13 then if placeM s arr b = true then s.setI d s.arrays[arr.toNat]![b.toNat]! else s.fin 2
 else if x.op = 14 then if placeM s arr b = true then { s with arrays := s.arrays.set arr.toNat (s.arrays[arr.toNat]!.set b.toNat (s.I l[2]!)) } else s.fin 2
 else if x.op = 15 then
  if a < 0 ∨ 64 < a then s.fin 2
  else if 32 ≤ s.arrays.length then s.fin 3
  else ({ s with arrays := s.arrays ++ [List.replicate a.toNat 0] }).setA d s.arrays.length
 else if x.op = 16 then s.setA d (-1)
 else if x.op = 17 then if 4096 ≤ s.out.trace.length then s.fin 3 else { s with out := { s.out with trace := s.out.trace ++ [a] } }
 else s
def instM (s : StM) (x : InstM) : StM := if 18 ≤ x.op ∧ x.op ≤ 24 then checkM s x.op x.args.2 else rawM s x
/-- the argument of a phi that comes from a block; none: there is no such pair -/
def phiArg (p : PhiM) (b : Nat) : Option Int :=
 ((List.range p.froms.2.length).find? fun i => p.froms.2[i]! == (b : Int)).map fun i => p.args.2[i]!
def phisTo (l : List PhiM) (old s : StM) (b : Nat) : StM :=
 l.foldl (fun s p => match phiArg p b with
  | some a => ((s.setI p.dst (old.I a)).setB p.dst (old.B a)).setA p.dst (old.A a)
  | none => s) s
def enterM (blk : Nat → BlockM) (s : StM) (to : Nat) : StM :=
 if ((blk to).phis.2.all fun p => (phiArg p s.block).isSome) = true then { phisTo (blk to).phis.2 s s s.block with block := to, pc := 0 }
 else StM.fin { s with block := to, pc := 0 } 2
def stepM (blk : Nat → BlockM) (s0 : StM) : StM :=
 let s : StM := { s0 with out := { s0.out with steps := s0.out.steps + 1 } }
 let b := blk s.block
 if s.pc < b.insts.2.length then instM { s with pc := s.pc + 1 } b.insts.2[s.pc]!
 else if b.kind = 2 then StM.fin { s with out := { s.out with value := s.I b.var } } 0
 else if b.kind = 0 ∨ s.B b.var = true then enterM blk s b.to0.toNat
 else enterM blk s b.to1.toNat
def runM (blk : Nat → BlockM) : Nat → StM → StM
 | 0, s => s
 | k + 1, s => if s.ended = true then s else runM blk k (stepM blk s)
end Go.Proofs.YtjllbchfojonhaaDoor
namespace Go.Proofs.YtjllbchfojonhaaDoor
set_option linter.unusedVariables false
set_option linter.unusedSimpArgs false

def sigT : Nat → List Int
 | 2 => [0, 0] | 3 => [0, 0] | 4 => [0, 0] | 5 => [0, 0] | 6 => [0, 0] | 7 => [0, 0] | 8 => [0, 0] | 9 => [0, 0]
 | 10 => [1] | 11 => [1, 1] | 12 => [2] | 13 => [2, 0] | 14 => [2, 0, 0] | 15 => [0] | 17 => [0]
 | 18 => [2, 0] | 19 => [2] | 20 => [0] | 21 => [0, 0] | 22 => [0, 0] | 23 => [0, 0] | 24 => [0] | 25 => [0, 0] | 26 => [0, 2]
 | _ => []
def sigD : Nat → Option Int
 | 0 => some 0 | 2 => some 0 | 3 => some 0 | 4 => some 0 | 5 => some 0 | 6 => some 0
 | 7 => some 1 | 8 => some 1 | 9 => some 1 | 10 => some 1 | 11 => some 1
 | 12 => some 0 | 13 => some 0 | 15 => some 2 | 16 => some 2 | 25 => some 0 | 26 => some 0
 | _ => none
def okD (n : Nat) (ty : Int → Int) (d : Int) : Option Int → Prop
 | some t => 0 ≤ d ∧ d < (n : Int) ∧ ty d = t
 | none => d = -1
/-- a typed instruction -/
structure InstOK (n : Nat) (ty : Int → Int) (x : InstM) : Prop where
 op : 0 ≤ x.op ∧ x.op < 27
 arg : ∀ a ∈ x.args.2, 0 ≤ a ∧ a < (n : Int)
 copy : x.op = 1 → x.args.2.length = 1 ∧ 0 ≤ x.dst ∧ x.dst < (n : Int) ∧ ty x.dst = ty x.args.2[0]!
 len : x.op ≠ 1 → x.args.2.length = (sigT x.op.toNat).length
 typ : x.op ≠ 1 → ∀ i, i < x.args.2.length → ty x.args.2[i]! = (sigT x.op.toNat)[i]!
 dst : x.op ≠ 1 → okD n ty x.dst (sigD x.op.toNat)
structure Ag (ty : Int → Int) (s s' : StM) (v : Int) : Prop where
 i : ty v = 0 → s.I v = s'.I v
 b : ty v = 1 → s.B v = s'.B v
 a : ty v = 2 → s.A v = s'.A v
/-- a state of n variables -/
structure Full (n : Nat) (s : StM) : Prop where
 i : s.ints.length = n
 b : s.bools.length = n
 a : s.arrs.length = n
structure Rest (s s' : StM) : Prop where
 arrays : s.arrays = s'.arrays
 block : s.block = s'.block
 pc : s.pc = s'.pc
 out : s.out = s'.out
 ended : s.ended = s'.ended
section
variable {n : Nat} {ty : Int → Int} {s s' : StM}
theorem getset {α : Type} [Inhabited α] (l : List α) {d v : Int} (x : α) (hd : 0 ≤ d ∧ d < (l.length : Int)) (hv : 0 ≤ v) : (l.set d.toNat x)[v.toNat]! = if v = d then x else l[v.toNat]! := by
 by_cases h : v.toNat < l.length
 ·rw [getElem!_pos _ _ (by simpa using h), getElem!_pos l _ h, List.getElem_set]
  by_cases e : v = d
  ·subst e; simp
  ·rw [if_neg e, if_neg (by omega)]
 ·rw [getElem!_neg _ _ (by simpa using h), getElem!_neg l _ h, if_neg (by omega)]
theorem I_setI (s : StM) {d v : Int} (x : Int) (hd : 0 ≤ d ∧ d < (s.ints.length : Int)) (hv : 0 ≤ v) : (s.setI d x).I v = if v = d then x else s.I v := getset s.ints x hd hv
theorem B_setB (s : StM) {d v : Int} (x : Bool) (hd : 0 ≤ d ∧ d < (s.bools.length : Int)) (hv : 0 ≤ v) : (s.setB d x).B v = if v = d then x else s.B v := getset s.bools x hd hv
theorem A_setA (s : StM) {d v : Int} (x : Int) (hd : 0 ≤ d ∧ d < (s.arrs.length : Int)) (hv : 0 ≤ v) : (s.setA d x).A v = if v = d then x else s.A v := getset s.arrs x hd hv
theorem Full.setI (h : Full n s) (d x : Int) : Full n (s.setI d x) := ⟨by show (s.ints.set _ _).length = n; rw [List.length_set, h.i], h.b, h.a⟩
theorem Full.setB (h : Full n s) (d : Int) (x : Bool) : Full n (s.setB d x) := ⟨h.i, by show (s.bools.set _ _).length = n; rw [List.length_set, h.b], h.a⟩
theorem Full.setA (h : Full n s) (d x : Int) : Full n (s.setA d x) := ⟨h.i, h.b, by show (s.arrs.set _ _).length = n; rw [List.length_set, h.a]⟩
theorem Full.fin (h : Full n s) (e : Int) : Full n (s.fin e) := ⟨h.i, h.b, h.a⟩
theorem Rest.setI (h : Rest s s') (d x y : Int) : Rest (s.setI d x) (s'.setI d y) := ⟨h.arrays, h.block, h.pc, h.out, h.ended⟩
theorem Rest.setB (h : Rest s s') (d : Int) (x y : Bool) : Rest (s.setB d x) (s'.setB d y) := ⟨h.arrays, h.block, h.pc, h.out, h.ended⟩
theorem Rest.setA (h : Rest s s') (d x y : Int) : Rest (s.setA d x) (s'.setA d y) := ⟨h.arrays, h.block, h.pc, h.out, h.ended⟩
theorem Rest.fin (h : Rest s s') (e : Int) : Rest (s.fin e) (s'.fin e) := ⟨h.arrays, h.block, h.pc, by show { s.out with ending := e } = { s'.out with ending := e }; rw [h.out], rfl⟩
/-- what a step of both keeps: D: the variable that is made -/
structure Sim (n : Nat) (ty : Int → Int) (s s' t t' : StM) (D : Int) : Prop where
 f : Full n t
 f' : Full n t'
 r : Rest t t'
 ag : t.ended = false → ∀ v, 0 ≤ v → v = D ∨ Ag ty s s' v → Ag ty t t' v
theorem Sim.fin (f : Full n s) (f' : Full n s') (r : Rest s s') (e D : Int) : Sim n ty s s' (s.fin e) (s'.fin e) D := ⟨f.fin e, f'.fin e, r.fin e, fun h => by cases h⟩
theorem Sim.setI (f : Full n s) (f' : Full n s') (r : Rest s s') {d x y : Int} (hd : 0 ≤ d ∧ d < (n : Int) ∧ ty d = 0) (h : x = y) : Sim n ty s s' (s.setI d x) (s'.setI d y) d := by
 subst h
 refine ⟨f.setI d x, f'.setI d x, r.setI d x x, fun _ v hv h => ?_⟩
 have e1 := I_setI s x (d := d) (v := v) (by rw [f.i]; omega) hv
 have e2 := I_setI s' x (d := d) (v := v) (by rw [f'.i]; omega) hv
 by_cases e : v = d
 ·subst e
  refine ⟨fun _ => by rw [e1, e2, if_pos rfl, if_pos rfl], fun h2 => ?_, fun h2 => ?_⟩ <;> exact absurd h2 (by omega)
 ·rcases h with h | h
  ·exact absurd h e
  ·exact ⟨fun h2 => by rw [e1, e2, if_neg e, if_neg e]; exact h.i h2, h.b, h.a⟩
theorem Sim.setB (f : Full n s) (f' : Full n s') (r : Rest s s') {d : Int} {x y : Bool} (hd : 0 ≤ d ∧ d < (n : Int) ∧ ty d = 1) (h : x = y) : Sim n ty s s' (s.setB d x) (s'.setB d y) d := by
 subst h
 refine ⟨f.setB d x, f'.setB d x, r.setB d x x, fun _ v hv h => ?_⟩
 have e1 := B_setB s x (d := d) (v := v) (by rw [f.b]; omega) hv
 have e2 := B_setB s' x (d := d) (v := v) (by rw [f'.b]; omega) hv
 by_cases e : v = d
 ·subst e
  refine ⟨fun h2 => ?_, fun _ => by rw [e1, e2, if_pos rfl, if_pos rfl], fun h2 => ?_⟩ <;> exact absurd h2 (by omega)
 ·rcases h with h | h
  ·exact absurd h e
  ·exact ⟨h.i, fun h2 => by rw [e1, e2, if_neg e, if_neg e]; exact h.b h2, h.a⟩
theorem Sim.setA (f : Full n s) (f' : Full n s') (r : Rest s s') {d x y : Int} (hd : 0 ≤ d ∧ d < (n : Int) ∧ ty d = 2) (h : x = y) : Sim n ty s s' (s.setA d x) (s'.setA d y) d := by
 subst h
 refine ⟨f.setA d x, f'.setA d x, r.setA d x x, fun _ v hv h => ?_⟩
 have e1 := A_setA s x (d := d) (v := v) (by rw [f.a]; omega) hv
 have e2 := A_setA s' x (d := d) (v := v) (by rw [f'.a]; omega) hv
 by_cases e : v = d
 ·subst e
  refine ⟨fun h2 => ?_, fun h2 => ?_, fun _ => by rw [e1, e2, if_pos rfl, if_pos rfl]⟩ <;> exact absurd h2 (by omega)
 ·rcases h with h | h
  ·exact absurd h e
  ·exact ⟨h.i, h.b, fun h2 => by rw [e1, e2, if_neg e, if_neg e]; exact h.a h2⟩
/-- all three values of a variable put into another -/
theorem Sim.three (f : Full n s) (f' : Full n s') (r : Rest s s') {d a : Int} (u u' : StM) (hd : 0 ≤ d ∧ d < (n : Int)) (ht : ty d = ty a) (h : Ag ty u u' a) :
  Sim n ty s s' (((s.setI d (u.I a)).setB d (u.B a)).setA d (u.A a)) (((s'.setI d (u'.I a)).setB d (u'.B a)).setA d (u'.A a)) d := by
 refine ⟨((f.setI _ _).setB _ _).setA _ _, ((f'.setI _ _).setB _ _).setA _ _, ((r.setI _ _ _).setB _ _ _).setA _ _ _, fun _ v hv h3 => ?_⟩
 have i1 : (((s.setI d (u.I a)).setB d (u.B a)).setA d (u.A a)).I v = if v = d then u.I a else s.I v := I_setI s _ (by rw [f.i]; omega) hv
 have i2 : (((s'.setI d (u'.I a)).setB d (u'.B a)).setA d (u'.A a)).I v = if v = d then u'.I a else s'.I v := I_setI s' _ (by rw [f'.i]; omega) hv
 have b1 : (((s.setI d (u.I a)).setB d (u.B a)).setA d (u.A a)).B v = if v = d then u.B a else s.B v := B_setB s _ (by rw [f.b]; omega) hv
 have b2 : (((s'.setI d (u'.I a)).setB d (u'.B a)).setA d (u'.A a)).B v = if v = d then u'.B a else s'.B v := B_setB s' _ (by rw [f'.b]; omega) hv
 have a1 : (((s.setI d (u.I a)).setB d (u.B a)).setA d (u.A a)).A v = if v = d then u.A a else s.A v := A_setA s _ (by rw [f.a]; omega) hv
 have a2 : (((s'.setI d (u'.I a)).setB d (u'.B a)).setA d (u'.A a)).A v = if v = d then u'.A a else s'.A v := A_setA s' _ (by rw [f'.a]; omega) hv
 by_cases e : v = d
 ·subst e
  refine ⟨fun h2 => ?_, fun h2 => ?_, fun h2 => ?_⟩
  ·rw [i1, i2, if_pos rfl, if_pos rfl]; exact h.i (ht ▸ h2)
  ·rw [b1, b2, if_pos rfl, if_pos rfl]; exact h.b (ht ▸ h2)
  ·rw [a1, a2, if_pos rfl, if_pos rfl]; exact h.a (ht ▸ h2)
 ·rcases h3 with h3 | h3
  ·exact absurd h3 e
  ·refine ⟨fun h2 => ?_, fun h2 => ?_, fun h2 => ?_⟩
   ·rw [i1, i2, if_neg e, if_neg e]; exact h3.i h2
   ·rw [b1, b2, if_neg e, if_neg e]; exact h3.b h2
   ·rw [a1, a2, if_neg e, if_neg e]; exact h3.a h2
theorem place_rest (r : Rest s s') (a i : Int) : placeM s a i = placeM s' a i := by unfold placeM; rw [r.arrays]
/-- nothing but what came of it is turned -/
theorem Sim.out (f : Full n s) (f' : Full n s') (r : Rest s s') (o : OutM) (D : Int) (hD : D = -1) : Sim n ty s s' { s with out := o } { s' with out := o } D :=
 ⟨⟨f.i, f.b, f.a⟩, ⟨f'.i, f'.b, f'.a⟩, ⟨r.arrays, r.block, r.pc, rfl, r.ended⟩, fun _ v hv h => by
  rcases h with h | h
  ·omega
  ·exact ⟨h.i, h.b, h.a⟩⟩
theorem op_cases {z : Int} (h : 0 ≤ z ∧ z < 27) : z = 0 ∨ z = 1 ∨ z = 2 ∨ z = 3 ∨ z = 4 ∨ z = 5 ∨ z = 6 ∨ z = 7 ∨ z = 8 ∨ z = 9 ∨ z = 10 ∨ z = 11 ∨ z = 12 ∨ z = 13 ∨ z = 14 ∨ z = 15 ∨ z = 16 ∨ z = 17 ∨ z = 18 ∨ z = 19 ∨ z = 20 ∨ z = 21 ∨ z = 22 ∨ z = 23 ∨ z = 24 ∨ z = 25 ∨ z = 26 := by omega
theorem check_sim (f : Full n s) (f' : Full n s') (r : Rest s s') (x : InstM) (hd : x.dst = -1) (hp : passM s x.op x.args.2 = passM s' x.op x.args.2) : Sim n ty s s' (checkM s x.op x.args.2) (checkM s' x.op x.args.2) x.dst := by
 unfold checkM
 simp only
 rw [hp, r.out]
 split
 ·exact Sim.out f f' r _ _ hd
 ·have h := Sim.out (ty := ty) f f' r { s'.out with checks := s'.out.checks.set (x.op - 17).toNat (s'.out.checks[(x.op - 17).toNat]! + 1), trap := x.op - 17 } x.dst hd
  exact ⟨h.f.fin 1, h.f'.fin 1, h.r.fin 1, fun h => by cases h⟩
theorem nth_mem {l : List Int} {i : Nat} (h : i < l.length) : l[i]! ∈ l := by rw [getElem!_pos l i h]; exact List.getElem_mem h
set_option maxHeartbeats 2000000 in
/-- an instruction of both -/
theorem inst_sim (f : Full n s) (f' : Full n s') (r : Rest s s') {x : InstM} (hx : InstOK n ty x) (ha : ∀ a ∈ x.args.2, Ag ty s s' a) : Sim n ty s s' (instM s x) (instM s' x) x.dst := by
 obtain ⟨op, dst, ⟨av, l⟩, num⟩ := x
 obtain ⟨h1, h2, h3, h4, h5, h6⟩ := hx
 simp only at h1 h2 h3 h4 h5 h6 ha ⊢
 have hag : ∀ i, i < l.length → Ag ty s s' l[i]! := fun i hi => ha _ (nth_mem hi)
 clear ha h2
 rcases op_cases h1 with rfl | rfl | rfl | rfl | rfl | rfl | rfl | rfl | rfl | rfl | rfl | rfl | rfl | rfl | rfl | rfl | rfl | rfl | rfl | rfl | rfl | rfl | rfl | rfl | rfl | rfl | rfl
 ·have hl : l.length = 0 := h4 (by decide)
  have hd := h6 (by decide)
  have hu : ∀ s : StM, instM s ⟨0, dst, (av, l), num⟩ = s.setI dst num := fun s => by simp [instM, rawM, hl]
  rw [hu, hu]
  exact Sim.setI f f' r hd rfl
 ·obtain ⟨hl, hd0, hd1, ht⟩ := h3 rfl
  have e0 := hag 0 (by omega)
  have hu : ∀ s : StM, instM s ⟨1, dst, (av, l), num⟩ = ((s.setI dst (s.I l[0]!)).setB dst (s.B l[0]!)).setA dst (s.A l[0]!) := fun s => by simp [instM, rawM, hl]
  rw [hu, hu]
  exact Sim.three f f' r s s' ⟨hd0, hd1⟩ ht e0
 ·have hl : l.length = 2 := h4 (by decide)
  have hd := h6 (by decide)
  have e0 := (hag 0 (by omega)).i (h5 (by decide) 0 (by omega))
  have e1 := (hag 1 (by omega)).i (h5 (by decide) 1 (by omega))
  have hu : ∀ s : StM, instM s ⟨2, dst, (av, l), num⟩ = s.setI dst (wrapI (s.I l[0]! + s.I l[1]!)) := fun s => by simp [instM, rawM, hl]
  rw [hu, hu]
  exact Sim.setI f f' r hd (by rw [e0, e1])
 ·have hl : l.length = 2 := h4 (by decide)
  have hd := h6 (by decide)
  have e0 := (hag 0 (by omega)).i (h5 (by decide) 0 (by omega))
  have e1 := (hag 1 (by omega)).i (h5 (by decide) 1 (by omega))
  have hu : ∀ s : StM, instM s ⟨3, dst, (av, l), num⟩ = s.setI dst (wrapI (s.I l[0]! - s.I l[1]!)) := fun s => by simp [instM, rawM, hl]
  rw [hu, hu]
  exact Sim.setI f f' r hd (by rw [e0, e1])
 ·have hl : l.length = 2 := h4 (by decide)
  have hd := h6 (by decide)
  have e0 := (hag 0 (by omega)).i (h5 (by decide) 0 (by omega))
  have e1 := (hag 1 (by omega)).i (h5 (by decide) 1 (by omega))
  have hu : ∀ s : StM, instM s ⟨4, dst, (av, l), num⟩ = s.setI dst (wrapI (s.I l[0]! * s.I l[1]!)) := fun s => by simp [instM, rawM, hl]
  rw [hu, hu]
  exact Sim.setI f f' r hd (by rw [e0, e1])
 ·have hl : l.length = 2 := h4 (by decide)
  have hd := h6 (by decide)
  have e0 := (hag 0 (by omega)).i (h5 (by decide) 0 (by omega))
  have e1 := (hag 1 (by omega)).i (h5 (by decide) 1 (by omega))
  have hu : ∀ s : StM, instM s ⟨5, dst, (av, l), num⟩ = if s.I l[1]! = 0 then s.fin 2 else s.setI dst (wrapI ((s.I l[0]!).tdiv (s.I l[1]!))) := fun s => by simp [instM, rawM, hl]
  rw [hu, hu]
  rw [e1]
  split
  ·exact Sim.fin f f' r 2 _
  ·exact Sim.setI f f' r hd (by rw [e0])
 ·have hl : l.length = 2 := h4 (by decide)
  have hd := h6 (by decide)
  have e0 := (hag 0 (by omega)).i (h5 (by decide) 0 (by omega))
  have e1 := (hag 1 (by omega)).i (h5 (by decide) 1 (by omega))
  have hu : ∀ s : StM, instM s ⟨6, dst, (av, l), num⟩ = if s.I l[1]! = 0 then s.fin 2 else s.setI dst ((s.I l[0]!).tmod (s.I l[1]!)) := fun s => by simp [instM, rawM, hl]
  rw [hu, hu]
  rw [e1]
  split
  ·exact Sim.fin f f' r 2 _
  ·exact Sim.setI f f' r hd (by rw [e0])
 ·have hl : l.length = 2 := h4 (by decide)
  have hd := h6 (by decide)
  have e0 := (hag 0 (by omega)).i (h5 (by decide) 0 (by omega))
  have e1 := (hag 1 (by omega)).i (h5 (by decide) 1 (by omega))
  have hu : ∀ s : StM, instM s ⟨7, dst, (av, l), num⟩ = s.setB dst (s.I l[0]! == s.I l[1]!) := fun s => by simp [instM, rawM, hl]
  rw [hu, hu]
  exact Sim.setB f f' r hd (by rw [e0, e1])
 ·have hl : l.length = 2 := h4 (by decide)
  have hd := h6 (by decide)
  have e0 := (hag 0 (by omega)).i (h5 (by decide) 0 (by omega))
  have e1 := (hag 1 (by omega)).i (h5 (by decide) 1 (by omega))
  have hu : ∀ s : StM, instM s ⟨8, dst, (av, l), num⟩ = s.setB dst (decide (s.I l[0]! < s.I l[1]!)) := fun s => by simp [instM, rawM, hl]
  rw [hu, hu]
  exact Sim.setB f f' r hd (by rw [e0, e1])
 ·have hl : l.length = 2 := h4 (by decide)
  have hd := h6 (by decide)
  have e0 := (hag 0 (by omega)).i (h5 (by decide) 0 (by omega))
  have e1 := (hag 1 (by omega)).i (h5 (by decide) 1 (by omega))
  have hu : ∀ s : StM, instM s ⟨9, dst, (av, l), num⟩ = s.setB dst (decide (s.I l[0]! ≤ s.I l[1]!)) := fun s => by simp [instM, rawM, hl]
  rw [hu, hu]
  exact Sim.setB f f' r hd (by rw [e0, e1])
 ·have hl : l.length = 1 := h4 (by decide)
  have hd := h6 (by decide)
  have e0 := (hag 0 (by omega)).b (h5 (by decide) 0 (by omega))
  have hu : ∀ s : StM, instM s ⟨10, dst, (av, l), num⟩ = s.setB dst (!(s.B l[0]!)) := fun s => by simp [instM, rawM, hl]
  rw [hu, hu]
  exact Sim.setB f f' r hd (by rw [e0])
 ·have hl : l.length = 2 := h4 (by decide)
  have hd := h6 (by decide)
  have e0 := (hag 0 (by omega)).b (h5 (by decide) 0 (by omega))
  have e1 := (hag 1 (by omega)).b (h5 (by decide) 1 (by omega))
  have hu : ∀ s : StM, instM s ⟨11, dst, (av, l), num⟩ = s.setB dst (s.B l[0]! && s.B l[1]!) := fun s => by simp [instM, rawM, hl]
  rw [hu, hu]
  exact Sim.setB f f' r hd (by rw [e0, e1])
 ·have hl : l.length = 1 := h4 (by decide)
  have hd := h6 (by decide)
  have e0 := (hag 0 (by omega)).a (h5 (by decide) 0 (by omega))
  have hu : ∀ s : StM, instM s ⟨12, dst, (av, l), num⟩ = if s.A l[0]! < 0 then s.fin 2 else s.setI dst s.arrays[(s.A l[0]!).toNat]!.length := fun s => by simp [instM, rawM, hl]
  rw [hu, hu]
  rw [e0, r.arrays]
  split
  ·exact Sim.fin f f' r 2 _
  ·exact Sim.setI f f' r hd rfl
 ·have hl : l.length = 2 := h4 (by decide)
  have hd := h6 (by decide)
  have e0 := (hag 0 (by omega)).a (h5 (by decide) 0 (by omega))
  have e1 := (hag 1 (by omega)).i (h5 (by decide) 1 (by omega))
  have hu : ∀ s : StM, instM s ⟨13, dst, (av, l), num⟩ = if placeM s (s.A l[0]!) (s.I l[1]!) = true then s.setI dst s.arrays[(s.A l[0]!).toNat]![(s.I l[1]!).toNat]! else s.fin 2 := fun s => by simp [instM, rawM, hl]
  rw [hu, hu]
  rw [e0, e1, place_rest r, r.arrays]
  split
  ·exact Sim.setI f f' r hd rfl
  ·exact Sim.fin f f' r 2 _
 ·have hl : l.length = 3 := h4 (by decide)
  have hd := h6 (by decide)
  have e0 := (hag 0 (by omega)).a (h5 (by decide) 0 (by omega))
  have e1 := (hag 1 (by omega)).i (h5 (by decide) 1 (by omega))
  have e2 := (hag 2 (by omega)).i (h5 (by decide) 2 (by omega))
  have hu : ∀ s : StM, instM s ⟨14, dst, (av, l), num⟩ = if placeM s (s.A l[0]!) (s.I l[1]!) = true then { s with arrays := s.arrays.set (s.A l[0]!).toNat (s.arrays[(s.A l[0]!).toNat]!.set (s.I l[1]!).toNat (s.I l[2]!)) } else s.fin 2 := fun s => by simp [instM, rawM, hl]
  rw [hu, hu]
  rw [e0, e1, e2, place_rest r, r.arrays]
  split
  ·refine ⟨⟨f.i, f.b, f.a⟩, ⟨f'.i, f'.b, f'.a⟩, ⟨rfl, r.block, r.pc, r.out, r.ended⟩, fun _ v hv h => ?_⟩
   rcases h with h | h
   ·have h7 : dst = -1 := hd
    exact absurd hv (by omega)
   ·exact ⟨h.i, h.b, h.a⟩
  ·exact Sim.fin f f' r 2 _
 ·have hl : l.length = 1 := h4 (by decide)
  have hd := h6 (by decide)
  have e0 := (hag 0 (by omega)).i (h5 (by decide) 0 (by omega))
  have hu : ∀ s : StM, instM s ⟨15, dst, (av, l), num⟩ = if s.I l[0]! < 0 ∨ 64 < s.I l[0]! then s.fin 2 else if 32 ≤ s.arrays.length then s.fin 3 else ({ s with arrays := s.arrays ++ [List.replicate (s.I l[0]!).toNat 0] } : StM).setA dst s.arrays.length := fun s => by simp [instM, rawM, hl]
  rw [hu, hu]
  rw [e0, r.arrays]
  split
  ·exact Sim.fin f f' r 2 _
  split
  ·exact Sim.fin f f' r 3 _
  ·have g : Full n ({ s with arrays := s'.arrays ++ [List.replicate (s'.I l[0]!).toNat 0] } : StM) := ⟨f.i, f.b, f.a⟩
   have g' : Full n ({ s' with arrays := s'.arrays ++ [List.replicate (s'.I l[0]!).toNat 0] } : StM) := ⟨f'.i, f'.b, f'.a⟩
   have h8 := Sim.setA (ty := ty) (x := s'.arrays.length) (y := s'.arrays.length) g g' ⟨rfl, r.block, r.pc, r.out, r.ended⟩ hd rfl
   exact ⟨h8.f, h8.f', h8.r, fun h v hv h9 => h8.ag h v hv (h9.imp id fun h => ⟨h.i, h.b, h.a⟩)⟩
 ·have hl : l.length = 0 := h4 (by decide)
  have hd := h6 (by decide)
  have hu : ∀ s : StM, instM s ⟨16, dst, (av, l), num⟩ = s.setA dst (-1) := fun s => by simp [instM, rawM, hl]
  rw [hu, hu]
  exact Sim.setA f f' r hd rfl
 ·have hl : l.length = 1 := h4 (by decide)
  have hd := h6 (by decide)
  have e0 := (hag 0 (by omega)).i (h5 (by decide) 0 (by omega))
  have hu : ∀ s : StM, instM s ⟨17, dst, (av, l), num⟩ = if 4096 ≤ s.out.trace.length then s.fin 3 else { s with out := { s.out with trace := s.out.trace ++ [s.I l[0]!] } } := fun s => by simp [instM, rawM, hl]
  rw [hu, hu]
  rw [e0, r.out]
  split
  ·exact Sim.fin f f' r 3 _
  ·exact Sim.out f f' r _ _ hd
 ·have hl : l.length = 2 := h4 (by decide)
  have hd := h6 (by decide)
  have e0 := (hag 0 (by omega)).a (h5 (by decide) 0 (by omega))
  have e1 := (hag 1 (by omega)).i (h5 (by decide) 1 (by omega))
  have hu : ∀ s : StM, passM s 18 l = (placeM s (s.A l[0]!) (s.I l[1]!)) := fun s => by simp [passM, hl]
  have hp : passM s 18 l = passM s' 18 l := by rw [hu, hu, e0, e1, place_rest r]
  exact check_sim f f' r ⟨18, dst, (av, l), num⟩ hd hp
 ·have hl : l.length = 1 := h4 (by decide)
  have hd := h6 (by decide)
  have e0 := (hag 0 (by omega)).a (h5 (by decide) 0 (by omega))
  have hu : ∀ s : StM, passM s 19 l = (decide (0 ≤ s.A l[0]!)) := fun s => by simp [passM, hl]
  have hp : passM s 19 l = passM s' 19 l := by rw [hu, hu, e0]
  exact check_sim f f' r ⟨19, dst, (av, l), num⟩ hd hp
 ·have hl : l.length = 1 := h4 (by decide)
  have hd := h6 (by decide)
  have e0 := (hag 0 (by omega)).i (h5 (by decide) 0 (by omega))
  have hu : ∀ s : StM, passM s 20 l = (!(s.I l[0]! == 0)) := fun s => by simp [passM, hl]
  have hp : passM s 20 l = passM s' 20 l := by rw [hu, hu, e0]
  exact check_sim f f' r ⟨20, dst, (av, l), num⟩ hd hp
 ·have hl : l.length = 2 := h4 (by decide)
  have hd := h6 (by decide)
  have e0 := (hag 0 (by omega)).i (h5 (by decide) 0 (by omega))
  have e1 := (hag 1 (by omega)).i (h5 (by decide) 1 (by omega))
  have hu : ∀ s : StM, passM s 21 l = (inI (s.I l[0]! + s.I l[1]!)) := fun s => by simp [passM, hl]
  have hp : passM s 21 l = passM s' 21 l := by rw [hu, hu, e0, e1]
  exact check_sim f f' r ⟨21, dst, (av, l), num⟩ hd hp
 ·have hl : l.length = 2 := h4 (by decide)
  have hd := h6 (by decide)
  have e0 := (hag 0 (by omega)).i (h5 (by decide) 0 (by omega))
  have e1 := (hag 1 (by omega)).i (h5 (by decide) 1 (by omega))
  have hu : ∀ s : StM, passM s 22 l = (inI (s.I l[0]! - s.I l[1]!)) := fun s => by simp [passM, hl]
  have hp : passM s 22 l = passM s' 22 l := by rw [hu, hu, e0, e1]
  exact check_sim f f' r ⟨22, dst, (av, l), num⟩ hd hp
 ·have hl : l.length = 2 := h4 (by decide)
  have hd := h6 (by decide)
  have e0 := (hag 0 (by omega)).i (h5 (by decide) 0 (by omega))
  have e1 := (hag 1 (by omega)).i (h5 (by decide) 1 (by omega))
  have hu : ∀ s : StM, passM s 23 l = (inI (s.I l[0]! * s.I l[1]!)) := fun s => by simp [passM, hl]
  have hp : passM s 23 l = passM s' 23 l := by rw [hu, hu, e0, e1]
  exact check_sim f f' r ⟨23, dst, (av, l), num⟩ hd hp
 ·have hl : l.length = 1 := h4 (by decide)
  have hd := h6 (by decide)
  have e0 := (hag 0 (by omega)).i (h5 (by decide) 0 (by omega))
  have hu : ∀ s : StM, passM s 24 l = ((decide (0 ≤ s.I l[0]!) && decide (s.I l[0]! ≤ 64))) := fun s => by simp [passM, hl]
  have hp : passM s 24 l = passM s' 24 l := by rw [hu, hu, e0]
  exact check_sim f f' r ⟨24, dst, (av, l), num⟩ hd hp
 ·have hl : l.length = 2 := h4 (by decide)
  have hd := h6 (by decide)
  have e0 := (hag 0 (by omega)).i (h5 (by decide) 0 (by omega))
  have e1 := (hag 1 (by omega)).i (h5 (by decide) 1 (by omega))
  have e9 := hag 0 (by omega)
  have h9 := h5 (by decide) 0 (by omega)
  have hu : ∀ s : StM, instM s ⟨25, dst, (av, l), num⟩ = ((s.setI dst (s.I l[0]!)).setB dst (s.B l[0]!)).setA dst (s.A l[0]!) := fun s => by simp [instM, rawM, hl]
  rw [hu, hu]
  exact Sim.three f f' r s s' ⟨hd.1, hd.2.1⟩ (hd.2.2.trans h9.symm) e9
 ·have hl : l.length = 2 := h4 (by decide)
  have hd := h6 (by decide)
  have e0 := (hag 0 (by omega)).i (h5 (by decide) 0 (by omega))
  have e1 := (hag 1 (by omega)).a (h5 (by decide) 1 (by omega))
  have e9 := hag 0 (by omega)
  have h9 := h5 (by decide) 0 (by omega)
  have hu : ∀ s : StM, instM s ⟨26, dst, (av, l), num⟩ = ((s.setI dst (s.I l[0]!)).setB dst (s.B l[0]!)).setA dst (s.A l[0]!) := fun s => by simp [instM, rawM, hl]
  rw [hu, hu]
  exact Sim.three f f' r s s' ⟨hd.1, hd.2.1⟩ (hd.2.2.trans h9.symm) e9
end
end Go.Proofs.YtjllbchfojonhaaDoor
namespace Go.Proofs.YtjllbchfojonhaaDoor
set_option linter.unusedVariables false
set_option linter.unusedSimpArgs false

/-- the beginning -/
structure ArgM where
  int : Int
  bool : Bool
  arr : Int
instance : Inhabited ArgM := ⟨⟨0, false, 0⟩⟩
def beginM (n : Nat) (ty : Int → Int) (args : List ArgM) (arrays : List (List Int)) : StM :=
  { ints := (List.range n).map fun i => if i < args.length ∧ ty i = 0 then args[i]!.int else 0
    bools := (List.range n).map fun i => if i < args.length ∧ ty i = 1 then args[i]!.bool else false
    arrs := (List.range n).map fun i => if i < args.length ∧ ¬ ty i = 0 ∧ ¬ ty i = 1 then args[i]!.arr else -1
    arrays := arrays, block := 0, pc := 0
    out := { ending := 3, value := 0, trap := 0, trace := [], steps := 0, checks := [0, 0, 0, 0, 0, 0, 0, 0] }
    ended := false }
/-- a block of a typed slot program -/
structure BlockOK (nb n : Nat) (ty : Int → Int) (b : BlockM) : Prop where
  inst : ∀ x ∈ b.insts.2, InstOK n ty x
  kind : b.kind = 0 ∨ b.kind = 1 ∨ b.kind = 2
  jump : b.kind = 0 → 0 ≤ b.to0 ∧ b.to0 < (nb : Int)
  iff : b.kind = 1 → 0 ≤ b.to0 ∧ b.to0 < (nb : Int) ∧ 0 ≤ b.to1 ∧ b.to1 < (nb : Int) ∧ 0 ≤ b.var ∧ b.var < (n : Int) ∧ ty b.var = 1
  ret : b.kind = 2 → 0 ≤ b.var ∧ b.var < (n : Int) ∧ ty b.var = 0
def Stays (s t : StM) : Prop := t.block = s.block ∧ t.pc = s.pc
theorem stays_ite {s a b : StM} {c : Prop} [Decidable c] (h1 : Stays s a) (h2 : Stays s b) : Stays s (if c then a else b) := by split <;> assumption
theorem raw_stays (s : StM) (x : InstM) : Stays s (rawM s x) := by
  unfold rawM
  simp only
  repeat' (first | exact ⟨rfl, rfl⟩ | apply stays_ite)
theorem check_stays (s : StM) (op : Int) (l : List Int) : Stays s (checkM s op l) := by
  unfold checkM
  simp only
  repeat' (first | exact ⟨rfl, rfl⟩ | apply stays_ite)
theorem inst_stays (s : StM) (x : InstM) : (instM s x).block = s.block ∧ (instM s x).pc = s.pc := stays_ite (check_stays _ _ _) (raw_stays _ _)
theorem thr_step (b : BlockM) (v : Int) (p : Nat) (hp : p < b.insts.2.length) : thr b v p = if b.insts.2[p]!.args.2.contains v = true then 1 else if b.insts.2[p]!.dst = v then 2 else thr b v (p + 1) := by
  unfold thr
  rw [List.drop_eq_getElem_cons hp, getElem!_pos b.insts.2 p hp]
  rfl
theorem thr_end (b : BlockM) (v : Int) (p : Nat) (hp : b.insts.2.length ≤ p) : thr b v p = if termTakes b v = true then 1 else 0 := by
  unfold thr
  rw [List.drop_eq_nil_of_le hp]
  rfl
section
variable {blk : Nat → BlockM} {nb n : Nat} {ty : Int → Int} {s s' : StM}
structure SimL (blk : Nat → BlockM) (nb n : Nat) (ty : Int → Int) (s s' : StM) : Prop where
  f : Full n s
  f' : Full n s'
  r : Rest s s'
  lt : s.block < nb
  ag : s.ended = false → ∀ v : Nat, v < n → liveB blk v s.block s.pc = true → Ag ty s s' (v : Int)
theorem live_taken {b p : Nat} {v : Nat} (hp : p < (blk b).insts.2.length) (h : (v : Int) ∈ (blk b).insts.2[p]!.args.2) : liveB blk v b p = true :=
  liveB_iff.2 (.inl (by rw [thr_step _ _ _ hp, if_pos (by rw [List.contains_iff_mem]; exact h)]))
theorem live_past {b p : Nat} {v : Nat} (hp : p < (blk b).insts.2.length) (hd : ¬ (v : Int) = (blk b).insts.2[p]!.dst) (h : liveB blk v b (p + 1) = true) : liveB blk v b p = true := by
  rw [liveB_iff] at h ⊢
  rw [thr_step _ _ _ hp]
  by_cases h1 : (blk b).insts.2[p]!.args.2.contains (v : Int) = true
  · rw [if_pos h1]; exact .inl rfl
  · rw [if_neg h1, if_neg (fun e => hd e.symm)]; exact h
theorem live_over_end {b p c : Nat} {v : Nat} (hp : (blk b).insts.2.length ≤ p) (hc : c ∈ sOf blk b) (h : liveB blk v c 0 = true) : liveB blk v b p = true := by
  rw [liveB_iff, thr_end _ _ _ hp]
  cases termTakes (blk b) (v : Int) with
  | true => exact .inl rfl
  | false => exact .inr ⟨rfl, c, hc, (liveIn_iff c).2 (liveB_iff.1 h)⟩
theorem live_var {b p : Nat} {v : Nat} (hp : (blk b).insts.2.length ≤ p) (hk : ¬ (blk b).kind = 0) (hv : (blk b).var = (v : Int)) : liveB blk v b p = true := by
  rw [liveB_iff, thr_end _ _ _ hp]
  have : termTakes (blk b) (v : Int) = true := by
    unfold termTakes
    rw [hv, show ((blk b).kind == 0) = false by simpa using hk]; simp
  rw [if_pos this]
  exact .inl rfl
theorem enter_slot (hphi : ∀ b, b < nb → (blk b).phis.2 = []) {to : Nat} (ht : to < nb) (s : StM) : enterM blk s to = { s with block := to, pc := 0 } := by
  unfold enterM phisTo
  rw [hphi to ht]
  simp
def StM.tick (s : StM) : StM := { s with out := { s.out with steps := s.out.steps + 1 } }
def StM.next (s : StM) : StM := { s with pc := s.pc + 1 }
def StM.goes (s : StM) (to : Nat) : StM := { s with block := to, pc := 0 }
def StM.val (s : StM) (x : Int) : StM := { s with out := { s.out with value := x } }
theorem step_eq (blk : Nat → BlockM) (s : StM) : stepM blk s =
    if s.pc < (blk s.block).insts.2.length then instM s.tick.next (blk s.block).insts.2[s.pc]!
    else if (blk s.block).kind = 2 then (s.tick.val (s.I (blk s.block).var)).fin 0
    else if (blk s.block).kind = 0 ∨ s.B (blk s.block).var = true then enterM blk s.tick (blk s.block).to0.toNat
    else enterM blk s.tick (blk s.block).to1.toNat := rfl
theorem Full.of (h : Full n s) {t : StM} (hi : t.ints = s.ints) (hb : t.bools = s.bools) (ha : t.arrs = s.arrs) : Full n t := ⟨by rw [hi]; exact h.i, by rw [hb]; exact h.b, by rw [ha]; exact h.a⟩
theorem Ag.of {v : Int} (h : Ag ty s s' v) {t t' : StM} (hi : t.ints = s.ints) (hb : t.bools = s.bools) (ha : t.arrs = s.arrs) (hi' : t'.ints = s'.ints) (hb' : t'.bools = s'.bools) (ha' : t'.arrs = s'.arrs) : Ag ty t t' v :=
  ⟨fun h2 => by have := h.i h2; unfold StM.I at *; rw [hi, hi']; exact this, fun h2 => by have := h.b h2; unfold StM.B at *; rw [hb, hb']; exact this, fun h2 => by have := h.a h2; unfold StM.A at *; rw [ha, ha']; exact this⟩
theorem Rest.tick (h : Rest s s') : Rest s.tick s'.tick := ⟨h.arrays, h.block, h.pc, by show { s.out with steps := s.out.steps + 1 } = { s'.out with steps := s'.out.steps + 1 }; rw [h.out], h.ended⟩
theorem Rest.next (h : Rest s s') : Rest s.next s'.next := ⟨h.arrays, h.block, by show s.pc + 1 = s'.pc + 1; rw [h.pc], h.out, h.ended⟩
theorem Rest.goes (h : Rest s s') (to : Nat) : Rest (s.goes to) (s'.goes to) := ⟨h.arrays, rfl, rfl, h.out, h.ended⟩
theorem Rest.val (h : Rest s s') {x y : Int} (e : x = y) : Rest (s.val x) (s'.val y) := ⟨h.arrays, h.block, h.pc, by subst e; show { s.out with value := x } = { s'.out with value := x }; rw [h.out], h.ended⟩
theorem step_simL (hphi : ∀ b, b < nb → (blk b).phis.2 = []) (hok : ∀ b, b < nb → BlockOK nb n ty (blk b)) (h : SimL blk nb n ty s s') (he : s.ended = false) : SimL blk nb n ty (stepM blk s) (stepM blk s') := by
  obtain ⟨f, f', r, hlt, hag⟩ := h
  have hag := hag he
  have hB := hok _ hlt
  rw [step_eq, step_eq, ← r.block, ← r.pc]
  by_cases hp : s.pc < (blk s.block).insts.2.length
  · rw [if_pos hp, if_pos hp]
    have hx := hB.inst (blk s.block).insts.2[s.pc]! (by rw [getElem!_pos (blk s.block).insts.2 s.pc hp]; exact List.getElem_mem hp)
    have hh := inst_sim (n := n) (ty := ty) (s := s.tick.next) (s' := s'.tick.next) (f.of rfl rfl rfl) (f'.of rfl rfl rfl) r.tick.next hx (fun a ha => by
        have h1 := hx.arg a ha
        have h2 := hag a.toNat (by omega) (live_taken hp (by rw [show ((a.toNat : Nat) : Int) = a by omega]; exact ha))
        rw [show ((a.toNat : Nat) : Int) = a by omega] at h2
        exact h2.of rfl rfl rfl rfl rfl rfl)
    have hs := inst_stays s.tick.next (blk s.block).insts.2[s.pc]!
    refine ⟨hh.f, hh.f', hh.r, by rw [hs.1]; exact hlt, fun hne v hv hl => ?_⟩
    rw [hs.1, hs.2] at hl
    refine hh.ag hne v (by omega) ?_
    by_cases e : (v : Int) = (blk s.block).insts.2[s.pc]!.dst
    · exact .inl e
    · exact .inr ((hag v hv (live_past hp e hl)).of rfl rfl rfl rfl rfl rfl)
  · have hp' : (blk s.block).insts.2.length ≤ s.pc := by omega
    rw [if_neg hp, if_neg hp]
    by_cases h2 : (blk s.block).kind = 2
    · rw [if_pos h2, if_pos h2]
      obtain ⟨h3, h4, h5⟩ := hB.ret h2
      have h6 := (hag (blk s.block).var.toNat (by omega) (live_var hp' (by omega) (by omega))).i (by rw [show (((blk s.block).var.toNat : Nat) : Int) = (blk s.block).var by omega]; exact h5)
      rw [show (((blk s.block).var.toNat : Nat) : Int) = (blk s.block).var by omega] at h6
      exact ⟨f.of rfl rfl rfl, f'.of rfl rfl rfl, (r.tick.val h6).fin 0, hlt, fun hh => by cases hh⟩
    · rw [if_neg h2, if_neg h2]
      have go : ∀ to : Nat, to < nb → to ∈ sOf blk s.block → SimL blk nb n ty (enterM blk s.tick to) (enterM blk s'.tick to) := fun to ht hs => by
        rw [enter_slot hphi ht, enter_slot hphi ht]
        exact ⟨f.of rfl rfl rfl, f'.of rfl rfl rfl, r.tick.goes to, ht, fun _ v hv hl => (hag v hv (live_over_end hp' hs hl)).of rfl rfl rfl rfl rfl rfl⟩
      by_cases h0 : (blk s.block).kind = 0
      · have hj := hB.jump h0
        rw [if_pos (Or.inl h0), if_pos (Or.inl h0)]
        exact go _ (by omega) (by unfold sOf succM; rw [if_pos h0]; exact List.mem_cons_self ..)
      · have h1 : (blk s.block).kind = 1 := by rcases hB.kind with h | h | h <;> omega
        obtain ⟨g0, g1, g2, g3, g4, g5, g6⟩ := hB.iff h1
        have h6 := (hag (blk s.block).var.toNat (by omega) (live_var hp' (by omega) (by omega))).b (by rw [show (((blk s.block).var.toNat : Nat) : Int) = (blk s.block).var by omega]; exact g6)
        rw [show (((blk s.block).var.toNat : Nat) : Int) = (blk s.block).var by omega] at h6
        rw [h6]
        by_cases hb : s'.B (blk s.block).var = true
        · rw [if_pos (Or.inr hb), if_pos (Or.inr hb)]
          exact go _ (by omega) (by unfold sOf succM; rw [if_neg h0, if_pos h1]; exact List.mem_cons_self ..)
        · have hn : ¬ ((blk s.block).kind = 0 ∨ s'.B (blk s.block).var = true) := fun h => h.elim h0 hb
          rw [if_neg hn, if_neg hn]
          exact go _ (by omega) (by unfold sOf succM; rw [if_neg h0, if_pos h1]; exact List.mem_cons_of_mem _ (List.mem_cons_self ..))
theorem run_simL (hphi : ∀ b, b < nb → (blk b).phis.2 = []) (hok : ∀ b, b < nb → BlockOK nb n ty (blk b)) (k : Nat) (h : SimL blk nb n ty s s') : (runM blk k s).out = (runM blk k s').out := by
  induction k generalizing s s' with
  | zero => exact h.r.out
  | succ k ih =>
    unfold runM
    cases he : s.ended with
    | true => rw [if_pos rfl, if_pos (by rw [← h.r.ended, he])]; exact h.r.out
    | false => rw [if_neg (by decide), if_neg (by rw [← h.r.ended, he]; decide)]; exact ih (step_simL hphi hok h he)
theorem begin_full (n : Nat) (ty : Int → Int) (args : List ArgM) (arrays : List (List Int)) : Full n (beginM n ty args arrays) := ⟨by simp [beginM], by simp [beginM], by simp [beginM]⟩
theorem range_bang {α : Type} [Inhabited α] (g : Nat → α) {n v : Nat} (hv : v < n) : ((List.range n).map g)[v]! = g v := by
  rw [getElem!_pos _ v (by simpa using hv)]; simp
/-- a parameter that isn't live may be anything -/
theorem params_same (hphi : ∀ b, b < nb → (blk b).phis.2 = []) (hok : ∀ b, b < nb → BlockOK nb n ty (blk b)) (h0 : 0 < nb) (args : List ArgM) (arrays : List (List Int)) (i : Nat) (other : ArgM) (hi : i < n) (hl : liveB blk i 0 0 = false) (k : Nat) :
    (runM blk k (beginM n ty args arrays)).out = (runM blk k (beginM n ty (args.set i other) arrays)).out := by
  refine run_simL hphi hok k ⟨begin_full .., begin_full .., ⟨rfl, rfl, rfl, rfl, rfl⟩, h0, fun _ v hv h => ?_⟩
  have hne : ¬ v = i := fun e => by
    subst e
    rw [show liveB blk v (beginM n ty args arrays).block (beginM n ty args arrays).pc = liveB blk v 0 0 from rfl, hl] at h
    cases h
  have e : (args.set i other)[v]! = args[v]! := by
    by_cases hva : v < args.length
    · rw [getElem!_pos _ v (by simpa using hva), getElem!_pos args v hva, List.getElem_set_ne (fun h => hne h.symm)]
    · rw [getElem!_neg _ v (by simpa using hva), getElem!_neg args v hva]
  have hl2 : (args.set i other).length = args.length := List.length_set
  refine ⟨fun _ => ?_, fun _ => ?_, fun _ => ?_⟩
  · show ((List.range n).map _)[((v : Nat) : Int).toNat]! = ((List.range n).map _)[((v : Nat) : Int).toNat]!
    rw [show ((v : Nat) : Int).toNat = v from rfl, range_bang _ hv, range_bang _ hv, hl2, e]
  · show ((List.range n).map _)[((v : Nat) : Int).toNat]! = ((List.range n).map _)[((v : Nat) : Int).toNat]!
    rw [show ((v : Nat) : Int).toNat = v from rfl, range_bang _ hv, range_bang _ hv, hl2, e]
  · show ((List.range n).map _)[((v : Nat) : Int).toNat]! = ((List.range n).map _)[((v : Nat) : Int).toNat]!
    rw [show ((v : Nat) : Int).toNat = v from rfl, range_bang _ hv, range_bang _ hv, hl2, e]
end
end Go.Proofs.YtjllbchfojonhaaDoor
namespace Go.Proofs.YtjllbchfojonhaaDoor
set_option linter.unusedVariables false
set_option linter.unusedSimpArgs false

def StM.at (s : StM) (p : Nat) : StM := { s with pc := p }
def StM.st0 (s : StM) : StM := { s with out := { s.out with steps := 0 } }
theorem inst_at (s : StM) (p : Nat) (x : InstM) : instM (s.at p) x = (instM s x).at p := by
 unfold instM checkM rawM
 simp only [apply_ite (fun t : StM => t.at p)]
 rfl
theorem inst_st0 (s : StM) (x : InstM) : (instM s x).st0 = instM s.st0 x := by
 unfold instM checkM rawM
 simp only [apply_ite StM.st0]
 rfl
/-- a step, its number not counted -/
def stepN (blk : Nat → BlockM) (s : StM) : StM :=
 if s.pc < (blk s.block).insts.2.length then instM s.next (blk s.block).insts.2[s.pc]!
 else if (blk s.block).kind = 2 then (s.val (s.I (blk s.block).var)).fin 0
 else if (blk s.block).kind = 0 ∨ s.B (blk s.block).var = true then s.goes (blk s.block).to0.toNat
 else s.goes (blk s.block).to1.toNat
def runN (blk : Nat → BlockM) : Nat → StM → StM
 | 0, s => s
 | k + 1, s => if s.ended = true then s else runN blk k (stepN blk s)
section
variable {blk : Nat → BlockM} {nb n : Nat} {ty : Int → Int} {s s' : StM}
theorem step_st0 (hphi : ∀ b, b < nb → (blk b).phis.2 = []) (hok : ∀ b, b < nb → BlockOK nb n ty (blk b)) (hlt : s.block < nb) : (stepM blk s).st0 = stepN blk s.st0 ∧ (stepM blk s).block < nb := by
 have hB := hok _ hlt
 rw [step_eq]
 unfold stepN
 by_cases hp : s.pc < (blk s.block).insts.2.length
 ·have hs := inst_stays s.tick.next (blk s.block).insts.2[s.pc]!
  rw [if_pos hp, if_pos (show s.st0.pc < (blk s.st0.block).insts.2.length from hp), inst_st0]
  exact ⟨rfl, by rw [hs.1]; exact hlt⟩
 ·rw [if_neg hp, if_neg (show ¬ s.st0.pc < (blk s.st0.block).insts.2.length from hp)]
  by_cases h2 : (blk s.block).kind = 2
  ·rw [if_pos h2, if_pos (show (blk s.st0.block).kind = 2 from h2)]
   exact ⟨rfl, hlt⟩
  ·rw [if_neg h2, if_neg (show ¬ (blk s.st0.block).kind = 2 from h2)]
   by_cases h0 : (blk s.block).kind = 0
   ·have hj := hB.jump h0
    rw [if_pos (Or.inl h0), if_pos (Or.inl (show (blk s.st0.block).kind = 0 from h0)), enter_slot hphi (by omega)]
    exact ⟨rfl, show (blk s.block).to0.toNat < nb by omega⟩
   ·have h1 : (blk s.block).kind = 1 := by rcases hB.kind with h | h | h <;> omega
    obtain ⟨g0, g1, g2, g3, _⟩ := hB.iff h1
    by_cases hb : s.B (blk s.block).var = true
    ·rw [if_pos (Or.inr hb), if_pos (Or.inr (show s.st0.B (blk s.st0.block).var = true from hb)), enter_slot hphi (by omega)]
     exact ⟨rfl, show (blk s.block).to0.toNat < nb by omega⟩
    ·rw [if_neg (fun h => h.elim h0 hb), if_neg (show ¬ ((blk s.st0.block).kind = 0 ∨ s.st0.B (blk s.st0.block).var = true) from fun h => h.elim h0 hb), enter_slot hphi (by omega)]
     exact ⟨rfl, show (blk s.block).to1.toNat < nb by omega⟩
theorem run_st0 (hphi : ∀ b, b < nb → (blk b).phis.2 = []) (hok : ∀ b, b < nb → BlockOK nb n ty (blk b)) (k : Nat) (hlt : s.block < nb) : (runM blk k s).st0 = runN blk k s.st0 := by
 induction k generalizing s with
 | zero => rfl
 | succ k ih =>
  unfold runM runN
  obtain ⟨h1, h2⟩ := step_st0 hphi hok (s := s) hlt
  cases he : s.ended with
  | true => rw [if_pos rfl, if_pos (show s.st0.ended = true from he)]
  | false => rw [if_neg (by decide), if_neg (show ¬ s.st0.ended = true by show ¬ s.ended = true; rw [he]; decide), ← h1]; exact ih h2
theorem runN_add (blk : Nat → BlockM) (j k : Nat) (s : StM) : runN blk (j + k) s = runN blk k (runN blk j s) := by
 induction j generalizing s with
 | zero => rw [Nat.zero_add]; rfl
 | succ j ih =>
  rw [show j + 1 + k = (j + k) + 1 by omega]
  show (if s.ended = true then s else runN blk (j + k) (stepN blk s)) = runN blk k (if s.ended = true then s else runN blk j (stepN blk s))
  cases he : s.ended with
  | true =>
   rw [if_pos rfl, if_pos rfl]
   cases k with
   | zero => rfl
   | succ k => show s = if s.ended = true then s else _; rw [he, if_pos rfl]
  | false => rw [if_neg (by decide), if_neg (by decide)]; exact ih _
theorem runN_ended {k : Nat} (h : s.ended = true) : runN blk k s = s := by
 cases k with
 | zero => rfl
 | succ k => show (if s.ended = true then s else _) = s; rw [h, if_pos rfl]
theorem runN_more {j k : Nat} (hjk : j ≤ k) (h : (runN blk j s).ended = true) : runN blk k s = runN blk j s := by
 obtain ⟨d, rfl⟩ := Nat.le.dest hjk
 rw [runN_add, runN_ended h]
/-- not ended: nothing came of it yet -/
def Open (s : StM) : Prop := s.ended = false → s.out.ending = 3

/-- the program with an instruction put in -/
def putM (b : BlockM) (place : Nat) (x : InstM) : BlockM := { b with insts := (b.insts.1, b.insts.2.take place ++ x :: b.insts.2.drop place) }
def putIn (blk : Nat → BlockM) (b place : Nat) (x : InstM) (c : Nat) : BlockM := if c = b then putM (blk b) place x else blk c
theorem put_len (b : BlockM) (place : Nat) (x : InstM) (h : place ≤ b.insts.2.length) : (putM b place x).insts.2.length = b.insts.2.length + 1 := by
 show (b.insts.2.take place ++ x :: b.insts.2.drop place).length = _
 rw [List.length_append, List.length_take, List.length_cons, List.length_drop]
 omega
theorem ins_len (l : List InstM) (place : Nat) (x : InstM) (h : place ≤ l.length) : (l.take place ++ x :: l.drop place).length = l.length + 1 := by
 rw [List.length_append, List.length_take, List.length_cons, List.length_drop]; omega
theorem ins_low (l : List InstM) (place : Nat) (x : InstM) (h : place ≤ l.length) {i : Nat} (hi : i < place) : (l.take place ++ x :: l.drop place)[i]! = l[i]! := by
 rw [getElem!_pos _ i (by rw [ins_len l place x h]; omega), getElem!_pos l i (by omega), List.getElem_append_left (by rw [List.length_take]; omega), List.getElem_take]
theorem ins_at (l : List InstM) (place : Nat) (x : InstM) (h : place ≤ l.length) : (l.take place ++ x :: l.drop place)[place]! = x := by
 rw [getElem!_pos _ place (by rw [ins_len l place x h]; omega), List.getElem_append_right (by rw [List.length_take]; omega)]
 simp only [List.length_take, show min place l.length = place by omega, Nat.sub_self, List.getElem_cons_zero]
theorem ins_high (l : List InstM) (place : Nat) (x : InstM) (h : place ≤ l.length) {i : Nat} (hi : place ≤ i) (hl : i < l.length) : (l.take place ++ x :: l.drop place)[i + 1]! = l[i]! := by
 rw [getElem!_pos _ (i + 1) (by rw [ins_len l place x h]; omega), getElem!_pos l i hl, List.getElem_append_right (by rw [List.length_take]; omega)]
 simp only [List.length_take, show min place l.length = place by omega, show i + 1 - place = (i - place) + 1 by omega, List.getElem_cons_succ, List.getElem_drop]
 congr 1
 omega
theorem put_low (b : BlockM) (place : Nat) (x : InstM) (h : place ≤ b.insts.2.length) {i : Nat} (hi : i < place) : (putM b place x).insts.2[i]! = b.insts.2[i]! := ins_low _ _ _ h hi
theorem put_at (b : BlockM) (place : Nat) (x : InstM) (h : place ≤ b.insts.2.length) : (putM b place x).insts.2[place]! = x := ins_at _ _ _ h
theorem put_high (b : BlockM) (place : Nat) (x : InstM) (h : place ≤ b.insts.2.length) {i : Nat} (hi : place ≤ i) (hl : i < b.insts.2.length) : (putM b place x).insts.2[i + 1]! = b.insts.2[i]! := ins_high _ _ _ h hi hl
/-- the two states: of the program, and of the one with the instruction put in -/
structure SimD (blk : Nat → BlockM) (nb n : Nat) (ty : Int → Int) (b place : Nat) (s s' : StM) : Prop where
 f : Full n s
 f' : Full n s'
 r : Rest s (s'.at s.pc)
 lt : s.block < nb
 pos : (s'.pc = s.pc ∧ (s.block = b → s.pc ≤ place)) ∨ (s'.pc = s.pc + 1 ∧ s.block = b ∧ place ≤ s.pc)
 ag : s.ended = false → ∀ v : Nat, v < n → liveB blk v s.block s.pc = true → Ag ty s s' (v : Int)
/-- what is put in -/
def putOf (ty : Int → Int) (v : Nat) (x : InstM) : Prop :=
 (∀ s : StM, ty v = 0 → instM s x = s.setI v 77) ∧ (∀ s : StM, ty v = 1 → instM s x = s.setB v (!(s.B v))) ∧ (∀ s : StM, ty v = 2 → instM s x = s.setA v (-1))
variable {b place v : Nat} {x : InstM}
theorem putIn_here (c : Nat) (hc : c = b) : putIn blk b place x c = putM (blk b) place x := by unfold putIn; rw [if_pos hc]
theorem putIn_other (c : Nat) (hc : ¬ c = b) : putIn blk b place x c = blk c := by unfold putIn; rw [if_neg hc]
theorem putIn_kind (c : Nat) : (putIn blk b place x c).kind = (blk c).kind ∧ (putIn blk b place x c).var = (blk c).var ∧ (putIn blk b place x c).to0 = (blk c).to0 ∧ (putIn blk b place x c).to1 = (blk c).to1 := by
 by_cases h : c = b
 ·rw [putIn_here c h, h]; exact ⟨rfl, rfl, rfl, rfl⟩
 ·rw [putIn_other c h]; exact ⟨rfl, rfl, rfl, rfl⟩
/-- the step of the instruction that was put in -/
theorem put_step (hpl : place ≤ (blk b).insts.2.length) (hv : v < n) (htv : ty v = 0 ∨ ty v = 1 ∨ ty v = 2) (hx : putOf ty v x) (hl : liveB blk v b place = false) (h : SimD blk nb n ty b place s s') (he : s.ended = false) (h1 : s'.pc = s.pc) (h2 : s.block = b) (h3 : s.pc = place) :
  SimD blk nb n ty b place s (stepN (putIn blk b place x) s') ∧ (stepN (putIn blk b place x) s').pc = s.pc + 1 := by
 obtain ⟨f, f', r, hlt, pos, ag⟩ := h
 have hb' : s'.block = b := by rw [← h2]; exact r.block.symm
 have e1 : stepN (putIn blk b place x) s' = instM s'.next x := by
  unfold stepN
  rw [putIn_here _ hb', h1, h3, if_pos (by rw [put_len _ _ _ hpl]; omega), put_at _ _ _ hpl]
 rw [e1]
 have key : ∀ t : StM, t.block = s'.block → t.pc = s'.pc + 1 → t.arrays = s'.arrays → t.out = s'.out → t.ended = s'.ended → Full n t → (∀ u : Nat, u < n → ¬ u = v → Ag ty s s' (u : Int) → Ag ty s t (u : Int)) → SimD blk nb n ty b place s t ∧ t.pc = s.pc + 1 := fun t g1 g2 g3 g4 g5 g6 g7 =>
  ⟨⟨f, g6, ⟨by rw [r.arrays]; exact g3.symm, by rw [r.block]; exact g1.symm, rfl, by rw [r.out]; exact g4.symm, by rw [r.ended]; exact g5.symm⟩, hlt, .inr ⟨by rw [g2, h1], h2, by omega⟩, fun he u hu hlu => by
   refine g7 u hu (fun e => ?_) (ag he u hu hlu)
   subst e
   rw [h2, h3, hl] at hlu
   cases hlu⟩, by rw [g2, h1]⟩
 have hu0 : ∀ u : Nat, ¬ u = v → ¬ ((u : Nat) : Int) = ((v : Nat) : Int) := fun u hu e => hu (by omega)
 rcases htv with ht | ht | ht
 ·rw [hx.1 _ ht]
  refine key _ rfl rfl rfl rfl rfl ((f'.of rfl rfl rfl : Full n s'.next).setI _ _) fun u hu hne hag => ⟨fun h => ?_, hag.b, hag.a⟩
  rw [I_setI _ _ (by rw [show s'.next.ints = s'.ints from rfl, f'.i]; omega) (by omega), if_neg (hu0 u hne)]
  exact hag.i h
 ·rw [hx.2.1 _ ht]
  refine key _ rfl rfl rfl rfl rfl ((f'.of rfl rfl rfl : Full n s'.next).setB _ _) fun u hu hne hag => ⟨hag.i, fun h => ?_, hag.a⟩
  rw [B_setB _ _ (by rw [show s'.next.bools = s'.bools from rfl, f'.b]; omega) (by omega), if_neg (hu0 u hne)]
  exact hag.b h
 ·rw [hx.2.2 _ ht]
  refine key _ rfl rfl rfl rfl rfl ((f'.of rfl rfl rfl : Full n s'.next).setA _ _) fun u hu hne hag => ⟨hag.i, hag.b, fun h => ?_⟩
  rw [A_setA _ _ (by rw [show s'.next.arrs = s'.arrs from rfl, f'.a]; omega) (by omega), if_neg (hu0 u hne)]
  exact hag.a h
/-- a step of both -/
theorem both_step (hok : ∀ b, b < nb → BlockOK nb n ty (blk b)) (hpl : place ≤ (blk b).insts.2.length) (h : SimD blk nb n ty b place s s') (he : s.ended = false) (hn : ¬ (s'.pc = s.pc ∧ s.block = b ∧ s.pc = place)) :
  SimD blk nb n ty b place (stepN blk s) (stepN (putIn blk b place x) s') := by
 obtain ⟨f, f', r, hlt, pos, hag⟩ := h
 have hag := hag he
 have hB := hok _ hlt
 have hbb : s'.block = s.block := r.block.symm
 obtain ⟨k1, k2, k3, k4⟩ := putIn_kind (blk := blk) (b := b) (place := place) (x := x) s.block
 have hlen : s'.pc < (putIn blk b place x s.block).insts.2.length ↔ s.pc < (blk s.block).insts.2.length := by
  by_cases hb : s.block = b
  ·rw [putIn_here _ hb, put_len _ _ _ hpl, hb]
   rcases pos with ⟨p1, p2⟩ | ⟨p1, p2, p3⟩
   ·have := p2 hb; omega
   ·omega
  ·rw [putIn_other _ hb]
   rcases pos with ⟨p1, p2⟩ | ⟨p1, p2, p3⟩
   ·rw [p1]
   ·exact absurd p2 hb
 unfold stepN
 rw [hbb, k1, k2, k3, k4]
 by_cases hp : s.pc < (blk s.block).insts.2.length
 ·rw [if_pos hp, if_pos (hlen.2 hp)]
  have hinst : (putIn blk b place x s.block).insts.2[s'.pc]! = (blk s.block).insts.2[s.pc]! := by
   by_cases hb : s.block = b
   ·rw [putIn_here _ hb]
    rw [hb] at hp ⊢
    rcases pos with ⟨p1, p2⟩ | ⟨p1, p2, p3⟩
    ·have := p2 hb
     rw [p1]; exact put_low _ _ _ hpl (by omega)
    ·rw [p1]; exact put_high _ _ _ hpl p3 hp
   ·rw [putIn_other _ hb]
    rcases pos with ⟨p1, p2⟩ | ⟨p1, p2, p3⟩
    ·rw [p1]
    ·exact absurd p2 hb
  rw [hinst]
  have hx := hB.inst (blk s.block).insts.2[s.pc]! (by rw [getElem!_pos (blk s.block).insts.2 s.pc hp]; exact List.getElem_mem hp)
  have hh := inst_sim (n := n) (ty := ty) (s := s.next) (s' := s'.at (s.pc + 1)) (f.of rfl rfl rfl) (f'.of rfl rfl rfl) ⟨r.arrays, r.block, rfl, r.out, r.ended⟩ hx (fun a ha => by
    have h1 := hx.arg a ha
    have h2 := hag a.toNat (by omega) (live_taken hp (by rw [show ((a.toNat : Nat) : Int) = a by omega]; exact ha))
    rw [show ((a.toNat : Nat) : Int) = a by omega] at h2
    exact h2.of rfl rfl rfl rfl rfl rfl)
  have e2 : s'.next = (s'.at (s.pc + 1)).at (s'.pc + 1) := rfl
  rw [e2, inst_at]
  have hs := inst_stays s.next (blk s.block).insts.2[s.pc]!
  generalize instM s.next (blk s.block).insts.2[s.pc]! = t at *
  generalize instM (s'.at (s.pc + 1)) (blk s.block).insts.2[s.pc]! = t' at *
  have hpc : t.pc = s.pc + 1 := hs.2
  refine ⟨hh.f, hh.f'.of rfl rfl rfl, ⟨hh.r.arrays, hh.r.block, rfl, hh.r.out, hh.r.ended⟩, by rw [hs.1]; exact hlt, ?_, fun hne v hv hl => ?_⟩
  ·show (s'.pc + 1 = t.pc ∧ _) ∨ (s'.pc + 1 = t.pc + 1 ∧ _)
   rw [hpc, hs.1]
   rcases pos with ⟨p1, p2⟩ | ⟨p1, p2, p3⟩
   ·refine .inl ⟨by omega, fun hb => ?_⟩
    have := p2 hb
    by_cases hpp : s.pc = place
    ·exact absurd ⟨p1, hb, hpp⟩ hn
    ·omega
   ·exact .inr ⟨by omega, p2, by omega⟩
  ·rw [hs.1, hpc] at hl
   have h5 := hh.ag hne v (by omega) (by
    by_cases e : (v : Int) = (blk s.block).insts.2[s.pc]!.dst
    ·exact .inl e
    ·exact .inr ((hag v hv (live_past hp e hl)).of rfl rfl rfl rfl rfl rfl))
   exact h5.of rfl rfl rfl rfl rfl rfl
 ·have hp' : (blk s.block).insts.2.length ≤ s.pc := by omega
  rw [if_neg hp, if_neg (fun h => hp (hlen.1 h))]
  by_cases h2 : (blk s.block).kind = 2
  ·rw [if_pos h2, if_pos h2]
   obtain ⟨h3, h4, h5⟩ := hB.ret h2
   have h6 := (hag (blk s.block).var.toNat (by omega) (live_var hp' (by omega) (by omega))).i (by rw [show (((blk s.block).var.toNat : Nat) : Int) = (blk s.block).var by omega]; exact h5)
   rw [show (((blk s.block).var.toNat : Nat) : Int) = (blk s.block).var by omega] at h6
   refine ⟨f.of rfl rfl rfl, f'.of rfl rfl rfl, ⟨r.arrays, r.block, rfl, ?_, rfl⟩, hlt, pos, fun hh => by cases hh⟩
   show { s.out with value := s.I (blk s.block).var, ending := 0 } = { s'.out with value := s'.I (blk s.block).var, ending := 0 }
   rw [h6, r.out]; rfl
  ·rw [if_neg h2, if_neg h2]
   have go : ∀ to : Nat, to < nb → to ∈ sOf blk s.block → SimD blk nb n ty b place (s.goes to) (s'.goes to) := fun to ht hs =>
    ⟨f.of rfl rfl rfl, f'.of rfl rfl rfl, ⟨r.arrays, rfl, rfl, r.out, r.ended⟩, ht, .inl ⟨rfl, fun _ => Nat.zero_le _⟩, fun _ v hv hl => (hag v hv (live_over_end hp' hs hl)).of rfl rfl rfl rfl rfl rfl⟩
   by_cases h0 : (blk s.block).kind = 0
   ·have hj := hB.jump h0
    rw [if_pos (Or.inl h0), if_pos (Or.inl h0)]
    exact go _ (by omega) (by unfold sOf succM; rw [if_pos h0]; exact List.mem_cons_self ..)
   ·have h1 : (blk s.block).kind = 1 := by rcases hB.kind with h | h | h <;> omega
    obtain ⟨g0, g1, g2, g3, g4, g5, g6⟩ := hB.iff h1
    have h6 := (hag (blk s.block).var.toNat (by omega) (live_var hp' (by omega) (by omega))).b (by rw [show (((blk s.block).var.toNat : Nat) : Int) = (blk s.block).var by omega]; exact g6)
    rw [show (((blk s.block).var.toNat : Nat) : Int) = (blk s.block).var by omega] at h6
    rw [h6]
    by_cases hb : s'.B (blk s.block).var = true
    ·rw [if_pos (Or.inr hb), if_pos (Or.inr hb)]
     exact go _ (by omega) (by unfold sOf succM; rw [if_neg h0, if_pos h1]; exact List.mem_cons_self ..)
    ·have hn : ¬ ((blk s.block).kind = 0 ∨ s'.B (blk s.block).var = true) := fun h => h.elim h0 hb
     rw [if_neg hn, if_neg hn]
     exact go _ (by omega) (by unfold sOf succM; rw [if_neg h0, if_pos h1]; exact List.mem_cons_of_mem _ (List.mem_cons_self ..))
theorem dead_run (hok : ∀ b, b < nb → BlockOK nb n ty (blk b)) (hpl : place ≤ (blk b).insts.2.length) (hv : v < n) (htv : ty v = 0 ∨ ty v = 1 ∨ ty v = 2) (hx : putOf ty v x) (hl : liveB blk v b place = false) (k : Nat) (h : SimD blk nb n ty b place s s') :
  ∃ m, m ≤ 2 * k ∧ SimD blk nb n ty b place (runN blk k s) (runN (putIn blk b place x) m s') ∧ ((runN blk k s).ended = true ∨ k ≤ m) := by
 induction k generalizing s s' with
 | zero => exact ⟨0, Nat.le_refl _, h, .inr (Nat.le_refl _)⟩
 | succ k ih =>
  cases he : s.ended with
  | true =>
   refine ⟨0, Nat.zero_le _, ?_, .inl ?_⟩
   ·rw [runN_ended he]; exact h
   ·rw [runN_ended he]; exact he
  | false =>
   have e1 : runN blk (k + 1) s = runN blk k (stepN blk s) := by show (if s.ended = true then s else _) = _; rw [he, if_neg (by decide)]
   have step1 : ∀ (m : Nat) (t : StM), t.ended = false → runN (putIn blk b place x) (m + 1) t = runN (putIn blk b place x) m (stepN (putIn blk b place x) t) := fun m t ht => by show (if t.ended = true then t else _) = _; rw [ht, if_neg (by decide)]
   have he' : s'.ended = false := by rw [← he]; exact h.r.ended.symm
   rw [e1]
   by_cases hn : s'.pc = s.pc ∧ s.block = b ∧ s.pc = place
   ·obtain ⟨g, gp⟩ := put_step hpl hv htv hx hl h he hn.1 hn.2.1 hn.2.2
    have g2 := both_step (x := x) hok hpl g he (by rw [gp]; omega)
    obtain ⟨m, hm, hS, hd⟩ := ih g2
    refine ⟨m + 2, by omega, ?_, hd.imp id (by omega)⟩
    rw [show m + 2 = (m + 1) + 1 from rfl, step1 _ _ he', step1 _ _ (by rw [← he]; exact g.r.ended.symm)]
    exact hS
   ·have g2 := both_step (x := x) hok hpl h he hn
    obtain ⟨m, hm, hS, hd⟩ := ih g2
    refine ⟨m + 1, by omega, ?_, hd.imp id (by omega)⟩
    rw [step1 _ _ he']
    exact hS
/-- what came of both: alike, with the same checks -/
def AlikeC (a c : OutM) : Prop := a.ending = c.ending ∧ a.value = c.value ∧ a.trap = c.trap ∧ a.trace = c.trace ∧ a.checks = c.checks
theorem alike_of {a c : StM} (h : Rest a (c.at a.pc)) : AlikeC a.out c.out := by
 have := h.out
 rw [show a.out = c.out from this]
 exact ⟨rfl, rfl, rfl, rfl, rfl⟩
theorem dead_both (hok : ∀ b, b < nb → BlockOK nb n ty (blk b)) (hpl : place ≤ (blk b).insts.2.length) (hv : v < n) (htv : ty v = 0 ∨ ty v = 1 ∨ ty v = 2) (hx : putOf ty v x) (hl : liveB blk v b place = false) (k : Nat) (h : SimD blk nb n ty b place s s') :
  ((runN blk k s).ended = true → AlikeC (runN blk k s).out (runN (putIn blk b place x) (2 * k) s').out) ∧ ((runN (putIn blk b place x) k s').ended = true → AlikeC (runN blk k s).out (runN (putIn blk b place x) k s').out) := by
 obtain ⟨m, hm, hS, hd⟩ := dead_run hok hpl hv htv hx hl k h
 have hE : (runN blk k s).ended = (runN (putIn blk b place x) m s').ended := hS.r.ended
 refine ⟨fun he => ?_, fun he => ?_⟩
 ·rw [runN_more hm (by rw [← hE]; exact he)]
  exact alike_of hS.r
 ·have e : runN (putIn blk b place x) m s' = runN (putIn blk b place x) k s' := by
   rcases hd with hd | hd
   ·rcases Nat.le_total k m with h1 | h1
    ·exact runN_more h1 he
    ·exact (runN_more h1 (by rw [← hE]; exact hd)).symm
   ·exact runN_more hd he
  rw [← e]
  exact alike_of hS.r
end
end Go.Proofs.YtjllbchfojonhaaDoor
namespace Go.Proofs.YtjllbchfojonhaaDoor
set_option linter.unusedVariables false
set_option linter.unusedSimpArgs false
/-- what every state of a run keeps to -/
structure GoodM (n K : Nat) (s : StM) : Prop where
 f : Full n s
 i : ∀ x ∈ s.ints, inI x = true
 e : ∀ l ∈ s.arrays, ∀ x ∈ l, inI x = true
 z : ∀ l ∈ s.arrays, l.length ≤ 64
 a : ∀ x ∈ s.arrs, -1 ≤ x ∧ x < (s.arrays.length : Int)
 m : s.arrays.length ≤ 32
 t : s.out.trace.length ≤ 4096
 c : s.out.checks.length = 8
 k : ∀ x ∈ s.out.checks, x ≤ K
section
variable {n K : Nat} {ty : Int → Int} {s : StM}
theorem good_ite {c : Prop} [Decidable c] {a b : StM} (h1 : c → GoodM n K a) (h2 : ¬ c → GoodM n K b) : GoodM n K (if c then a else b) := by
 split
 ·exact h1 ‹_›
 ·exact h2 ‹_›
theorem GoodM.more (h : GoodM n K s) {K2 : Nat} (hk : K ≤ K2) : GoodM n K2 s := ⟨h.f, h.i, h.e, h.z, h.a, h.m, h.t, h.c, fun x hx => Nat.le_trans (h.k x hx) hk⟩
theorem mem_set_or {α : Type} {l : List α} {i : Nat} {x y : α} (h : y ∈ l.set i x) : y ∈ l ∨ y = x := List.mem_or_eq_of_mem_set h
theorem inI_wrap (z : Int) : inI (wrapI z) = true := by
 unfold inI wrapI
 rw [decide_eq_true_eq]
 omega
theorem inI_zero : inI 0 = true := by decide
theorem GoodM.I (h : GoodM n K s) (v : Int) : inI (s.I v) = true := by
 unfold StM.I
 by_cases hv : v.toNat < s.ints.length
 ·exact h.i _ (by rw [getElem!_pos s.ints _ hv]; exact List.getElem_mem hv)
 ·rw [getElem!_neg s.ints _ hv]; exact inI_zero
theorem GoodM.A (h : GoodM n K s) {v : Int} (h0 : 0 ≤ v ∧ v < (n : Int)) : -1 ≤ s.A v ∧ s.A v < (s.arrays.length : Int) := by
 unfold StM.A
 have hv : v.toNat < s.arrs.length := by rw [h.f.a]; omega
 exact h.a _ (by rw [getElem!_pos s.arrs _ hv]; exact List.getElem_mem hv)
theorem GoodM.elem (h : GoodM n K s) (a b : Nat) : inI s.arrays[a]![b]! = true := by
 by_cases ha : a < s.arrays.length
 ·by_cases hb : b < s.arrays[a]!.length
  ·refine h.e s.arrays[a]! ?_ _ ?_
   ·rw [getElem!_pos s.arrays a ha]; exact List.getElem_mem ha
   ·rw [getElem!_pos s.arrays[a]! b hb]; exact List.getElem_mem hb
  ·rw [getElem!_neg s.arrays[a]! b hb]; exact inI_zero
 ·rw [getElem!_neg s.arrays a ha]
  rw [getElem!_neg (default : List Int) b (by show ¬ b < ([] : List Int).length; simp)]; exact inI_zero
theorem GoodM.long (h : GoodM n K s) (a : Nat) : s.arrays[a]!.length ≤ 64 := by
 by_cases ha : a < s.arrays.length
 ·exact h.z _ (by rw [getElem!_pos s.arrays a ha]; exact List.getElem_mem ha)
 ·rw [getElem!_neg s.arrays a ha]; show ([] : List Int).length ≤ 64; simp
theorem inI_nat {k : Nat} (h : k ≤ 4096) : inI (k : Int) = true := by simp [inI]; omega
theorem GoodM.setI (h : GoodM n K s) (d : Int) {x : Int} (hx : inI x = true) : GoodM n K (s.setI d x) :=
 ⟨h.f.setI d x, fun y hy => (mem_set_or hy).elim (h.i y) (fun e => e ▸ hx), h.e, h.z, h.a, h.m, h.t, h.c, h.k⟩
theorem GoodM.setB (h : GoodM n K s) (d : Int) (x : Bool) : GoodM n K (s.setB d x) := ⟨h.f.setB d x, h.i, h.e, h.z, h.a, h.m, h.t, h.c, h.k⟩
theorem GoodM.setA (h : GoodM n K s) (d : Int) {x : Int} (hx : -1 ≤ x ∧ x < (s.arrays.length : Int)) : GoodM n K (s.setA d x) :=
 ⟨h.f.setA d x, h.i, h.e, h.z, fun y hy => (mem_set_or hy).elim (h.a y) (fun e => e ▸ hx), h.m, h.t, h.c, h.k⟩
theorem GoodM.fin (h : GoodM n K s) (z : Int) : GoodM n K (s.fin z) := ⟨h.f.fin z, h.i, h.e, h.z, h.a, h.m, h.t, h.c, h.k⟩
theorem inI_tmod {a b : Int} (ha : inI a = true) (hb : ¬ b = 0) : inI (a.tmod b) = true := by
 simp only [inI, decide_eq_true_eq] at ha ⊢
 have h1 : (a.tmod b).natAbs ≤ a.natAbs := by rw [Int.natAbs_tmod]; exact Nat.mod_le _ _
 rcases Int.le_total 0 a with h0 | h0
 ·have := Int.tmod_nonneg b h0; omega
 ·have e : a.tmod b = -((-a).tmod b) := by rw [Int.neg_tmod]; omega
  have := Int.tmod_nonneg b (show 0 ≤ -a by omega)
  omega
theorem check_good (h : GoodM n K s) (op : Int) (l : List Int) : GoodM n (K + 1) (checkM s op l) := by
 unfold checkM
 simp only
 have hc : (s.out.checks.set (op - 17).toNat (s.out.checks[(op - 17).toNat]! + 1)).length = 8 := by rw [List.length_set]; exact h.c
 have hk : ∀ x ∈ s.out.checks.set (op - 17).toNat (s.out.checks[(op - 17).toNat]! + 1), x ≤ K + 1 := fun x hx => (mem_set_or hx).elim (fun hm => by have := h.k x hm; omega) (fun e => by
  subst e
  by_cases hl : (op - 17).toNat < s.out.checks.length
  ·have := h.k _ (by rw [getElem!_pos s.out.checks _ hl]; exact List.getElem_mem hl : s.out.checks[(op - 17).toNat]! ∈ s.out.checks)
   omega
  ·rw [getElem!_neg s.out.checks _ hl]; show 0 + 1 ≤ K + 1; omega)
 refine good_ite (fun _ => ?_) (fun _ => GoodM.fin ?_ 1)
 ·exact ⟨⟨h.f.i, h.f.b, h.f.a⟩, h.i, h.e, h.z, h.a, h.m, h.t, hc, hk⟩
 ·exact ⟨⟨h.f.i, h.f.b, h.f.a⟩, h.i, h.e, h.z, h.a, h.m, h.t, hc, hk⟩
theorem InstOK.lens {x : InstM} (hx : InstOK n ty x) : (x.op = 1 ∨ x.op = 25 ∨ x.op = 26) → ∀ a : Int, (0 < x.args.2.length → 0 ≤ x.args.2[0]! ∧ x.args.2[0]! < (n : Int)) := fun _ _ h0 => hx.arg _ (nth_mem h0)
theorem GoodM.out_ (h : GoodM n K s) (o : OutM) (ht : o.trace.length ≤ 4096) (hc : o.checks = s.out.checks) : GoodM n K { s with out := o } :=
 ⟨⟨h.f.i, h.f.b, h.f.a⟩, h.i, h.e, h.z, h.a, h.m, ht, by show o.checks.length = 8; rw [hc]; exact h.c, by show ∀ x ∈ o.checks, _; rw [hc]; exact h.k⟩
theorem raw_good (h : GoodM n K s) {x : InstM} (hx : InstOK n ty x) (hn : inI x.num = true) : GoodM n K (rawM s x) := by
 have hI : ∀ i, inI (if i < x.args.2.length then s.I x.args.2[i]! else 0) = true := fun i => by
  split
  ·exact h.I _
  ·exact inI_zero
 have hA : -1 ≤ (if 0 < x.args.2.length then s.A x.args.2[0]! else -1) ∧ (if 0 < x.args.2.length then s.A x.args.2[0]! else -1) < (s.arrays.length : Int) := by
  split
  ·exact h.A (hx.arg _ (nth_mem ‹_›))
  ·omega
 unfold rawM
 simp only
 have ha := hI 0
 have hb := hI 1
 generalize (if 0 < x.args.2.length then s.I x.args.2[0]! else 0) = a at *
 generalize (if 1 < x.args.2.length then s.I x.args.2[1]! else 0) = b at *
 generalize (if 0 < x.args.2.length then s.A x.args.2[0]! else -1) = arr at *
 refine good_ite (fun _ => h.setI _ hn) (fun _ => ?_)
 refine good_ite (fun _ => ((h.setI _ ha).setB _ _).setA _ hA) (fun _ => ?_)
 refine good_ite (fun _ => h.setI _ (inI_wrap _)) (fun _ => ?_)
 refine good_ite (fun _ => h.setI _ (inI_wrap _)) (fun _ => ?_)
 refine good_ite (fun _ => h.setI _ (inI_wrap _)) (fun _ => ?_)
 refine good_ite (fun _ => good_ite (fun _ => h.fin 2) (fun _ => h.setI _ (inI_wrap _))) (fun _ => ?_)
 refine good_ite (fun _ => good_ite (fun _ => h.fin 2) (fun hb0 => h.setI _ (inI_tmod ha hb0))) (fun _ => ?_)
 refine good_ite (fun _ => h.setB _ _) (fun _ => ?_)
 refine good_ite (fun _ => h.setB _ _) (fun _ => ?_)
 refine good_ite (fun _ => h.setB _ _) (fun _ => ?_)
 refine good_ite (fun _ => h.setB _ _) (fun _ => ?_)
 refine good_ite (fun _ => h.setB _ _) (fun _ => ?_)
 refine good_ite (fun _ => good_ite (fun _ => h.fin 2) (fun _ => h.setI _ (inI_nat (by have := h.long arr.toNat; omega)))) (fun _ => ?_)
 refine good_ite (fun _ => good_ite (fun _ => h.setI _ (h.elem _ _)) (fun _ => h.fin 2)) (fun _ => ?_)
 refine good_ite (fun _ => good_ite (fun _ => ?_) (fun _ => h.fin 2)) (fun _ => ?_)
 ·refine ⟨⟨h.f.i, h.f.b, h.f.a⟩, h.i, fun l hl => ?_, fun l hl => ?_, fun y hy => by show _ ∧ _ < ((s.arrays.set _ _).length : Int); rw [List.length_set]; exact h.a y hy, by show (s.arrays.set _ _).length ≤ 32; rw [List.length_set]; exact h.m, h.t, h.c, h.k⟩
  ·rcases mem_set_or hl with hl | rfl
   ·exact h.e l hl
   ·intro y hy
    rcases mem_set_or hy with hy | rfl
    ·by_cases har : arr.toNat < s.arrays.length
     ·exact h.e _ (by rw [getElem!_pos s.arrays _ har]; exact List.getElem_mem har) y hy
     ·rw [getElem!_neg s.arrays _ har] at hy; cases hy
    ·exact h.I _
  ·rcases mem_set_or hl with hl | rfl
   ·exact h.z l hl
   ·rw [List.length_set]; exact h.long _
 refine good_ite (fun _ => good_ite (fun _ => h.fin 2) (fun h64 => good_ite (fun _ => h.fin 3) (fun h32 => ?_))) (fun _ => ?_)
 ·refine GoodM.setA (s := { s with arrays := s.arrays ++ [List.replicate a.toNat 0] }) ⟨⟨h.f.i, h.f.b, h.f.a⟩, h.i, fun l hl => ?_, fun l hl => ?_, fun y hy => ?_, ?_, h.t, h.c, h.k⟩ _ ?_
  ·rcases List.mem_append.1 hl with hl | hl
   ·exact h.e l hl
   ·rw [List.mem_singleton.1 hl]; intro y hy; rw [List.eq_of_mem_replicate hy]; exact inI_zero
  ·rcases List.mem_append.1 hl with hl | hl
   ·exact h.z l hl
   ·rw [List.mem_singleton.1 hl, List.length_replicate]; omega
  ·have := h.a y hy; show _ ∧ _ < ((s.arrays ++ _).length : Int); rw [List.length_append]; constructor <;> omega
  ·show (s.arrays ++ _).length ≤ 32; rw [List.length_append, List.length_singleton]; omega
  ·show _ ∧ _ < ((s.arrays ++ _).length : Int); rw [List.length_append, List.length_singleton]; constructor <;> omega
 refine good_ite (fun _ => h.setA _ (by omega)) (fun _ => ?_)
 refine good_ite (fun _ => good_ite (fun _ => h.fin 3) (fun ht => h.out_ _ ?_ rfl)) (fun _ => h)
 show (s.out.trace ++ [a]).length ≤ 4096
 rw [List.length_append, List.length_singleton]; omega
theorem inst_good (h : GoodM n K s) {x : InstM} (hx : InstOK n ty x) (hn : inI x.num = true) : GoodM n (K + 1) (instM s x) := by
 unfold instM
 exact good_ite (fun _ => check_good h _ _) (fun _ => (raw_good h hx hn).more (Nat.le_succ K))
end
end Go.Proofs.YtjllbchfojonhaaDoor
