/- A guarded, typed, joined program is never stuck: the plain law, no program in sight. -/
import Derived.Test.YtjllbchfojonhaaGreatDoorRH
import Derived.Test.YtjllbchfojonhaaGreatDoorHX
namespace Go.Proofs.YtjllbchfojonhaaGreatDoor
set_option linter.unusedVariables false
set_option linter.unusedSimpArgs false
/-- what checks of the variables l see is the same, or there is more of it -/
structure Sim (s t : StM) (l : List Int) : Prop where
 i : ∀ v ∈ l, t.I v = s.I v
 a : ∀ v ∈ l, t.A v = s.A v
 n : s.arrays.length ≤ t.arrays.length
 z : ∀ k, k < s.arrays.length → t.arrays[k]!.length = s.arrays[k]!.length
theorem Sim.refl (s : StM) (l : List Int) : Sim s s l := ⟨fun _ _ => rfl, fun _ _ => rfl, Nat.le_refl _, fun _ _ => rfl⟩
theorem Sim.trans {s t u : StM} {l : List Int} (h : Sim s t l) (h2 : Sim t u l) : Sim s u l :=
 ⟨fun v hv => (h2.i v hv).trans (h.i v hv), fun v hv => (h2.a v hv).trans (h.a v hv), Nat.le_trans h.n h2.n, fun k hk => (h2.z k (Nat.lt_of_lt_of_le hk h.n)).trans (h.z k hk)⟩
theorem Sim.same {s t : StM} {l : List Int} (h1 : t.ints = s.ints) (h2 : t.arrs = s.arrs) (h3 : t.arrays = s.arrays) : Sim s t l :=
 ⟨fun v _ => by unfold StM.I; rw [h1], fun v _ => by unfold StM.A; rw [h2], by rw [h3]; exact Nat.le_refl _, fun k _ => by rw [h3]⟩
theorem place_sim {s t : StM} {l : List Int} (h : Sim s t l) {a i : Int} (hp : placeM s a i = true) : placeM t a i = true := by
 unfold placeM at hp ⊢
 simp only [Bool.and_eq_true, decide_eq_true_eq] at hp ⊢
 obtain ⟨⟨⟨h1, h2⟩, h3⟩, h4⟩ := hp
 have := h.n
 have hz := h.z a.toNat (by omega)
 refine ⟨⟨⟨h1, by omega⟩, h3⟩, by rw [hz]; exact h4⟩
theorem nth_memZ {l : List Int} {i : Nat} (h : i < l.length) : l[i]! ∈ l := by rw [getElem!_pos l i h]; exact List.getElem_mem h
theorem pass_sim {s t : StM} {op : Int} {l : List Int} (h : Sim s t l) (hl : 0 < l.length) (hp : passM s op l = true) : passM t op l = true := by
 have e0 : t.I l[0]! = s.I l[0]! := h.i _ (nth_memZ hl)
 have a0 : t.A l[0]! = s.A l[0]! := h.a _ (nth_memZ hl)
 have e1 : (if 1 < l.length then t.I l[1]! else 0) = if 1 < l.length then s.I l[1]! else 0 := by
  split
  ·exact h.i _ (nth_memZ ‹_›)
  ·rfl
 unfold passM at hp ⊢
 simp only at hp ⊢
 rw [e0, a0, e1]
 by_cases h18 : op = 18
 ·rw [if_pos h18] at hp ⊢; exact place_sim h hp
 ·rw [if_neg h18] at hp ⊢; exact hp
section
variable {n : Nat} {s : StM}
theorem sim_setI (h : Full n s) {d x : Int} (hd : 0 ≤ d ∧ d < (n : Int)) {l : List Int} (hl : ∀ v ∈ l, 0 ≤ v) (hn : d ∉ l) : Sim s (s.setI d x) l :=
 ⟨fun v hv => by rw [I_setI s x (by rw [h.i]; exact hd) (hl v hv), if_neg (fun e => hn (by rw [← e]; exact hv))], fun _ _ => rfl, Nat.le_refl _, fun _ _ => rfl⟩
theorem sim_setB (s : StM) {d : Int} {x : Bool} {l : List Int} : Sim s (s.setB d x) l := Sim.same rfl rfl rfl
theorem sim_setA (h : Full n s) {d x : Int} (hd : 0 ≤ d ∧ d < (n : Int)) {l : List Int} (hl : ∀ v ∈ l, 0 ≤ v) (hn : d ∉ l) : Sim s (s.setA d x) l :=
 ⟨fun _ _ => rfl, fun v hv => by rw [A_setA s x (by rw [h.a]; exact hd) (hl v hv), if_neg (fun e => hn (by rw [← e]; exact hv))], Nat.le_refl _, fun _ _ => rfl⟩
theorem sim_phis {l : List Int} (hl : ∀ v ∈ l, 0 ≤ v) (old : StM) (b : Nat) : ∀ (ps : List PhiM) (s : StM), Full n s → (∀ p ∈ ps, 0 ≤ p.dst ∧ p.dst < (n : Int)) → (∀ p ∈ ps, p.dst ∉ l) → Sim s (phisRun ps old s b) l ∧ Full n (phisRun ps old s b)
 | [], s, h, _, _ => ⟨Sim.refl _ _, h⟩
 | p :: ps, s, h, hd, hn => by
  have h1 := hd p (List.mem_cons_self ..)
  have h2 := hn p (List.mem_cons_self ..)
  unfold phisRun
  rw [List.foldl_cons]
  cases phiArg p b with
  | none => exact sim_phis hl old b ps s h (fun q hq => hd q (List.mem_cons_of_mem _ hq)) (fun q hq => hn q (List.mem_cons_of_mem _ hq))
  | some a =>
   have f1 := h.setI p.dst (old.I a)
   have f2 := f1.setB p.dst (old.B a)
   obtain ⟨r1, r2⟩ := sim_phis hl old b ps (((s.setI p.dst (old.I a)).setB p.dst (old.B a)).setA p.dst (old.A a)) (f2.setA p.dst (old.A a)) (fun q hq => hd q (List.mem_cons_of_mem _ hq)) (fun q hq => hn q (List.mem_cons_of_mem _ hq))
   exact ⟨(((sim_setI h h1 hl h2).trans (sim_setB _)).trans (sim_setA f2 h1 hl h2)).trans r1, r2⟩
end
theorem phis_out (old : StM) (b : Nat) : ∀ (ps : List PhiM) (s : StM), (phisRun ps old s b).out = s.out ∧ (phisRun ps old s b).ended = s.ended ∧ (phisRun ps old s b).arrays = s.arrays
 | [], s => ⟨rfl, rfl, rfl⟩
 | p :: ps, s => by
  unfold phisRun
  rw [List.foldl_cons]
  cases phiArg p b with
  | none => exact phis_out old b ps s
  | some a => exact phis_out old b ps (((s.setI p.dst (old.I a)).setB p.dst (old.B a)).setA p.dst (old.A a))
theorem fold_phi {l : List Int} : ∀ {ps : List PhiM} {g : Bool}, ps.foldl (phiG l) g = true → g = true ∧ ∀ p ∈ ps, p.dst ∉ l
 | [], g, h => ⟨h, fun p hp => by cases hp⟩
 | p :: ps, g, h => by
  rw [List.foldl_cons] at h
  obtain ⟨h1, h2⟩ := fold_phi h
  unfold phiG at h1
  split at h1
  ·cases h1
  ·rename_i hc
   refine ⟨h1, fun q hq => ?_⟩
   rcases List.mem_cons.1 hq with rfl | hq
   ·exact fun hm => hc (List.contains_iff_mem.2 hm)
   ·exact h2 q hq
/-- a check that may be asked for -/
structure ChkOK (n : Nat) (op : Int) (l : List Int) : Prop where
 op : 18 ≤ op ∧ op ≤ 24
 pos : 0 < l.length
 arg : ∀ a ∈ l, 0 ≤ a ∧ a < (n : Int)
/-- the program's own facts -/
structure SafeOK (f : FuncM) (ty : Int → Int) : Prop where
 ok : ∀ b, b < f.nb → BlockOK f.nb f.nv ty f.blocks.2[b]!
 phi : ∀ b, b < f.nb → ∀ p ∈ f.blocks.2[b]!.phis.2, PhiOK f.nv p
 join : JoinP f
 guard : ∀ b, b < f.nb → ∀ j, j < f.blocks.2[b]!.insts.2.length → GuardP f b j
/-- a run that goes on -/
structure SafeI (f : FuncM) (s : StM) : Prop where
 bl : s.block < f.nb
 pc : s.pc ≤ f.blocks.2[s.block]!.insts.2.length
 full : Full f.nv s
 mrk : ∀ op l, ChkOK f.nv op l → ∃ g, GWay (succF f) (tF f op l) s.block g ∧ (throughM f.blocks.2[s.block]! op l s.pc g = true → passM s op l = true)
/-- never stuck -/
def SafeS (f : FuncM) (s : StM) : Prop := s.out.ending ≠ 2 ∧ (s.ended = false → SafeI f s)
theorem step_mark {f : FuncM} {s t : StM} {op : Int} {l : List Int} {x : InstM} (hx : x = f.blocks.2[s.block]!.insts.2[s.pc]!) (hp : s.pc < f.blocks.2[s.block]!.insts.2.length) (hb : t.block = s.block) (hpc : t.pc = s.pc + 1)
  (hm : ∃ g, GWay (succF f) (tF f op l) s.block g ∧ (throughM f.blocks.2[s.block]! op l s.pc g = true → passM s op l = true))
  (h1 : isB x op l = true → passM t op l = true) (h2 : (0 ≤ x.dst → x.dst ∉ l) → passM s op l = true → passM t op l = true) :
  ∃ g, GWay (succF f) (tF f op l) t.block g ∧ (throughM f.blocks.2[t.block]! op l t.pc g = true → passM t op l = true) := by
 obtain ⟨g, hg, hw⟩ := hm
 refine ⟨g, by rw [hb]; exact hg, fun ht => ?_⟩
 rw [hb, hpc] at ht
 unfold throughM at ht
 rw [fold_take _ _ _ _ hp, ← hx] at ht
 unfold instG at ht
 split at ht
 ·cases ht
 ·rename_i hd
  rw [Bool.or_eq_true] at ht
  rcases ht with ht | ht
  ·exact h1 ht
  ·refine h2 (fun h0 hmem => hd ?_) (hw ht)
   rw [Bool.and_eq_true, decide_eq_true_eq]
   exact ⟨h0, List.contains_iff_mem.2 hmem⟩
theorem set_len (L : List (List Int)) (a b : Nat) (v : Int) (k : Nat) : ((L.set a (L[a]!.set b v))[k]!).length = L[k]!.length := by
 by_cases hk : k < L.length
 ·rw [getElem!_pos _ k (by rw [List.length_set]; exact hk), List.getElem_set]
  split
  ·rename_i q; rw [List.length_set, q]
  ·rw [getElem!_pos L k hk]
 ·rw [getElem!_neg _ k (by rw [List.length_set]; exact hk), getElem!_neg L k hk]
theorem stays_inst (s : StM) (x : InstM) : (instM s x).block = s.block ∧ (instM s x).pc = s.pc := inst_stays s x
/-- an instruction's trail: what it ends in, or what it leaves -/
structure Trail (n : Nat) (x : InstM) (s t : StM) : Prop where
 out : t.out.ending = s.out.ending ∧ t.ended = s.ended
 full : Full n t
 sim : ∀ l : List Int, (∀ v ∈ l, 0 ≤ v) → (0 ≤ x.dst → x.dst ∉ l) → Sim s t l
 chk : 18 ≤ x.op ∧ x.op ≤ 24 → passM t x.op x.args.2 = true
def Done (t : StM) : Prop := t.ended = true ∧ t.out.ending ≠ 2
theorem trail_set {n : Nat} {s : StM} {x : InstM} (h : Full n s) (hc : ¬ (18 ≤ x.op ∧ x.op ≤ 24)) {t : StM} (ho : t.out = s.out) (he : t.ended = s.ended) (hf : Full n t) (hs : ∀ l : List Int, (∀ v ∈ l, 0 ≤ v) → (0 ≤ x.dst → x.dst ∉ l) → Sim s t l) : Trail n x s t :=
 ⟨⟨by rw [ho], he⟩, hf, hs, fun h => absurd h hc⟩
theorem okD_in {n : Nat} {ty : Int → Int} {d t : Int} (h : okD n ty d (some t)) : 0 ≤ d ∧ d < (n : Int) := ⟨h.1, h.2.1⟩
theorem inst_trail {n : Nat} {ty : Int → Int} {s : StM} {x : InstM} (h : Full n s) (hx : InstOK n ty x) (hn : s.out.ending ≠ 2)
  (hg : inL rawL x.op = true → passM s (needC x.op.toNat).1 (needA x x.op.toNat) = true) : Done (instM s x) ∨ Trail n x s (instM s x) := by
 unfold instM
 by_cases hk : 18 ≤ x.op ∧ x.op ≤ 24
 ·rw [if_pos hk]
  unfold checkM
  simp only
  split
  ·rename_i hp
   right
   refine ⟨⟨rfl, rfl⟩, h.of rfl rfl rfl, fun l _ _ => Sim.same rfl rfl rfl, fun _ => ?_⟩
   have hl : 0 < x.args.2.length := by
    rw [hx.len (by omega)]
    rcases (show x.op = 18 ∨ x.op = 19 ∨ x.op = 20 ∨ x.op = 21 ∨ x.op = 22 ∨ x.op = 23 ∨ x.op = 24 by omega) with e | e | e | e | e | e | e <;> rw [e] <;> decide
   exact pass_sim (Sim.same rfl rfl rfl) hl hp
  ·exact .inl ⟨rfl, by show (1 : Int) ≠ 2; decide⟩
 ·rw [if_neg hk]
  have S : ∀ z, sigD x.op.toNat = some z → x.op ≠ 1 → 0 ≤ x.dst ∧ x.dst < (n : Int) := fun z hz h1 => by have := hx.dst h1; rw [hz] at this; exact okD_in this
  have L := hx.len
  have two : ∀ z : Int, x.op = z → z ≠ 1 → (sigT z.toNat).length = 2 → ∃ a b, x.args.2 = [a, b] := fun z hz h1 h2 => by
   have := L (by omega); rw [hz, h2] at this
   match hl : x.args.2, this with
   | [a, b], _ => exact ⟨a, b, rfl⟩
  have one : ∀ z : Int, x.op = z → z ≠ 1 → (sigT z.toNat).length = 1 → ∃ a, x.args.2 = [a] := fun z hz h1 h2 => by
   have := L (by omega); rw [hz, h2] at this
   match hl : x.args.2, this with
   | [a], _ => exact ⟨a, rfl⟩
  have three : ∀ z : Int, x.op = z → z ≠ 1 → (sigT z.toNat).length = 3 → ∃ a b c, x.args.2 = [a, b, c] := fun z hz h1 h2 => by
   have := L (by omega); rw [hz, h2] at this
   match hl : x.args.2, this with
   | [a, b, c], _ => exact ⟨a, b, c, rfl⟩
  have RI : ∀ v : Int, 0 ≤ x.dst ∧ x.dst < (n : Int) → Trail n x s (s.setI x.dst v) := fun v hd => trail_set h hk rfl rfl (h.setI _ _) fun l hl hm => sim_setI h hd hl (hm hd.1)
  have RB : ∀ v : Bool, Trail n x s (s.setB x.dst v) := fun v => trail_set h hk rfl rfl (h.setB _ _) fun l hl hm => sim_setB s
  have RA : ∀ v : Int, 0 ≤ x.dst ∧ x.dst < (n : Int) → Trail n x s (s.setA x.dst v) := fun v hd => trail_set h hk rfl rfl (h.setA _ _) fun l hl hm => sim_setA h hd hl (hm hd.1)
  have RC : ∀ (a : Int) (p : Bool) (r : Int), 0 ≤ x.dst ∧ x.dst < (n : Int) → Trail n x s (((s.setI x.dst a).setB x.dst p).setA x.dst r) := fun a p r hd => trail_set h hk rfl rfl (((h.setI _ _).setB _ _).setA _ _) fun l hl hm => ((sim_setI h hd hl (hm hd.1)).trans (sim_setB _)).trans (sim_setA ((h.setI _ _).setB _ _) hd hl (hm hd.1))
  have F3 : Done (s.fin 3) := ⟨rfl, by show (3 : Int) ≠ 2; decide⟩
  unfold rawM
  simp only
  rcases op_cases hx.op with e | e | e | e | e | e | e | e | e | e | e | e | e | e | e | e | e | e | e | e | e | e | e | e | e | e | e
  all_goals (try (exact absurd (show 18 ≤ x.op ∧ x.op ≤ 24 by omega) hk))
  all_goals simp only [e, Int.reduceEq, or_self, or_false, or_true, false_or, true_or, if_true, if_false, ↓reduceIte]
  ·exact .inr (RI _ (S 0 (by rw [e]; rfl) (by omega)))
  ·exact .inr (RC _ _ _ ⟨(hx.copy e).2.1, (hx.copy e).2.2.1⟩)
  ·exact .inr (RI _ (S 0 (by rw [e]; rfl) (by omega)))
  ·exact .inr (RI _ (S 0 (by rw [e]; rfl) (by omega)))
  ·exact .inr (RI _ (S 0 (by rw [e]; rfl) (by omega)))
  ·obtain ⟨a, b, hl⟩ := two 5 e (by decide) rfl
   have hp := hg (by rw [e]; rfl)
   rw [e, show needC (5 : Int).toNat = (20, 1, 1) from rfl, show needA x (5 : Int).toNat = [b] by unfold needA; rw [hl]; rfl] at hp
   rw [hl]
   have hb : ¬ s.I b = 0 := by unfold passM at hp; simpa using hp
   show Done (if s.I b = 0 then _ else _) ∨ Trail n x s (if s.I b = 0 then _ else _)
   rw [if_neg hb]
   exact .inr (RI _ (S 0 (by rw [e]; rfl) (by omega)))
  ·obtain ⟨a, b, hl⟩ := two 6 e (by decide) rfl
   have hp := hg (by rw [e]; rfl)
   rw [e, show needC (6 : Int).toNat = (20, 1, 1) from rfl, show needA x (6 : Int).toNat = [b] by unfold needA; rw [hl]; rfl] at hp
   rw [hl]
   have hb : ¬ s.I b = 0 := by unfold passM at hp; simpa using hp
   show Done (if s.I b = 0 then _ else _) ∨ Trail n x s (if s.I b = 0 then _ else _)
   rw [if_neg hb]
   exact .inr (RI _ (S 0 (by rw [e]; rfl) (by omega)))
  ·exact .inr (RB _)
  ·exact .inr (RB _)
  ·exact .inr (RB _)
  ·exact .inr (RB _)
  ·exact .inr (RB _)
  ·obtain ⟨a, hl⟩ := one 12 e (by decide) rfl
   have hp := hg (by rw [e]; rfl)
   rw [e, show needC (12 : Int).toNat = (19, 0, 1) from rfl, show needA x (12 : Int).toNat = [a] by unfold needA; rw [hl]; rfl] at hp
   rw [hl]
   have hb : ¬ s.A a < 0 := by unfold passM at hp; simp at hp; omega
   show Done (if s.A a < 0 then _ else _) ∨ Trail n x s (if s.A a < 0 then _ else _)
   rw [if_neg hb]
   exact .inr (RI _ (S 0 (by rw [e]; rfl) (by omega)))
  ·obtain ⟨a, b, hl⟩ := two 13 e (by decide) rfl
   have hp := hg (by rw [e]; rfl)
   rw [e, show needC (13 : Int).toNat = (18, 0, 2) from rfl, show needA x (13 : Int).toNat = [a, b] by unfold needA; rw [hl]; rfl] at hp
   rw [hl]
   have hb : placeM s (s.A a) (s.I b) = true := hp
   show Done (if placeM s (s.A a) (s.I b) = true then _ else _) ∨ Trail n x s (if placeM s (s.A a) (s.I b) = true then _ else _)
   rw [if_pos hb]
   exact .inr (RI _ (S 0 (by rw [e]; rfl) (by omega)))
  ·obtain ⟨a, b, c, hl⟩ := three 14 e (by decide) rfl
   have hp := hg (by rw [e]; rfl)
   rw [e, show needC (14 : Int).toNat = (18, 0, 2) from rfl, show needA x (14 : Int).toNat = [a, b] by unfold needA; rw [hl]; rfl] at hp
   rw [hl]
   have hb : placeM s (s.A a) (s.I b) = true := hp
   show Done (if placeM s (s.A a) (s.I b) = true then _ else _) ∨ Trail n x s (if placeM s (s.A a) (s.I b) = true then _ else _)
   rw [if_pos hb]
   refine .inr (trail_set h hk rfl rfl (h.of rfl rfl rfl) fun l hl hm => ⟨fun _ _ => rfl, fun _ _ => rfl, ?_, fun k hk => ?_⟩)
   ·show s.arrays.length ≤ (s.arrays.set _ _).length; rw [List.length_set]; exact Nat.le_refl _
   ·exact set_len s.arrays _ _ _ k
  ·obtain ⟨a, hl⟩ := one 15 e (by decide) rfl
   have hp := hg (by rw [e]; rfl)
   rw [e, show needC (15 : Int).toNat = (24, 0, 1) from rfl, show needA x (15 : Int).toNat = [a] by unfold needA; rw [hl]; rfl] at hp
   rw [hl]
   have hb : ¬ (s.I a < 0 ∨ 64 < s.I a) := by unfold passM at hp; simp at hp; omega
   show Done (if s.I a < 0 ∨ 64 < s.I a then _ else _) ∨ Trail n x s (if s.I a < 0 ∨ 64 < s.I a then _ else _)
   rw [if_neg hb]
   by_cases h32 : 32 ≤ s.arrays.length
   ·rw [if_pos h32]; exact .inl F3
   ·rw [if_neg h32]
    have hd := S 2 (by rw [e]; rfl) (by omega)
    generalize List.replicate _ (0 : Int) = r
    have f1 : Full n { s with arrays := s.arrays ++ [r] } := h.of rfl rfl rfl
    refine .inr (trail_set h hk rfl rfl (f1.setA _ _) fun l hl hm => Sim.trans (t := { s with arrays := s.arrays ++ [r] }) ⟨fun _ _ => rfl, fun _ _ => rfl, ?_, fun k hk => ?_⟩ (sim_setA f1 hd hl (hm hd.1)))
    ·show s.arrays.length ≤ (s.arrays ++ [r]).length; rw [List.length_append]; omega
    ·show ((s.arrays ++ [r])[k]!).length = _
     rw [getElem!_pos _ k (by rw [List.length_append]; omega), getElem!_pos s.arrays k hk, List.getElem_append_left hk]
  ·exact .inr (RA _ (S 2 (by rw [e]; rfl) (by omega)))
  ·by_cases ht : 4096 ≤ s.out.trace.length
   ·rw [if_pos ht]; exact .inl F3
   ·rw [if_neg ht]
    exact .inr ⟨⟨rfl, rfl⟩, h.of rfl rfl rfl, fun l _ _ => Sim.same rfl rfl rfl, fun q => absurd q hk⟩
  ·exact .inr (RC _ _ _ (S 0 (by rw [e]; rfl) (by omega)))
  ·exact .inr (RC _ _ _ (S 0 (by rw [e]; rfl) (by omega)))
theorem chk_of {k : Nat} {n : Nat} {ty : Int → Int} {x : InstM} (hx : InstOK n ty x) (hr : inL rawL x.op = true) : ChkOK n (needC x.op.toNat).1 (needA x x.op.toNat) := by
 have hm := inL_iff.1 hr
 unfold rawL at hm
 have hsub : ∀ a ∈ needA x x.op.toNat, 0 ≤ a ∧ a < (n : Int) := fun a ha => by
  unfold needA at ha
  exact hx.arg a (List.mem_of_mem_drop (List.mem_of_mem_take ha))
 have L := hx.len
 simp only [List.mem_cons, List.not_mem_nil, or_false] at hm
 refine ⟨?_, ?_, hsub⟩
 ·rcases hm with e | e | e | e | e | e <;> rw [e] <;> decide
 ·unfold needA
  rw [List.length_take, List.length_drop]
  rcases hm with e | e | e | e | e | e <;> (have := L (by omega); rw [e] at this ⊢; rw [this]; decide)
theorem leads_of {nb n : Nat} {ty : Int → Int} {y : BlockM} (h : BlockOK nb n ty y) {t : Int} (ht : y.kind = 0 ∧ t = y.to0 ∨ y.kind = 1 ∧ (t = y.to0 ∨ t = y.to1)) : leadsM y t = true := by
 unfold leadsM
 rcases ht with ⟨h0, rfl⟩ | ⟨h1, rfl | rfl⟩
 ·rw [h0]; simp
 ·rw [h1]; simp
 ·rw [h1]; simp
theorem safe_enter {f : FuncM} {ty : Int → Int} (hS : SafeOK f ty) {s : StM} (h : SafeI f s) (hn : s.out.ending ≠ 2) (he : s.ended = false) (hpc : ¬ s.pc < f.blocks.2[s.block]!.insts.2.length) {tq : Nat} (hto : tq < f.nb) (hl : leadsM f.blocks.2[s.block]! (tq : Int) = true) :
  SafeS f (enterM (fun b => f.blocks.2[b]!) s tq) := by
 have hall : (f.blocks.2[tq]!.phis.2.all fun p => (phiArg p s.block).isSome) = true := by
  rw [List.all_eq_true]
  intro p hp
  obtain ⟨i, _, _, e⟩ := phi_some (hS.join tq hto p hp s.block h.bl hl)
  rw [e]; rfl
 unfold enterM
 rw [if_pos hall]
 obtain ⟨o1, o2, o3⟩ := phis_out s s.block f.blocks.2[tq]!.phis.2 s
 have hd : ∀ p ∈ f.blocks.2[tq]!.phis.2, 0 ≤ p.dst ∧ p.dst < (f.nv : Int) := fun p hp => (hS.phi tq hto p hp).dst
 refine ⟨by show (phisRun _ s s s.block).out.ending ≠ 2; rw [o1]; exact hn, fun _ => ⟨hto, Nat.zero_le _, ?_, fun op l hc => ?_⟩⟩
 ·have F : ∀ (ps : List PhiM) (t : StM), Full f.nv t → Full f.nv (phisRun ps s t s.block) := fun ps => by
   induction ps with
   | nil => intro t ht; exact ht
   | cons p ps ih =>
    intro t ht
    unfold phisRun
    rw [List.foldl_cons]
    cases phiArg p s.block with
    | none => exact ih t ht
    | some a => exact ih _ (((ht.setI _ _).setB _ _).setA _ _)
  exact (F _ s h.full).of rfl rfl rfl
 ·obtain ⟨g, hg, hw⟩ := h.mrk op l hc
  refine ⟨tF f op l s.block g, .step hg (succF_mem.2 ⟨hto, hl⟩), fun ht => ?_⟩
  unfold throughM at ht
  rw [List.take_zero, List.foldl_nil] at ht
  obtain ⟨h1, h2⟩ := fold_phi ht
  have e : s.pc = f.blocks.2[s.block]!.insts.2.length := by have := h.pc; omega
  unfold tF at h1
  rw [← e] at h1
  have hs := (sim_phis (fun v hv => (hc.arg v hv).1) s s.block f.blocks.2[tq]!.phis.2 s h.full hd h2).1
  exact pass_sim (hs.trans (Sim.same rfl rfl rfl)) hc.pos (hw h1)
theorem safe_step {f : FuncM} {ty : Int → Int} (hS : SafeOK f ty) {s : StM} (h : SafeS f s) (he : s.ended = false) : SafeS f (stepM (fun b => f.blocks.2[b]!) s) := by
 obtain ⟨hn, hI⟩ := h
 have hI := hI he
 have hB := hS.ok _ hI.bl
 have hT : SafeI f s.tick := ⟨hI.bl, hI.pc, hI.full.of rfl rfl rfl, fun op l hc => by
  obtain ⟨g, hg, hw⟩ := hI.mrk op l hc
  exact ⟨g, hg, fun q => pass_sim (Sim.same rfl rfl rfl) hc.pos (hw q)⟩⟩
 rw [step_eq]
 by_cases hp : s.pc < f.blocks.2[s.block]!.insts.2.length
 ·rw [if_pos hp]
  have hm : f.blocks.2[s.block]!.insts.2[s.pc]! ∈ f.blocks.2[s.block]!.insts.2 := by rw [getElem!_pos f.blocks.2[s.block]!.insts.2 _ hp]; exact List.getElem_mem hp
  have hx := hB.inst _ hm
  have hgd := hS.guard _ hI.bl _ hp
  generalize hxe : f.blocks.2[s.block]!.insts.2[s.pc]! = x at *
  obtain ⟨b1, b2⟩ := stays_inst s.tick.next x
  have hg : inL rawL x.op = true → passM s.tick.next (needC x.op.toNat).1 (needA x x.op.toNat) = true := fun hr => by
   have hc := chk_of (k := 0) hx hr
   obtain ⟨g, hg, hw⟩ := hI.mrk _ _ hc
   unfold GuardP at hgd
   rw [hxe] at hgd
   rcases hgd with q | q | q
   ·rw [q] at hr; cases hr
   ·exact absurd (gway_reach hg) q
   ·exact pass_sim (Sim.same rfl rfl rfl) hc.pos (hw (q g hg))
  rcases inst_trail (s := s.tick.next) (hI.full.of rfl rfl rfl) hx hn hg with hD | hR
  ·exact ⟨hD.2, fun q => by rw [hD.1] at q; cases q⟩
  ·refine ⟨by rw [hR.out.1]; exact hn, fun _ => ⟨by rw [b1]; exact hI.bl, by rw [b1, b2]; exact hp, hR.full, fun op l hc => ?_⟩⟩
   refine step_mark (s := s) hxe.symm hp b1 b2 (hI.mrk op l hc) (fun hi => ?_) (fun hd hw => ?_)
   ·obtain ⟨i1, i2⟩ := isB_iff.1 hi
    have := hR.chk (by rw [i1]; exact hc.op)
    rw [i1, i2] at this
    exact this
   ·exact pass_sim ((Sim.same rfl rfl rfl : Sim s s.tick.next l).trans (hR.sim l (fun v hv => (hc.arg v hv).1) hd)) hc.pos hw
 ·rw [if_neg hp]
  by_cases h2 : f.blocks.2[s.block]!.kind = 2
  ·rw [if_pos h2]
   exact ⟨by show (0 : Int) ≠ 2; decide, fun q => by cases q⟩
  ·rw [if_neg h2]
   have enter : ∀ t : Int, 0 ≤ t ∧ t < (f.nb : Int) → leadsM f.blocks.2[s.block]! t = true → SafeS f (enterM (fun b => f.blocks.2[b]!) s.tick t.toNat) := fun t ht hl =>
    safe_enter hS hT hn he hp (by omega) (by rw [show ((t.toNat : Nat) : Int) = t by omega]; exact hl)
   split
   ·rename_i h3
    rcases hB.kind with hk | hk | hk
    ·exact enter _ (hB.jump hk) (leads_of hB (.inl ⟨hk, rfl⟩))
    ·have := hB.iff hk; exact enter _ ⟨this.1, this.2.1⟩ (leads_of hB (.inr ⟨hk, .inl rfl⟩))
    ·exact absurd hk h2
   ·rename_i h3
    rcases hB.kind with hk | hk | hk
    ·exact absurd (Or.inl hk) h3
    ·have := hB.iff hk; exact enter _ ⟨this.2.2.1, this.2.2.2.1⟩ (leads_of hB (.inr ⟨hk, .inr rfl⟩))
    ·exact absurd hk h2
theorem safe_run {f : FuncM} {ty : Int → Int} (hS : SafeOK f ty) (k : Nat) : ∀ {s : StM}, SafeS f s → (runM (fun b => f.blocks.2[b]!) k s).out.ending ≠ 2 := by
 induction k with
 | zero => intro s h; exact h.1
 | succ k ih =>
  intro s h
  show (if s.ended = true then s else runM (fun b => f.blocks.2[b]!) k (stepM (fun b => f.blocks.2[b]!) s)).out.ending ≠ 2
  by_cases he : s.ended = true
  ·rw [if_pos he]; exact h.1
  ·rw [if_neg he]; exact ih (safe_step hS h (by simpa using he))
theorem safe_begin {f : FuncM} (ty : Int → Int) (args : List ArgM) (arrays : List (List Int)) (hp : 0 < f.nb) : SafeS f (beginM f.nv ty args arrays) :=
 ⟨by show (3 : Int) ≠ 2; decide, fun _ => ⟨hp, Nat.zero_le _, begin_full .., fun op l hc => ⟨false, .start, fun h => by
  have hz : throughM f.blocks.2[0]! op l 0 false = false := by
   unfold throughM
   rw [List.take_zero, List.foldl_nil]
   cases e : f.blocks.2[0]!.phis.2.foldl (phiG l) false with
   | false => rfl
   | true => exact (fold_phi e).1.symm
  have h : throughM f.blocks.2[0]! op l 0 false = true := h
  rw [hz] at h; cases h⟩⟩⟩
end Go.Proofs.YtjllbchfojonhaaGreatDoor
