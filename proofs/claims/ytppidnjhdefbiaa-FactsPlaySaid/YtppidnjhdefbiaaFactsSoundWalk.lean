/- The walk of the law FactsSound. -/
import Derived.Test.YtppidnjhdefbiaaFactsFullWalk
import Derived.Test.YtppidnjhdefbiaaViews
namespace Go.Proofs.Ytppidnjhdefbiaa
open Go.RowKit
set_option linter.unusedVariables false

theorem quiet_l {P : Program} {f : FuncId} {args : Array Value} {w : World} {n : Nat} {v : Value}
    (h : Calls P f args (w.drewN n) fun e w' => e = .returned v ∧ w.drewN n = w') : Calls P f args (w.drewN n) fun e w'' => e = .returned v ∧ ∃ m, w'' = w.drewN m :=
  h.mono fun _ _ ⟨he, hm⟩ => ⟨he, n, hm.symm⟩

theorem Sees1.keep {w w' : World} {a : Option Addr} {len : Nat} {z : Nat → Int} (h : Sees1 w a len z) (hk : Keeps w w' []) : Sees1 w' a len z := by
  rcases h with h | ⟨b, off, ha, hb, hc⟩
  · exact .inl h
  · exact .inr ⟨b, off, ha, Nat.lt_of_lt_of_le hb hk.size, fun i hi => (World.cell?_of_block (a := ⟨b, off + i, none⟩) (hk.block b hb (by simp))).trans (hc i hi)⟩
theorem Sees3.keep {w w' : World} {a : Option Addr} {len : Nat} {z0 z1 z2 : Nat → Int} (h : Sees3 w a len z0 z1 z2) (hk : Keeps w w' []) : Sees3 w' a len z0 z1 z2 := by
  rcases h with h | ⟨b, off, ha, hb, hc⟩
  · exact .inl h
  · refine .inr ⟨b, off, ha, Nat.lt_of_lt_of_le hb hk.size, fun i hi => ?_⟩
    have hB := hk.block b hb (by simp)
    exact ⟨(World.cell?_of_block (a := ⟨b, _, none⟩) hB).trans (hc i hi).1, (World.cell?_of_block (a := ⟨b, _, none⟩) hB).trans (hc i hi).2.1, (World.cell?_of_block (a := ⟨b, _, none⟩) hB).trans (hc i hi).2.2⟩

/-- what the second loop keeps -/
def SoundInv (w wr : World) (g n : Nat) (zv : Nat → Int) (k : Nat) : Prop :=
  ∃ L lv mv, L.length ≤ k ∧ Stk wr w.heap.size g lv mv n L [] ∧ Keeps w wr [] ∧ Fits L n ∧ ∀ f ∈ L, zv f.a ≤ zv f.b + f.c

def InRange (zv : Nat → Int) (k : Nat) : Prop := ∀ i, i < k → -2305843009213693952 ≤ zv i ∧ zv i ≤ 2305843009213693952

set_option maxRecDepth 100000 in
set_option maxHeartbeats 8000000 in
theorem sound_early (al : Option Addr) (ll cl : Nat) (av : Option Addr) (n cv : Nat) (a b : Int) (hn : n ≤ 9223372036854775807) (hl : ll ≤ 9223372036854775807) (w : World) (h : 20 < n ∨ 60 < ll ∨ a < 0 ∨ (n : Int) ≤ a ∨ b < 0 ∨ (n : Int) ≤ b) :
    Calls Try.prog 6 #[.slice al ll cl, .slice av n cv, .int .i64 a, .int .i64 b] w fun e w' => e = .returned (.bool true) ∧ Below w.heap.size w w' := by
  rcases Bool.eq_false_or_eq_true (decide ((20 : Int) < n)) with h0 | h0
  · clear h
    go_enter Try.func6, Try.ntmps6
    go_wp2_with fail
    refine (factslives _).mono ?_
    rintro e w1 ⟨rfl, k1⟩
    go_wp2_with fail
    refine (factslives _).mono ?_
    rintro e w2 ⟨rfl, k2⟩
    go_wp2
    go_ret
    exact ⟨rfl, (Keeps.trans k1 k2).below (Nat.le_refl _) (by simp)⟩
  rcases Bool.eq_false_or_eq_true (decide ((60 : Int) < ll)) with h1 | h1
  · clear h
    go_enter Try.func6, Try.ntmps6
    go_wp2_with fail
    refine (factslives _).mono ?_
    rintro e w1 ⟨rfl, k1⟩
    go_wp2_with fail
    refine (factslives _).mono ?_
    rintro e w2 ⟨rfl, k2⟩
    go_wp2
    go_ret
    exact ⟨rfl, (Keeps.trans k1 k2).below (Nat.le_refl _) (by simp)⟩
  rcases Bool.eq_false_or_eq_true (decide (a < 0)) with h2 | h2
  · clear h
    go_enter Try.func6, Try.ntmps6
    go_wp2_with fail
    refine (factslives _).mono ?_
    rintro e w1 ⟨rfl, k1⟩
    go_wp2_with fail
    refine (factslives _).mono ?_
    rintro e w2 ⟨rfl, k2⟩
    go_wp2
    go_ret
    exact ⟨rfl, (Keeps.trans k1 k2).below (Nat.le_refl _) (by simp)⟩
  rcases Bool.eq_false_or_eq_true (decide ((n : Int) ≤ a)) with h3 | h3
  · clear h
    go_enter Try.func6, Try.ntmps6
    go_wp2_with fail
    refine (factslives _).mono ?_
    rintro e w1 ⟨rfl, k1⟩
    go_wp2_with fail
    refine (factslives _).mono ?_
    rintro e w2 ⟨rfl, k2⟩
    go_wp2
    go_ret
    exact ⟨rfl, (Keeps.trans k1 k2).below (Nat.le_refl _) (by simp)⟩
  rcases Bool.eq_false_or_eq_true (decide (b < 0)) with h4 | h4
  · clear h
    go_enter Try.func6, Try.ntmps6
    go_wp2_with fail
    refine (factslives _).mono ?_
    rintro e w1 ⟨rfl, k1⟩
    go_wp2_with fail
    refine (factslives _).mono ?_
    rintro e w2 ⟨rfl, k2⟩
    go_wp2
    go_ret
    exact ⟨rfl, (Keeps.trans k1 k2).below (Nat.le_refl _) (by simp)⟩
  rcases Bool.eq_false_or_eq_true (decide ((n : Int) ≤ b)) with h5 | h5
  · clear h
    go_enter Try.func6, Try.ntmps6
    go_wp2_with fail
    refine (factslives _).mono ?_
    rintro e w1 ⟨rfl, k1⟩
    go_wp2_with fail
    refine (factslives _).mono ?_
    rintro e w2 ⟨rfl, k2⟩
    go_wp2
    go_ret
    exact ⟨rfl, (Keeps.trans k1 k2).below (Nat.le_refl _) (by simp)⟩
  · simp at h0 h1 h2 h3 h4 h5; omega

theorem rng_lo {zv : Nat → Int} {k i : Nat} (h : InRange zv k) (hi : i < k) : -2305843009213693952 ≤ zv i := (h i hi).1
theorem rng_hi {zv : Nat → Int} {k i : Nat} (h : InRange zv k) (hi : i < k) : zv i ≤ 2305843009213693952 := (h i hi).2
theorem rng_succ {zv : Nat → Int} {k : Nat} (h : InRange zv k) (h1 : -2305843009213693952 ≤ zv k) (h2 : zv k ≤ 2305843009213693952) : InRange zv (k + 1) := by
  intro i hi
  rcases Nat.lt_succ_iff_lt_or_eq.1 hi with h3 | rfl
  · exact h i h3
  · exact ⟨h1, h2⟩

theorem keep_none {w w' : World} {S : List Nat} (h : Keeps w w' []) : Keeps w w' S := h.mono (fun k hk => by cases hk)
theorem sound_alloc {w wr : World} {g n : Nat} {zv : Nat → Int} {k m : Nat} (h : SoundInv w wr g n zv k) (o : Obj) (d : Nat) (hm : k ≤ m) : SoundInv w ((wr.alloc o).drewN d) g n zv m := by
  obtain ⟨L, lv, mv, h1, h2, h3, h4, h5⟩ := h
  have K : Keeps wr ((wr.alloc o).drewN d) [] := ((Keeps.refl wr []).alloc o).drewN d
  exact ⟨L, lv, mv, by omega, h2.keep K (by simp) (by simp) (by simp), keep_own h3 K (by simp), h4, h5⟩

set_option maxRecDepth 100000 in
set_option maxHeartbeats 8000000 in
theorem sound_main (al : Option Addr) (ll cl : Nat) (av : Option Addr) (n cv a b : Nat) (z0 z1 z2 zv : Nat → Int) (hn : n ≤ 20) (hl : ll ≤ 60) (ha : a < n) (hb : b < n) (w : World)
    (hsl : Sees3 w al ll z0 z1 z2) (hsv : Sees1 w av n zv) (hz : ∀ i, i < ll → inI (z0 i) = true ∧ inI (z1 i) = true ∧ inI (z2 i) = true) :
    Calls Try.prog 6 #[.slice al ll cl, .slice av n cv, .int .i64 a, .int .i64 b] w fun e w' => e = .returned (.bool true) ∧ Below w.heap.size w w' := by
  have HL := kept hsl
  have HV := kept hsv
  have HZ := kept hz
  clear hsl hsv hz
  go_enter Try.func6, Try.ntmps6
  go_wp2_with fail
  refine (factslives _).mono ?_
  rintro e w1 ⟨rfl, k1⟩
  have K1 := kept (show Keeps w w1 [] from k1)
  clear k1
  go_wp2_with fail
  refine (new_yes _ n (by omega)).mono ?_
  rintro e w2 ⟨rfl, hw2⟩
  have h2 : Stk w2 w.heap.size w1.heap.size (.slice none 0 0) (.slice none 0 0) n [] [] := by rw [hw2]; exact stk_new w1 w.heap.size n K1.out.size
  have K2 := kept (show Keeps w w2 [] by rw [hw2]; exact K1.out.alloc _)
  have HI0 : Hid (SoundInv w w2 w1.heap.size n zv 0) := ⟨[], _, _, Nat.le_refl _, h2, K2.out, fits_nil n, fun f hf => by cases hf⟩
  have hsz := K1.out.size
  clear h2 hw2 K1
  generalize w1.heap.size = g at *
  go_wp2
  go_loop [53] (fun i => ∃ (j : Nat), j ≤ n ∧ i = .int .i64 j ∧ InRange zv j) (fun i => n - (intOf i).toNat)
  case atStart => exact ⟨0, by omega, rfl, fun i hi => by omega⟩
  case round =>
    obtain ⟨j, hj, rfl, hR⟩ := hrel
    have HR := kept hR
    clear hR
    by_cases hlt : j < n
    · obtain ⟨bv, ov, rfl, hbv, hcv⟩ := (HV.out.keep K2.out).resolve_left (by omega)
      have q := hcv j hlt
      clear hcv
      by_cases hlo : zv j < -2305843009213693952
      · go_wp2
        go_ret
        exact ⟨rfl, K2.out.below (Nat.le_refl _) (by simp)⟩
      by_cases hhi : 2305843009213693952 < zv j
      · go_wp2
        go_ret
        exact ⟨rfl, K2.out.below (Nat.le_refl _) (by simp)⟩
      · go_wp2
        go_round
        case rel => exact ⟨j + 1, by omega, by go_num, rng_succ HR.out (by omega) (by omega)⟩
        case measure => simp [intOf]; omega
    · have hjn : j = n := by omega
      subst hjn
      clear hlt hj
      go_wp2
      go_loopw [66] (fun x wr => ∃ (i : Nat), i ≤ ll ∧ x = .int .i64 i ∧ SoundInv w wr g j zv i) (fun x _ => ll - (intOf x).toNat)
      case atStart => exact ⟨0, by omega, rfl, HI0.out⟩
      case round =>
        obtain ⟨i, hi, rfl, hI⟩ := hrel
        have HI := kept hI
        have HK := kept (show Keeps w wr [] from by obtain ⟨L, lv, mv, _, _, h3, _⟩ := hI; exact h3)
        clear hI
        by_cases hlt : i < ll
        · obtain ⟨bl, ol, rfl, hbl, hcl⟩ := (HL.out.keep HK.out).resolve_left (by omega)
          obtain ⟨q0, q1, q2⟩ := hcl i hlt
          obtain ⟨r0, r1, r2⟩ := HZ.out i hlt
          rw [inI_iff] at r0 r1 r2
          clear hcl
          rcases Bool.eq_false_or_eq_true (decide (z0 i < 0)) with c0 | c0
          · go_wp2
            go_roundw
            case rel => exact ⟨i + 1, by omega, by go_num, sound_alloc HI.out _ 0 (by omega)⟩
            case measure => simp [intOf]; omega
          rcases Bool.eq_false_or_eq_true (decide ((j : Int) ≤ z0 i)) with c1 | c1
          · go_wp2
            go_roundw
            case rel => exact ⟨i + 1, by omega, by go_num, sound_alloc HI.out _ 0 (by omega)⟩
            case measure => simp [intOf]; omega
          rcases Bool.eq_false_or_eq_true (decide (z1 i < 0)) with c2 | c2
          · go_wp2
            go_roundw
            case rel => exact ⟨i + 1, by omega, by go_num, sound_alloc HI.out _ 0 (by omega)⟩
            case measure => simp [intOf]; omega
          rcases Bool.eq_false_or_eq_true (decide ((j : Int) ≤ z1 i)) with c3 | c3
          · go_wp2
            go_roundw
            case rel => exact ⟨i + 1, by omega, by go_num, sound_alloc HI.out _ 0 (by omega)⟩
            case measure => simp [intOf]; omega
          rcases Bool.eq_false_or_eq_true (decide (z2 i < -1152921504606846976)) with c4 | c4
          · go_wp2
            go_roundw
            case rel => exact ⟨i + 1, by omega, by go_num, sound_alloc HI.out _ 0 (by omega)⟩
            case measure => simp [intOf]; omega
          rcases Bool.eq_false_or_eq_true (decide (1152921504606846976 < z2 i)) with c5 | c5
          · go_wp2
            go_roundw
            case rel => exact ⟨i + 1, by omega, by go_num, sound_alloc HI.out _ 0 (by omega)⟩
            case measure => simp [intOf]; omega
          simp at c0 c1 c2 c3 c4 c5
          obtain ⟨A, hA⟩ : ∃ A : Nat, z0 i = A := ⟨(z0 i).toNat, by omega⟩
          obtain ⟨C, hC⟩ : ∃ C : Nat, z1 i = C := ⟨(z1 i).toNat, by omega⟩
          obtain ⟨c, hc⟩ : ∃ c : Int, z2 i = c := ⟨_, rfl⟩
          rw [hA] at q0 c1
          rw [hC] at q1 c3
          rw [hc] at q2 c4 c5
          clear hA hC hc c0 c2 r0 r1 r2
          have hAn : A < j := by omega
          have hCn : C < j := by omega
          obtain ⟨bv, ov, rfl, hbv, hcv⟩ := (HV.out.keep HK.out).resolve_left (by omega)
          have p0 := hcv A hAn
          have p1 := hcv C hCn
          clear hcv
          have s0 := rng_lo HR.out hAn
          have s1 := rng_hi HR.out hAn
          have s2 := rng_lo HR.out hCn
          have s3 := rng_hi HR.out hCn
          by_cases hgt : zv C + c < zv A
          · go_wp2
            go_region
            all_goals
              go_wp2
              go_roundw
              case rel => exact ⟨i + 1, by omega, by go_num, sound_alloc HI.out _ 1 (by omega)⟩
              case measure => simp [intOf]; omega
          · go_wp2
            go_region
            go_wp2_with fail
            obtain ⟨L, lv, mv, h1, h2, h3, h4, h5⟩ := HI.out
            have K3 : Keeps wr ((wr.alloc (Obj.cells #[.int .i64 A, .int .i64 C, .int .i64 c] 36)).drewN 1) [] := ((Keeps.refl wr []).alloc _).drewN 1
            have hs := h2.keep K3 (by simp) (by simp) (by simp)
            refine (add_yes hs A C c (has_lt hAn) (has_lt hCn) c4 c5 (by omega) (by have := h3.size; have := K3.size; omega)).mono ?_
            rintro e w3 ⟨rfl, hA⟩
            have HS3 : Hid (SoundInv w w3 g j zv (i + 1)) := by
              obtain ⟨lv', k1, k2⟩ := keep_add (B := 0) (keep_own h3 K3 (by simp)) hs hA
              refine ⟨_, lv', mv, by simp; omega, k1, k2, fits_one h4 hAn hCn c4 c5, fun f hf => ?_⟩
              rcases List.mem_append.1 hf with hf | hf
              · exact h5 f hf
              · simp at hf; subst hf; simp; omega
            clear hA hs K3 h1 h2 h3 h4 h5
            go_wp2
            go_roundw
            case rel => exact ⟨i + 1, by omega, by go_num, HS3.out⟩
            case measure => simp [intOf]; omega
        · obtain ⟨L, lv, mv, h1, h2, h3, h4, h5⟩ := HI.out
          have CL := kept (least_any h2 a b ha hb (by omega) (by omega) h3.size h4)
          obtain ⟨bv, ov, rfl, hbv, hcv⟩ := ((HV.out.keep h3)).resolve_left (by omega)
          have hsd := fun s (hs : leastV L a b = some s) => Chain.N_sound L b zv h5 6 a s hs
          have hbd := fun s (hs : leastV L a b = some s) => fits_bound h4 (Nat.le_refl 6) a s hs
          have HSD := kept hsd
          have HBD := kept hbd
          have HV3 := kept (HV.out.keep h3)
          have H3 := kept h3
          clear h1 h2 h3 h4 h5 hcv hsd hbd
          rcases hr : leastV L a b with _ | s
          · rw [hr] at CL
            clear hr
            go_wp2_with fail
            refine CL.out.mono ?_
            rintro e w3 ⟨rfl, k3⟩
            have K3 := kept k3
            clear k3
            go_wp2_with fail
            go_quiet (fail)
            go_wp2
            go_ret
            exact ⟨rfl, ((keep_own H3.out K3.out (by simp)).drewN _).below (Nat.le_refl _) (by simp)⟩
          · have hd := HSD.out s hr
            have hbd := HBD.out s hr
            rw [hr] at CL
            clear hr
            have t0 := rng_lo HR.out hb
            have t1 := rng_hi HR.out hb
            have t2 := rng_lo HR.out ha
            have t3 := rng_hi HR.out ha
            go_wp2_with fail
            refine CL.out.mono ?_
            rintro e w3 ⟨rfl, k3⟩
            have K3 := kept k3
            obtain ⟨bv', ov', hv', hbv', hcv'⟩ := (HV3.out.keep k3).resolve_left (by omega)
            cases hv'
            have p0 := hcv' a ha
            have p1 := hcv' b hb
            have cf := kept (fun W => reffits_0 (zv b) s W (by rw [inI_iff]; omega) (by rw [inI_iff]; omega))
            clear k3 hcv'
            rcases Bool.eq_false_or_eq_true (inI (zv b + s)) with hI | hI
            · rw [hI] at cf
              rw [inI_iff] at hI
              obtain ⟨i0, i1⟩ := hI
              go_wp2_with fail
              go_quiet ((go_at_call 23; exact quiet_l (cf.out _)))
              go_wp2
              go_ret
              exact ⟨rfl, ((keep_own H3.out K3.out (by simp)).drewN _).below (Nat.le_refl _) (by simp)⟩
            · rw [hI] at cf
              rw [inI_no] at hI
              have hpos : 0 < s := by omega
              clear hI
              go_wp2_with fail
              go_quiet ((go_at_call 23; exact quiet_l (cf.out _)))
              go_wp2
              go_ret
              exact ⟨rfl, ((keep_own H3.out K3.out (by simp)).drewN _).below (Nat.le_refl _) (by simp)⟩
end Go.Proofs.Ytppidnjhdefbiaa
