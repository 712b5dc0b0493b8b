/- The walk of the law ScanLines. -/
import Derived.Test.YthcdibpajdnjaaaDoorCmp
import Derived.Laws.EntriesVeiled
namespace Go.Proofs.YthcdibpajdnjaaaDoor
open Go.RowKit
set_option linter.unusedVariables false

/-- what Lines hands back, of a text of at most 600 bytes -/
theorem lines_any (s : ByteArray) (w : World) (ht : Tabs w) (hs : s.size ≤ 600) :
    Calls Tryd.prog 8 #[.string s] w fun e w' => ∃ ag ng cg E, e = .returned (.tuple #[.slice ag ng cg, .int .i64 E]) ∧ Keeps w w' [] ∧
      ((wrong s.data.toList = true ∧ E = 2 ∧ ng = 0) ∨
       (wrong s.data.toList = false ∧ E = 0 ∧ ∃ Gs, LinesAt w' w.heap.size (.slice ag ng cg) Gs ∧ ng = Gs.length ∧ Gs.map (·.1) = linesOf s.data.toList)) := by
  cases hw : wrong s.data.toList with
  | true =>
    have hr : rightE s = 2 := by unfold rightE; rw [if_neg (by omega), hw]; rfl
    refine (lines_bad s w ht (by omega) (by rw [hr]; decide)).mono ?_
    rintro e w' ⟨rfl, hk⟩
    exact ⟨_, _, _, _, rfl, hk, .inl ⟨rfl, hr, rfl⟩⟩
  | false =>
    have hr : rightE s = 0 := by unfold rightE; rw [if_neg (by omega), hw]; rfl
    refine (lines_ok s w ht hr).mono ?_
    rintro e w' ⟨v, Gs, rfl, hL, hm, hk⟩
    obtain ⟨a, c, rfl, _, _⟩ := own_form hL.row
    exact ⟨_, _, _, _, rfl, hk, .inr ⟨rfl, rfl, Gs, hL, rfl, hm⟩⟩

theorem emit_len (n : Nat) (ws : List (List UInt8)) : (emit n ws).length ≤ 1 := by
  unfold emit
  split <;> simp
theorem conv_one (W : World) (r : Int) (x : List UInt8) (hx : Lib.encodeRune r = x) (hok : okR r) :
    (convert 30 9 (.slice (some ⟨W.heap.size, 0, none⟩) 1 1)).run Tryd.prog (W.alloc (.cells #[.int .i32 r] 21)) = .ok (.string (str x)) (W.alloc (.cells #[.int .i32 r] 21)) := by
  rw [run_convert_runes (W.alloc (.cells #[.int .i32 r] 21)) 30 9 21 ⟨W.heap.size, 0, none⟩ 1 1 [r] (by simp) Tryd.underlying30 Tryd.underlying21 Tryd.underlying9 (fun j hj => ?_)]
  · rw [List.take_of_length_le (by simp), runesBytes_eq [r] (fun y hy => by rw [List.mem_singleton.1 hy]; exact hok)]
    simp [enc, hx]
  · have hj0 : j = 0 := by simp at hj; omega
    subst hj0
    have := (Blk.new W 21 #[.int .i32 r]).cell 0
    rw [add_plain]
    exact this
theorem str_add (a c : List UInt8) : str a ++ str c = str (a ++ c) := by
  apply ByteArray.ext
  apply Array.toList_inj.1
  simp [str, ByteArray.data_append]

set_option maxRecDepth 100000 in
set_option maxHeartbeats 16000000 in
theorem walkScanLines (s : ByteArray) (w : World) (ht : Tabs w) (hs : s.size ≤ 9223372036854775807) :
    Calls Tryd.prog 3 #[.string s] w fun e w' => e = .returned (.bool true) ∧ Keeps w w' [] := by
  have CL := kept (fun w h => lives_any w h)
  have HT := kept ht
  clear ht
  by_cases h2 : 600 < s.size
  · have hd : decide (600 < (s.size : Int)) = true := by simp; omega
    go_enter Tryd.func3, Tryd.ntmps3
    go_wp2_with fail
    refine (CL.out _ HT.out).mono ?_
    rintro e w1 ⟨rfl, k1⟩
    have K1 := kept k1
    clear k1
    go_wp2_with fail
    refine (CL.out _ (HT.out.keep K1.out)).mono ?_
    rintro e w2 ⟨rfl, k2⟩
    have K2 := kept (K1.out.and_then k2)
    clear k2
    go_wp2
    go_ret
    exact ⟨rfl, K2.out⟩
  have hd : decide (600 < (s.size : Int)) = false := by simp; omega
  have hs6 : s.size ≤ 600 := by omega
  have CG := kept (fun w h => lines_any s w h hs6)
  have hmf : ∀ (fn : Fn) (first cap : Array Value) (w : World), (Instr.makeFunc fn first cap).run Tryd.prog w = .ok (.func fn first cap) w := fun _ _ _ _ => rfl
  clear h2
  go_enter Tryd.func3, Tryd.ntmps3
  go_wp2_with fail
  refine (CL.out _ HT.out).mono ?_
  rintro e w1 ⟨rfl, k1⟩
  have K1 := kept k1
  clear k1 CL
  go_wp2_with fail
  refine (CG.out _ (HT.out.keep K1.out)).mono ?_
  rintro e w2 ⟨ag, ng, cg, E, rfl, k2, hg⟩
  have HG := kept hg
  have K2 := kept (K1.out.and_then k2)
  have hz12 := k2.size
  clear k2 CG hg
  obtain ⟨s0, i0, k0, z0⟩ := start_ok w2 s
  have KS := kept (K2.out.and_then k0)
  have hz := K2.out.size
  go_wp2
  change Code.wp Tryd.prog _ _ _ (startW w2 s)
  generalize startW w2 s = W0 at *
  obtain ⟨b, hb⟩ : ∃ b, w2.heap.size + 1 = b := ⟨_, rfl⟩
  have e7 : w2.heap.size + 7 = b + 6 := by omega
  have e6 : w2.heap.size + 6 = b + 5 := by omega
  rw [e7, hb] at s0
  rw [e6] at i0
  rw [e7] at z0
  have hbz : w.heap.size + 1 ≤ b := by omega
  have hz2 := kept hb
  rw [hb]
  simp only [Nat.add_assoc, Nat.reduceAdd]
  have S0 := kept s0
  have I0 := kept i0
  have K0 := kept k0
  have hz1 : w1.heap.size ≤ w2.heap.size := hz12
  have hg1 : Hid (w1.heap.size + 1 ≤ b) := by show _ ≤ _; omega
  clear s0 i0 k0 hb e7 e6 hz hz12 hz1 hmf
  obtain ⟨WR, hWR⟩ : ∃ x, wrong s.data.toList = x := ⟨_, rfl⟩
  rw [hWR] at HG
  have hmm := mach_lines s.data.toList
  obtain ⟨L, hL⟩ : ∃ x, linesOf s.data.toList = x := ⟨_, rfl⟩
  rw [hL] at HG hmm
  have HW0 := kept hWR
  have HM0 := kept hmm
  clear hWR hmm hL
  go_loopw [11] (fun v wr => ∃ (pos : Nat) (Rs : List LineV) (n : Nat) (ws : List (List UInt8)) (word : List UInt8) (out : Bool) (vw lv : Value), St wr (b + 6) b Rs n ws word out vw lv ∧ wr.heap[b + 5]? = some (.stringIter s pos) ∧ Turned W0 wr ((b + 5) :: vars4 b) (b + 6) ∧
      Hid (wrong (s.data.toList.drop pos) = WR) ∧ Hid (Rs.map (·.1) ++ mach (s.data.toList.drop pos) n ws word out = L) ∧ ws.length ≤ pos ∧ Rs.length ≤ pos ∧ n ≤ pos + 1 ∧ word.length ≤ pos ∧ pos ≤ s.size) (fun _ wr => s.size - wr.iterPos (b + 5))
  case atStart => exact ⟨0, [], 1, [], [], false, _, _, S0.out, I0.out, Turned.refl _ _ _, HW0, HM0, by simp, by simp, by omega, by simp, by omega⟩
  case round =>
    obtain ⟨pos, Rs, n, ws, word, out, vw, lv, hSt, hit, hT, HWp, HMp, hws, hRs, hn, hwd, hps⟩ := hrel
    have hpos0 := iterPos_of hit
    by_cases hp : pos < s.size
    · have hnx : ∀ ty, (Instr.next (.pointer (some ⟨b + 5, 0, none⟩)) true ty).run Tryd.prog wr = _ := fun ty => Lib.run_next_any_at wr (b + 5) s pos ty hit hp
      have hit2 := Lib.iterAt_heap wr (b + 5) s pos (pos + (Utf8.decode s pos).2) hit
      have hk2 : Keeps wr (wr.iterAt (b + 5) s (pos + (Utf8.decode s pos).2)) [b + 5] := (Keeps.refl wr _).iterAt (.inl (by simp)) _ _
      have hSt2 := hSt.keep hk2 (fun x hx => by simp at hx; omega)
      have hT2 := hT.trans (Turned.of_keeps (B := b + 6) (E := (b + 5) :: vars4 b) hk2 hSt.size (fun x hx => .inl (by simp at hx; simp [hx])))
      obtain ⟨W1, hW1⟩ : ∃ W1, W1 = wr.iterAt (b + 5) s (pos + (Utf8.decode s pos).2) := ⟨_, rfl⟩
      rw [← hW1] at hnx hit2 hSt2 hT2
      clear hSt hit hT hW1 hk2
      rcases head_step hp with ⟨e1, e2, e3⟩ | ⟨c, t, e1, e2, e3, e4⟩ | ⟨x, r, t, e1, e2, e3, e4, e5⟩
      · rw [e1] at hnx
        simp only at hnx
        have hwr : WR = true := HWp.out.symm.trans e2
        subst hwr
        rcases HG.out with ⟨_, rfl, rfl⟩ | ⟨h, _⟩
        case inr => cases h
        have HKeep := kept (hT2.keeps KS.out (by omega) (fun x hx => by simp at hx; omega))
        clear e1 e2 hit2 hSt2 hT2 HWp HMp hpos0
        by_cases h3 : (s.size : Int) < (pos : Int) + 3
        · go_wp2
          go_ret
          exact ⟨rfl, HKeep.out⟩
        · have h3N : pos + 3 ≤ s.size := by omega
          have hne := e3 h3N
          generalize hx : s.extract pos (pos + 3) = x at *
          have hnb : (x.toList == [239, 191, 189]) = false := by
            have h := str_ne hne
            rw [ByteArray.toList_eq fffd] at h
            exact h
          have h3I : (pos : Int) + 3 ≤ (s.size : Int) := by omega
          have h3d : decide ((s.size : Int) < (pos : Int) + 3) = false := by simpa using h3
          clear e3 hne h3
          go_wp2
          go_ret
          exact ⟨rfl, HKeep.out⟩
      · rw [e3] at hnx hit2
        simp only at hnx hit2
        have h5 := HWp.out
        rw [e1, wrong_cons c t e2] at h5
        have h6 := HMp.out
        rw [e1] at h6
        have HT' : Hid (s.data.toList.drop (pos + 1) = t) := e4
        have hn1 : (((c.toNat : Nat) : Int) == 65533) = false := by simp; omega
        have HH := kept hit2
        have HP := kept hpos0
        have H6 := kept h6
        have HS1 := kept hSt2
        have HT1 := kept hT2
        have c8 := hSt2.out.cell 0
        change W1.cell? ⟨b + 3, 0, none⟩ = some (.bool out) at c8
        have f8 := hSt2.out.frozen 0
        have c9 := hSt2.fn.cell 0
        change W1.cell? ⟨b + 4, 0, none⟩ = some (.func (.func 9) #[] #[.pointer (some ⟨b + 2, 0, none⟩), .pointer (some ⟨b + 1, 0, none⟩)]) at c9
        have c7 := hSt2.word.cell 0
        change W1.cell? ⟨b + 2, 0, none⟩ = some (.string (str word)) at c7
        have f7 := hSt2.word.frozen 0
        clear hit2 hpos0 hSt2 hT2 HWp HMp h6 e1 e3 e4
        by_cases hc32 : ((c.toNat : Nat) : Int) < 32 ∧ ((c.toNat : Nat) : Int) ≠ 10
        · have hwr : WR = true := by
            rw [← h5]
            have : (decide ((c.toNat : Int) < 32) && !decide ((c.toNat : Int) = 10)) = true := by
              simp only [Bool.and_eq_true, decide_eq_true_eq, Bool.not_eq_true', decide_eq_false_iff_not]
              exact hc32
            rw [this, Bool.true_or]
          subst hwr
          rcases HG.out with ⟨_, rfl, rfl⟩ | ⟨h, _⟩
          case inr => cases h
          have HKeep := kept (HT1.out.keeps KS.out (by omega) (fun x hx => by simp at hx; omega))
          have hd1 : decide (((c.toNat : Nat) : Int) < 32) = true := decide_eq_true hc32.1
          have hd2 : (((c.toNat : Nat) : Int) != 10) = true := by simpa using hc32.2
          clear h5 hc32 c8 f8 c9 c7 f7
          go_wp2
          go_ret
          exact ⟨rfl, HKeep.out⟩
        · have h5' : Hid (wrong t = WR) := by
            rw [← h5]
            have : (decide ((c.toNat : Int) < 32) && !decide ((c.toNat : Int) = 10)) = false := by
              rw [Bool.eq_false_iff]
              intro h
              simp at h
              exact hc32 ⟨h.1, by have := h.2; omega⟩
            rw [this, Bool.false_or]
            rfl
          clear h5
          by_cases hc10 : c = 10
          · subst hc10
            rw [mach_lf] at H6
            have CN := kept (next_any HS1.out (by omega) (by omega) (by omega))
            clear hc32 HS1
            go_wp2_with fail
            refine (CN.out).mono ?_
            rintro e w5 ⟨rfl, ⟨vw', lv', Rs', g1, g2⟩, g3⟩
            have G1 := kept g1
            have G2 := kept g2
            have G3 := kept (g3.more (E' := (b + 5) :: vars4 b) (fun x hx => List.mem_cons_of_mem _ hx))
            have hit5 : Hid (w5.heap[b + 5]? = some (.stringIter s (pos + 1))) := by
              have h := g3.block (b + 5) (by omega) (by simp; omega)
              exact h.trans HH.out
            clear g1 g2 g3 HH CN
            go_wp2
            go_roundw
            case rel => exact ⟨pos + 1, Rs', n + 1, [], [], false, vw', lv', G1.out, hit5.out, HT1.out.trans G3.out, (by show wrong _ = _; rw [HT'.out]; exact h5'.out), (by show _ = _; rw [HT'.out, G2.out, ← H6.out]; simp), by simp, (by have := emit_len n (endw ws word); have := congrArg List.length G2.out; simp at this; omega), by omega, by simp, by omega⟩
            case measure => rw [iterPos_of hit5.out, HP.out]; omega
          · have hI10 : ((c.toNat : Nat) : Int) ≠ 10 := fun h => hc10 (UInt8.toNat_inj.1 (by simpa using (by omega : c.toNat = 10)))
            have hd1 : decide (((c.toNat : Nat) : Int) < 32) = false := decide_eq_false (fun h => hc32 ⟨h, hI10⟩)
            have hd2 : (((c.toNat : Nat) : Int) == 10) = false := by simpa using hI10
            cases out with
            | true =>
              rw [mach_out hc10] at H6
              clear hc32 hc10 hI10 c9 c7 f7 f8
              go_wp2
              go_roundw
              case rel => exact ⟨pos + 1, Rs, n, ws, word, true, vw, lv, HS1.out, HH.out, HT1.out, (by show wrong _ = _; rw [HT'.out]; exact h5'.out), (by show _ = _; rw [HT'.out]; exact H6.out), by omega, by omega, by omega, by omega, by omega⟩
              case measure => rw [iterPos_of HH.out, HP.out]; omega
            | false =>
              by_cases hc35 : c = 35
              · subst hc35
                rw [mach_hash] at H6
                have CN := kept (end_any HS1.out (by omega))
                have hel := endw_len ws word
                clear hc32 hc10 hI10 HS1 c7 f7 f8 hd1 hd2 hn1
                go_wp2_with fail
                refine (CN.out).mono ?_
                rintro e w5 ⟨rfl, ⟨lv', g1⟩, g2⟩
                have d8 := g1.out.cell 0
                change w5.cell? ⟨b + 3, 0, none⟩ = some (.bool false) at d8
                have e8 := g1.out.frozen 0
                have G1 := kept (g1.set_out true)
                have g3 : Turned W1 (w5.setCell ⟨b + 3, 0, none⟩ (.bool true)) ((b + 5) :: vars4 b) (b + 6) := (g2.more (fun x hx => List.mem_cons_of_mem _ hx)).trans (Turned.of_keeps ((Keeps.refl w5 [b + 3]).setCell (p := ⟨b + 3, 0, none⟩) (.inl (by simp)) _) g1.size (fun x hx => .inl (by simp at hx; simp [hx])))
                have G3 := kept (HT1.out.trans g3)
                have hit5 : Hid ((w5.setCell ⟨b + 3, 0, none⟩ (.bool true)).heap[b + 5]? = some (.stringIter s (pos + 1))) := by
                  have h := g2.block (b + 5) (by omega) (by simp; omega)
                  exact ((Below.heap_setCell w5 _ _ (b + 5) (by simp)).trans h).trans HH.out
                clear g1 g2 g3 HH CN HT1
                go_wp2
                go_roundw
                case rel => exact ⟨pos + 1, Rs, n, endw ws word, [], true, vw, lv', G1.out, hit5.out, G3.out, (by show wrong _ = _; rw [HT'.out]; exact h5'.out), (by show _ = _; rw [HT'.out]; exact H6.out), by omega, by omega, by omega, by simp, by omega⟩
                case measure => rw [iterPos_of hit5.out, HP.out]; omega
              · have hd35 : (((c.toNat : Nat) : Int) == 35) = false := by
                  simp only [beq_eq_false_iff_ne, ne_eq]
                  exact fun h => hc35 (UInt8.toNat_inj.1 (by simpa using (by omega : c.toNat = 35)))
                by_cases hcb : c = 32
                · subst hcb
                  rw [mach_blank] at H6
                  have CN := kept (end_any HS1.out (by omega))
                  have hel := endw_len ws word
                  clear hc32 hc10 hI10 HS1 c7 f7 f8 hd1 hd2 hn1 hc35 hd35
                  go_wp2_with fail
                  refine (CN.out).mono ?_
                  rintro e w5 ⟨rfl, ⟨lv', g1⟩, g2⟩
                  have G1 := kept g1
                  have G3 := kept (HT1.out.trans (g2.more (fun x hx => List.mem_cons_of_mem _ hx)))
                  have hit5 : Hid (w5.heap[b + 5]? = some (.stringIter s (pos + 1))) := by
                    have h := g2.block (b + 5) (by omega) (by simp; omega)
                    exact h.trans HH.out
                  clear g1 g2 HH CN HT1
                  go_wp2
                  go_roundw
                  case rel => exact ⟨pos + 1, Rs, n, endw ws word, [], false, vw, lv', G1.out, hit5.out, G3.out, (by show wrong _ = _; rw [HT'.out]; exact h5'.out), (by show _ = _; rw [HT'.out]; exact H6.out), by omega, by omega, by omega, by simp, by omega⟩
                  case measure => rw [iterPos_of hit5.out, HP.out]; omega
                · have hdb : (((c.toNat : Nat) : Int) == 32) = false := by
                    simp only [beq_eq_false_iff_ne, ne_eq]
                    exact fun h => hcb (UInt8.toNat_inj.1 (by simpa using (by omega : c.toNat = 32)))
                  rw [mach_sign hc10 hc35 hcb] at H6
                  have hcode : Lib.encodeRune ((c.toNat : Nat) : Int) = [c] := by
                    unfold Lib.encodeRune
                    rw [Lib.encodeRuneZ_one (by omega) (by omega)]
                    simp
                  have hok : okR ((c.toNat : Nat) : Int) := encode_eq c.toNat (by omega) (.inl (by omega))
                  have hcv := conv_one W1 _ _ hcode hok
                  have hcat : ¬ 9223372036854775807 < (str word).size + (str [c]).size := by rw [str_size, str_size]; simp; omega
                  have es := str_add word [c]
                  have g0 := HS1.out.keep ((Keeps.refl W1 []).alloc (.cells #[.int .i32 ((c.toNat : Nat) : Int)] 21)) (by simp)
                  have c7a := g0.word.cell 0
                  have f7a := g0.word.frozen 0
                  change (W1.alloc (.cells #[.int .i32 ((c.toNat : Nat) : Int)] 21)).cell? ⟨b + 2, 0, none⟩ = some (.string (str word)) at c7a
                  have g1 := g0.set_word (word ++ [c])
                  have hsz1 := HS1.out.size
                  have g2 : Turned W1 ((W1.alloc (.cells #[.int .i32 ((c.toNat : Nat) : Int)] 21)).setCell ⟨b + 2, 0, none⟩ (.string (str (word ++ [c])))) ((b + 5) :: vars4 b) (b + 6) := Turned.of_keeps ((((Keeps.refl W1 [b + 2]).alloc _).setCell (p := ⟨b + 2, 0, none⟩) (.inl (by simp)) _)) hsz1 (fun x hx => .inl (by simp at hx; simp [hx]))
                  have G1 := kept g1
                  have G3 := kept (HT1.out.trans g2)
                  have hit5 : Hid (((W1.alloc (.cells #[.int .i32 ((c.toNat : Nat) : Int)] 21)).setCell ⟨b + 2, 0, none⟩ (.string (str (word ++ [c])))).heap[b + 5]? = some (.stringIter s (pos + 1))) :=
                    ((Below.heap_setCell _ _ _ (b + 5) (by simp)).trans (Below.heap_alloc W1 _ (b + 5) (by omega))).trans HH.out
                  clear g0 g1 g2 HH HT1 hcode hok HS1 hc32 hc10 hI10 hc35 hcb c9
                  generalize hr0 : ((c.toNat : Nat) : Int) = r0 at *
                  go_wp2
                  go_roundw
                  case rel => exact ⟨pos + 1, Rs, n, ws, word ++ [c], false, vw, lv, G1.out, hit5.out, G3.out, (by show wrong _ = _; rw [HT'.out]; exact h5'.out), (by show _ = _; rw [HT'.out]; exact H6.out), by omega, by omega, by omega, by simp; omega, by omega⟩
                  case measure => rw [iterPos_of hit5.out, HP.out]; omega
      · rw [e3] at hnx hit2
        simp only at hnx hit2
        have h5 := HWp.out
        rw [e1, wrong_wide e2] at h5
        have h5' : Hid (wrong t = WR) := h5
        have h6 := HMp.out
        rw [e1] at h6
        have HT' : Hid (s.data.toList.drop (pos + x.length) = t) := e4
        have hxs : pos + x.length ≤ s.size := by
          have := congrArg List.length e1
          rw [List.length_drop, ← Lib.size_eq, List.length_append] at this
          omega
        have hr1 := e2.rune
        have hr2 := e2.le
        have hx2 := e2.two
        have hcode := e2.code
        have hok : okR ((r : Nat) : Int) := encode_eq r e2.le e2.sur
        have hd1 : decide (((r : Nat) : Int) < 32) = false := decide_eq_false (by omega)
        have hd2 : (((r : Nat) : Int) == 10) = false := by simp; omega
        have hd35 : (((r : Nat) : Int) == 35) = false := by simp; omega
        have hdb : (((r : Nat) : Int) == 32) = false := by simp; omega
        have HH := kept hit2
        have HP := kept hpos0
        have HS1 := kept hSt2
        have HT1 := kept hT2
        have c8 := hSt2.out.cell 0
        change W1.cell? ⟨b + 3, 0, none⟩ = some (.bool out) at c8
        have c7 := hSt2.word.cell 0
        change W1.cell? ⟨b + 2, 0, none⟩ = some (.string (str word)) at c7
        have f7 := hSt2.word.frozen 0
        cases out with
        | true =>
          rw [mach_wide_out e2.high] at h6
          have H6 := kept h6
          clear hit2 hpos0 hSt2 hT2 HWp HMp h6 e1 e2 e3 e4 hcode hok c7 f7 h5
          by_cases hr : r = 65533
          · subst hr
            obtain ⟨h3, he⟩ := e5 rfl
            unfold fffd at he
            have h3I : (pos : Int) + 3 ≤ (s.size : Int) := by omega
            have h3d : decide ((s.size : Int) < (pos : Int) + 3) = false := decide_eq_false (by omega)
            clear e5 h3
            go_wp2
            go_roundw
            case rel => exact ⟨pos + x.length, Rs, n, ws, word, true, vw, lv, HS1.out, HH.out, HT1.out, (by show wrong _ = _; rw [HT'.out]; exact h5'.out), (by show _ = _; rw [HT'.out]; exact H6.out), by omega, by omega, by omega, by omega, by omega⟩
            case measure => rw [iterPos_of HH.out, HP.out]; omega
          · have hn1 : (((r : Nat) : Int) == 65533) = false := by simp; omega
            clear e5 hr
            go_wp2
            go_roundw
            case rel => exact ⟨pos + x.length, Rs, n, ws, word, true, vw, lv, HS1.out, HH.out, HT1.out, (by show wrong _ = _; rw [HT'.out]; exact h5'.out), (by show _ = _; rw [HT'.out]; exact H6.out), by omega, by omega, by omega, by omega, by omega⟩
            case measure => rw [iterPos_of HH.out, HP.out]; omega
        | false =>
          rw [mach_wide e2.high] at h6
          have H6 := kept h6
          have hcv := conv_one W1 _ _ hcode hok
          have hcat : ¬ 9223372036854775807 < (str word).size + (str x).size := by rw [str_size, str_size]; omega
          have es := str_add word x
          have g0 := HS1.out.keep ((Keeps.refl W1 []).alloc (.cells #[.int .i32 ((r : Nat) : Int)] 21)) (by simp)
          have c7a := g0.word.cell 0
          have f7a := g0.word.frozen 0
          change (W1.alloc (.cells #[.int .i32 ((r : Nat) : Int)] 21)).cell? ⟨b + 2, 0, none⟩ = some (.string (str word)) at c7a
          have g1 := g0.set_word (word ++ x)
          have hsz1 := HS1.out.size
          have g2 : Turned W1 ((W1.alloc (.cells #[.int .i32 ((r : Nat) : Int)] 21)).setCell ⟨b + 2, 0, none⟩ (.string (str (word ++ x)))) ((b + 5) :: vars4 b) (b + 6) := Turned.of_keeps ((((Keeps.refl W1 [b + 2]).alloc _).setCell (p := ⟨b + 2, 0, none⟩) (.inl (by simp)) _)) hsz1 (fun x hx => .inl (by simp at hx; simp [hx]))
          have G1 := kept g1
          have G3 := kept (HT1.out.trans g2)
          have hit5 : Hid (((W1.alloc (.cells #[.int .i32 ((r : Nat) : Int)] 21)).setCell ⟨b + 2, 0, none⟩ (.string (str (word ++ x)))).heap[b + 5]? = some (.stringIter s (pos + x.length))) :=
            ((Below.heap_setCell _ _ _ (b + 5) (by simp)).trans (Below.heap_alloc W1 _ (b + 5) (by omega))).trans HH.out
          clear g0 g1 g2 hit2 hpos0 hSt2 hT2 HWp HMp h6 e1 e2 e3 e4 hcode hok h5 HH HT1 HS1
          by_cases hr : r = 65533
          · obtain ⟨h3, he⟩ := e5 hr
            have hn1 : (((r : Nat) : Int) == 65533) = true := by simp; omega
            unfold fffd at he
            have h3I : (pos : Int) + 3 ≤ (s.size : Int) := by omega
            have h3d : decide ((s.size : Int) < (pos : Int) + 3) = false := decide_eq_false (by omega)
            clear e5 h3 hr
            generalize hr0 : ((r : Nat) : Int) = r0 at *
            go_wp2
            go_roundw
            case rel => exact ⟨pos + x.length, Rs, n, ws, word ++ x, false, vw, lv, G1.out, hit5.out, G3.out, (by show wrong _ = _; rw [HT'.out]; exact h5'.out), (by show _ = _; rw [HT'.out]; exact H6.out), by omega, by omega, by omega, by simp; omega, by omega⟩
            case measure => rw [iterPos_of hit5.out, HP.out]; omega
          · have hn1 : (((r : Nat) : Int) == 65533) = false := by simp; omega
            clear e5 hr
            generalize hr0 : ((r : Nat) : Int) = r0 at *
            go_wp2
            go_roundw
            case rel => exact ⟨pos + x.length, Rs, n, ws, word ++ x, false, vw, lv, G1.out, hit5.out, G3.out, (by show wrong _ = _; rw [HT'.out]; exact h5'.out), (by show _ = _; rw [HT'.out]; exact H6.out), by omega, by omega, by omega, by simp; omega, by omega⟩
            case measure => rw [iterPos_of hit5.out, HP.out]; omega
    · have hnx : ∀ ty, (Instr.next (.pointer (some ⟨b + 5, 0, none⟩)) true ty).run Tryd.prog wr = _ := fun ty => Lib.run_next_end_at wr (b + 5) s pos ty hit hp
      have h5 := HWp.out
      rw [drop_end hp] at h5
      have hwr : WR = false := h5.symm
      subst hwr
      have h6 := HMp.out
      rw [drop_end hp] at h6
      rcases HG.out with ⟨h, _⟩ | ⟨_, rfl, Gs, hGs, rfl, hGL⟩
      case inl => cases h
      have CN := kept (next_any hSt (by omega) (by omega) (by omega))
      have hTk := kept hT
      have H6 := kept h6
      have HGs := kept hGs
      have HGL := kept hGL
      clear hit hpos0 h5 h6 hSt hT HWp HMp HG hGs hGL
      go_wp2_with fail
      refine (CN.out).mono ?_
      rintro e w5 ⟨rfl, ⟨vw', lv', Rs', g1, g2⟩, g3⟩
      have hC := Cmp.start HGs.out K0.out hz2.out (hTk.out.trans (g3.more (fun x hx => List.mem_cons_of_mem _ hx))) g1
      have HK5 := kept ((hTk.out.trans (g3.more (E' := (b + 5) :: vars4 b) (fun x hx => List.mem_cons_of_mem _ hx))).keeps KS.out (by omega) (fun x hx => by simp at hx; omega))
      have hmap : Gs.map (·.1) = Rs'.map (·.1) := by
        rw [HGL.out, g2, ← H6.out]
        rfl
      have hlen : Gs.length = Rs'.length := by have := congrArg List.length hmap; simpa using this
      have HMap := kept hmap
      have hl2 : Rs'.length ≤ Rs.length + 1 := by
        have := emit_len n (endw ws word)
        have := congrArg List.length g2
        simp at this
        omega
      have hwant := hC.want.row
      obtain ⟨aw, cw, rfl, hcw, hcw2⟩ := own_form hwant
      rw [← hlen] at hC hwant hcw
      have hrow := hC.grow
      obtain ⟨Nn, hNn⟩ : ∃ Nn, Gs.length = Nn := ⟨_, rfl⟩
      have HN := kept hNn
      have HNR : Hid (Rs'.length = Nn) := hlen.symm.trans hNn
      have hN : Nn ≤ 10000 := by omega
      rw [hNn] at hC
      have HC := kept hC
      have c5 := hC.wantB.cell 0
      change w5.cell? ⟨b, 0, none⟩ = some (.slice aw Nn cw) at c5
      rw [hNn]
      clear g1 g2 g3 CN hTk H6 HGs HGL hC hmap hwant hrow hlen hNn hl2 hcw hcw2
      go_wp2
      go_loopw [106] (fun i wr => ∃ k : Nat, k ≤ Nn ∧ i = .int .i64 k ∧ Cmp wr w1.heap.size b (.slice ag Nn cg) (.slice aw Nn cw) Gs Rs' k ∧ Keeps w wr []) (fun i _ => Nn - (intOf i).toNat)
      case atStart => exact ⟨0, by omega, rfl, HC.out, HK5.out⟩
      case round =>
        obtain ⟨k, hk, rfl, hC, hkr⟩ := hrel
        have HKr := kept hkr
        clear hkr
        by_cases hlt : k < Nn
        · obtain ⟨p, hp⟩ : ∃ p, Gs[k]? = some p := ⟨_, List.getElem?_eq_getElem (by rw [HN.out]; exact hlt)⟩
          obtain ⟨q, hq, hpq⟩ : ∃ q, Rs'[k]? = some q ∧ p.1 = q.1 := by
            have h1 : k < Rs'.length := by rw [HNR.out]; exact hlt
            refine ⟨Rs'[k], List.getElem?_eq_getElem h1, ?_⟩
            have h2 := congrArg (·[k]?) HMap.out
            simp only [List.getElem?_map, hp, List.getElem?_eq_getElem h1, Option.map_some] at h2
            exact Option.some.inj h2
          obtain ⟨⟨m, wv⟩, pv⟩ := p
          obtain ⟨⟨m', wv'⟩, qv⟩ := q
          simp only [Prod.mk.injEq] at hpq
          obtain ⟨rfl, rfl⟩ := hpq
          obtain ⟨gg, cg', hvg, hcg, _, hgc⟩ := own_row1 hC.grow (by rw [HN.out]; omega)
          obtain ⟨gw, cw', hvw, hcw, _, hwc⟩ := own_row1 hC.want.row (by rw [HNR.out]; omega)
          rw [HN.out] at hvg hcg
          rw [HNR.out] at hvw hcw
          cases hvg
          cases hvw
          have hpw := hC.gwords k _ (Nat.le_refl _) hp
          have hqw := hC.want.words _ (List.mem_of_getElem? hq)
          simp only at hpw hqw
          obtain ⟨a1, c1, rfl, hc0, hc1⟩ := own_form hpw
          obtain ⟨a2, c2, rfl, _, _⟩ := own_form hqw
          have g0 := hgc _ _ (lines_at hp).1
          have g1 := hgc _ _ (lines_at hp).2
          have w0' := hwc _ _ (lines_at hq).1
          have w1' := hwc _ _ (lines_at hq).2
          simp only at g0 g1 w0' w1'
          have d5 := hC.wantB.cell 0
          change wr.cell? ⟨b, 0, none⟩ = some (.slice (some ⟨gw, 0, none⟩) Nn cw) at d5
          have HCk := kept hC
          have hltI : (k : Int) < (Nn : Int) := by omega
          have hk0 : (0 : Int) ≤ (k : Int) := by omega
          have hCs := hC.size
          clear hC hgc hwc
          go_wp2
          have hkA : Keeps wr (wr.alloc (.cells #[.int .i64 m, .slice a1 wv.length c1] 29)) [] := (Keeps.refl wr []).alloc _
          have hLb := Blk.new wr 29 #[.int .i64 m, .slice a1 wv.length c1]
          have l0 := hLb.cell 0
          have l1 := hLb.cell 1
          change (wr.alloc (.cells #[.int .i64 m, .slice a1 wv.length c1] 29)).cell? ⟨wr.heap.size, 0, none⟩ = some (.int .i64 m) at l0
          change (wr.alloc (.cells #[.int .i64 m, .slice a1 wv.length c1] 29)).cell? ⟨wr.heap.size, 1, none⟩ = some (.slice a1 wv.length c1) at l1
          have g0a := hkA.cellOf g0
          have g1a := hkA.cellOf g1
          have w0a := hkA.cellOf w0'
          have w1a := hkA.cellOf w1'
          have d5a := hkA.cellOf d5
          have HCa := kept (HCk.out.keep hkA).next
          have HKa := kept (HKr.out.and_then hkA)
          have hpa := own_keep hpw hkA (by simp)
          have hqa := own_keep hqw hkA (by simp)
          have hLbs : gg < wr.heap.size := (own_lt HCk.out.grow rfl).1
          have hbL : Hid (b + 6 ≤ wr.heap.size) := hCs
          have HLb := kept hLb
          have HPA := kept hpa
          have HQA := kept hqa
          clear hkA g0 g1 w0' w1' d5 hpw hqw HCk HKr hLb hLbs hpa hqa
          generalize wr.alloc (.cells #[.int .i64 m, .slice a1 wv.length c1] 29) = Wk at *
          generalize wr.heap.size = Lb at *
          go_quiet (fail)
          have HCd := kept (HCa.out.keep ((Keeps.refl Wk []).drewN nq))
          have HKd := kept (HKa.out.and_then ((Keeps.refl Wk []).drewN nq))
          have HLd := kept (HLb.out.keep ((Keeps.refl Wk []).drewN nq) (by simp))
          have HPd := kept (RowFrom.of_own (own_keep HPA.out ((Keeps.refl Wk []).drewN nq) (by simp)))
          have l1d := HLd.out.cell 1
          change (Wk.drewN nq).cell? ⟨Lb, 1, none⟩ = some (.slice a1 wv.length c1) at l1d
          have hwA : w.heap.size ≤ w1.heap.size := K1.out.size
          clear HCa HKa HLb HPA HQA g0a g1a w0a w1a d5a l0 l1
          have hw16 : (wv.length : Int) ≤ 9223372036854775807 := by have := hc1; unfold maxLen at this; omega
          go_wp2
          go_loopw [134] (fun i wz => ∃ j : Nat, j ≤ wv.length ∧ i = .int .i64 j ∧ Cmp wz w1.heap.size b (.slice (some ⟨gg, 0, none⟩) Nn cg) (.slice (some ⟨gw, 0, none⟩) Nn cw) Gs Rs' (k + 1) ∧ RowFrom wz w1.heap.size a1 wv j ∧ Blk wz Lb 29 #[.int .i64 m, .slice a1 wv.length c1] ∧ Keeps w wz []) (fun i _ => wv.length - (intOf i).toNat)
          case atStart => exact ⟨0, by omega, rfl, HCd.out, HPd.out, HLd.out, HKd.out⟩
          case round =>
            obtain ⟨j, hj, rfl, hC3, hP3, hL3, hk3⟩ := hrel
            have HC3 := kept hC3
            have HP3 := kept hP3
            have HL3 := kept hL3
            have HK3 := kept hk3
            clear hC3 hP3 hL3 hk3
            by_cases hjl : j < wv.length
            · have hjI : (j : Int) < (wv.length : Int) := by omega
              have hj0 : (0 : Int) ≤ (j : Int) := by omega
              obtain ⟨h1, cur, rfl, hA1, hb1, hcur⟩ := HP3.out (by omega)
              have hwj : (wordVals wv)[j]? = some (.string (str (wv[j]))) := by simp [wordVals, hjl]
              have x1 := (hcur j (Nat.le_refl _) hjl).trans hwj
              have x1c := (hb1.cell j).trans x1
              have hqw3 := HC3.out.want.words _ (List.mem_of_getElem? hq)
              simp only at hqw3
              obtain ⟨h2, c2', hv2, _, _, hc2⟩ := own_row1 hqw3 (by omega)
              cases hv2
              have x2c := hc2 j _ hwj
              obtain ⟨gw', cw'', hvw', _, _, hwc3⟩ := own_row1 HC3.out.want.row (by rw [HNR.out]; omega)
              cases hvw'
              have w1c := hwc3 _ _ (lines_at hq).2
              simp only at w1c
              have d5c := HC3.out.wantB.cell 0
              have l1c := HL3.out.cell 1
              have hfz : wr.frozen? ⟨h1, j, none⟩ = false := hb1.frozen j
              have HB1 := kept hb1
              have HCU := kept hcur
              clear hcur hqw3 hc2 hwc3 hb1
              go_wp2
              go_roundw
              case rel => exact ⟨j + 1, by omega, by simp, HC3.out.store hp rfl HB1.out j _, RowFrom.store (a := none) HB1.out hA1 HCU.out _, HL3.out.keep ((Keeps.refl wr _).setCell (p := ⟨h1, j, none⟩) (S := [h1]) (.inl (by simp)) _) (by simp only [List.mem_singleton]; intro h; have h9 := HB1.out; rw [← h] at h9; have h9 := h9.symm.trans HL3.out; simp at h9), HK3.out.setCell (.inr (by show _ ≤ h1; omega)) _⟩
              case measure => simp [intOf]; omega
            · obtain rfl : j = wv.length := by omega
              go_wp2
              go_roundw
              case rel => exact ⟨k + 1, by omega, by simp, HC3.out, HK3.out⟩
              case measure => simp [intOf]; omega
        · obtain rfl : k = Nn := by omega
          clear hC
          go_wp2
          go_ret
          exact ⟨rfl, HKr.out⟩
end Go.Proofs.YthcdibpajdnjaaaDoor
