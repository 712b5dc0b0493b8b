/- Package scan: Lines; its contract. -/
import Derived.Test.YthcdibpajdnjaaaDoorWords
namespace Go.Proofs.YthcdibpajdnjaaaDoor
open Go.RowKit
set_option linter.unusedVariables false

theorem info29 : (Tryd.prog.info? 29).map (fun i => (i.zero, i.size, i.bytes)) = some (some (.agg #[.int .i64 0, .slice none 0 0]), 2, 32) := by kernel_rfl
theorem own_base {w : World} {base base' : Nat} {e : TypeId} {size n : Nat} {v : Value} {xs : List Value} (h : w.ownsRow base e size v n xs) (hb : base' ≤ base) : w.ownsRow base' e size v n xs := by
  refine ⟨h.1, ?_⟩
  rcases h.2 with h0 | ⟨g, cap, cur, h1, h2, h3⟩
  · exact .inl h0
  · exact .inr ⟨g, cap, cur, h1, by omega, h3⟩
theorem own_len {w : World} {base n m : Nat} {e : TypeId} {size : Nat} {v : Value} {xs : List Value} (h : w.ownsRow base e size v n xs) (e1 : n = m) : w.ownsRow base e size v m xs := e1 ▸ h

/-- a line in memory: its number and words; where its words lie -/
abbrev LineV := (Nat × List (List UInt8)) × Value
def lineCells (p : LineV) : List Value := [.int .i64 p.1.1, p.2]
def wordVals (ws : List (List UInt8)) : List Value := ws.map fun x => .string (str x)
/-- lines in memory -/
structure LinesAt (w : World) (B : Nat) (v : Value) (Rs : List LineV) : Prop where
  row : w.ownsRow B 29 2 v Rs.length (Rs.flatMap lineCells)
  words : ∀ p ∈ Rs, w.ownsRow B 9 1 p.2 p.1.2.length (wordVals p.1.2)
  apart : Rs.Pairwise fun p q => ∀ k, p.2.ownBlock = some k → q.2.ownBlock ≠ some k
theorem LinesAt.keep {w w' : World} {B : Nat} {v : Value} {Rs : List LineV} (h : LinesAt w B v Rs) (k : Keeps w w' []) : LinesAt w' B v Rs :=
  ⟨own_keep h.row k (by simp), fun p hp => own_keep (h.words p hp) k (by simp), h.apart⟩
theorem LinesAt.none_ (w : World) (B : Nat) : LinesAt w B (.slice none 0 0) [] := ⟨World.ownsRow_nil _ _ _ _, by simp, .nil⟩
theorem news_two (W : World) (x y : Value) (t : TypeId) : ∀ (j : Nat) (u : Value), [x, y][j]? = some u → (W.alloc (.cells #[x, y] t)).cell? ((⟨W.heap.size, 0, none⟩ : Addr).add j) = some u := by
  intro j u h
  rw [add_plain]
  match j, h with
  | 0, h => have := (Blk.new W t #[x, y]).cell 0; rw [this]; exact h
  | 1, h => have := (Blk.new W t #[x, y]).cell 1; rw [Nat.zero_add, this]; exact h
  | j + 2, h => simp at h
theorem ones_two {x y : Value} (h : x.oneCell' = true) (h2 : y.oneCell' = true) : ∀ u ∈ [x, y], u.oneCell' = true := fun u hu => by
  simp only [List.mem_cons, List.not_mem_nil, or_false] at hu
  rcases hu with rfl | rfl
  · exact h
  · exact h2
theorem flat_two (Rs : List LineV) : (Rs.flatMap lineCells).length = Rs.length * 2 := by
  induction Rs with
  | nil => rfl
  | cons p Rs ih => rw [List.flatMap_cons, List.length_append, ih]; simp [lineCells]; omega

/-- behind 'out = append(out, Line{n, ws})' -/
theorem after_line {w0 W W3 : World} {g : Nat} {cs : Array Value} {v v' u : Value} {Rs : List LineV} {p : Nat × List (List UInt8)} (hL : LinesAt W w0.heap.size v Rs)
    (hold : ∀ q ∈ Rs, ∀ k, q.2.ownBlock = some k → u.ownBlock ≠ some k)
    (hu : W.ownsRow w0.heap.size 9 1 u p.2.length (wordVals p.2)) (hg : (W.alloc (.cells #[.int .i64 p.1, u] 29)).grownBy W3 v.ownBlock)
    (hown : W3.ownsRow w0.heap.size 29 2 v' (Rs.length + 1) (Rs.flatMap lineCells ++ [.int .i64 p.1, u])) (hb : Blk W g 9 cs) (hk : Keeps w0 W []) :
    LinesAt W3 w0.heap.size v' (Rs ++ [(p, u)]) ∧ Blk W3 g 9 cs ∧ Keeps w0 W3 [] := by
  have hK : Keeps W W3 v.ownBlock.toList := ((Keeps.refl W _).alloc _).grown hg (fun k hk => .inl (by simp [hk]))
  have hx : ∀ {q : Value} {n : Nat} {xs : List Value}, W.ownsRow w0.heap.size 9 1 q n xs → W3.ownsRow w0.heap.size 9 1 q n xs := fun h => own_keep h hK (fun k hk hm => own_apart h hL.row (by decide) hk (by simpa using hm))
  refine ⟨⟨?_, ?_, ?_⟩, ?_, (hk.alloc _).grown hg (fun k hk => .inr (own_lt hL.row hk).2)⟩
  · simpa [lineCells] using hown
  · intro q hq
    rcases List.mem_append.1 hq with h | h
    · exact hx (hL.words q h)
    · rw [List.mem_singleton.1 h]; exact hx hu
  · rw [List.pairwise_append]
    refine ⟨hL.apart, by simp, fun q hq r hr => ?_⟩
    rw [List.mem_singleton.1 hr]
    exact hold q hq
  · exact hb.keep hK (fun hm => own_ne hL.row hb (by decide) (by simpa using hm))

theorem split_list (s : ByteArray) : (Lib.splitB ⟨#[10]⟩ 0 (Lib.countB s ⟨#[10]⟩) s).map (·.data.toList) = splitOn 10 s.data.toList := by
  rw [Lib.splitB_data]
  exact splitK_eq 10 _ _ (Nat.le_refl _)
theorem numbered_skip {n : Nat} {p : List UInt8} {ps : List (List UInt8)} (h : wordsOf p = []) : numbered n (p :: ps) = numbered (n + 1) ps := if_pos h
theorem numbered_take {n : Nat} {p : List UInt8} {ps : List (List UInt8)} (h : ¬ wordsOf p = []) : numbered n (p :: ps) = (n, wordsOf p) :: numbered (n + 1) ps := if_neg h

theorem lines_bad (s : ByteArray) (w : World) (ht : Tabs w) (hs : s.size ≤ 9223372036854775807) (h : rightE s ≠ 0) :
    Calls Tryd.prog 8 #[.string s] w fun e w' => e = .returned (.tuple #[.slice none 0 0, .int .i64 (rightE s)]) ∧ Keeps w w' [] := by
  have C := kept (right_any s w ht hs)
  obtain ⟨x, hx⟩ : ∃ x, rightE s = x := ⟨_, rfl⟩
  rw [hx] at C h ⊢
  have hb : (x != 0) = true := by simpa using h
  have hb2 : (x == 0) = false := by simpa using h
  clear hx h ht
  go_enter Tryd.func8, Tryd.ntmps8
  go_wp2_with fail
  refine (C.out).mono ?_
  rintro e w1 ⟨rfl, k1⟩
  have K1 := kept k1
  clear k1 C
  go_wp2
  go_ret2
  exact ⟨rfl, K1.out⟩

set_option maxRecDepth 100000 in
set_option maxHeartbeats 2000000 in
theorem lines_ok (s : ByteArray) (w : World) (ht : Tabs w) (h : rightE s = 0) :
    Calls Tryd.prog 8 #[.string s] w fun e w' => ∃ v Rs, e = .returned (.tuple #[v, .int .i64 0]) ∧ LinesAt w' w.heap.size v Rs ∧ Rs.map (·.1) = linesOf s.data.toList ∧ Keeps w w' [] := by
  obtain ⟨hs, hw⟩ : s.size ≤ 16384 ∧ wrong s.data.toList = false := by
    unfold rightE at h
    split at h
    · omega
    · split at h
      · omega
      · rename_i h1 h2; exact ⟨by omega, by simpa using h2⟩
  have hu : Utf s.data.toList := by
    unfold wrong at hw
    simp only [Bool.or_eq_false_iff, Bool.not_eq_false'] at hw
    exact utf_of_valid _ _ (Nat.le_refl _) hw.1
  have C := right_any s w ht (by omega)
  rw [h] at C
  have CC := kept C
  have CS := kept (fun w h => split_any s ⟨#[10]⟩ w h (by omega) (by decide))
  have hsl := split_list s
  have hlen := splitOn_len 10 s.data.toList
  have hutf := utf_split 10 (by decide) hu
  generalize hP : Lib.splitB ⟨#[10]⟩ 0 (Lib.countB s ⟨#[10]⟩) s = P at *
  have hcount : Lib.countB s ⟨#[10]⟩ + 1 = P.length := by rw [← hP]; exact (Lib.splitB_all ⟨#[10]⟩ (by decide) 0 _ s rfl).symm
  rw [hcount] at CS
  obtain ⟨L, hL⟩ : ∃ L, linesOf s.data.toList = L := ⟨_, rfl⟩
  rw [hL]
  have HL : Hid (numbered 1 (P.map (·.data.toList)) = L) := by show _ = _; rw [hsl, ← hL]; rfl
  have hPl : P.length ≤ 16385 := by
    have := congrArg List.length hsl
    rw [List.length_map] at this
    have := hlen.1
    rw [← Lib.size_eq] at this
    omega
  have HPs : Hid (∀ k (hk : k < P.length), P[k].size ≤ 16384 ∧ Utf P[k].data.toList) := fun k hk => by
    have hm : P[k].data.toList ∈ splitOn 10 s.data.toList := by rw [← hsl]; exact List.mem_map_of_mem (List.getElem_mem hk)
    have := hlen.2 _ hm
    rw [← Lib.size_eq, ← Lib.size_eq] at this
    exact ⟨by omega, hutf _ hm⟩
  have HT := kept ht
  clear C hw hu hsl hlen hutf hP hcount hL h ht
  obtain ⟨i29, hi29, hz29, hs29, hb29⟩ := info_parts info29
  go_enter Tryd.func8, Tryd.ntmps8
  go_wp2_with fail
  refine (CC.out).mono ?_
  rintro e w1 ⟨rfl, k1⟩
  have K1 := kept k1
  clear k1 CC
  go_wp2_with fail
  refine (CS.out _ (HT.out.keep K1.out)).mono ?_
  rintro e w2 ⟨rfl, hw2⟩
  have hB : Hid (Blk w2 w1.heap.size 9 (P.map Value.string).toArray) := by rw [hw2]; exact Blk.new _ _ _
  have K2 : Hid (Keeps w w2 []) := by rw [hw2]; exact K1.out.alloc _
  clear hw2 CS
  generalize w1.heap.size = g at *
  clear K1
  go_wp2
  go_loopw [5, 17] (fun vo i wr => ∃ (k : Nat) (Rs : List LineV), k ≤ P.length ∧ i = .int .i64 k ∧ LinesAt wr w.heap.size vo Rs ∧ Rs.length ≤ k ∧ Hid (Rs.map (·.1) ++ numbered (k + 1) ((P.map (·.data.toList)).drop k) = L) ∧ Blk wr g 9 (P.map Value.string).toArray ∧ Keeps w wr []) (fun _ i _ => P.length - (intOf i).toNat)
  case atStart => exact ⟨0, [], by omega, rfl, LinesAt.none_ _ _, by simp, HL, hB.out, K2.out⟩
  case round =>
    obtain ⟨k, Rs, hk, rfl, hl, hRk, HLr, hbr, hkr⟩ := hrel
    have HBr := kept hbr
    have HKr := kept hkr
    have HLn := kept hl
    have c0 := hbr.cell k
    clear hbr hkr hl
    by_cases hlt : k < P.length
    · obtain ⟨hps, hpu⟩ := HPs.out k hlt
      have hd : (P.map (·.data.toList)).drop k = P[k].data.toList :: (P.map (·.data.toList)).drop (k + 1) := by
        rw [List.drop_eq_getElem_cons (by simpa using hlt)]
        simp
      have h5 := HLr.out
      rw [hd] at h5
      have c1 : wr.cell? ⟨g, k, none⟩ = some (.string P[k]) := by rw [c0]; simp [hlt]
      generalize hp : P[k] = p at *
      clear c0 hd HLr hp
      have CW := kept (words_any p wr (HT.out.keep HKr.out) hps hpu)
      obtain ⟨ws, hws⟩ : ∃ ws, wordsOf p.data.toList = ws := ⟨_, rfl⟩
      rw [hws] at CW
      have hwl : ws.length ≤ 16386 := by
        rw [← hws, wordsOf, ← wp_eq]
        have h1 := wp_len (before 35 p.data.toList ++ [32]) []
        have h2 := before_len 35 p.data.toList
        rw [← Lib.size_eq] at h2
        simp at h1
        omega
      by_cases hwe : ws = []
      · rw [numbered_skip (hws.trans hwe)] at h5
        have H5 := kept h5
        subst hwe
        clear h5 hws hpu
        go_wp2_with fail
        refine (CW.out).mono ?_
        rintro e w3 ⟨v, rfl, ho, k3⟩
        obtain ⟨a, cap, rfl, _, _⟩ := own_form ho
        have K3 := kept k3
        clear ho k3 CW
        simp only [List.length_nil]
        go_wp2
        go_roundw
        case rel => exact ⟨k + 1, Rs, by omega, by go_num, HLn.out.keep K3.out, by omega, H5.out, HBr.out.keep K3.out (by simp), HKr.out.and_then K3.out⟩
        case measure => simp [intOf]; omega
      · rw [numbered_take (by rw [hws]; exact hwe), hws] at h5
        have H5 := kept h5
        have hpos : 0 < ws.length := List.length_pos_iff.2 hwe
        clear h5 hws hpu hwe
        go_wp2_with fail
        refine (CW.out).mono ?_
        rintro e w3 ⟨v, rfl, ho, k3⟩
        have hL3 := HLn.out.keep k3
        have hold : Hid (∀ q ∈ Rs, ∀ j, q.2.ownBlock = some j → v.ownBlock ≠ some j) := fun q hq j hj hv => by
          have h1 := (own_lt (HLn.out.words q hq) hj).1
          have h2 := (own_lt ho hv).2
          omega
        have hb3 := kept (HBr.out.keep k3 (by simp))
        have hk3 := kept (HKr.out.and_then k3)
        have ho3 := own_base ho HKr.out.size
        have hsz3 := hk3.out.size
        obtain ⟨a, cap, rfl, _, _⟩ := own_form ho
        have HO3 : Hid (w3.ownsRow w.heap.size 9 1 (.slice a ws.length cap) ((k + 1, ws) : Nat × List (List UInt8)).2.length (wordVals ((k + 1, ws) : Nat × List (List UInt8)).2)) := ho3
        have hlenI : decide ((0 : Int) < (ws.length : Int)) = true := by simp; omega
        have hrow := hL3.row
        have HL3 := kept hL3
        clear ho k3 CW ho3 HLn HBr HKr hL3
        go_wp2_with (at_builtin; refine wpList_append_own _ rfl (.tmp 27) (.tmp 32) 23 rfl w.heap.size 29 i29 (.agg #[.int .i64 0, .slice none 0 0]) 2 32 Tryd.underlying23 hi29 hz29 hs29 hb29 rfl (by decide) _ _ _ rfl (hrow.alloc _) ⟨w3.heap.size, 0, none⟩ 1 1 [.int .i64 ((k : Int) + 1), .slice a ws.length cap] rfl rfl (news_two _ _ _ _) (ones_two rfl rfl) (by unfold maxLen; omega) (by omega) (by simp; omega) ?_; intro v' w4 hown' hgrow4 _; obtain ⟨ha1, ha2, ha3⟩ := after_line (p := (k + 1, ws)) HL3.out hold.out HO3.out hgrow4 hown' hb3.out hk3.out; have HA1 := kept ha1; have HA2 := kept ha2; have HA3 := kept ha3; clear ha1 ha2 ha3 hown' hgrow4 hrow)
        go_roundw
        case rel => exact ⟨k + 1, Rs ++ [((k + 1, ws), .slice a ws.length cap)], by omega, by go_num, HA1.out, by simp; omega, (by show _ = _; rw [← H5.out]; simp), HA2.out, HA3.out⟩
        case measure => simp [intOf]; omega
    · obtain rfl : k = P.length := by omega
      have h5 := HLr.out
      rw [List.drop_of_length_le (by simp)] at h5
      simp only [numbered, List.append_nil] at h5
      have H5 := kept h5
      clear h5 HLr c0
      go_wp2
      go_ret2
      exact ⟨_, Rs, rfl, HLn.out, H5.out, HKr.out⟩
end Go.Proofs.YthcdibpajdnjaaaDoor
