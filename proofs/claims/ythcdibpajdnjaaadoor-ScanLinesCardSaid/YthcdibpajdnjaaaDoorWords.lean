/- Package scan: words; its contract. -/
import Derived.Test.YthcdibpajdnjaaaDoorRight
import Derived.Laws.Cover4
namespace Go.Proofs.YthcdibpajdnjaaaDoor
open Go.RowKit
set_option linter.unusedVariables false

theorem info21 : (Tryd.prog.info? 21).map (fun i => (i.zero, i.size, i.bytes)) = some (some (.int .i32 0), 1, 4) := by kernel_rfl
theorem info9 : (Tryd.prog.info? 9).map (fun i => (i.zero, i.size, i.bytes)) = some (some (.string ⟨#[]⟩), 1, 16) := by kernel_rfl
def okR (r : Int) : Prop := (Utf8.encode r).data.toList = Lib.encodeRune r
def enc (rs : List Int) : List UInt8 := rs.flatMap Lib.encodeRune
theorem enc_nil : enc [] = [] := rfl
theorem enc_snoc (rs : List Int) (r : Int) : enc (rs ++ [r]) = enc rs ++ Lib.encodeRune r := by simp [enc]
theorem enc_ne {rs : List Int} (h : rs ≠ []) : enc rs ≠ [] := by
  cases rs with
  | nil => exact absurd rfl h
  | cons r rs =>
    intro e
    have h1 := (Lib.encodeRuneZ_length r).1
    have h2 := congrArg List.length e
    simp only [enc, List.flatMap_cons, List.length_append, Lib.encodeRune, List.length_map, List.length_nil] at h2
    omega
theorem runesBytes_eq (rs : List Int) (h : ∀ r ∈ rs, okR r) : runesBytes rs = str (enc rs) := by
  have : ∀ (rs : List Int) (a : ByteArray), (∀ r ∈ rs, okR r) → (rs.foldl (fun r n => r ++ Utf8.encode n) a).data.toList = a.data.toList ++ enc rs := by
    intro rs
    induction rs with
    | nil => intro a _; simp [enc]
    | cons r rs ih =>
      intro a h
      rw [List.foldl_cons, ih _ (fun x hx => h x (by simp [hx]))]
      have h1 : (Utf8.encode r).data.toList = Lib.encodeRune r := h r (by simp)
      simp [enc, ByteArray.data_append, h1]
  have h2 := this rs ByteArray.empty h
  apply ByteArray.ext
  apply Array.toList_inj.1
  unfold runesBytes
  rw [h2]
  simp [str]
theorem own_iter {w : World} {base it pos : Nat} {e : TypeId} {size n : Nat} {v : Value} {xs : List Value} {s : ByteArray} (h : w.ownsRow base e size v n xs) (hi : w.heap[it]? = some (.stringIter s pos)) (pos' : Nat) : (w.iterAt it s pos').ownsRow base e size v n xs := by
  refine own_keep h ((Keeps.refl w [it]).iterAt (.inl (by simp)) s pos') (fun k hk hm => ?_)
  simp only [List.mem_singleton] at hm
  subst hm
  rcases h.2 with ⟨rfl, _⟩ | ⟨g, cap, cur, rfl, _, hh, _⟩
  · cases hk
  · simp [Value.ownBlock] at hk
    subst hk
    rw [hi] at hh
    cases hh

theorem own_some {w : World} {base n size : Nat} {e : TypeId} {v : Value} {xs : List Value} (h : w.ownsRow base e size v n xs) (hn : 0 < n) : ∃ g cap, v = .slice (some ⟨g, 0, none⟩) n cap ∧ base ≤ g ∧ n ≤ cap ∧ cap ≤ maxLen := by
  rcases h.2 with ⟨_, h0⟩ | ⟨g, cap, cur, h1, h2, h3, h4, h5, _⟩
  · omega
  · exact ⟨g, cap, h1, h2, h4, h5⟩
theorem news_one (W : World) (x : Value) (t : TypeId) : ∀ (j : Nat) (u : Value), [x][j]? = some u → (W.alloc (.cells #[x] t)).cell? ((⟨W.heap.size, 0, none⟩ : Addr).add j) = some u := by
  intro j u h
  cases j with
  | zero =>
    have := (Blk.new W t #[x]).cell 0
    rw [add_plain]
    rw [this]
    exact h
  | succ j => simp at h
theorem ones_one {x : Value} (h : x.oneCell' = true) : ∀ u ∈ [x], u.oneCell' = true := fun u hu => by
  rw [List.mem_singleton.1 hu]; exact h
theorem own_iter_ne {w : World} {base it pos : Nat} {e : TypeId} {size n : Nat} {v : Value} {xs : List Value} {s : ByteArray} (h : w.ownsRow base e size v n xs) (hi : w.heap[it]? = some (.stringIter s pos)) : v.ownBlock ≠ some it := by
  intro hk
  rcases h.2 with ⟨rfl, _⟩ | ⟨g, cap, cur, rfl, _, hh, _⟩
  · cases hk
  · simp [Value.ownBlock] at hk
    subst hk
    rw [hi] at hh
    cases hh
/-- behind 'append(v, x)': the other row, the iterator, what was there -/
theorem after_append {w0 W W3 : World} {base it pos : Nat} {e e2 t : TypeId} {size size2 n n2 : Nat} {v v2 x : Value} {xs xs2 : List Value} {s : ByteArray} (hg : (W.alloc (.cells #[x] t)).grownBy W3 v.ownBlock)
    (h : W.ownsRow base e size v n xs) (h2 : W.ownsRow base e2 size2 v2 n2 xs2) (hne : e ≠ e2) (hi : W.heap[it]? = some (.stringIter s pos)) (hk : Keeps w0 W []) (hb : w0.heap.size ≤ base) :
    W3.ownsRow base e2 size2 v2 n2 xs2 ∧ W3.heap[it]? = some (.stringIter s pos) ∧ Keeps w0 W3 [] := by
  have hK : Keeps W W3 v.ownBlock.toList := ((Keeps.refl W _).alloc _).grown hg (fun k hk => .inl (by simp [hk]))
  refine ⟨own_keep h2 hK (fun k hk hm => own_apart h2 h (Ne.symm hne) hk (by simpa using hm)), ?_, (hk.alloc _).grown hg (fun k hk => .inr ?_)⟩
  · refine (hK.block it (Array.getElem?_eq_some_iff.1 hi).1 (fun hm => own_iter_ne h hi (by simpa using hm))).trans hi
  · have := (own_lt h hk).2
    omega
theorem own_zero {w : World} {base n size g cap : Nat} {e : TypeId} {xs : List Value} (h : w.ownsRow base e size (.slice (some ⟨g, 0, none⟩) n cap) n xs) : w.ownsRow base e size (.slice (some ⟨g, 0, none⟩) 0 cap) 0 [] := by
  rcases h.2 with ⟨h0, _⟩ | ⟨g', cap', cur, h1, h2, h3, h4, h5, h6, _⟩
  · cases h0
  · cases h1
    exact ⟨by simp, .inr ⟨g, cap, cur, rfl, h2, h3, by omega, h5, h6, by simp⟩⟩

set_option maxRecDepth 100000 in
set_option maxHeartbeats 2000000 in
theorem words_any (s : ByteArray) (w : World) (ht : Tabs w) (hs : s.size ≤ 16384) (hu : Utf s.data.toList) :
    Calls Tryd.prog 19 #[.string s] w fun e w' => ∃ v, e = .returned v ∧ w'.ownsRow w.heap.size 9 1 v (wordsOf s.data.toList).length ((wordsOf s.data.toList).map fun x => .string (str x)) ∧ Keeps w w' [] := by
  obtain ⟨x, hx⟩ : ∃ x, before 35 s.data.toList = x := ⟨_, rfl⟩
  have C : Calls Tryd.prog 20 #[.string s, .string ⟨#[35]⟩] w fun e w' => ∃ r b, e = .returned (.tuple #[.string (str x), .string (str r), .bool b]) ∧ Keeps w w' [] := by
    have C := cut_any s ⟨#[35]⟩ w ht (by omega)
    rw [show (⟨#[35]⟩ : ByteArray).data.toList = [35] from rfl] at C
    rcases cut_eq 35 s.data.toList with ⟨r, h1, h2, h3⟩ | ⟨h1, h2, h3⟩
    · rw [h2, hx] at C
      exact C.mono fun e w' ⟨he, hw⟩ => ⟨r, true, he, hw⟩
    · rw [h3, ← h2, hx] at C
      exact C.mono fun e w' ⟨he, hw⟩ => ⟨[], false, he, hw⟩
  have hxl : x.length ≤ 16384 := by rw [← hx]; have := before_len 35 s.data.toList; rw [← Lib.size_eq] at this; omega
  have hux : Utf (x ++ [32]) := by
    have h1 : Utf x := by rw [← hx]; exact utf_before 35 (by decide) hu
    have h2 : ∀ l, Utf l → Utf (l ++ [32]) := fun l h => by
      induction h with
      | nil => exact .asc (by decide) .nil
      | asc h1 _ ih => exact .asc h1 ih
      | wide h1 _ ih => rw [List.append_assoc]; exact .wide h1 ih
    exact h2 x h1
  obtain ⟨W, hW⟩ : ∃ W, wordsOf s.data.toList = W := ⟨_, rfl⟩
  have HW : Hid (wp [] (x ++ [32]) = W) := by show _ = _; rw [wp_eq, ← hW, wordsOf, hx]
  rw [hW]
  have CC := kept C
  have HU := kept hux
  have hcat : ¬ 9223372036854775807 < (str x).size + 1 := by rw [str_size]; omega
  clear C hx hux hW hu ht
  go_enter Tryd.func19, Tryd.ntmps19
  go_wp2_with fail
  refine (CC.out).mono ?_
  rintro e w1 ⟨r, b, rfl, k1⟩
  have K1 := kept k1
  clear k1 CC
  go_wp2
  obtain ⟨S, hS⟩ : ∃ S : ByteArray, (str x ++ { data := #[32] } : ByteArray) = S := ⟨_, rfl⟩
  rw [hS]
  have hSl : S.data.toList = x ++ [32] := by rw [← hS]; simp [str, ByteArray.data_append]
  have hSz : S.size ≤ 16385 := by rw [Lib.size_eq, hSl]; simp; omega
  rw [← hSl] at HU HW
  clear hS hSl hxl hcat
  obtain ⟨i9, hi9, hz9, hs9, hb9⟩ := info_parts info9
  obtain ⟨i21, hi21, hz21, hs21, hb21⟩ := info_parts info21
  have hw1 := K1.out.size
  go_loopw [3, 4] (fun vo vw wr => ∃ (pos : Nat) (done : List (List UInt8)) (rs : List Int), wr.heap[w1.heap.size + 1]? = some (.stringIter S pos) ∧ Keeps w wr [] ∧ wr.ownsRow w.heap.size 9 1 vo done.length (done.map fun x => .string (str x)) ∧ wr.ownsRow w.heap.size 21 1 vw rs.length (rs.map (Value.int .i32)) ∧ Hid (Utf (S.data.toList.drop pos)) ∧ Hid (done ++ wp (enc rs) (S.data.toList.drop pos) = W) ∧ Hid (∀ r ∈ rs, okR r) ∧ rs.length ≤ pos ∧ done.length ≤ pos) (fun _ _ wr => S.size - wr.iterPos (w1.heap.size + 1))
  case atStart =>
    refine ⟨0, [], [], ?_, (K1.out.alloc _).alloc _, World.ownsRow_nil _ _ _ _, ?_, HU, HW, by simp [Hid], by simp, by simp⟩
    · have := World.iter_heap (w1.alloc (.cells #[] 21)) S 0
      simpa using this
    · have h0 : (w1.alloc (.cells #[] 21)).ownsRow w.heap.size 21 1 (.slice (some ⟨w1.heap.size, 0, none⟩) 0 0) 0 [] :=
        ⟨rfl, .inr ⟨w1.heap.size, 0, #[], rfl, hw1, heap_alloc_new w1 _, Nat.le_refl _, by simp, rfl, rfl⟩⟩
      exact h0.alloc _
  case round =>
    obtain ⟨pos, done, rs, hit, hk, ho, hv, HUp, HWp, HR, hrl, hdl⟩ := hrel
    have hpos0 := iterPos_of hit
    by_cases hp : pos < S.size
    · have hnx : ∀ ty, (Instr.next (.pointer (some ⟨w1.heap.size + 1, 0, none⟩)) true ty).run Tryd.prog wr = _ := fun ty => Lib.run_next_any_at wr (w1.heap.size + 1) S pos ty hit hp
      have hit2 := Lib.iterAt_heap wr (w1.heap.size + 1) S pos (pos + (Utf8.decode S pos).2) hit
      have hk2 := hk.iterAt (k := w1.heap.size + 1) (.inr (by omega)) S (pos + (Utf8.decode S pos).2)
      have ho2 := own_iter ho hit (pos + (Utf8.decode S pos).2)
      have hv2 := own_iter hv hit (pos + (Utf8.decode S pos).2)
      obtain ⟨W1, hW1⟩ : ∃ W1, W1 = wr.iterAt (w1.heap.size + 1) S (pos + (Utf8.decode S pos).2) := ⟨_, rfl⟩
      rw [← hW1] at hnx hit2 hk2 ho2 hv2
      have hsz := hk2.size
      rcases utf_step HUp.out hp with ⟨b, t, e1, e2, e3, e4, e5⟩ | ⟨z, r, t, e1, e2, e3, e4, e5⟩
      · rw [e3] at hnx hit2
        have h5 := HWp.out
        rw [e1] at h5
        have HT : Hid (S.data.toList.drop (pos + 1) = t) := e4
        have H5 := kept e5
        by_cases hb : b = 32
        · subst hb
          simp only [wp, if_true] at h5
          by_cases hr : rs = []
          · subst hr
            rw [enc_nil, if_pos rfl] at h5
            have HX := kept h5
            have HH := kept hit2
            have HK := kept hk2
            have HO := kept ho2
            have HV := kept hv2
            have HP := kept hpos0
            obtain ⟨a, cap, rfl, _, _⟩ := own_form hv2
            clear hit hk hit2 hk2 hpos0 e1 e3 e4 e5 HUp HWp h5 ho hv ho2 hv2 hW1
            go_wp2
            go_roundw
            case rel => exact ⟨_, done, [], HH.out, HK.out, HO.out, HV.out, (by show Utf _; rw [HT.out]; exact H5.out), (by show _ = _; rw [HT.out]; exact HX.out), by simp [Hid], by simp, by omega⟩
            case measure => rw [iterPos_of HH.out, HP.out]; simp; omega
          · rw [if_neg (enc_ne hr)] at h5
            have HX := kept h5
            have hpos : 0 < rs.length := List.length_pos_iff.2 hr
            obtain ⟨g, cap, rfl, hg, hnc, hcm⟩ := own_some hv2 hpos
            have hcv : ∀ o : World, (convert 30 9 (.slice (some ⟨g, 0, none⟩) rs.length cap)).run Tryd.prog W1 = .ok (.string (str (enc rs))) W1 := fun _ => by
              rw [run_convert_runes W1 30 9 21 ⟨g, 0, none⟩ rs.length cap rs (Nat.le_refl _) Tryd.underlying30 Tryd.underlying21 Tryd.underlying9 (fun j hj => ?_), List.take_length, runesBytes_eq rs HR.out]
              have h1 := hv2.cellAt j (by omega)
              rw [add_plain, Nat.zero_add, h1, List.getElem?_map, List.getElem?_eq_getElem hj]
              simp [List.getD, List.getElem?_eq_getElem hj]
            have hcv1 := hcv W1
            have hcap : ¬ cap = 0 := by omega
            have hlen : decide (0 < rs.length) = true := decide_eq_true hpos
            have HH := kept hit2
            have HK := kept hk2
            have HV := kept hv2
            have HP := kept hpos0
            have hncI : (rs.length : Int) ≤ (cap : Int) := by omega
            clear hit hk hit2 hk2 hpos0 e1 e3 e4 e5 HUp HWp h5 ho hv hv2 hW1 hcv
            go_wp2_with (at_builtin; refine wpList_append_own _ rfl (.tmp 31) (.tmp 34) 27 rfl w.heap.size 9 i9 (.string ⟨#[]⟩) 1 16 Tryd.underlying27 hi9 hz9 hs9 hb9 rfl (by decide) _ _ _ rfl (ho2.alloc _) ⟨W1.heap.size, 0, none⟩ 1 1 [.string (str (enc rs))] rfl rfl (news_one _ _ _) (ones_one rfl) (by unfold maxLen; omega) (by omega) (by simp; omega) ?_; intro v' w3 hown' hgrow3 _; obtain ⟨ha1, ha2, ha3⟩ := after_append hgrow3 ho2 HV.out (by decide) HH.out HK.out (Nat.le_refl _); have HA1 := kept (own_zero ha1); have HA2 := kept ha2; have HA3 := kept ha3; have HO := kept hown'; clear ha1 ha2 ha3 hown' hgrow3 HV HH HK ho2)
            go_roundw
            case rel => exact ⟨_, done ++ [enc rs], [], HA2.out, HA3.out, (by simpa using HO.out), HA1.out, (by show Utf _; rw [HT.out]; exact H5.out), (by show _ = _; rw [HT.out, ← HX.out]; simp [enc_nil]), by simp [Hid], by simp, by simp; omega⟩
            case measure => rw [iterPos_of HA2.out, HP.out]; omega
        · have hbn : ((b.toNat : Int) != 32) = true := by
            simp only [bne_iff_ne, ne_eq]
            intro h
            exact hb (UInt8.toNat_inj.1 (by simpa using (by omega : b.toNat = 32)))
          simp only [wp] at h5
          rw [if_neg hb] at h5
          have hcode : Lib.encodeRune ((b.toNat : Nat) : Int) = [b] := by
            unfold Lib.encodeRune
            rw [Lib.encodeRuneZ_one (by omega) (by omega)]
            simp
          have hok : okR ((b.toNat : Nat) : Int) := by
            unfold okR
            exact encode_eq b.toNat (by omega) (.inl (by omega))
          rw [← hcode, ← enc_snoc] at h5
          have HX := kept h5
          have HK2 := kept hok
          have HH := kept hit2
          have HK := kept hk2
          have HO := kept ho2
          have HP := kept hpos0
          have hru : (b.toNat : Int) ≤ 2147483647 := by omega
          clear hit hk hit2 hk2 hpos0 e1 e3 e4 e5 HUp HWp h5 ho hv ho2 hW1 hcode hok hb
          generalize hr0 : ((b.toNat : Nat) : Int) = r0 at *
          clear hr0
          go_wp2_with (at_builtin; refine wpList_append_own _ rfl (.tmp 23) (.tmp 25) 30 rfl w.heap.size 21 i21 (.int .i32 0) 1 4 Tryd.underlying30 hi21 hz21 hs21 hb21 rfl (by decide) _ _ _ rfl (hv2.alloc _) ⟨W1.heap.size, 0, none⟩ 1 1 [.int .i32 r0] rfl rfl (news_one _ _ _) (ones_one rfl) (by unfold maxLen; omega) (by omega) (by simp; omega) ?_; intro v' w3 hown' hgrow3 _; obtain ⟨ha1, ha2, ha3⟩ := after_append hgrow3 hv2 HO.out (by decide) HH.out HK.out (Nat.le_refl _); have HA1 := kept ha1; have HA2 := kept ha2; have HA3 := kept ha3; have HV := kept hown'; clear ha1 ha2 ha3 hown' hgrow3 HO HH HK hv2)
          go_roundw
          case rel => exact ⟨_, done, rs ++ [r0], HA2.out, HA3.out, HA1.out, (by simpa using HV.out), (by show Utf _; rw [HT.out]; exact H5.out), (by show _ = _; rw [HT.out]; exact HX.out), (by show ∀ r ∈ rs ++ [r0], okR r; intro r hr; rcases List.mem_append.1 hr with h | h; exact HR.out r h; rw [List.mem_singleton.1 h]; exact HK2.out), by simp; omega, by omega⟩
          case measure => rw [iterPos_of HA2.out, HP.out]; omega
      · rw [e3] at hnx hit2
        simp only at hnx hit2
        have h5 := HWp.out
        rw [e1, wp_wide e2.high] at h5
        have HT : Hid (S.data.toList.drop (pos + z.length) = t) := e4
        have H5 := kept e5
        have h2 := e2.two
        have h3 := e2.rune
        have h4 := e2.le
        have hbn : ((r : Int) != 32) = true := by
          simp only [bne_iff_ne, ne_eq]
          omega
        have hok : okR ((r : Nat) : Int) := encode_eq r e2.le e2.sur
        rw [← e2.code, ← enc_snoc] at h5
        have HX := kept h5
        have HK2 := kept hok
        have HH := kept hit2
        have HK := kept hk2
        have HO := kept ho2
        have HP := kept hpos0
        have hru : (r : Int) ≤ 2147483647 := by omega
        have hru0 : (0 : Int) ≤ (r : Int) := by omega
        clear hit hk hit2 hk2 hpos0 e1 e3 e4 e5 HUp HWp h5 ho hv ho2 hW1 hok e2 h3 h4
        generalize hr0 : ((r : Nat) : Int) = r0 at *
        clear hr0
        go_wp2_with (at_builtin; refine wpList_append_own _ rfl (.tmp 23) (.tmp 25) 30 rfl w.heap.size 21 i21 (.int .i32 0) 1 4 Tryd.underlying30 hi21 hz21 hs21 hb21 rfl (by decide) _ _ _ rfl (hv2.alloc _) ⟨W1.heap.size, 0, none⟩ 1 1 [.int .i32 r0] rfl rfl (news_one _ _ _) (ones_one rfl) (by unfold maxLen; omega) (by omega) (by simp; omega) ?_; intro v' w3 hown' hgrow3 _; obtain ⟨ha1, ha2, ha3⟩ := after_append hgrow3 hv2 HO.out (by decide) HH.out HK.out (Nat.le_refl _); have HA1 := kept ha1; have HA2 := kept ha2; have HA3 := kept ha3; have HV := kept hown'; clear ha1 ha2 ha3 hown' hgrow3 HO HH HK hv2)
        go_roundw
        case rel => exact ⟨_, done, rs ++ [r0], HA2.out, HA3.out, HA1.out, (by simpa using HV.out), (by show Utf _; rw [HT.out]; exact H5.out), (by show _ = _; rw [HT.out]; exact HX.out), (by show ∀ r ∈ rs ++ [r0], okR r; intro r hr; rcases List.mem_append.1 hr with h | h; exact HR.out r h; rw [List.mem_singleton.1 h]; exact HK2.out), by simp; omega, by omega⟩
        case measure => rw [iterPos_of HA2.out, HP.out]; omega
    · have hnx : ∀ ty, (Instr.next (.pointer (some ⟨w1.heap.size + 1, 0, none⟩)) true ty).run Tryd.prog wr = _ := fun ty => Lib.run_next_end_at wr (w1.heap.size + 1) S pos ty hit hp
      have h5 := HWp.out
      rw [drop_end hp] at h5
      simp only [wp, List.append_nil] at h5
      subst h5
      have HK := kept hk
      have HO := kept ho
      clear hit hk hpos0 ho hv HWp HUp
      go_wp2
      go_ret
      exact ⟨_, rfl, HO.out, HK.out⟩
end Go.Proofs.YthcdibpajdnjaaaDoor
