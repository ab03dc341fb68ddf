/- Contracts and plain words for the laws of this chapter, part 3: D, S, T, T1, T2, Cp, T3. No condition. -/
import Derived.Test.YtocgindpjjolpaaGreatDoorG1
import Derived.Test.YtocgindpjjolpaaGreatDoorG2
import Derived.Lib.SplitLaws
import Derived.Lib.IndexLaws
import Derived.Deep.MidRow
namespace Go.Proofs.YtocgindpjjolpaaGreatDoor
set_option linter.unusedSimpArgs false
set_option linter.unusedVariables false
open Go.RowKit
open Go.PlainAid (bt get_bt bt_nonneg bt_le bt_end)
theorem rfirst_at (t : ByteArray) (kk : Int) (h1 : 1 ≤ t.size) (h64 : (t.size : Int) ≤ 65536) (hk : (hd t : Int) = kk) (w : World) : Calls Tryz.prog 170 #[.string t] w fun e w' => e = .returned (.tuple #[.int .i64 (fc t), .int .i64 kk]) ∧ Below w.heap.size w w' := by
  subst hk; exact rfirst_any t h1 h64 w
theorem hd_cases (t : ByteArray) : hd t = 0 ∨ hd t = 1 ∨ hd t = 2 ∨ hd t = 3 := by
  unfold hd; repeat' split
  all_goals omega
set_option maxRecDepth 100000 in
set_option maxHeartbeats 4000000 in
theorem rchars_any (s : ByteArray) (hs : s.size ≤ 65536) (w : World) : Calls Tryz.prog 162 #[.string s] w (CharsP (chars s) w) := by
  obtain ⟨i0, hi, hz0, hz1, hz2⟩ := info_parts intInfo
  have HL : Live w [] := trivial
  go_enter Tryz.func162, Tryz.ntmps162
  go_wp2
  go_loopw [0, 4] (fun sv out wr => CRel s sv out w.heap.size w wr) (fun sv _ _ => strLen sv)
  case atStart => exact ⟨s, 0, [], rfl, by omega, by simp, World.ownsRow_nil _ _ _ _, by (exact bl)⟩
  case round =>
    obtain ⟨t, k, xs, rfl, hk, hc, hown, hbel⟩ := hrel
    have HC := hide hc
    clear hc
    have hsz := hbel.size
    by_cases h0 : t.size = 0
    · have HH := hide h0
      have hz : ¬ (0 : Int) < (t.size : Int) := by omega
      clear h0
      rcases Go.Joins.ownsRow_forms hown with ⟨rfl, rfl⟩ | ⟨g, cap, rfl⟩
      all_goals
        clear hown
        go_wp2
        go_ret2
        exact CharsP.yes (by rw [HC.out, chars_nil HH.out]; simp) ⟨_, _, rfl⟩ hbel
    · have hz : (0 : Int) < (t.size : Int) := by omega
      have hl := hd_le t
      have HO := hide hown
      clear hown h0
      rcases hd_cases t with hh | hh | hh | hh
      · have HD := hide hh
        have DC := hide (fun W => rfirst_at t 0 (by omega) (by omega) (by rw [hh]; rfl) W)
        clear hh hl
        go_wp2_with (go_at_call 170; (with_reducible refine (DC.out _).mono ?_); rintro e w1 ⟨rfl, hb⟩; have hz1' := hb.size)
        go_ret2
        exact CharsP.no (by rw [HC.out, chars_no (by omega) HD.out]; rfl) rfl (hbel.trans (hb.mono hsz))
      · have HD := hide hh
        have DC := hide (fun W => rfirst_at t 1 (by omega) (by omega) (by rw [hh]; rfl) W)
        have hl2 : 1 ≤ t.size := by omega
        clear hh hl
        go_wp2_with (first | (go_at_call 170; (with_reducible refine (DC.out _).mono ?_); rintro e w1 ⟨rfl, hb⟩; have hz1' := hb.size) | (at_builtin; refine wpList_append_own _ rfl _ _ 85 rfl w.heap.size 3 i0 (.int .i64 0) 1 8 Tryz.underlying85 hi hz0 hz1 hz2 rfl (by decide) _ k xs rfl ((ownsRow_below HO.out hb).alloc _) ⟨w1.heap.size, 0, none⟩ 1 1 [.int .i64 (fc t)] rfl rfl (World.news_of_block (cs := #[.int .i64 (fc t)]) (t := 3) (fr := (0, 0)) (heap_alloc_new w1 _)) (by simp [Value.oneCell']) (by unfold maxLen; omega) (by omega) (by show w.heap.size ≤ (w1.alloc _).heap.size; rw [World.size_alloc]; omega) ?_; intro v2 w2 hown2 hgrow2 _))
        go_roundw
        case rel => exact ⟨t.extract 1 t.size, k + 1, _, rfl, by simp; omega, chars_next HC.out HD.out (by omega), hown2, (hbel.trans (hb.mono hsz)).trans (((Below.refl w.heap.size w1).alloc (by omega) _).grown hgrow2 (by show w.heap.size ≤ (w1.alloc _).heap.size; rw [World.size_alloc]; omega) (fun q hq => (HO.out.lt q hq).1))⟩
        case measure => simp [strLen]; omega
      · have HD := hide hh
        have DC := hide (fun W => rfirst_at t 2 (by omega) (by omega) (by rw [hh]; rfl) W)
        have hl2 : 2 ≤ t.size := by omega
        clear hh hl
        go_wp2_with (first | (go_at_call 170; (with_reducible refine (DC.out _).mono ?_); rintro e w1 ⟨rfl, hb⟩; have hz1' := hb.size) | (at_builtin; refine wpList_append_own _ rfl _ _ 85 rfl w.heap.size 3 i0 (.int .i64 0) 1 8 Tryz.underlying85 hi hz0 hz1 hz2 rfl (by decide) _ k xs rfl ((ownsRow_below HO.out hb).alloc _) ⟨w1.heap.size, 0, none⟩ 1 1 [.int .i64 (fc t)] rfl rfl (World.news_of_block (cs := #[.int .i64 (fc t)]) (t := 3) (fr := (0, 0)) (heap_alloc_new w1 _)) (by simp [Value.oneCell']) (by unfold maxLen; omega) (by omega) (by show w.heap.size ≤ (w1.alloc _).heap.size; rw [World.size_alloc]; omega) ?_; intro v2 w2 hown2 hgrow2 _))
        go_roundw
        case rel => exact ⟨t.extract 2 t.size, k + 1, _, rfl, by simp; omega, chars_next HC.out HD.out (by omega), hown2, (hbel.trans (hb.mono hsz)).trans (((Below.refl w.heap.size w1).alloc (by omega) _).grown hgrow2 (by show w.heap.size ≤ (w1.alloc _).heap.size; rw [World.size_alloc]; omega) (fun q hq => (HO.out.lt q hq).1))⟩
        case measure => simp [strLen]; omega
      · have HD := hide hh
        have DC := hide (fun W => rfirst_at t 3 (by omega) (by omega) (by rw [hh]; rfl) W)
        have hl2 : 3 ≤ t.size := by omega
        clear hh hl
        go_wp2_with (first | (go_at_call 170; (with_reducible refine (DC.out _).mono ?_); rintro e w1 ⟨rfl, hb⟩; have hz1' := hb.size) | (at_builtin; refine wpList_append_own _ rfl _ _ 85 rfl w.heap.size 3 i0 (.int .i64 0) 1 8 Tryz.underlying85 hi hz0 hz1 hz2 rfl (by decide) _ k xs rfl ((ownsRow_below HO.out hb).alloc _) ⟨w1.heap.size, 0, none⟩ 1 1 [.int .i64 (fc t)] rfl rfl (World.news_of_block (cs := #[.int .i64 (fc t)]) (t := 3) (fr := (0, 0)) (heap_alloc_new w1 _)) (by simp [Value.oneCell']) (by unfold maxLen; omega) (by omega) (by show w.heap.size ≤ (w1.alloc _).heap.size; rw [World.size_alloc]; omega) ?_; intro v2 w2 hown2 hgrow2 _))
        go_roundw
        case rel => exact ⟨t.extract 3 t.size, k + 1, _, rfl, by simp; omega, chars_next HC.out HD.out (by omega), hown2, (hbel.trans (hb.mono hsz)).trans (((Below.refl w.heap.size w1).alloc (by omega) _).grown hgrow2 (by show w.heap.size ≤ (w1.alloc _).heap.size; rw [World.size_alloc]; omega) (fun q hq => (HO.out.lt q hq).1))⟩
        case measure => simp [strLen]; omega
theorem rcharsNo (s : ByteArray) (hs : s.size ≤ 65536) (h : chars s = none) (w : World) : Calls Tryz.prog 162 #[.string s] w fun e w' => e = .returned (.tuple #[.slice none 0 0, .int .i64 3]) ∧ Below w.heap.size w w' := by
  refine (rchars_any s hs w).mono fun e w' hp => ?_
  unfold CharsP at hp
  rw [h] at hp
  exact hp
theorem rcharsYes (s : ByteArray) (n : Nat) (hs : s.size ≤ 65536) (h : chars s = some n) (w : World) : Calls Tryz.prog 162 #[.string s] w (CY n w) := by
  refine (rchars_any s hs w).mono fun e w' hp => ?_
  unfold CharsP at hp
  rw [h] at hp
  obtain ⟨⟨a, cap, he⟩, hb⟩ := hp
  exact ⟨a, cap, he, hb⟩
def NoSl (s : ByteArray) (i : Nat) : Prop := ∀ m, m < i → bt s m ≠ 47
theorem has_of {s : ByteArray} {i : Nat} (hi : i < s.size) (h : bt s i = 47) : hasC s 47 = true := by
  unfold hasC
  rw [bt_list s, List.contains_iff_mem]
  exact List.mem_map.2 ⟨i, List.mem_range.2 hi, by rw [h]; rfl⟩
theorem has_no {s : ByteArray} (h : NoSl s s.size) : hasC s 47 = false := by
  rw [Bool.eq_false_iff]
  intro hc
  unfold hasC at hc
  rw [bt_list s, List.contains_iff_mem] at hc
  obtain ⟨m, hm, e⟩ := List.mem_map.1 hc
  have hm := List.mem_range.1 hm
  apply h m hm
  have b0 := bt_nonneg s m
  have b1 := bt_le s m
  have e2 := congrArg UInt8.toNat e
  unfold u8 at e2
  rw [UInt8.toNat_ofNat'] at e2
  have : (47 : UInt8).toNat = 47 := rfl
  omega
set_option maxHeartbeats 4000000 in
theorem rname_any (s : ByteArray) (hs : s.size ≤ 120000) (w : World) : Calls Tryz.prog 147 #[.string s] w fun e w' => e = .returned (.bool (nameB s)) ∧ Below w.heap.size w w' := by
  have hg := get_bt s
  by_cases h1 : s = dot
  case pos =>
    subst h1
    have e : nameB dot = false := name_false (Or.inl (by simp))
    clear hg
    unfold dot at *
    have HL : Live w [] := trivial
    go_enter Tryz.func147, Tryz.ntmps147
    go_wp2
    go_ret
    exact ⟨ret_b e.symm, by (exact bl)⟩
  by_cases h2 : s = dots
  case pos =>
    subst h2
    have e : nameB dots = false := name_false (Or.inl (by simp))
    clear hg
    unfold dots at *
    have HL : Live w [] := trivial
    go_enter Tryz.func147, Tryz.ntmps147
    go_wp2
    go_ret
    exact ⟨ret_b e.symm, by (exact bl)⟩
  have q1 : (s.toList == [46]) = false := eq_list h1
  have q2 : (s.toList == [46, 46]) = false := eq_list h2
  by_cases h3 : s.size ≤ 300
  case neg =>
    have e := hide (nameB_long (s := s) (by omega))
    have HL : Live w [] := trivial
    go_enter Tryz.func147, Tryz.ntmps147
    go_wp2
    go_ret
    exact ⟨ret_b e.out.symm, by (exact bl)⟩
  have HL : Live w [] := trivial
  go_enter Tryz.func147, Tryz.ntmps147
  go_wp2
  go_loop [3] (fun c => ∃ i : Nat, i ≤ s.size ∧ c = .int .i64 i ∧ NoSl s i) (fun c => s.size - (intOf c).toNat)
  case atStart => exact ⟨0, by omega, rfl, fun m hm => by omega⟩
  case round =>
    obtain ⟨i, hi, rfl, hno⟩ := hrel
    have HN := hide hno
    clear hno
    by_cases hlt : i < s.size
    · by_cases hb47 : bt s i = 47
      · have hc := hide (name_false (s := s) (Or.inr (Or.inl (has_of hlt hb47))))
        have hq : (bt s i == 47) = true := by simp [hb47]
        clear hb47
        go_wp2
        go_ret
        exact ⟨ret_b hc.out.symm, by (exact bl)⟩
      · have hq : (bt s i == 47) = false := by simp [hb47]
        have HB := hide hb47
        clear hb47
        go_wp2
        go_round
        case rel =>
          refine ⟨i + 1, by omega, by go_num, fun m hm => ?_⟩
          rcases Nat.lt_or_ge m i with h' | h'
          · exact HN.out m h'
          · obtain rfl : m = i := by omega
            exact HB.out
        case measure => simp [intOf]; omega
    · obtain rfl : i = s.size := by omega
      have h4 := has_no HN.out
      cases h5 : chars s with
      | none =>
        have e := hide (name_false (s := s) (Or.inr (Or.inr h5)))
        have RH := hide (fun W => rcharsNo s (by omega) h5 W)
        clear h4 h5
        go_wp2_with (first | (go_at_call 162; (with_reducible refine (RH.out _).mono ?_); rintro e w' ⟨rfl, hb⟩; have hz := hb.size; (try simp only [SZ, Nat.reduceAdd] at hz); (first | obtain ⟨HL, hk⟩ := HL.callA hb hz | obtain ⟨HL, hk⟩ := HL.call0A hb hz); (try simp only [addN, Nat.add_zero] at HL hk); have hl := HL; simp only [Live] at hl; (try simp only [Kept] at hk)))
        go_ret
        exact ⟨ret_b e.out.symm, by (exact bl)⟩
      | some n =>
        have e := hide (name_some h1 h2 h4 h5)
        have RH2 := hide (fun W => rcharsYes s n (by omega) h5 W)
        have hn := (chars_le s.size s n (Nat.le_refl _) h5).1
        clear h4 h5
        by_cases n1 : 1 ≤ n
        · by_cases n2 : n ≤ 64
          · go_wp2_with (first | (go_at_call 162; (with_reducible refine (RH2.out _).mono ?_); rintro e w' ⟨sa, scap, rfl, hb⟩; have hz := hb.size; (try simp only [SZ, Nat.reduceAdd] at hz); (first | obtain ⟨HL, hk⟩ := HL.callA hb hz | obtain ⟨HL, hk⟩ := HL.call0A hb hz); (try simp only [addN, Nat.add_zero] at HL hk); have hl := HL; simp only [Live] at hl; (try simp only [Kept] at hk)))
            go_ret
            exact ⟨ret_b (by rw [e.out]; simp [n1, n2] <;> omega), by (exact bl)⟩
          · go_wp2_with (first | (go_at_call 162; (with_reducible refine (RH2.out _).mono ?_); rintro e w' ⟨sa, scap, rfl, hb⟩; have hz := hb.size; (try simp only [SZ, Nat.reduceAdd] at hz); (first | obtain ⟨HL, hk⟩ := HL.callA hb hz | obtain ⟨HL, hk⟩ := HL.call0A hb hz); (try simp only [addN, Nat.add_zero] at HL hk); have hl := HL; simp only [Live] at hl; (try simp only [Kept] at hk)))
            go_ret
            exact ⟨ret_b (by rw [e.out]; simp [n1, n2] <;> omega), by (exact bl)⟩
        · go_wp2_with (first | (go_at_call 162; (with_reducible refine (RH2.out _).mono ?_); rintro e w' ⟨sa, scap, rfl, hb⟩; have hz := hb.size; (try simp only [SZ, Nat.reduceAdd] at hz); (first | obtain ⟨HL, hk⟩ := HL.callA hb hz | obtain ⟨HL, hk⟩ := HL.call0A hb hz); (try simp only [addN, Nat.add_zero] at HL hk); have hl := HL; simp only [Live] at hl; (try simp only [Kept] at hk)))
          go_ret
          exact ⟨ret_b (by rw [e.out]; simp [n1] <;> omega), by (exact bl)⟩
end Go.Proofs.YtocgindpjjolpaaGreatDoor
namespace Go.Proofs.YtocgindpjjolpaaGreatDoor
set_option linter.unusedSimpArgs false
set_option linter.unusedVariables false
theorem partsL_none : ∀ (l p : List UInt8), (∀ c ∈ l, c ≠ 47) → partsL l p = [p ++ l]
  | [], p, _ => by simp [partsL]
  | c :: r, p, h => by
    rw [partsL, if_neg (h c (by simp)), partsL_none r (p ++ [c]) (fun x hx => h x (by simp [hx]))]
    simp
theorem partsL_hit : ∀ (a r p : List UInt8), (∀ c ∈ a, c ≠ 47) → partsL (a ++ 47 :: r) p = (p ++ a) :: partsL r []
  | [], r, p, _ => by simp [partsL]
  | c :: a, r, p, h => by
    rw [List.cons_append, partsL, if_neg (h c (by simp)), partsL_hit a r (p ++ [c]) (fun x hx => h x (by simp [hx]))]
    simp
theorem split_parts : ∀ (k : Nat) (s : ByteArray), s.size ≤ k → (Lib.splitB slash 0 (Lib.countB s slash) s).map (·.data.toList) = partsL s.data.toList []
  | k, s, hk => by
    have h1 : 1 ≤ slash.size := by decide
    rcases Lib.indexB_cases s slash with hm | ⟨i, hi, hle⟩
    · rw [Lib.countB_miss s slash hm, Lib.splitB_zero]
      have hn : Lib.indexByte s.data.toList 47 = -1 := by rw [← Lib.index_one]; exact hm
      have := Lib.indexByte_none hn
      rw [partsL_none _ _ (fun c hc e => by
        obtain ⟨j, hj, hx⟩ := List.getElem_of_mem hc
        exact this j (by rw [List.getElem?_eq_getElem hj, hx, e]))]
      simp
    · have hn : Lib.indexByte s.data.toList 47 = (i : Int) := by rw [← Lib.index_one]; exact hi
      obtain ⟨hat, hbf⟩ := Lib.indexByte_some hn
      have hil : i < s.data.toList.length := (List.getElem?_eq_some_iff.1 hat).1
      have hsz : s.size = s.data.toList.length := by rw [Array.length_toList]; rfl
      have hcnt : Lib.countB s slash = Lib.countB (s.extract (i + 1) s.size) slash + 1 := by
        have := Lib.countB_hit s slash i h1 hi
        show Lib.countB s slash = _
        rw [this]
        show 1 + Lib.countB (s.extract (i + 1) s.size) slash = _
        omega
      rw [hcnt, Lib.splitB_hit slash 0 _ s i hi, List.map_cons]
      have ih := split_parts (k - 1) (s.extract (i + 1) s.size) (by simp; omega)
      show (s.extract 0 (i + 0)).data.toList :: (Lib.splitB slash 0 (Lib.countB (s.extract (i + 1) s.size) slash) (s.extract (i + 1) s.size)).map (·.data.toList) = _
      rw [ih]
      have e0 : (s.extract 0 (i + 0)).data.toList = s.data.toList.take i := by
        rw [← ByteArray.toList_eq, Lib.extract_toList]; simp
      have e1 : (s.extract (i + 1) s.size).data.toList = s.data.toList.drop (i + 1) := by
        rw [← ByteArray.toList_eq, Lib.extract_toList, List.take_of_length_le]
        rw [List.length_drop, ← hsz]; omega
      have es : s.data.toList = s.data.toList.take i ++ 47 :: s.data.toList.drop (i + 1) := by
        conv => lhs; rw [← List.take_append_drop i s.data.toList]
        congr 1
        rw [List.drop_eq_getElem_cons hil]
        congr 1
        exact (List.getElem?_eq_some_iff.1 hat).2
      rw [e0, e1]
      conv => rhs; rw [es]
      rw [partsL_hit _ _ _ (fun c hc e => by
        obtain ⟨j, hj, hx⟩ := List.getElem_of_mem hc
        have hj2 : j < i := by simp at hj; omega
        exact hbf j hj2 (by rw [List.getElem?_eq_getElem (by omega)]; rw [List.getElem_take] at hx; rw [hx, e]))]
      simp
termination_by k => k
decreasing_by omega
end Go.Proofs.YtocgindpjjolpaaGreatDoor
namespace Go.Proofs.YtocgindpjjolpaaGreatDoor
set_option linter.unusedSimpArgs false
set_option linter.unusedVariables false
open Go.RowKit
def partB (p : ByteArray) : Bool := decide (p = dot) || decide (p = dots) || nameB p
def strip (s : ByteArray) : ByteArray := ⟨(Lib.trimPrefix s.data.toList [47]).toArray⟩
def words (s : ByteArray) : List ByteArray := Lib.splitB slash 0 (Lib.countB s slash) s
def targetB (s : ByteArray) : Bool := decide (1 ≤ s.size ∧ s.size ≤ 128) && (decide (s = slash) || (words (strip s)).all partB)
def TabV (w : World) : Prop := TabU w ∧ ∃ m, w.cell? ⟨0, 0, none⟩ = some (.int .i64 m)
theorem TabV.below {w w' : World} (h : TabV w) (hb : Below w.heap.size w w') : TabV w' := by
  obtain ⟨h1, m, hm⟩ := h
  exact ⟨h1.below hb, m, (hb.cell (p := ⟨_, 0, none⟩) (cell_lt hm)).trans hm⟩
theorem trimC (s : ByteArray) (hs : s.size ≤ 120000) (w : World) : Calls Tryz.prog 160 #[.string s, .string ⟨#[47]⟩] w fun e w' => e = .returned (.string (strip s)) ∧ w = w' :=
  (Any.strings_TrimPrefix Tryz.lays101 s ⟨#[47]⟩ w).mono fun e w' ⟨he, hw⟩ => ⟨he, hw.symm⟩
theorem strip_size (s : ByteArray) : (strip s).size ≤ s.size := by
  show ((Lib.trimPrefix s.data.toList [47]).toArray).size ≤ s.data.size
  rw [List.size_toArray]
  unfold Lib.trimPrefix
  split
  · rw [List.length_drop, Array.length_toList]; omega
  · rw [Array.length_toList]; exact Nat.le_refl _
theorem splitC (x : ByteArray) (hx : x.size ≤ 2000000) (w : World) (hT : TabV w) : Calls Tryz.prog 110 #[.string x, .string ⟨#[47]⟩] w fun e w' =>
    e = .returned (.slice (some ⟨w.heap.size, 0, none⟩) (Lib.countB x slash + 1) (Lib.countB x slash + 1)) ∧ w' = w.alloc (.cells ((words x).map Value.string).toArray 9) := by
  obtain ⟨-, m, hm⟩ := hT
  exact Any.strings_Split { Tryz.laysM146 with } Tryz.laysM146.i9 x slash m w (by omega) hm (by decide)
theorem piece_size (sep : ByteArray) (sv : Nat) : ∀ (k : Nat) (s p : ByteArray), p ∈ Lib.splitB sep sv k s → p.size ≤ s.size
  | 0, s, p, h => by
    rw [Lib.splitB_zero] at h
    simp at h; rw [h]; exact Nat.le_refl _
  | k + 1, s, p, h => by
    rcases Lib.indexB_cases s sep with hm | ⟨i, hi, _⟩
    · rw [Lib.splitB_miss _ _ _ _ hm] at h
      simp at h; rw [h]; exact Nat.le_refl _
    · rw [Lib.splitB_hit _ _ _ _ i hi] at h
      rcases List.mem_cons.1 h with rfl | h
      · simp; omega
      · have := piece_size sep sv k _ p h
        have e : (s.extract (i + sep.size) s.size).size ≤ s.size := by simp
        omega
theorem words_len (x : ByteArray) : (words x).length = Lib.countB x slash + 1 := Lib.splitB_all slash (by decide) 0 _ x rfl
theorem target_short {s : ByteArray} (h : ¬ (1 ≤ s.size ∧ s.size ≤ 128)) : targetB s = false := by unfold targetB; simp [h]
theorem target_all {s : ByteArray} (h : 1 ≤ s.size ∧ s.size ≤ 128) (hs : s ≠ slash) : targetB s = (words (strip s)).all partB := by unfold targetB; simp [h, hs]
theorem part_dot {p : ByteArray} (h : p = dot ∨ p = dots) : partB p = true := by unfold partB; rcases h with h | h <;> simp [h]
theorem part_name {p : ByteArray} (h1 : p ≠ dot) (h2 : p ≠ dots) : partB p = nameB p := by unfold partB; simp [h1, h2]
def TakeOK (ws : List ByteArray) (i : Nat) : Prop := ∀ j, j < i → ∀ p, ws[j]? = some p → partB p = true
theorem TakeOK.next {ws : List ByteArray} {i : Nat} {p : ByteArray} (h : TakeOK ws i) (hp : ws[i]? = some p) (hg : partB p = true) : TakeOK ws (i + 1) := fun j hj q hq => by
  rcases Nat.lt_or_ge j i with h' | h'
  · exact h j h' q hq
  · obtain rfl : j = i := by omega
    rw [hp] at hq; injection hq with hq; rw [← hq]; exact hg
theorem TakeOK.all {ws : List ByteArray} (h : TakeOK ws ws.length) : ws.all partB = true := by
  rw [List.all_eq_true]
  intro p hp
  obtain ⟨j, hj, e⟩ := List.getElem_of_mem hp
  exact h j hj p (by rw [List.getElem?_eq_getElem hj, e])
theorem all_no {ws : List ByteArray} {i : Nat} {p : ByteArray} (hp : ws[i]? = some p) (hb : partB p = false) : ws.all partB = false := by
  rw [List.all_eq_false]
  exact ⟨p, List.mem_of_getElem? hp, by rw [hb]; simp⟩
set_option maxHeartbeats 4000000 in
theorem target_any (s : ByteArray) (hs : s.size ≤ 120000) (w : World) (hT : TabV w) : Calls Tryz.prog 144 #[.string s] w fun e w' => e = .returned (.bool (targetB s)) ∧ Below w.heap.size w w' := by
  by_cases h1 : 1 ≤ s.size
  case neg =>
    have e := hide (target_short (s := s) (by omega))
    have HL : Live w [] := trivial
    go_enter Tryz.func144, Tryz.ntmps144
    go_wp2
    go_ret
    exact ⟨ret_b e.out.symm, by (exact bl)⟩
  by_cases h2 : s.size ≤ 128
  case neg =>
    have e := hide (target_short (s := s) (by omega))
    have HL : Live w [] := trivial
    go_enter Tryz.func144, Tryz.ntmps144
    go_wp2
    go_ret
    exact ⟨ret_b e.out.symm, by (exact bl)⟩
  by_cases h3 : s = slash
  case pos =>
    subst h3
    have e : targetB slash = true := by decide +kernel
    unfold slash at *
    have HL : Live w [] := trivial
    go_enter Tryz.func144, Tryz.ntmps144
    go_wp2
    go_ret
    exact ⟨ret_b e.symm, by (exact bl)⟩
  have q1 : (s.toList == [47]) = false := eq_list h3
  have E := hide (target_all ⟨h1, h2⟩ h3)
  have TRM := hide (fun W => trimC s hs W)
  have hst := strip_size s
  have hwl := words_len (strip s)
  have hps : ∀ p ∈ words (strip s), p.size ≤ (strip s).size := fun p hp => piece_size slash 0 _ _ p hp
  have HL : Live w [] := trivial
  go_enter Tryz.func144, Tryz.ntmps144
  go_wp2_with (first | (go_at_call 160; (with_reducible refine (TRM.out _).mono ?_); rintro e w' ⟨rfl, rfl⟩))
  refine (splitC (strip s) (by omega) _ hT).mono ?_
  rintro e w' ⟨rfl, rfl⟩
  rw [← hwl]
  have hmx : (words (strip s)).length ≤ 60001 := by rw [hwl]; have := Lib.countB_le slash (by decide) (strip s).size (strip s) (Nat.le_refl _); omega
  clear hwl
  generalize words (strip s) = ws at *
  go_wp2_with fail
  go_loopw [19] (fun c wr => ∃ i : Nat, i ≤ ws.length ∧ c = .int .i64 i ∧ TakeOK ws i ∧ Below w.heap.size w wr ∧ Blk wr w.heap.size (ws.map Value.string).toArray 9) (fun c _ => ws.length - (intOf c).toNat)
  case atStart => exact ⟨0, by omega, rfl, fun j hj => by omega, by (exact bl), Blk.newAt rfl⟩
  case round =>
    obtain ⟨i, hi, rfl, hok, hbel, hB⟩ := hrel
    have HK := hide hok
    clear hok
    have hsz := hbel.size
    have hTr := hT.1.below hbel
    by_cases hlt : i < ws.length
    · obtain ⟨p, hp⟩ : ∃ p, ws[i]? = some p := ⟨_, List.getElem?_eq_getElem hlt⟩
      have hcell : wr.cell? ⟨w.heap.size, i, none⟩ = some (.string p) := by rw [hB.cells]; simp [hp]
      have hpm : p.size ≤ 120000 := by have := hps p (List.mem_of_getElem? hp); omega
      have HP := hide hp
      have NM := hide (fun W hW => name_any p hpm W hW)
      clear hp hps
      by_cases d1 : p = dot
      · have hgood := hide (part_dot (Or.inl d1))
        subst d1
        unfold dot at hcell
        go_wp2
        go_roundw
        case rel => exact ⟨i + 1, by omega, by go_num, HK.out.next HP.out hgood.out, hbel, hB⟩
        case measure => simp [intOf]; omega
      by_cases d2 : p = dots
      · have hgood := hide (part_dot (Or.inr d2))
        subst d2
        unfold dots at hcell
        go_wp2
        go_roundw
        case rel => exact ⟨i + 1, by omega, by go_num, HK.out.next HP.out hgood.out, hbel, hB⟩
        case measure => simp [intOf]; omega
      have g1 : (p.toList == [46]) = false := eq_list d1
      have g2 : (p.toList == [46, 46]) = false := eq_list d2
      have hpn := hide (part_name d1 d2)
      have HL : Live wr [w.heap.size] := ⟨hB.lt, trivial⟩
      cases hn : nameB p
      · have hbad := hide (by rw [hpn.out, hn] : partB p = false)
        go_wp2_with (first | (go_at_call 143; (with_reducible refine (NM.out _ hTr).mono ?_); rintro e w' ⟨rfl, hb⟩; have hz := hb.size; (try simp only [SZ, Nat.reduceAdd] at hz); (first | obtain ⟨HL, hk⟩ := HL.callA hb hz | obtain ⟨HL, hk⟩ := HL.call0A hb hz); (try simp only [addN, Nat.add_zero] at HL hk); have hl := HL; simp only [Live] at hl; (try simp only [Kept] at hk)))
        go_ret
        exact ⟨ret_b (by rw [E.out]; exact (all_no HP.out hbad.out).symm), by (exact bl)⟩
      · have hgood := hide (by rw [hpn.out, hn] : partB p = true)
        go_wp2_with (first | (go_at_call 143; (with_reducible refine (NM.out _ hTr).mono ?_); rintro e w' ⟨rfl, hb⟩; have hz := hb.size; (try simp only [SZ, Nat.reduceAdd] at hz); (first | obtain ⟨HL, hk⟩ := HL.callA hb hz | obtain ⟨HL, hk⟩ := HL.call0A hb hz); (try simp only [addN, Nat.add_zero] at HL hk); have hl := HL; simp only [Live] at hl; (try simp only [Kept] at hk)))
        go_roundw
        case rel => exact ⟨i + 1, by omega, by go_num, HK.out.next HP.out hgood.out, hbel.trans (hb.mono hsz), hB.below hb⟩
        case measure => simp [intOf]; omega
    · obtain rfl : i = ws.length := by omega
      go_wp2
      go_ret
      exact ⟨ret_b (by rw [E.out]; exact HK.out.all.symm), hbel⟩
end Go.Proofs.YtocgindpjjolpaaGreatDoor
namespace Go.Proofs.YtocgindpjjolpaaGreatDoor
set_option linter.unusedSimpArgs false
set_option linter.unusedVariables false
abbrev St := ByteArray × ByteArray
structure Hd where
  name : ByteArray
  kind : Int
  data : ByteArray
  target : ByteArray
  mode : Int
  uid : Int
  gid : Int
  time : Int
  weight : Int
  hidden : Int
deriving DecidableEq
inductive Fo where
  | nil
  | node (h : Hd) (ss : List St) (ks : Fo) (nx : Fo)
deriving DecidableEq
structure Tr where
  h : Hd
  ss : List St
  ks : Fo
deriving DecidableEq
namespace Fo
def len : Fo → Nat
  | nil => 0
  | node _ _ _ nx => nx.len + 1
def count : Fo → Nat
  | nil => 0
  | node _ _ ks nx => ks.count + 1 + nx.count
def lev : Fo → Nat
  | nil => 0
  | node _ _ ks nx => max (ks.lev + 1) nx.lev
def app : Fo → Fo → Fo
  | nil, g => g
  | node h ss ks nx, g => node h ss ks (nx.app g)
def list : Fo → List Tr
  | nil => []
  | node h ss ks nx => ⟨h, ss, ks⟩ :: nx.list
def of : List Tr → Fo
  | [] => nil
  | t :: l => node t.h t.ss t.ks (of l)
theorem len_nil : nil.len = 0 := rfl
theorem len_node (h : Hd) (ss : List St) (ks nx : Fo) : (node h ss ks nx).len = nx.len + 1 := rfl
theorem count_nil : nil.count = 0 := rfl
theorem count_node (h : Hd) (ss : List St) (ks nx : Fo) : (node h ss ks nx).count = ks.count + 1 + nx.count := rfl
theorem lev_nil : nil.lev = 0 := rfl
theorem lev_node (h : Hd) (ss : List St) (ks nx : Fo) : (node h ss ks nx).lev = max (ks.lev + 1) nx.lev := rfl
theorem list_len : ∀ f : Fo, f.list.length = f.len
  | nil => rfl
  | node _ _ _ nx => by rw [list, List.length_cons, list_len nx, len]
theorem len_count : ∀ f : Fo, f.len ≤ f.count
  | nil => Nat.le_refl _
  | node _ _ ks nx => by have := len_count nx; unfold len count; omega
theorem lev_count : ∀ f : Fo, f.lev ≤ f.count
  | nil => Nat.le_refl _
  | node _ _ ks nx => by have := lev_count nx; have := lev_count ks; unfold lev count; omega
def names : Fo → List ByteArray
  | nil => []
  | node h _ _ nx => h.name :: nx.names
end Fo
def Tr.count (t : Tr) : Nat := t.ks.count + 1
def Tr.lev (t : Tr) : Nat := t.ks.lev + 1
abbrev eS : ByteArray := ⟨#[]⟩
def belowP (p n : ByteArray) (l : Nat) : ByteArray := if l ≤ 1 then n else p ++ ⟨#[47]⟩ ++ n
def walkF {S : Type} (step : S → Tr → ByteArray → Nat → Bool × S) : Fo → ByteArray → Nat → S → Bool × S
  | .nil, _, _, s => (true, s)
  | .node h ss ks nx, p, l, s =>
    if (step s ⟨h, ss, ks⟩ (belowP p h.name l) (l + 1)).1 = true then
      if (walkF step ks (belowP p h.name l) (l + 1) (step s ⟨h, ss, ks⟩ (belowP p h.name l) (l + 1)).2).1 = true then
        walkF step nx p l (walkF step ks (belowP p h.name l) (l + 1) (step s ⟨h, ss, ks⟩ (belowP p h.name l) (l + 1)).2).2
      else walkF step ks (belowP p h.name l) (l + 1) (step s ⟨h, ss, ks⟩ (belowP p h.name l) (l + 1)).2
    else step s ⟨h, ss, ks⟩ (belowP p h.name l) (l + 1)
def walkT {S : Type} (step : S → Tr → ByteArray → Nat → Bool × S) (t : Tr) (p : ByteArray) (l : Nat) (s : S) : Bool × S :=
  if (step s t p l).1 = true then walkF step t.ks p l (step s t p l).2 else step s t p l
/-! One node's rules. -/
def kindE (h : Hd) (l : Nat) : Int := if h.kind < 0 ∨ 2 < h.kind ∨ (l = 1 ∧ h.kind ≠ 0) then 1 else 0
def nameE (h : Hd) (l : Nat) : Int := if (l = 1 ∧ h.name ≠ eS) ∨ (1 < l ∧ nameB h.name = false) then 4 else 0
def partsE (t : Tr) : Int := if (t.h.kind ≠ 1 ∧ (t.h.data ≠ eS ∨ 0 < t.ss.length)) ∨ (t.h.kind ≠ 2 ∧ t.h.target ≠ eS) ∨ (t.h.kind ≠ 0 ∧ 0 < t.ks.len) then 1 else 0
def targetE (h : Hd) : Int := if h.kind = 2 ∧ targetB h.target = false then 4 else 0
def rangedB (h : Hd) : Bool := decide (0 ≤ h.mode ∧ h.mode ≤ 4095 ∧ 0 ≤ h.uid ∧ h.uid ≤ 65535 ∧ 0 ≤ h.gid ∧ h.gid ≤ 65535 ∧ 315532800 ≤ h.time ∧ h.time ≤ 4102444799 ∧ -1048576 ≤ h.weight ∧ h.weight ≤ 1048576 ∧ 0 ≤ h.hidden ∧ h.hidden ≤ 15)
def numE (h : Hd) : Int := if rangedB h then 0 else 2
def largeB (t : Tr) (l : Nat) : Bool := decide (16 < l ∨ 262144 < t.h.data.size ∨ 64 < t.ks.len ∨ 4 < t.ss.length) || t.ss.any fun s => decide (262144 < s.2.size)
def sizeE (t : Tr) (l : Nat) : Int := if largeB t l then 7 else 0
def ordE (a b : ByteArray) : Int := if a = b then 5 else if Op.bytesLess b.toList a.toList = true then 1 else 0
def ordO (p : Option ByteArray) (b : ByteArray) : Int := match p with
  | some a => ordE a b
  | none => 0
def strE : Option ByteArray → List St → Int
  | _, [] => 0
  | p, s :: l => if nameB s.1 = false then 4 else if ordO p s.1 ≠ 0 then ordO p s.1 else strE (some s.1) l
def kidsE : List ByteArray → Int
  | [] => 0
  | [_] => 0
  | a :: b :: l => if ordE a b ≠ 0 then ordE a b else kidsE (b :: l)
def firstE : List Int → Int
  | [] => 0
  | e :: l => if e ≠ 0 then e else firstE l
def oneE (t : Tr) (l : Nat) : Int := firstE [kindE t.h l, nameE t.h l, partsE t, targetE t.h, numE t.h, sizeE t l, strE none t.ss, kidsE t.ks.names]
def chkF : Fo → ByteArray → Nat → Option (ByteArray × Int)
  | .nil, _, _ => none
  | .node h ss ks nx, p, l =>
    if oneE ⟨h, ss, ks⟩ (l + 1) ≠ 0 then some (belowP p h.name l, oneE ⟨h, ss, ks⟩ (l + 1))
    else match chkF ks (belowP p h.name l) (l + 1) with
      | some r => some r
      | none => chkF nx p l
def chkT (t : Tr) : Option (ByteArray × Int) := if oneE t 1 ≠ 0 then some (eS, oneE t 1) else chkF t.ks eS 1
def checkT (t : Tr) : ByteArray × Int := if 256 < t.count then (eS, 7) else match chkT t with | some r => r | none => (eS, 0)
def validB (t : Tr) : Bool := decide ((checkT t).2 = 0)
/-! Paths. -/
def pathsF : Fo → ByteArray → Nat → List ByteArray
  | .nil, _, _ => []
  | .node h _ ks nx, p, l => belowP p h.name l :: pathsF ks (belowP p h.name l) (l + 1) ++ pathsF nx p l
def pathsT (t : Tr) : List ByteArray := if validB t then eS :: pathsF t.ks eS 1 else []
def kidF : Fo → ByteArray → Option Tr
  | .nil, _ => none
  | .node h ss ks nx, n => if h.name = n then some ⟨h, ss, ks⟩ else kidF nx n
def findT (t : Tr) : List ByteArray → Option Tr
  | [] => some t
  | n :: l => match kidF t.ks n with
    | some k => findT k l
    | none => none
def partsP (p : ByteArray) : List ByteArray := if p = eS then [] else words p
def Tr.zero : Tr := ⟨⟨eS, 0, eS, eS, 0, 0, 0, 0, 0, 0⟩, [], .nil⟩
def getT (t : Tr) (p : ByteArray) : Tr × Int := if validB t then (match findT t (partsP p) with | some x => (x, 0) | none => (Tr.zero, 6)) else (Tr.zero, 1)
end Go.Proofs.YtocgindpjjolpaaGreatDoor
namespace Go.Proofs.YtocgindpjjolpaaGreatDoor
set_option linter.unusedSimpArgs false
set_option linter.unusedVariables false
open Go.RowKit
def Hd.cells (h : Hd) (kv sv : Value) : Array Value := #[.string h.name, .int .i64 h.kind, .string h.data, .string h.target, .int .i64 h.mode, .int .i64 h.uid, .int .i64 h.gid, .int .i64 h.time, .int .i64 h.weight, .int .i64 h.hidden, kv, sv]
theorem Hd.size (h : Hd) (kv sv : Value) : (h.cells kv sv).size = 12 := rfl
def StR (w : World) (B : Nat) (sv : Value) (ss : List St) : Prop := ∃ A c, sv = .slice A ss.length c ∧ (0 < ss.length → ∃ g o, A = some ⟨g, o, none⟩ ∧ g < B ∧
  ∀ j s, ss[j]? = some s → w.cell? ⟨g, o + j * 2, none⟩ = some (.string s.1) ∧ w.cell? ⟨g, o + (j * 2 + 1), none⟩ = some (.string s.2))
def ForR (w : World) (B : Nat) : Fo → Nat → Nat → Prop
  | .nil, _, _ => True
  | .node h ss ks nx, g, o => (∃ kv sv, w.rangeAt g o (h.cells kv sv).toList ∧ StR w B sv ss ∧ ∃ A c, kv = .slice A ks.len c ∧ (0 < ks.len → ∃ g' o', A = some ⟨g', o', none⟩ ∧ g' < B ∧ ForR w B ks g' o')) ∧ ForR w B nx g (o + 12)
def KidR (w : World) (B : Nat) (kv : Value) (ks : Fo) : Prop := ∃ A c, kv = .slice A ks.len c ∧ (0 < ks.len → ∃ g o, A = some ⟨g, o, none⟩ ∧ g < B ∧ ForR w B ks g o)
def TreeR (w : World) (B : Nat) (v : Value) (t : Tr) : Prop := ∃ kv sv, v = .agg (t.h.cells kv sv) ∧ StR w B sv t.ss ∧ KidR w B kv t.ks
theorem range_below {w w' : World} {B g o : Nat} {cs : List Value} (hb : Below B w w') (hg : g < B) (h : w.rangeAt g o cs) : w'.rangeAt g o cs := fun j u hu => (hb.cell (p := ⟨g, o + j, none⟩) hg).trans (h j u hu)
theorem StR.below {w w' : World} {B : Nat} {sv : Value} {ss : List St} (hb : Below B w w') (h : StR w B sv ss) : StR w' B sv ss := by
  obtain ⟨A, c, e, h⟩ := h
  refine ⟨A, c, e, fun h0 => ?_⟩
  obtain ⟨g, o, e2, hg, hc⟩ := h h0
  exact ⟨g, o, e2, hg, fun j s hs => ⟨(hb.cell (p := ⟨g, o + j * 2, none⟩) hg).trans (hc j s hs).1, (hb.cell (p := ⟨g, o + (j * 2 + 1), none⟩) hg).trans (hc j s hs).2⟩⟩
theorem StR.mono {w : World} {B B' : Nat} {sv : Value} {ss : List St} (hB : B ≤ B') (h : StR w B sv ss) : StR w B' sv ss := by
  obtain ⟨A, c, e, h⟩ := h
  refine ⟨A, c, e, fun h0 => ?_⟩
  obtain ⟨g, o, e2, hg, hc⟩ := h h0
  exact ⟨g, o, e2, Nat.lt_of_lt_of_le hg hB, hc⟩
theorem ForR.below {w w' : World} {B : Nat} (hb : Below B w w') : ∀ (f : Fo) (g o : Nat), g < B → ForR w B f g o → ForR w' B f g o
  | .nil, _, _, _, _ => trivial
  | .node _ _ ks nx, g, o, hg, ⟨⟨kv, sv, hr, hs, A, c, e, hk⟩, hn⟩ =>
    ⟨⟨kv, sv, range_below hb hg hr, hs.below hb, A, c, e, fun h0 => by
      obtain ⟨g', o', e2, hg', hf⟩ := hk h0
      exact ⟨g', o', e2, hg', ForR.below hb ks g' o' hg' hf⟩⟩, ForR.below hb nx g (o + 12) hg hn⟩
theorem ForR.mono {w : World} {B B' : Nat} (hB : B ≤ B') : ∀ (f : Fo) (g o : Nat), ForR w B f g o → ForR w B' f g o
  | .nil, _, _, _ => trivial
  | .node _ _ ks nx, g, o, ⟨⟨kv, sv, hr, hs, A, c, e, hk⟩, hn⟩ =>
    ⟨⟨kv, sv, hr, hs.mono hB, A, c, e, fun h0 => by
      obtain ⟨g', o', e2, hg', hf⟩ := hk h0
      exact ⟨g', o', e2, Nat.lt_of_lt_of_le hg' hB, ForR.mono hB ks g' o' hf⟩⟩, ForR.mono hB nx g (o + 12) hn⟩
theorem KidR.below {w w' : World} {B : Nat} {kv : Value} {ks : Fo} (hb : Below B w w') (h : KidR w B kv ks) : KidR w' B kv ks := by
  obtain ⟨A, c, e, h⟩ := h
  refine ⟨A, c, e, fun h0 => ?_⟩
  obtain ⟨g, o, e2, hg, hf⟩ := h h0
  exact ⟨g, o, e2, hg, hf.below hb _ _ _ hg⟩
theorem KidR.mono {w : World} {B B' : Nat} {kv : Value} {ks : Fo} (hB : B ≤ B') (h : KidR w B kv ks) : KidR w B' kv ks := by
  obtain ⟨A, c, e, h⟩ := h
  refine ⟨A, c, e, fun h0 => ?_⟩
  obtain ⟨g, o, e2, hg, hf⟩ := h h0
  exact ⟨g, o, e2, Nat.lt_of_lt_of_le hg hB, hf.mono hB _ _ _⟩
theorem TreeR.below {w w' : World} {B : Nat} {v : Value} {t : Tr} (hb : Below B w w') (h : TreeR w B v t) : TreeR w' B v t := by
  obtain ⟨kv, sv, e, hs, hk⟩ := h
  exact ⟨kv, sv, e, hs.below hb, hk.below hb⟩
theorem TreeR.mono {w : World} {B B' : Nat} {v : Value} {t : Tr} (hB : B ≤ B') (h : TreeR w B v t) : TreeR w B' v t := by
  obtain ⟨kv, sv, e, hs, hk⟩ := h
  exact ⟨kv, sv, e, hs.mono hB, hk.mono hB⟩
theorem TreeR.open {w : World} {B : Nat} {v : Value} {t : Tr} (h : TreeR w B v t) : ∃ A c A2 c2, v = .agg (t.h.cells (.slice A t.ks.len c) (.slice A2 t.ss.length c2)) ∧
    (0 < t.ks.len → ∃ g o, A = some ⟨g, o, none⟩ ∧ g < B ∧ ForR w B t.ks g o) ∧
    (0 < t.ss.length → ∃ g o, A2 = some ⟨g, o, none⟩ ∧ g < B ∧ ∀ j s, t.ss[j]? = some s → w.cell? ⟨g, o + j * 2, none⟩ = some (.string s.1) ∧ w.cell? ⟨g, o + (j * 2 + 1), none⟩ = some (.string s.2)) := by
  obtain ⟨kv, sv, rfl, ⟨A2, c2, rfl, hs⟩, A, c, rfl, hk⟩ := h
  exact ⟨A, c, A2, c2, rfl, hk, hs⟩
theorem ForR.head {w : World} {B : Nat} {h : Hd} {ss : List St} {ks nx : Fo} {g o : Nat} (hf : ForR w B (.node h ss ks nx) g o) : ∃ cells : Array Value, w.rangeAt g o cells.toList ∧ cells.size = 12 ∧ cells.all (·.oneCell') = true ∧ TreeR w B (.agg cells) ⟨h, ss, ks⟩ := by
  obtain ⟨⟨kv, sv, hr, ⟨A2, c2, rfl, hs⟩, A, c, rfl, hk⟩, _⟩ := hf
  exact ⟨_, hr, rfl, by kernel_rfl, _, _, rfl, ⟨A2, c2, rfl, hs⟩, A, c, rfl, hk⟩
theorem ForR.tail {w : World} {B : Nat} {h : Hd} {ss : List St} {ks nx : Fo} {g o : Nat} (hf : ForR w B (.node h ss ks nx) g o) : ForR w B nx g (o + 12) := hf.2
def Left (w : World) (B : Nat) (A : Option Addr) (r : Fo) (k : Nat) : Prop := 0 < r.len → ∃ g o, A = some ⟨g, o, none⟩ ∧ g < B ∧ ForR w B r g (o + k * 12)
theorem Left.of {w : World} {B : Nat} {A : Option Addr} {f : Fo} (h : 0 < f.len → ∃ g o, A = some ⟨g, o, none⟩ ∧ g < B ∧ ForR w B f g o) : Left w B A f 0 := fun h0 => by
  obtain ⟨g, o, e, hg, hf⟩ := h h0
  exact ⟨g, o, e, hg, by rw [Nat.zero_mul, Nat.add_zero]; exact hf⟩
theorem Left.below {w w' : World} {B : Nat} {A : Option Addr} {f : Fo} {k : Nat} (hb : Below B w w') (h : Left w B A f k) : Left w' B A f k := fun h0 => by
  obtain ⟨g, o, e, hg, hf⟩ := h h0
  exact ⟨g, o, e, hg, hf.below hb _ _ _ hg⟩
theorem Left.next {w : World} {B : Nat} {A : Option Addr} {h : Hd} {ss : List St} {ks nx : Fo} {k : Nat} (hl : Left w B A (.node h ss ks nx) k) : ∃ g o cells, A = some ⟨g, o, none⟩ ∧ g < B ∧ w.rangeAt g (o + k * 12) (Array.toList cells) ∧ cells.size = 12 ∧ cells.all (·.oneCell') = true ∧ TreeR w B (.agg cells) ⟨h, ss, ks⟩ ∧ Left w B A nx (k + 1) := by
  obtain ⟨g, o, e, hg, hf⟩ := hl (by unfold Fo.len; omega)
  obtain ⟨cells, h1, h2, h3, h4⟩ := hf.head
  exact ⟨g, o, cells, e, hg, h1, h2, h3, h4, fun _ => ⟨g, o, e, hg, by rw [show o + (k + 1) * 12 = o + k * 12 + 12 by omega]; exact hf.tail⟩⟩
def CapF (w : World) : Fo → Nat → Nat → Prop
  | .nil, _, _ => True
  | .node _ _ ks nx, g, o => (∃ A c, w.cell? ⟨g, o + 10, none⟩ = some (.slice A ks.len c) ∧ ks.len ≤ c ∧ (0 < ks.len → ∃ g' o', A = some ⟨g', o', none⟩ ∧ CapF w ks g' o')) ∧ CapF w nx g (o + 12)
def CapT (w : World) (v : Value) (t : Tr) : Prop := ∃ A c sv, v = .agg (t.h.cells (.slice A t.ks.len c) sv) ∧ t.ks.len ≤ c ∧ (0 < t.ks.len → ∃ g o, A = some ⟨g, o, none⟩ ∧ CapF w t.ks g o)
def CapK (w : World) (kv : Value) (ks : Fo) : Prop := ∃ A c, kv = .slice A ks.len c ∧ ks.len ≤ c ∧ (0 < ks.len → ∃ g o, A = some ⟨g, o, none⟩ ∧ CapF w ks g o)
theorem capF_of {w : World} {g : Nat} : ∀ (l : List Tr) (o : Nat), (∀ j t, l[j]? = some t → ∃ kv, w.cell? ⟨g, o + j * 12 + 10, none⟩ = some kv ∧ CapK w kv t.ks) → CapF w (Fo.of l) g o
  | [], _, _ => trivial
  | t :: l, o, h => by
    obtain ⟨kv, h1, A, c, rfl, h2, h3⟩ := h 0 t rfl
    exact ⟨⟨A, c, by simpa using h1, h2, h3⟩, capF_of l (o + 12) fun j u hu => by
      obtain ⟨kv, h1, h2⟩ := h (j + 1) u (by simpa using hu)
      exact ⟨kv, by rw [show o + 12 + j * 12 + 10 = o + (j + 1) * 12 + 10 by omega]; exact h1, h2⟩⟩
end Go.Proofs.YtocgindpjjolpaaGreatDoor
namespace Go.Proofs.YtocgindpjjolpaaGreatDoor
set_option linter.unusedSimpArgs false
set_option linter.unusedVariables false
theorem walk_count : ∀ (f : Fo) (p : ByteArray) (l s : Nat), walkF (fun s _ _ _ => (true, s + 1)) f p l s = (true, s + f.count)
  | .nil, _, _, _ => rfl
  | .node h ss ks nx, p, l, s => by
    unfold walkF Fo.count
    dsimp only
    rw [if_pos rfl, walk_count ks, if_pos rfl, walk_count nx]
    congr 1; omega
theorem walk_paths : ∀ (f : Fo) (p : ByteArray) (l : Nat) (s : List ByteArray), walkF (fun s _ p _ => (true, s ++ [p])) f p l s = (true, s ++ pathsF f p l)
  | .nil, _, _, s => by rw [walkF, pathsF, List.append_nil]
  | .node h ss ks nx, p, l, s => by
    unfold walkF pathsF
    dsimp only
    rw [if_pos rfl, walk_paths ks, if_pos rfl, walk_paths nx]
    simp
def chkStep (s : ByteArray × Int) (t : Tr) (p : ByteArray) (l : Nat) : Bool × (ByteArray × Int) := if oneE t l ≠ 0 then (false, (p, oneE t l)) else (true, (s.1, 0))
theorem walk_check : ∀ (f : Fo) (p : ByteArray) (l : Nat) (a : ByteArray), walkF chkStep f p l (a, 0) = match chkF f p l with
    | some r => (false, r)
    | none => (true, (a, 0))
  | .nil, _, _, _ => rfl
  | .node h ss ks nx, p, l, a => by
    unfold walkF chkF
    by_cases h1 : oneE ⟨h, ss, ks⟩ (l + 1) ≠ 0
    · have e : chkStep (a, 0) ⟨h, ss, ks⟩ (belowP p h.name l) (l + 1) = (false, (belowP p h.name l, oneE ⟨h, ss, ks⟩ (l + 1))) := by unfold chkStep; rw [if_pos h1]
      rw [e, if_pos h1]
      rfl
    · have e : chkStep (a, 0) ⟨h, ss, ks⟩ (belowP p h.name l) (l + 1) = (true, (a, 0)) := by unfold chkStep; rw [if_neg h1]
      rw [e, if_neg h1]
      dsimp only
      rw [if_pos rfl, walk_check ks]
      cases hk : chkF ks (belowP p h.name l) (l + 1) with
      | some r => rfl
      | none =>
        dsimp only
        rw [if_pos rfl, walk_check nx]
theorem walkT_check (t : Tr) : walkT chkStep t eS 1 (eS, 0) = match chkT t with
    | some r => (false, r)
    | none => (true, (eS, 0)) := by
  unfold walkT chkT
  by_cases h1 : oneE t 1 ≠ 0
  · have e : chkStep (eS, 0) t eS 1 = (false, (eS, oneE t 1)) := by unfold chkStep; rw [if_pos h1]
    rw [e, if_pos h1]
    rfl
  · have e : chkStep (eS, 0) t eS 1 = (true, (eS, 0)) := by unfold chkStep; rw [if_neg h1]
    rw [e, if_neg h1]
    dsimp only
    rw [if_pos rfl, walk_check]
theorem walkT_count (t : Tr) (p : ByteArray) : walkT (fun s _ _ _ => (true, s + 1)) t p 1 0 = (true, t.count) := by
  unfold walkT
  dsimp only
  rw [if_pos rfl, walk_count]
  unfold Tr.count
  congr 1; omega
theorem walkT_paths (t : Tr) : walkT (fun (s : List ByteArray) _ p _ => (true, s ++ [p])) t eS 1 [] = (true, eS :: pathsF t.ks eS 1) := by
  unfold walkT
  dsimp only
  rw [if_pos rfl, walk_paths]
  rfl
end Go.Proofs.YtocgindpjjolpaaGreatDoor
