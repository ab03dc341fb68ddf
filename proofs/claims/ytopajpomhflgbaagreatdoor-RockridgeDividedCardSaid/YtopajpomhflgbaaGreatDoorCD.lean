/- Contracts of the reference's Characters and Name. -/
import Derived.Test.YtopajpomhflgbaaGreatDoorCAB
import Derived.Test.YtopajpomhflgbaaGreatDoorCC
namespace Go.Proofs.YtopajpomhflgbaaGreatDoor
set_option linter.unusedSimpArgs false
set_option linter.unusedVariables false
open Go.RowKit
open Go.PlainAid (bt get_bt bt_nonneg bt_le bt_end)

theorem rfirst_at (t : ByteArray) (kk : Int) (h1 : 1 ≤ t.size) (h64 : (t.size : Int) ≤ 65536) (hk : (hd t : Int) = kk) (w : World) : Calls Tryz.prog 76 #[.string t] w fun e w' => e = .returned (.tuple #[.int .i64 (fc t), .int .i64 kk]) ∧ Below w.heap.size w w' := by
  subst hk; exact rfirst_any t h1 h64 w
theorem hd_cases (t : ByteArray) : hd t = 0 ∨ hd t = 1 ∨ hd t = 2 ∨ hd t = 3 := by
  unfold hd; repeat' split
  all_goals omega
set_option maxRecDepth 100000 in
set_option maxHeartbeats 4000000 in
theorem rchars_any (s : ByteArray) (hs : s.size ≤ 65536) (w : World) : Calls Tryz.prog 47 #[.string s] w (CharsP (chars s) w) := by
  obtain ⟨i0, hi, hz0, hz1, hz2⟩ := info_parts intInfo
  have HL : Live w [] := trivial
  go_enter Tryz.func47, Tryz.ntmps47
  go_wp2
  go_loopw [0, 4] (fun sv out wr => CRel s sv out w.heap.size w wr) (fun sv _ _ => strLen sv)
  case atStart => exact ⟨s, 0, [], rfl, by omega, by simp, World.ownsRow_nil _ _ _ _, by (repeat' (first | (with_reducible exact Below.refl _ _) | (with_reducible refine Below.alloc ?_ ?_ _) | (with_reducible refine Below.setCell ?_ ?_ _) | (with_reducible refine Below.drew ?_) | (with_reducible refine below_drewN' ?_) | (with_reducible refine below_bytesW ?_ ?_) | (with_reducible refine Below.trans ?_ (Below.mono (by assumption) ?_)) | omega | (simp only [World.size_alloc, World.size_setCell, World.size_drew]; omega) | (simp [size_bytesW]; omega) | (simp; omega)))⟩
  case round =>
    obtain ⟨t, k, xs, rfl, hk, hc, hown, hbel⟩ := hrel
    have HC := hide hc
    clear hc
    have hsz := hbel.size
    by_cases h0 : t.size = 0
    · have HH := hide h0
      have hz : ¬ (0 : Int) < (t.size : Int) := by omega
      clear h0
      rcases Go.Joins.ownsRow_forms hown with ⟨rfl, rfl⟩ | ⟨g, cap, rfl⟩
      all_goals
        clear hown
        go_wp2
        go_ret2
        exact CharsP.yes (by rw [HC.out, chars_nil HH.out]; simp) ⟨_, _, rfl⟩ hbel
    · have hz : (0 : Int) < (t.size : Int) := by omega
      have hl := hd_le t
      have HO := hide hown
      clear hown h0
      rcases hd_cases t with hh | hh | hh | hh
      · have HD := hide hh
        have DC := hide (fun W => rfirst_at t 0 (by omega) (by omega) (by rw [hh]; rfl) W)
        clear hh hl
        go_wp2_with (go_at_call 76; (with_reducible refine (DC.out _).mono ?_); rintro e w1 ⟨rfl, hb⟩; have hz1' := hb.size)
        go_ret2
        exact CharsP.no (by rw [HC.out, chars_no (by omega) HD.out]; rfl) rfl (hbel.trans (hb.mono hsz))
      · have HD := hide hh
        have DC := hide (fun W => rfirst_at t 1 (by omega) (by omega) (by rw [hh]; rfl) W)
        have hl2 : 1 ≤ t.size := by omega
        clear hh hl
        go_wp2_with (first | (go_at_call 76; (with_reducible refine (DC.out _).mono ?_); rintro e w1 ⟨rfl, hb⟩; have hz1' := hb.size) | (at_builtin; refine wpList_append_own _ rfl _ _ 38 rfl w.heap.size 3 i0 (.int .i64 0) 1 8 Tryz.underlying38 hi hz0 hz1 hz2 rfl (by decide) _ k xs rfl ((ownsRow_below HO.out hb).alloc _) ⟨w1.heap.size, 0, none⟩ 1 1 [.int .i64 (fc t)] rfl rfl (World.news_of_block (cs := #[.int .i64 (fc t)]) (t := 3) (fr := (0, 0)) (heap_alloc_new w1 _)) (by simp [Value.oneCell']) (by unfold maxLen; omega) (by omega) (by show w.heap.size ≤ (w1.alloc _).heap.size; rw [World.size_alloc]; omega) ?_; intro v2 w2 hown2 hgrow2 _))
        go_roundw
        case rel => exact ⟨t.extract 1 t.size, k + 1, _, rfl, by simp; omega, chars_next HC.out HD.out (by omega), hown2, (hbel.trans (hb.mono hsz)).trans (((Below.refl w.heap.size w1).alloc (by omega) _).grown hgrow2 (by show w.heap.size ≤ (w1.alloc _).heap.size; rw [World.size_alloc]; omega) (fun q hq => (HO.out.lt q hq).1))⟩
        case measure => simp [strLen]; omega
      · have HD := hide hh
        have DC := hide (fun W => rfirst_at t 2 (by omega) (by omega) (by rw [hh]; rfl) W)
        have hl2 : 2 ≤ t.size := by omega
        clear hh hl
        go_wp2_with (first | (go_at_call 76; (with_reducible refine (DC.out _).mono ?_); rintro e w1 ⟨rfl, hb⟩; have hz1' := hb.size) | (at_builtin; refine wpList_append_own _ rfl _ _ 38 rfl w.heap.size 3 i0 (.int .i64 0) 1 8 Tryz.underlying38 hi hz0 hz1 hz2 rfl (by decide) _ k xs rfl ((ownsRow_below HO.out hb).alloc _) ⟨w1.heap.size, 0, none⟩ 1 1 [.int .i64 (fc t)] rfl rfl (World.news_of_block (cs := #[.int .i64 (fc t)]) (t := 3) (fr := (0, 0)) (heap_alloc_new w1 _)) (by simp [Value.oneCell']) (by unfold maxLen; omega) (by omega) (by show w.heap.size ≤ (w1.alloc _).heap.size; rw [World.size_alloc]; omega) ?_; intro v2 w2 hown2 hgrow2 _))
        go_roundw
        case rel => exact ⟨t.extract 2 t.size, k + 1, _, rfl, by simp; omega, chars_next HC.out HD.out (by omega), hown2, (hbel.trans (hb.mono hsz)).trans (((Below.refl w.heap.size w1).alloc (by omega) _).grown hgrow2 (by show w.heap.size ≤ (w1.alloc _).heap.size; rw [World.size_alloc]; omega) (fun q hq => (HO.out.lt q hq).1))⟩
        case measure => simp [strLen]; omega
      · have HD := hide hh
        have DC := hide (fun W => rfirst_at t 3 (by omega) (by omega) (by rw [hh]; rfl) W)
        have hl2 : 3 ≤ t.size := by omega
        clear hh hl
        go_wp2_with (first | (go_at_call 76; (with_reducible refine (DC.out _).mono ?_); rintro e w1 ⟨rfl, hb⟩; have hz1' := hb.size) | (at_builtin; refine wpList_append_own _ rfl _ _ 38 rfl w.heap.size 3 i0 (.int .i64 0) 1 8 Tryz.underlying38 hi hz0 hz1 hz2 rfl (by decide) _ k xs rfl ((ownsRow_below HO.out hb).alloc _) ⟨w1.heap.size, 0, none⟩ 1 1 [.int .i64 (fc t)] rfl rfl (World.news_of_block (cs := #[.int .i64 (fc t)]) (t := 3) (fr := (0, 0)) (heap_alloc_new w1 _)) (by simp [Value.oneCell']) (by unfold maxLen; omega) (by omega) (by show w.heap.size ≤ (w1.alloc _).heap.size; rw [World.size_alloc]; omega) ?_; intro v2 w2 hown2 hgrow2 _))
        go_roundw
        case rel => exact ⟨t.extract 3 t.size, k + 1, _, rfl, by simp; omega, chars_next HC.out HD.out (by omega), hown2, (hbel.trans (hb.mono hsz)).trans (((Below.refl w.heap.size w1).alloc (by omega) _).grown hgrow2 (by show w.heap.size ≤ (w1.alloc _).heap.size; rw [World.size_alloc]; omega) (fun q hq => (HO.out.lt q hq).1))⟩
        case measure => simp [strLen]; omega
theorem rcharsNo (s : ByteArray) (hs : s.size ≤ 65536) (h : chars s = none) (w : World) : Calls Tryz.prog 47 #[.string s] w fun e w' => e = .returned (.tuple #[.slice none 0 0, .int .i64 3]) ∧ Below w.heap.size w w' := by
  refine (rchars_any s hs w).mono fun e w' hp => ?_
  unfold CharsP at hp
  rw [h] at hp
  exact hp
theorem rcharsYes (s : ByteArray) (n : Nat) (hs : s.size ≤ 65536) (h : chars s = some n) (w : World) : Calls Tryz.prog 47 #[.string s] w (CY n w) := by
  refine (rchars_any s hs w).mono fun e w' hp => ?_
  unfold CharsP at hp
  rw [h] at hp
  obtain ⟨⟨a, cap, he⟩, hb⟩ := hp
  exact ⟨a, cap, he, hb⟩
def NoSl (s : ByteArray) (i : Nat) : Prop := ∀ m, m < i → bt s m ≠ 47
theorem has_of {s : ByteArray} {i : Nat} (hi : i < s.size) (h : bt s i = 47) : hasC s 47 = true := by
  unfold hasC
  rw [bt_list s, List.contains_iff_mem]
  exact List.mem_map.2 ⟨i, List.mem_range.2 hi, by rw [h]; rfl⟩
theorem has_no {s : ByteArray} (h : NoSl s s.size) : hasC s 47 = false := by
  rw [Bool.eq_false_iff]
  intro hc
  unfold hasC at hc
  rw [bt_list s, List.contains_iff_mem] at hc
  obtain ⟨m, hm, e⟩ := List.mem_map.1 hc
  have hm := List.mem_range.1 hm
  apply h m hm
  have b0 := bt_nonneg s m
  have b1 := bt_le s m
  have e2 := congrArg UInt8.toNat e
  unfold u8 at e2
  rw [UInt8.toNat_ofNat'] at e2
  have : (47 : UInt8).toNat = 47 := rfl
  omega
set_option maxHeartbeats 4000000 in
theorem rname_any (s : ByteArray) (hs : s.size ≤ 60000) (w : World) : Calls Tryz.prog 18 #[.string s] w fun e w' => e = .returned (.bool (nameB s)) ∧ Below w.heap.size w w' := by
  have hg := get_bt s
  by_cases h1 : s = dot
  case pos =>
    subst h1
    have e : nameB dot = false := name_false (Or.inl (by simp))
    clear hg
    unfold dot at *
    have HL : Live w [] := trivial
    go_enter Tryz.func18, Tryz.ntmps18
    go_wp2
    go_ret
    exact ⟨ret_b e.symm, by (repeat' (first | (with_reducible exact Below.refl _ _) | (with_reducible refine Below.alloc ?_ ?_ _) | (with_reducible refine Below.setCell ?_ ?_ _) | (with_reducible refine Below.drew ?_) | (with_reducible refine below_drewN' ?_) | (with_reducible refine below_bytesW ?_ ?_) | (with_reducible refine Below.trans ?_ (Below.mono (by assumption) ?_)) | omega | (simp only [World.size_alloc, World.size_setCell, World.size_drew]; omega) | (simp [size_bytesW]; omega) | (simp; omega)))⟩
  by_cases h2 : s = dots
  case pos =>
    subst h2
    have e : nameB dots = false := name_false (Or.inl (by simp))
    clear hg
    unfold dots at *
    have HL : Live w [] := trivial
    go_enter Tryz.func18, Tryz.ntmps18
    go_wp2
    go_ret
    exact ⟨ret_b e.symm, by (repeat' (first | (with_reducible exact Below.refl _ _) | (with_reducible refine Below.alloc ?_ ?_ _) | (with_reducible refine Below.setCell ?_ ?_ _) | (with_reducible refine Below.drew ?_) | (with_reducible refine below_drewN' ?_) | (with_reducible refine below_bytesW ?_ ?_) | (with_reducible refine Below.trans ?_ (Below.mono (by assumption) ?_)) | omega | (simp only [World.size_alloc, World.size_setCell, World.size_drew]; omega) | (simp [size_bytesW]; omega) | (simp; omega)))⟩
  have q1 : (s.toList == [46]) = false := eq_list h1
  have q2 : (s.toList == [46, 46]) = false := eq_list h2
  by_cases h3 : s.size ≤ 300
  case neg =>
    have e := hide (nameB_long (s := s) (by omega))
    have HL : Live w [] := trivial
    go_enter Tryz.func18, Tryz.ntmps18
    go_wp2
    go_ret
    exact ⟨ret_b e.out.symm, by (repeat' (first | (with_reducible exact Below.refl _ _) | (with_reducible refine Below.alloc ?_ ?_ _) | (with_reducible refine Below.setCell ?_ ?_ _) | (with_reducible refine Below.drew ?_) | (with_reducible refine below_drewN' ?_) | (with_reducible refine below_bytesW ?_ ?_) | (with_reducible refine Below.trans ?_ (Below.mono (by assumption) ?_)) | omega | (simp only [World.size_alloc, World.size_setCell, World.size_drew]; omega) | (simp [size_bytesW]; omega) | (simp; omega)))⟩
  have HL : Live w [] := trivial
  go_enter Tryz.func18, Tryz.ntmps18
  go_wp2
  go_loop [3] (fun c => ∃ i : Nat, i ≤ s.size ∧ c = .int .i64 i ∧ NoSl s i) (fun c => s.size - (intOf c).toNat)
  case atStart => exact ⟨0, by omega, rfl, fun m hm => by omega⟩
  case round =>
    obtain ⟨i, hi, rfl, hno⟩ := hrel
    have HN := hide hno
    clear hno
    by_cases hlt : i < s.size
    · by_cases hb47 : bt s i = 47
      · have hc := hide (name_false (s := s) (Or.inr (Or.inl (has_of hlt hb47))))
        have hq : (bt s i == 47) = true := by simp [hb47]
        clear hb47
        go_wp2
        go_ret
        exact ⟨ret_b hc.out.symm, by (repeat' (first | (with_reducible exact Below.refl _ _) | (with_reducible refine Below.alloc ?_ ?_ _) | (with_reducible refine Below.setCell ?_ ?_ _) | (with_reducible refine Below.drew ?_) | (with_reducible refine below_drewN' ?_) | (with_reducible refine below_bytesW ?_ ?_) | (with_reducible refine Below.trans ?_ (Below.mono (by assumption) ?_)) | omega | (simp only [World.size_alloc, World.size_setCell, World.size_drew]; omega) | (simp [size_bytesW]; omega) | (simp; omega)))⟩
      · have hq : (bt s i == 47) = false := by simp [hb47]
        have HB := hide hb47
        clear hb47
        go_wp2
        go_round
        case rel =>
          refine ⟨i + 1, by omega, by go_num, fun m hm => ?_⟩
          rcases Nat.lt_or_ge m i with h' | h'
          · exact HN.out m h'
          · obtain rfl : m = i := by omega
            exact HB.out
        case measure => simp [intOf]; omega
    · obtain rfl : i = s.size := by omega
      have h4 := has_no HN.out
      cases h5 : chars s with
      | none =>
        have e := hide (name_false (s := s) (Or.inr (Or.inr h5)))
        have RH := hide (fun W => rcharsNo s (by omega) h5 W)
        clear h4 h5
        go_wp2_with (first | (go_at_call 47; (with_reducible refine (RH.out _).mono ?_); rintro e w' ⟨rfl, hb⟩; have hz := hb.size; (try simp only [World.size_alloc, World.size_setCell, World.size_drew, Nat.add_assoc, Nat.reduceAdd] at hz); (first | obtain ⟨HL, hk⟩ := HL.call hb hz (by simp only [World.size_alloc, World.size_setCell, World.size_drew, Nat.add_assoc, Nat.reduceAdd]) | obtain ⟨HL, hk⟩ := HL.call0 hb hz (by first | rfl | simp only [World.size_alloc, World.size_setCell, World.size_drew, Nat.add_assoc, Nat.reduceAdd])); (try simp only [addN, Nat.add_zero] at HL hk); have hl := HL; simp only [Live] at hl; (try simp only [Kept] at hk)))
        go_ret
        exact ⟨ret_b e.out.symm, by (repeat' (first | (with_reducible exact Below.refl _ _) | (with_reducible refine Below.alloc ?_ ?_ _) | (with_reducible refine Below.setCell ?_ ?_ _) | (with_reducible refine Below.drew ?_) | (with_reducible refine below_drewN' ?_) | (with_reducible refine below_bytesW ?_ ?_) | (with_reducible refine Below.trans ?_ (Below.mono (by assumption) ?_)) | omega | (simp only [World.size_alloc, World.size_setCell, World.size_drew]; omega) | (simp [size_bytesW]; omega) | (simp; omega)))⟩
      | some n =>
        have e := hide (name_some h1 h2 h4 h5)
        have RH2 := hide (fun W => rcharsYes s n (by omega) h5 W)
        have hn := (chars_le s.size s n (Nat.le_refl _) h5).1
        clear h4 h5
        by_cases n1 : 1 ≤ n
        · by_cases n2 : n ≤ 64
          · go_wp2_with (first | (go_at_call 47; (with_reducible refine (RH2.out _).mono ?_); rintro e w' ⟨sa, scap, rfl, hb⟩; have hz := hb.size; (try simp only [World.size_alloc, World.size_setCell, World.size_drew, Nat.add_assoc, Nat.reduceAdd] at hz); (first | obtain ⟨HL, hk⟩ := HL.call hb hz (by simp only [World.size_alloc, World.size_setCell, World.size_drew, Nat.add_assoc, Nat.reduceAdd]) | obtain ⟨HL, hk⟩ := HL.call0 hb hz (by first | rfl | simp only [World.size_alloc, World.size_setCell, World.size_drew, Nat.add_assoc, Nat.reduceAdd])); (try simp only [addN, Nat.add_zero] at HL hk); have hl := HL; simp only [Live] at hl; (try simp only [Kept] at hk)))
            go_ret
            exact ⟨ret_b (by rw [e.out]; simp [n1, n2] <;> omega), by (repeat' (first | (with_reducible exact Below.refl _ _) | (with_reducible refine Below.alloc ?_ ?_ _) | (with_reducible refine Below.setCell ?_ ?_ _) | (with_reducible refine Below.drew ?_) | (with_reducible refine below_drewN' ?_) | (with_reducible refine below_bytesW ?_ ?_) | (with_reducible refine Below.trans ?_ (Below.mono (by assumption) ?_)) | omega | (simp only [World.size_alloc, World.size_setCell, World.size_drew]; omega) | (simp [size_bytesW]; omega) | (simp; omega)))⟩
          · go_wp2_with (first | (go_at_call 47; (with_reducible refine (RH2.out _).mono ?_); rintro e w' ⟨sa, scap, rfl, hb⟩; have hz := hb.size; (try simp only [World.size_alloc, World.size_setCell, World.size_drew, Nat.add_assoc, Nat.reduceAdd] at hz); (first | obtain ⟨HL, hk⟩ := HL.call hb hz (by simp only [World.size_alloc, World.size_setCell, World.size_drew, Nat.add_assoc, Nat.reduceAdd]) | obtain ⟨HL, hk⟩ := HL.call0 hb hz (by first | rfl | simp only [World.size_alloc, World.size_setCell, World.size_drew, Nat.add_assoc, Nat.reduceAdd])); (try simp only [addN, Nat.add_zero] at HL hk); have hl := HL; simp only [Live] at hl; (try simp only [Kept] at hk)))
            go_ret
            exact ⟨ret_b (by rw [e.out]; simp [n1, n2] <;> omega), by (repeat' (first | (with_reducible exact Below.refl _ _) | (with_reducible refine Below.alloc ?_ ?_ _) | (with_reducible refine Below.setCell ?_ ?_ _) | (with_reducible refine Below.drew ?_) | (with_reducible refine below_drewN' ?_) | (with_reducible refine below_bytesW ?_ ?_) | (with_reducible refine Below.trans ?_ (Below.mono (by assumption) ?_)) | omega | (simp only [World.size_alloc, World.size_setCell, World.size_drew]; omega) | (simp [size_bytesW]; omega) | (simp; omega)))⟩
        · go_wp2_with (first | (go_at_call 47; (with_reducible refine (RH2.out _).mono ?_); rintro e w' ⟨sa, scap, rfl, hb⟩; have hz := hb.size; (try simp only [World.size_alloc, World.size_setCell, World.size_drew, Nat.add_assoc, Nat.reduceAdd] at hz); (first | obtain ⟨HL, hk⟩ := HL.call hb hz (by simp only [World.size_alloc, World.size_setCell, World.size_drew, Nat.add_assoc, Nat.reduceAdd]) | obtain ⟨HL, hk⟩ := HL.call0 hb hz (by first | rfl | simp only [World.size_alloc, World.size_setCell, World.size_drew, Nat.add_assoc, Nat.reduceAdd])); (try simp only [addN, Nat.add_zero] at HL hk); have hl := HL; simp only [Live] at hl; (try simp only [Kept] at hk)))
          go_ret
          exact ⟨ret_b (by rw [e.out]; simp [n1] <;> omega), by (repeat' (first | (with_reducible exact Below.refl _ _) | (with_reducible refine Below.alloc ?_ ?_ _) | (with_reducible refine Below.setCell ?_ ?_ _) | (with_reducible refine Below.drew ?_) | (with_reducible refine below_drewN' ?_) | (with_reducible refine below_bytesW ?_ ?_) | (with_reducible refine Below.trans ?_ (Below.mono (by assumption) ?_)) | omega | (simp only [World.size_alloc, World.size_setCell, World.size_drew]; omega) | (simp [size_bytesW]; omega) | (simp; omega)))⟩
end Go.Proofs.YtopajpomhflgbaaGreatDoor
