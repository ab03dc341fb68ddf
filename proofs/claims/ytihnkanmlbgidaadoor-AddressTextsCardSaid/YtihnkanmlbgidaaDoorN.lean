/- Parse's reference at texts and at other strings; the walk of the law AddressTexts. -/
import Derived.Test.YtihnkanmlbgidaaDoorM
namespace Go.Proofs.YtihnkanmlbgidaaDoor
set_option linter.unusedSimpArgs false
set_option linter.unusedVariables false
open Go.RowKit
open Go.PlainAid (bt get_bt bt_nonneg bt_le)

theorem bt_list (s : ByteArray) : s.data.toList = (List.range s.size).map (fun j => UInt8.ofNat (bt s j).toNat) := by
  apply List.ext_getElem
  · simp
  · intro n h1 h2
    have h : n < s.size := by simpa using h1
    simp only [List.getElem_map, List.getElem_range]
    unfold bt
    rw [dif_pos h]
    simp
    rfl
theorem n2_dig {x : ByteArray} {i : Nat} (h : DG x i) : 48 + n2 x i / 10 = bt x i ∧ 48 + n2 x i % 10 = bt x (i + 1) := by
  obtain ⟨h1, h2⟩ := h; unfold n2; omega
theorem txt_of {x : ByteArray} (hs : x.size = 8) (c2 : bt x 2 = 58) (c5 : bt x 5 = 58) (h : DG x 0 ∧ DG x 3 ∧ DG x 6) : x = txtS (n2 x 0) (n2 x 3) (n2 x 6) := by
  have e : x.data.toList = (txtS (n2 x 0) (n2 x 3) (n2 x 6)).data.toList := by
    rw [bt_list x, hs]
    obtain ⟨a0, a1⟩ := n2_dig h.1
    obtain ⟨b0, b1⟩ := n2_dig h.2.1
    obtain ⟨f0, f1⟩ := n2_dig h.2.2
    show [UInt8.ofNat (bt x 0).toNat, UInt8.ofNat (bt x 1).toNat, UInt8.ofNat (bt x 2).toNat, UInt8.ofNat (bt x 3).toNat, UInt8.ofNat (bt x 4).toNat, UInt8.ofNat (bt x 5).toNat, UInt8.ofNat (bt x 6).toNat, UInt8.ofNat (bt x 7).toNat] =
      [UInt8.ofNat (48 + n2 x 0 / 10).toNat, UInt8.ofNat (48 + n2 x 0 % 10).toNat, 58, UInt8.ofNat (48 + n2 x 3 / 10).toNat, UInt8.ofNat (48 + n2 x 3 % 10).toNat, 58, UInt8.ofNat (48 + n2 x 6 / 10).toNat, UInt8.ofNat (48 + n2 x 6 % 10).toNat]
    rw [a0, a1, b0, b1, f0, f1, c2, c5]
    rfl
  obtain ⟨⟨l⟩⟩ := x
  show ByteArray.mk _ = ByteArray.mk _
  have e2 : l = (txtS (n2 ⟨⟨l⟩⟩ 0) (n2 ⟨⟨l⟩⟩ 3) (n2 ⟨⟨l⟩⟩ 6)).data.toList := e
  congr 1
  exact congrArg Array.mk e2
theorem size_ne {s : ByteArray} {n : Nat} (h : ¬ s.size = n) : ((s.size : Int) == (n : Int)) = false ∧ ((s.size : Int) != (n : Int)) = true := by
  have : ¬ (s.size : Int) = (n : Int) := by omega
  simp [this]
set_option maxHeartbeats 1000000 in
theorem rparse_few (x : ByteArray) (hx : x.size ≤ 20) (h : ¬ (x.size = 8 ∧ bt x 2 = 58 ∧ bt x 5 = 58)) (w : World) :
    Calls Tryd.prog 14 #[.string x] w fun e w' => e = .returned (.tuple #[.agg #[.int .i64 0, .int .i64 0, .int .i64 0], .int .i64 3]) ∧ Below w.heap.size w w' := by
  have hg := get_bt x
  by_cases h8 : x.size = 8
  case neg =>
    obtain ⟨h1, h2⟩ := size_ne h8
    clear h
    have HL : Live w [] := trivial
    go_enter Tryd.func14, Tryd.ntmps14
    go_wp2
    ((try simp only [Exit.inBlock, Exit.then]); refine bodyPost_ret (by simp only [results, Tryd.results14]; go_simp; try rfl) rfl ?_)
    exact ⟨rfl, by (exact bl)⟩
  by_cases c2 : bt x 2 = 58
  case neg =>
    have k2 : (bt x 2 == 58) = false := by simp [c2]
    have k2' : (bt x 2 != 58) = true := by simp [c2]
    clear h
    have HL : Live w [] := trivial
    go_enter Tryd.func14, Tryd.ntmps14
    go_wp2
    ((try simp only [Exit.inBlock, Exit.then]); refine bodyPost_ret (by simp only [results, Tryd.results14]; go_simp; try rfl) rfl ?_)
    exact ⟨rfl, by (exact bl)⟩
  have c5 : ¬ bt x 5 = 58 := fun e => h ⟨h8, c2, e⟩
  have k2 : (bt x 2 == 58) = true := by simp [c2]
  have k2' : (bt x 2 != 58) = false := by simp [c2]
  have k5 : (bt x 5 == 58) = false := by simp [c5]
  have k5' : (bt x 5 != 58) = true := by simp [c5]
  clear h c2
  have HL : Live w [] := trivial
  go_enter Tryd.func14, Tryd.ntmps14
  go_wp2
  ((try simp only [Exit.inBlock, Exit.then]); refine bodyPost_ret (by simp only [results, Tryd.results14]; go_simp; try rfl) rfl ?_)
  exact ⟨rfl, by (exact bl)⟩
theorem rparse_bad (x : ByteArray) (hx : x.size ≤ 20) (hn : ∀ m s f, validB m s f = true → x ≠ txtS m s f) (w : World) :
    Calls Tryd.prog 14 #[.string x] w fun e w' => e = .returned (.tuple #[.agg #[.int .i64 0, .int .i64 0, .int .i64 0], .int .i64 3]) ∧ Below w.heap.size w w' := by
  by_cases h : x.size = 8 ∧ bt x 2 = 58 ∧ bt x 5 = 58
  case neg => exact rparse_few x hx h w
  refine (rparse_8 x h.1 h.2.1 h.2.2 w).mono fun e w' ⟨hp, hb⟩ => ?_
  rcases hp with ⟨hd, hv, _⟩ | ⟨_, he⟩
  · exact absurd (txt_of h.1 h.2.1 h.2.2 hd) (hn _ _ _ hv)
  · exact ⟨he, hb⟩
theorem rparse_txt (m s f : Int) (hv : validB m s f = true) (w : World) :
    Calls Tryd.prog 14 #[.string (txtS m s f)] w fun e w' => e = .returned (.tuple #[.agg #[.int .i64 m, .int .i64 s, .int .i64 f], .int .i64 0]) ∧ Below w.heap.size w w' := by
  have h := validB_true.1 hv
  have b0 : bt (txtS m s f) 0 = 48 + m / 10 := bt_enc _ 0 _ rfl (by omega)
  have b1 : bt (txtS m s f) 1 = 48 + m % 10 := bt_enc _ 1 _ rfl (by omega)
  have b2 : bt (txtS m s f) 2 = 58 := bt_enc _ 2 58 rfl (by omega)
  have b3 : bt (txtS m s f) 3 = 48 + s / 10 := bt_enc _ 3 _ rfl (by omega)
  have b4 : bt (txtS m s f) 4 = 48 + s % 10 := bt_enc _ 4 _ rfl (by omega)
  have b5 : bt (txtS m s f) 5 = 58 := bt_enc _ 5 58 rfl (by omega)
  have b6 : bt (txtS m s f) 6 = 48 + f / 10 := bt_enc _ 6 _ rfl (by omega)
  have b7 : bt (txtS m s f) 7 = 48 + f % 10 := bt_enc _ 7 _ rfl (by omega)
  have hd : DG (txtS m s f) 0 ∧ DG (txtS m s f) 3 ∧ DG (txtS m s f) 6 := by simp only [DG, Nat.reduceAdd]; omega
  have n0 : n2 (txtS m s f) 0 = m := by simp only [n2, Nat.reduceAdd]; omega
  have n3 : n2 (txtS m s f) 3 = s := by simp only [n2, Nat.reduceAdd]; omega
  have n6 : n2 (txtS m s f) 6 = f := by simp only [n2, Nat.reduceAdd]; omega
  refine (rparse_8 (txtS m s f) rfl b2 b5 w).mono fun e w' ⟨hp, hb⟩ => ?_
  rw [n0, n3, n6] at hp
  rcases hp with ⟨_, _, he⟩ | ⟨hq, _⟩
  · exact ⟨he, hb⟩
  · exact absurd ⟨hd, hv⟩ hq

theorem parse_at (x : ByteArray) (m s f : Int) (hx : x = txtS m s f) (hv : validB m s f = true) (w : World) (hT : TabP w) :
    Calls Tryd.prog 13 #[.string x] w fun e w' => e = .returned (.tuple #[.agg #[.int .i64 m, .int .i64 s, .int .i64 f], .int .i64 0]) ∧ Below w.heap.size w w' := by subst hx; exact parse_txt m s f hv w hT
theorem rparse_at (x : ByteArray) (m s f : Int) (hx : x = txtS m s f) (hv : validB m s f = true) (w : World) :
    Calls Tryd.prog 14 #[.string x] w fun e w' => e = .returned (.tuple #[.agg #[.int .i64 m, .int .i64 s, .int .i64 f], .int .i64 0]) ∧ Below w.heap.size w w' := by subst hx; exact rparse_txt m s f hv w

set_option maxHeartbeats 1000000 in
theorem texts_long (m s f : Int) (x : ByteArray) (hx : ¬ x.size ≤ 20) (hs : (x.size : Int) ≤ 9223372036854775807) (w : World) :
    Calls Tryd.prog 4 #[.agg #[.int .i64 m, .int .i64 s, .int .i64 f], .string x] w fun e w' => e = .returned (.bool true) ∧ Below w.heap.size w w' := by
  have HL : Live w [] := trivial
  go_enter Tryd.func4, Tryd.ntmps4
  go_wp2_with fail
  (first | ((with_reducible refine (awake_any _).mono ?_); rintro e w1 ⟨rfl, hb⟩; have hz := hb.size; (try simp only [SZ, Nat.reduceAdd] at hz); (first | obtain ⟨HL, hk⟩ := HL.callA hb hz | obtain ⟨HL, hk⟩ := HL.call0A hb hz); (try simp only [addN, Nat.add_zero] at HL hk); have hl := HL; simp only [Live] at hl; (try simp only [Kept] at hk)))
  go_wp2
  go_ret
  exact ⟨rfl, by (exact bl)⟩
set_option maxHeartbeats 2000000 in
theorem texts_at (m s f m' s' f' : Int) (x : ByteArray) (hx : x.size ≤ 20) (he : x = txtS m' s' f') (hv' : validB m' s' f' = true) (w : World) (hT : TabP w) :
    Calls Tryd.prog 4 #[.agg #[.int .i64 m, .int .i64 s, .int .i64 f], .string x] w fun e w' => e = .returned (.bool true) ∧ Below w.heap.size w w' := by
  have HE := hide he
  clear he
  cases hv : validB m s f
  · have HL : Live w [] := trivial
    go_enter Tryd.func4, Tryd.ntmps4
    go_wp2_with fail
    (first | ((with_reducible refine (awake_any _).mono ?_); rintro e w1 ⟨rfl, hb⟩; have hz := hb.size; (try simp only [SZ, Nat.reduceAdd] at hz); (first | obtain ⟨HL, hk⟩ := HL.callA hb hz | obtain ⟨HL, hk⟩ := HL.call0A hb hz); (try simp only [addN, Nat.add_zero] at HL hk); have hl := HL; simp only [Live] at hl; (try simp only [Kept] at hk)))
    go_wp2_with fail
    (first | ((with_reducible refine (format_no _ _ _ hv _).mono ?_); rintro e w2 ⟨rfl, hb⟩; have hz := hb.size; (try simp only [SZ, Nat.reduceAdd] at hz); (first | obtain ⟨HL, hk⟩ := HL.callA hb hz | obtain ⟨HL, hk⟩ := HL.call0A hb hz); (try simp only [addN, Nat.add_zero] at HL hk); have hl := HL; simp only [Live] at hl; (try simp only [Kept] at hk)))
    go_wp2_with fail
    (first | ((with_reducible refine (rformat_no _ _ _ hv _).mono ?_); rintro e w3 ⟨rfl, hb⟩; have hz := hb.size; (try simp only [SZ, Nat.reduceAdd] at hz); (first | obtain ⟨HL, hk⟩ := HL.callA hb hz | obtain ⟨HL, hk⟩ := HL.call0A hb hz); (try simp only [addN, Nat.add_zero] at HL hk); have hl := HL; simp only [Live] at hl; (try simp only [Kept] at hk)))
    go_wp2_with fail
    (first | ((with_reducible refine (parse_at x m' s' f' HE.out hv' _ (hT.below (by (exact bl)))).mono ?_); rintro e w4 ⟨rfl, hb⟩; have hz := hb.size; (try simp only [SZ, Nat.reduceAdd] at hz); (first | obtain ⟨HL, hk⟩ := HL.callA hb hz | obtain ⟨HL, hk⟩ := HL.call0A hb hz); (try simp only [addN, Nat.add_zero] at HL hk); have hl := HL; simp only [Live] at hl; (try simp only [Kept] at hk)))
    go_wp2_with fail
    (first | ((with_reducible refine (rparse_at x m' s' f' HE.out hv' _).mono ?_); rintro e w5 ⟨rfl, hb⟩; have hz := hb.size; (try simp only [SZ, Nat.reduceAdd] at hz); (first | obtain ⟨HL, hk⟩ := HL.callA hb hz | obtain ⟨HL, hk⟩ := HL.call0A hb hz); (try simp only [addN, Nat.add_zero] at HL hk); have hl := HL; simp only [Live] at hl; (try simp only [Kept] at hk)))
    go_wp2
    go_ret
    exact ⟨rfl, by (exact bl)⟩
  · have HL : Live w [] := trivial
    go_enter Tryd.func4, Tryd.ntmps4
    go_wp2_with fail
    (first | ((with_reducible refine (awake_any _).mono ?_); rintro e w1 ⟨rfl, hb⟩; have hz := hb.size; (try simp only [SZ, Nat.reduceAdd] at hz); (first | obtain ⟨HL, hk⟩ := HL.callA hb hz | obtain ⟨HL, hk⟩ := HL.call0A hb hz); (try simp only [addN, Nat.add_zero] at HL hk); have hl := HL; simp only [Live] at hl; (try simp only [Kept] at hk)))
    go_wp2_with fail
    (first | ((with_reducible refine (format_yes _ _ _ hv _).mono ?_); rintro e w2 ⟨rfl, hb⟩; have hz := hb.size; (try simp only [SZ, Nat.reduceAdd] at hz); (first | obtain ⟨HL, hk⟩ := HL.callA hb hz | obtain ⟨HL, hk⟩ := HL.call0A hb hz); (try simp only [addN, Nat.add_zero] at HL hk); have hl := HL; simp only [Live] at hl; (try simp only [Kept] at hk)))
    go_wp2_with fail
    (first | ((with_reducible refine (rformat_yes _ _ _ hv _).mono ?_); rintro e w3 ⟨rfl, hb⟩; have hz := hb.size; (try simp only [SZ, Nat.reduceAdd] at hz); (first | obtain ⟨HL, hk⟩ := HL.callA hb hz | obtain ⟨HL, hk⟩ := HL.call0A hb hz); (try simp only [addN, Nat.add_zero] at HL hk); have hl := HL; simp only [Live] at hl; (try simp only [Kept] at hk)))
    go_wp2_with fail
    (first | ((with_reducible refine (parse_at x m' s' f' HE.out hv' _ (hT.below (by (exact bl)))).mono ?_); rintro e w4 ⟨rfl, hb⟩; have hz := hb.size; (try simp only [SZ, Nat.reduceAdd] at hz); (first | obtain ⟨HL, hk⟩ := HL.callA hb hz | obtain ⟨HL, hk⟩ := HL.call0A hb hz); (try simp only [addN, Nat.add_zero] at HL hk); have hl := HL; simp only [Live] at hl; (try simp only [Kept] at hk)))
    go_wp2_with fail
    (first | ((with_reducible refine (rparse_at x m' s' f' HE.out hv' _).mono ?_); rintro e w5 ⟨rfl, hb⟩; have hz := hb.size; (try simp only [SZ, Nat.reduceAdd] at hz); (first | obtain ⟨HL, hk⟩ := HL.callA hb hz | obtain ⟨HL, hk⟩ := HL.call0A hb hz); (try simp only [addN, Nat.add_zero] at HL hk); have hl := HL; simp only [Live] at hl; (try simp only [Kept] at hk)))
    go_wp2
    go_ret
    exact ⟨rfl, by (exact bl)⟩
set_option maxHeartbeats 2000000 in
theorem texts_bad (m s f : Int) (x : ByteArray) (hx : x.size ≤ 20) (hn : ∀ m s f, validB m s f = true → x ≠ txtS m s f) (w : World) (hT : TabP w) :
    Calls Tryd.prog 4 #[.agg #[.int .i64 m, .int .i64 s, .int .i64 f], .string x] w fun e w' => e = .returned (.bool true) ∧ Below w.heap.size w w' := by
  have HN := hide hn
  clear hn
  cases hv : validB m s f
  · have HL : Live w [] := trivial
    go_enter Tryd.func4, Tryd.ntmps4
    go_wp2_with fail
    (first | ((with_reducible refine (awake_any _).mono ?_); rintro e w1 ⟨rfl, hb⟩; have hz := hb.size; (try simp only [SZ, Nat.reduceAdd] at hz); (first | obtain ⟨HL, hk⟩ := HL.callA hb hz | obtain ⟨HL, hk⟩ := HL.call0A hb hz); (try simp only [addN, Nat.add_zero] at HL hk); have hl := HL; simp only [Live] at hl; (try simp only [Kept] at hk)))
    go_wp2_with fail
    (first | ((with_reducible refine (format_no _ _ _ hv _).mono ?_); rintro e w2 ⟨rfl, hb⟩; have hz := hb.size; (try simp only [SZ, Nat.reduceAdd] at hz); (first | obtain ⟨HL, hk⟩ := HL.callA hb hz | obtain ⟨HL, hk⟩ := HL.call0A hb hz); (try simp only [addN, Nat.add_zero] at HL hk); have hl := HL; simp only [Live] at hl; (try simp only [Kept] at hk)))
    go_wp2_with fail
    (first | ((with_reducible refine (rformat_no _ _ _ hv _).mono ?_); rintro e w3 ⟨rfl, hb⟩; have hz := hb.size; (try simp only [SZ, Nat.reduceAdd] at hz); (first | obtain ⟨HL, hk⟩ := HL.callA hb hz | obtain ⟨HL, hk⟩ := HL.call0A hb hz); (try simp only [addN, Nat.add_zero] at HL hk); have hl := HL; simp only [Live] at hl; (try simp only [Kept] at hk)))
    go_wp2_with fail
    (first | ((with_reducible refine (parse_bad x hx HN.out _ (hT.below (by (exact bl)))).mono ?_); rintro e w4 ⟨rfl, hb⟩; have hz := hb.size; (try simp only [SZ, Nat.reduceAdd] at hz); (first | obtain ⟨HL, hk⟩ := HL.callA hb hz | obtain ⟨HL, hk⟩ := HL.call0A hb hz); (try simp only [addN, Nat.add_zero] at HL hk); have hl := HL; simp only [Live] at hl; (try simp only [Kept] at hk)))
    go_wp2_with fail
    (first | ((with_reducible refine (rparse_bad x hx HN.out _).mono ?_); rintro e w5 ⟨rfl, hb⟩; have hz := hb.size; (try simp only [SZ, Nat.reduceAdd] at hz); (first | obtain ⟨HL, hk⟩ := HL.callA hb hz | obtain ⟨HL, hk⟩ := HL.call0A hb hz); (try simp only [addN, Nat.add_zero] at HL hk); have hl := HL; simp only [Live] at hl; (try simp only [Kept] at hk)))
    go_wp2
    go_ret
    exact ⟨rfl, by (exact bl)⟩
  · have HL : Live w [] := trivial
    go_enter Tryd.func4, Tryd.ntmps4
    go_wp2_with fail
    (first | ((with_reducible refine (awake_any _).mono ?_); rintro e w1 ⟨rfl, hb⟩; have hz := hb.size; (try simp only [SZ, Nat.reduceAdd] at hz); (first | obtain ⟨HL, hk⟩ := HL.callA hb hz | obtain ⟨HL, hk⟩ := HL.call0A hb hz); (try simp only [addN, Nat.add_zero] at HL hk); have hl := HL; simp only [Live] at hl; (try simp only [Kept] at hk)))
    go_wp2_with fail
    (first | ((with_reducible refine (format_yes _ _ _ hv _).mono ?_); rintro e w2 ⟨rfl, hb⟩; have hz := hb.size; (try simp only [SZ, Nat.reduceAdd] at hz); (first | obtain ⟨HL, hk⟩ := HL.callA hb hz | obtain ⟨HL, hk⟩ := HL.call0A hb hz); (try simp only [addN, Nat.add_zero] at HL hk); have hl := HL; simp only [Live] at hl; (try simp only [Kept] at hk)))
    go_wp2_with fail
    (first | ((with_reducible refine (rformat_yes _ _ _ hv _).mono ?_); rintro e w3 ⟨rfl, hb⟩; have hz := hb.size; (try simp only [SZ, Nat.reduceAdd] at hz); (first | obtain ⟨HL, hk⟩ := HL.callA hb hz | obtain ⟨HL, hk⟩ := HL.call0A hb hz); (try simp only [addN, Nat.add_zero] at HL hk); have hl := HL; simp only [Live] at hl; (try simp only [Kept] at hk)))
    go_wp2_with fail
    (first | ((with_reducible refine (parse_bad x hx HN.out _ (hT.below (by (exact bl)))).mono ?_); rintro e w4 ⟨rfl, hb⟩; have hz := hb.size; (try simp only [SZ, Nat.reduceAdd] at hz); (first | obtain ⟨HL, hk⟩ := HL.callA hb hz | obtain ⟨HL, hk⟩ := HL.call0A hb hz); (try simp only [addN, Nat.add_zero] at HL hk); have hl := HL; simp only [Live] at hl; (try simp only [Kept] at hk)))
    go_wp2_with fail
    (first | ((with_reducible refine (rparse_bad x hx HN.out _).mono ?_); rintro e w5 ⟨rfl, hb⟩; have hz := hb.size; (try simp only [SZ, Nat.reduceAdd] at hz); (first | obtain ⟨HL, hk⟩ := HL.callA hb hz | obtain ⟨HL, hk⟩ := HL.call0A hb hz); (try simp only [addN, Nat.add_zero] at HL hk); have hl := HL; simp only [Live] at hl; (try simp only [Kept] at hk)))
    go_wp2
    go_ret
    exact ⟨rfl, by (exact bl)⟩
theorem textsW (m s f : Int) (x : ByteArray) (w : World) (hT : TabP w) (hx : x.size ≤ maxLen) :
    Calls Tryd.prog 4 #[.agg #[.int .i64 m, .int .i64 s, .int .i64 f], .string x] w fun e w' => e = .returned (.bool true) ∧ Below w.heap.size w w' := by
  by_cases hl : x.size ≤ 20
  case neg => exact texts_long m s f x hl (by unfold maxLen at hx; omega) w
  by_cases hn : ∀ m s f, validB m s f = true → x ≠ txtS m s f
  case pos => exact texts_bad m s f x hl hn w hT
  have : ∃ m' s' f', validB m' s' f' = true ∧ x = txtS m' s' f' := by
    refine Classical.byContradiction fun hc => hn fun a b c hv he => hc ⟨a, b, c, hv, he⟩
  obtain ⟨m', s', f', hv, he⟩ := this
  exact texts_at m s f m' s' f' x hl he hv w hT
end Go.Proofs.YtihnkanmlbgidaaDoor
