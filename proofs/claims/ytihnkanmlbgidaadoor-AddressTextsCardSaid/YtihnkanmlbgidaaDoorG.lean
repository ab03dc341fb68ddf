/- The walk of the law AddressOrder. -/
import Derived.Test.YtihnkanmlbgidaaDoorE
import Derived.Test.YtihnkanmlbgidaaDoorF
import Derived.WalkLawsBesides
namespace Go.Proofs.YtihnkanmlbgidaaDoor
set_option linter.unusedSimpArgs false
set_option linter.unusedVariables false
open Go.RowKit

def encS (m s f : Int) : ByteArray := ⟨#[UInt8.ofNat (m / 10 * 16 + m % 10).toNat, UInt8.ofNat (s / 10 * 16 + s % 10).toNat, UInt8.ofNat (f / 10 * 16 + f % 10).toNat]⟩
theorem encode_at (m s f : Int) (hv : validB m s f = true) (w : World) :
    Calls Tryd.prog 9 #[.agg #[.int .i64 m, .int .i64 s, .int .i64 f]] w fun e w' => e = .returned (.tuple #[.string (encS m s f), .int .i64 0]) ∧ Below w.heap.size w w' := encode_yes m s f hv w
theorem move_at (m s f m' s' f' n : Int) (hv : validB m s f = true) (hv' : validB m' s' f' = true) (hn : n = (60 * m' + s') * 75 + f' - ((60 * m + s) * 75 + f)) (w : World) :
    Calls Tryd.prog 11 #[.agg #[.int .i64 m, .int .i64 s, .int .i64 f], .int .i64 n] w fun e w' => e = .returned (.tuple #[.agg #[.int .i64 m', .int .i64 s', .int .i64 f'], .int .i64 0]) ∧ Below w.heap.size w w' := by
  have h := validB_true.1 hv
  have h' := validB_true.1 hv'
  have := move_yes m s f n hv (by omega) (by omega) w
  rw [show (60 * m + s) * 75 + f + n = (60 * m' + s') * 75 + f' by omega, show ((60 * m' + s') * 75 + f') / 75 / 60 = m' by omega, show ((60 * m' + s') * 75 + f') / 75 % 60 = s' by omega, show ((60 * m' + s') * 75 + f') % 75 = f' by omega] at this
  exact this

def u8 (v : Int) : UInt8 := UInt8.ofNat v.toNat
theorem u8_nat (v : Int) (h : 0 ≤ v ∧ v ≤ 255) : (u8 v).toNat = v.toNat := by
  unfold u8; rw [UInt8.toNat_ofNat']; omega
theorem less_cons (a b : Int) (ha : 0 ≤ a ∧ a ≤ 255) (hb : 0 ≤ b ∧ b ≤ 255) (x y : List UInt8) : Op.bytesLess (u8 a :: x) (u8 b :: y) = (decide (a < b) || (decide (a = b) && Op.bytesLess x y)) := by
  have e1 : decide (u8 a < u8 b) = decide (a < b) := decide_eq_decide.2 (by rw [UInt8.lt_iff_toNat_lt, u8_nat a ha, u8_nat b hb]; omega)
  have e2 : (u8 a == u8 b) = decide (a = b) := by
    rw [Bool.eq_iff_iff, beq_iff_eq, decide_eq_true_iff, ← UInt8.toNat_inj, u8_nat a ha, u8_nat b hb]
    omega
  show (decide (u8 a < u8 b) || (u8 a == u8 b && Op.bytesLess x y)) = _
  rw [e1, e2]
theorem less_enc {m s f m' s' f' : Int} (h : 0 ≤ m ∧ m ≤ 99 ∧ 0 ≤ s ∧ s ≤ 59 ∧ 0 ≤ f ∧ f ≤ 74) (h' : 0 ≤ m' ∧ m' ≤ 99 ∧ 0 ≤ s' ∧ s' ≤ 59 ∧ 0 ≤ f' ∧ f' ≤ 74) :
    Op.bytesLess (encS m s f).toList (encS m' s' f').toList = decide ((60 * m + s) * 75 + f < (60 * m' + s') * 75 + f') := by
  rw [ByteArray.toList_eq, ByteArray.toList_eq]
  show Op.bytesLess (u8 (m / 10 * 16 + m % 10) :: u8 (s / 10 * 16 + s % 10) :: u8 (f / 10 * 16 + f % 10) :: []) (u8 (m' / 10 * 16 + m' % 10) :: u8 (s' / 10 * 16 + s' % 10) :: u8 (f' / 10 * 16 + f' % 10) :: []) = _
  rw [less_cons _ _ (by omega) (by omega), less_cons _ _ (by omega) (by omega), less_cons _ _ (by omega) (by omega)]
  show (_ || (_ && (_ || (_ && (_ || (_ && false)))))) = _
  rw [Bool.eq_iff_iff]
  simp only [Bool.and_false, Bool.or_false, Bool.or_eq_true, Bool.and_eq_true, decide_eq_true_eq]
  omega
theorem digs {a b : Int} {P : Prop} : (48 + a / 10 < 48 + b / 10 ∨ 48 + a / 10 = 48 + b / 10 ∧ (48 + a % 10 < 48 + b % 10 ∨ 48 + a % 10 = 48 + b % 10 ∧ P)) ↔ (a < b ∨ a = b ∧ P) := by
  by_cases h : P
  · simp only [h, and_true]; omega
  · simp only [h, and_false, or_false]; omega
theorem less_txt {m s f m' s' f' : Int} (h : 0 ≤ m ∧ m ≤ 99 ∧ 0 ≤ s ∧ s ≤ 59 ∧ 0 ≤ f ∧ f ≤ 74) (h' : 0 ≤ m' ∧ m' ≤ 99 ∧ 0 ≤ s' ∧ s' ≤ 59 ∧ 0 ≤ f' ∧ f' ≤ 74) :
    Op.bytesLess (txtS m s f).toList (txtS m' s' f').toList = decide ((60 * m + s) * 75 + f < (60 * m' + s') * 75 + f') := by
  rw [ByteArray.toList_eq, ByteArray.toList_eq]
  show Op.bytesLess (u8 (48 + m / 10) :: u8 (48 + m % 10) :: u8 58 :: u8 (48 + s / 10) :: u8 (48 + s % 10) :: u8 58 :: u8 (48 + f / 10) :: u8 (48 + f % 10) :: []) (u8 (48 + m' / 10) :: u8 (48 + m' % 10) :: u8 58 :: u8 (48 + s' / 10) :: u8 (48 + s' % 10) :: u8 58 :: u8 (48 + f' / 10) :: u8 (48 + f' % 10) :: []) = _
  rw [less_cons _ _ (by omega) (by omega), less_cons _ _ (by omega) (by omega), less_cons _ _ (by omega) (by omega), less_cons _ _ (by omega) (by omega), less_cons _ _ (by omega) (by omega), less_cons _ _ (by omega) (by omega), less_cons _ _ (by omega) (by omega), less_cons _ _ (by omega) (by omega)]
  show (_ || (_ && (_ || (_ && (_ || (_ && (_ || (_ && (_ || (_ && (_ || (_ && (_ || (_ && (_ || (_ && false)))))))))))))))) = _
  rw [Bool.eq_iff_iff]
  simp only [Bool.and_false, Bool.or_false, Bool.or_eq_true, Bool.and_eq_true, decide_eq_true_eq]
  simp only [Int.lt_irrefl, false_or, true_and, digs, decide_true, decide_false, Bool.false_eq_true]
  have hd : (48 + f / 10 < 48 + f' / 10 ∨ 48 + f / 10 = 48 + f' / 10 ∧ 48 + f % 10 < 48 + f' % 10) ↔ f < f' := by omega
  rw [hd]
  omega
set_option maxHeartbeats 2000000 in
theorem order_no (m s f m' s' f' : Int) (hv : (validB m s f && validB m' s' f') = false) (w : World) :
    Calls Tryd.prog 3 #[.agg #[.int .i64 m, .int .i64 s, .int .i64 f], .agg #[.int .i64 m', .int .i64 s', .int .i64 f']] w fun e w' => e = .returned (.bool true) ∧ Below w.heap.size w w' := by
  have H := hide hv
  cases hv1 : validB m s f
  · clear hv
    cases hv2 : validB m' s' f'
    · have HL : Live w [] := trivial
      go_enter Tryd.func3, Tryd.ntmps3
      go_wp2_with fail
      (first | ((with_reducible refine (awake_any _).mono ?_); rintro e w1 ⟨rfl, hb⟩; have hz := hb.size; (try simp only [SZ, Nat.reduceAdd] at hz); (first | obtain ⟨HL, hk⟩ := HL.callA hb hz | obtain ⟨HL, hk⟩ := HL.call0A hb hz); (try simp only [addN, Nat.add_zero] at HL hk); have hl := HL; simp only [Live] at hl; (try simp only [Kept] at hk)))
      go_wp2_with fail
      (first | ((with_reducible refine (toLBA_no _ _ _ hv1 _).mono ?_); rintro e w2 ⟨rfl, hb⟩; have hz := hb.size; (try simp only [SZ, Nat.reduceAdd] at hz); (first | obtain ⟨HL, hk⟩ := HL.callA hb hz | obtain ⟨HL, hk⟩ := HL.call0A hb hz); (try simp only [addN, Nat.add_zero] at HL hk); have hl := HL; simp only [Live] at hl; (try simp only [Kept] at hk)))
      go_wp2_with fail
      (first | ((with_reducible refine (toLBA_no _ _ _ hv2 _).mono ?_); rintro e w3 ⟨rfl, hb⟩; have hz := hb.size; (try simp only [SZ, Nat.reduceAdd] at hz); (first | obtain ⟨HL, hk⟩ := HL.callA hb hz | obtain ⟨HL, hk⟩ := HL.call0A hb hz); (try simp only [addN, Nat.add_zero] at HL hk); have hl := HL; simp only [Live] at hl; (try simp only [Kept] at hk)))
      go_wp2_with fail
      (first | ((with_reducible refine (dist_no _ _ _ _ _ _ H.out _).mono ?_); rintro e w4 ⟨rfl, hb⟩; have hz := hb.size; (try simp only [SZ, Nat.reduceAdd] at hz); (first | obtain ⟨HL, hk⟩ := HL.callA hb hz | obtain ⟨HL, hk⟩ := HL.call0A hb hz); (try simp only [addN, Nat.add_zero] at HL hk); have hl := HL; simp only [Live] at hl; (try simp only [Kept] at hk)))
      go_wp2
      go_ret
      exact ⟨rfl, by (exact bl)⟩
    · have HL : Live w [] := trivial
      go_enter Tryd.func3, Tryd.ntmps3
      go_wp2_with fail
      (first | ((with_reducible refine (awake_any _).mono ?_); rintro e w1 ⟨rfl, hb⟩; have hz := hb.size; (try simp only [SZ, Nat.reduceAdd] at hz); (first | obtain ⟨HL, hk⟩ := HL.callA hb hz | obtain ⟨HL, hk⟩ := HL.call0A hb hz); (try simp only [addN, Nat.add_zero] at HL hk); have hl := HL; simp only [Live] at hl; (try simp only [Kept] at hk)))
      go_wp2_with fail
      (first | ((with_reducible refine (toLBA_no _ _ _ hv1 _).mono ?_); rintro e w2 ⟨rfl, hb⟩; have hz := hb.size; (try simp only [SZ, Nat.reduceAdd] at hz); (first | obtain ⟨HL, hk⟩ := HL.callA hb hz | obtain ⟨HL, hk⟩ := HL.call0A hb hz); (try simp only [addN, Nat.add_zero] at HL hk); have hl := HL; simp only [Live] at hl; (try simp only [Kept] at hk)))
      go_wp2_with fail
      (first | ((with_reducible refine (toLBA_yes _ _ _ hv2 _).mono ?_); rintro e w3 ⟨rfl, hb⟩; have hz := hb.size; (try simp only [SZ, Nat.reduceAdd] at hz); (first | obtain ⟨HL, hk⟩ := HL.callA hb hz | obtain ⟨HL, hk⟩ := HL.call0A hb hz); (try simp only [addN, Nat.add_zero] at HL hk); have hl := HL; simp only [Live] at hl; (try simp only [Kept] at hk)))
      go_wp2_with fail
      (first | ((with_reducible refine (dist_no _ _ _ _ _ _ H.out _).mono ?_); rintro e w4 ⟨rfl, hb⟩; have hz := hb.size; (try simp only [SZ, Nat.reduceAdd] at hz); (first | obtain ⟨HL, hk⟩ := HL.callA hb hz | obtain ⟨HL, hk⟩ := HL.call0A hb hz); (try simp only [addN, Nat.add_zero] at HL hk); have hl := HL; simp only [Live] at hl; (try simp only [Kept] at hk)))
      go_wp2
      go_ret
      exact ⟨rfl, by (exact bl)⟩
  · have hv2 : validB m' s' f' = false := by simpa [hv1] using hv
    clear hv
    have HL : Live w [] := trivial
    go_enter Tryd.func3, Tryd.ntmps3
    go_wp2_with fail
    (first | ((with_reducible refine (awake_any _).mono ?_); rintro e w1 ⟨rfl, hb⟩; have hz := hb.size; (try simp only [SZ, Nat.reduceAdd] at hz); (first | obtain ⟨HL, hk⟩ := HL.callA hb hz | obtain ⟨HL, hk⟩ := HL.call0A hb hz); (try simp only [addN, Nat.add_zero] at HL hk); have hl := HL; simp only [Live] at hl; (try simp only [Kept] at hk)))
    go_wp2_with fail
    (first | ((with_reducible refine (toLBA_yes _ _ _ hv1 _).mono ?_); rintro e w2 ⟨rfl, hb⟩; have hz := hb.size; (try simp only [SZ, Nat.reduceAdd] at hz); (first | obtain ⟨HL, hk⟩ := HL.callA hb hz | obtain ⟨HL, hk⟩ := HL.call0A hb hz); (try simp only [addN, Nat.add_zero] at HL hk); have hl := HL; simp only [Live] at hl; (try simp only [Kept] at hk)))
    go_wp2_with fail
    (first | ((with_reducible refine (toLBA_no _ _ _ hv2 _).mono ?_); rintro e w3 ⟨rfl, hb⟩; have hz := hb.size; (try simp only [SZ, Nat.reduceAdd] at hz); (first | obtain ⟨HL, hk⟩ := HL.callA hb hz | obtain ⟨HL, hk⟩ := HL.call0A hb hz); (try simp only [addN, Nat.add_zero] at HL hk); have hl := HL; simp only [Live] at hl; (try simp only [Kept] at hk)))
    go_wp2_with fail
    (first | ((with_reducible refine (dist_no _ _ _ _ _ _ H.out _).mono ?_); rintro e w4 ⟨rfl, hb⟩; have hz := hb.size; (try simp only [SZ, Nat.reduceAdd] at hz); (first | obtain ⟨HL, hk⟩ := HL.callA hb hz | obtain ⟨HL, hk⟩ := HL.call0A hb hz); (try simp only [addN, Nat.add_zero] at HL hk); have hl := HL; simp only [Live] at hl; (try simp only [Kept] at hk)))
    go_wp2
    go_ret
    exact ⟨rfl, by (exact bl)⟩
set_option maxHeartbeats 2000000 in
theorem order_eq (m s f : Int) (hv1 : validB m s f = true) (w : World) :
    Calls Tryd.prog 3 #[.agg #[.int .i64 m, .int .i64 s, .int .i64 f], .agg #[.int .i64 m, .int .i64 s, .int .i64 f]] w fun e w' => e = .returned (.bool true) ∧ Below w.heap.size w w' := by
  have h := validB_true.1 hv1
  have L1 := less_enc h h
  have L2 := less_txt h h
  have f1 : decide ((60 * m + s) * 75 + f < (60 * m + s) * 75 + f) = false := by simp
  rw [f1] at L1 L2
  have HL : Live w [] := trivial
  go_enter Tryd.func3, Tryd.ntmps3
  go_wp2_with fail
  (first | ((with_reducible refine (awake_any _).mono ?_); rintro e w1 ⟨rfl, hb⟩; have hz := hb.size; (try simp only [SZ, Nat.reduceAdd] at hz); (first | obtain ⟨HL, hk⟩ := HL.callA hb hz | obtain ⟨HL, hk⟩ := HL.call0A hb hz); (try simp only [addN, Nat.add_zero] at HL hk); have hl := HL; simp only [Live] at hl; (try simp only [Kept] at hk)))
  go_wp2_with fail
  (first | ((with_reducible refine (toLBA_yes _ _ _ hv1 _).mono ?_); rintro e w2 ⟨rfl, hb⟩; have hz := hb.size; (try simp only [SZ, Nat.reduceAdd] at hz); (first | obtain ⟨HL, hk⟩ := HL.callA hb hz | obtain ⟨HL, hk⟩ := HL.call0A hb hz); (try simp only [addN, Nat.add_zero] at HL hk); have hl := HL; simp only [Live] at hl; (try simp only [Kept] at hk)))
  go_wp2_with fail
  (first | ((with_reducible refine (toLBA_yes _ _ _ hv1 _).mono ?_); rintro e w3 ⟨rfl, hb⟩; have hz := hb.size; (try simp only [SZ, Nat.reduceAdd] at hz); (first | obtain ⟨HL, hk⟩ := HL.callA hb hz | obtain ⟨HL, hk⟩ := HL.call0A hb hz); (try simp only [addN, Nat.add_zero] at HL hk); have hl := HL; simp only [Live] at hl; (try simp only [Kept] at hk)))
  go_wp2_with fail
  (first | ((with_reducible refine (encode_at _ _ _ hv1 _).mono ?_); rintro e w4 ⟨rfl, hb⟩; have hz := hb.size; (try simp only [SZ, Nat.reduceAdd] at hz); (first | obtain ⟨HL, hk⟩ := HL.callA hb hz | obtain ⟨HL, hk⟩ := HL.call0A hb hz); (try simp only [addN, Nat.add_zero] at HL hk); have hl := HL; simp only [Live] at hl; (try simp only [Kept] at hk)))
  go_wp2_with fail
  (first | ((with_reducible refine (encode_at _ _ _ hv1 _).mono ?_); rintro e w5 ⟨rfl, hb⟩; have hz := hb.size; (try simp only [SZ, Nat.reduceAdd] at hz); (first | obtain ⟨HL, hk⟩ := HL.callA hb hz | obtain ⟨HL, hk⟩ := HL.call0A hb hz); (try simp only [addN, Nat.add_zero] at HL hk); have hl := HL; simp only [Live] at hl; (try simp only [Kept] at hk)))
  go_wp2_with fail
  (first | ((with_reducible refine (format_yes _ _ _ hv1 _).mono ?_); rintro e w6 ⟨rfl, hb⟩; have hz := hb.size; (try simp only [SZ, Nat.reduceAdd] at hz); (first | obtain ⟨HL, hk⟩ := HL.callA hb hz | obtain ⟨HL, hk⟩ := HL.call0A hb hz); (try simp only [addN, Nat.add_zero] at HL hk); have hl := HL; simp only [Live] at hl; (try simp only [Kept] at hk)))
  go_wp2_with fail
  (first | ((with_reducible refine (format_yes _ _ _ hv1 _).mono ?_); rintro e w7 ⟨rfl, hb⟩; have hz := hb.size; (try simp only [SZ, Nat.reduceAdd] at hz); (first | obtain ⟨HL, hk⟩ := HL.callA hb hz | obtain ⟨HL, hk⟩ := HL.call0A hb hz); (try simp only [addN, Nat.add_zero] at HL hk); have hl := HL; simp only [Live] at hl; (try simp only [Kept] at hk)))
  go_wp2_with fail
  (first | ((with_reducible refine (dist_yes _ _ _ _ _ _ hv1 hv1 _).mono ?_); rintro e w8 ⟨rfl, hb⟩; have hz := hb.size; (try simp only [SZ, Nat.reduceAdd] at hz); (first | obtain ⟨HL, hk⟩ := HL.callA hb hz | obtain ⟨HL, hk⟩ := HL.call0A hb hz); (try simp only [addN, Nat.add_zero] at HL hk); have hl := HL; simp only [Live] at hl; (try simp only [Kept] at hk)))
  go_wp2_with fail
  (first | ((with_reducible refine (move_at m s f m s f 0 hv1 hv1 (by omega) _).mono ?_); rintro e w9 ⟨rfl, hb⟩; have hz := hb.size; (try simp only [SZ, Nat.reduceAdd] at hz); (first | obtain ⟨HL, hk⟩ := HL.callA hb hz | obtain ⟨HL, hk⟩ := HL.call0A hb hz); (try simp only [addN, Nat.add_zero] at HL hk); have hl := HL; simp only [Live] at hl; (try simp only [Kept] at hk)))
  go_wp2
  go_ret
  exact ⟨rfl, by (exact bl)⟩
set_option maxHeartbeats 2000000 in
theorem order_lt (m s f m' s' f' : Int) (hv1 : validB m s f = true) (hv2 : validB m' s' f' = true) (hl : (60 * m + s) * 75 + f < (60 * m' + s') * 75 + f') (w : World) :
    Calls Tryd.prog 3 #[.agg #[.int .i64 m, .int .i64 s, .int .i64 f], .agg #[.int .i64 m', .int .i64 s', .int .i64 f']] w fun e w' => e = .returned (.bool true) ∧ Below w.heap.size w w' := by
  have h := validB_true.1 hv1
  have h' := validB_true.1 hv2
  have L1 := less_enc h h'
  have L2 := less_txt h h'
  rw [decide_eq_true hl] at L1 L2
  have f2 : ((60 * m + s) * 75 + f - 150 == (60 * m' + s') * 75 + f' - 150) = false := by simp; omega
  have HL : Live w [] := trivial
  go_enter Tryd.func3, Tryd.ntmps3
  go_wp2_with fail
  (first | ((with_reducible refine (awake_any _).mono ?_); rintro e w1 ⟨rfl, hb⟩; have hz := hb.size; (try simp only [SZ, Nat.reduceAdd] at hz); (first | obtain ⟨HL, hk⟩ := HL.callA hb hz | obtain ⟨HL, hk⟩ := HL.call0A hb hz); (try simp only [addN, Nat.add_zero] at HL hk); have hl := HL; simp only [Live] at hl; (try simp only [Kept] at hk)))
  go_wp2_with fail
  (first | ((with_reducible refine (toLBA_yes _ _ _ hv1 _).mono ?_); rintro e w2 ⟨rfl, hb⟩; have hz := hb.size; (try simp only [SZ, Nat.reduceAdd] at hz); (first | obtain ⟨HL, hk⟩ := HL.callA hb hz | obtain ⟨HL, hk⟩ := HL.call0A hb hz); (try simp only [addN, Nat.add_zero] at HL hk); have hl := HL; simp only [Live] at hl; (try simp only [Kept] at hk)))
  go_wp2_with fail
  (first | ((with_reducible refine (toLBA_yes _ _ _ hv2 _).mono ?_); rintro e w3 ⟨rfl, hb⟩; have hz := hb.size; (try simp only [SZ, Nat.reduceAdd] at hz); (first | obtain ⟨HL, hk⟩ := HL.callA hb hz | obtain ⟨HL, hk⟩ := HL.call0A hb hz); (try simp only [addN, Nat.add_zero] at HL hk); have hl := HL; simp only [Live] at hl; (try simp only [Kept] at hk)))
  go_wp2_with fail
  (first | ((with_reducible refine (encode_at _ _ _ hv1 _).mono ?_); rintro e w4 ⟨rfl, hb⟩; have hz := hb.size; (try simp only [SZ, Nat.reduceAdd] at hz); (first | obtain ⟨HL, hk⟩ := HL.callA hb hz | obtain ⟨HL, hk⟩ := HL.call0A hb hz); (try simp only [addN, Nat.add_zero] at HL hk); have hl := HL; simp only [Live] at hl; (try simp only [Kept] at hk)))
  go_wp2_with fail
  (first | ((with_reducible refine (encode_at _ _ _ hv2 _).mono ?_); rintro e w5 ⟨rfl, hb⟩; have hz := hb.size; (try simp only [SZ, Nat.reduceAdd] at hz); (first | obtain ⟨HL, hk⟩ := HL.callA hb hz | obtain ⟨HL, hk⟩ := HL.call0A hb hz); (try simp only [addN, Nat.add_zero] at HL hk); have hl := HL; simp only [Live] at hl; (try simp only [Kept] at hk)))
  go_wp2_with fail
  (first | ((with_reducible refine (format_yes _ _ _ hv1 _).mono ?_); rintro e w6 ⟨rfl, hb⟩; have hz := hb.size; (try simp only [SZ, Nat.reduceAdd] at hz); (first | obtain ⟨HL, hk⟩ := HL.callA hb hz | obtain ⟨HL, hk⟩ := HL.call0A hb hz); (try simp only [addN, Nat.add_zero] at HL hk); have hl := HL; simp only [Live] at hl; (try simp only [Kept] at hk)))
  go_wp2_with fail
  (first | ((with_reducible refine (format_yes _ _ _ hv2 _).mono ?_); rintro e w7 ⟨rfl, hb⟩; have hz := hb.size; (try simp only [SZ, Nat.reduceAdd] at hz); (first | obtain ⟨HL, hk⟩ := HL.callA hb hz | obtain ⟨HL, hk⟩ := HL.call0A hb hz); (try simp only [addN, Nat.add_zero] at HL hk); have hl := HL; simp only [Live] at hl; (try simp only [Kept] at hk)))
  go_wp2_with fail
  (first | ((with_reducible refine (dist_yes _ _ _ _ _ _ hv1 hv2 _).mono ?_); rintro e w8 ⟨rfl, hb⟩; have hz := hb.size; (try simp only [SZ, Nat.reduceAdd] at hz); (first | obtain ⟨HL, hk⟩ := HL.callA hb hz | obtain ⟨HL, hk⟩ := HL.call0A hb hz); (try simp only [addN, Nat.add_zero] at HL hk); have hl := HL; simp only [Live] at hl; (try simp only [Kept] at hk)))
  go_wp2_with fail
  (first | ((with_reducible refine (move_at m s f m' s' f' _ hv1 hv2 rfl _).mono ?_); rintro e w9 ⟨rfl, hb⟩; have hz := hb.size; (try simp only [SZ, Nat.reduceAdd] at hz); (first | obtain ⟨HL, hk⟩ := HL.callA hb hz | obtain ⟨HL, hk⟩ := HL.call0A hb hz); (try simp only [addN, Nat.add_zero] at HL hk); have hl := HL; simp only [Live] at hl; (try simp only [Kept] at hk)))
  go_wp2
  all_goals (go_ret; exact ⟨rfl, by (exact bl)⟩)
set_option maxHeartbeats 2000000 in
theorem order_gt (m s f m' s' f' : Int) (hv1 : validB m s f = true) (hv2 : validB m' s' f' = true) (hl : (60 * m' + s') * 75 + f' < (60 * m + s) * 75 + f) (w : World) :
    Calls Tryd.prog 3 #[.agg #[.int .i64 m, .int .i64 s, .int .i64 f], .agg #[.int .i64 m', .int .i64 s', .int .i64 f']] w fun e w' => e = .returned (.bool true) ∧ Below w.heap.size w w' := by
  have h := validB_true.1 hv1
  have h' := validB_true.1 hv2
  have f3 : decide ((60 * m + s) * 75 + f < (60 * m' + s') * 75 + f') = false := decide_eq_false (by omega)
  have L1 := less_enc h h'
  have L2 := less_txt h h'
  rw [decide_eq_false (show ¬ ((60 * m + s) * 75 + f < (60 * m' + s') * 75 + f') by omega)] at L1 L2
  have f2 : ((60 * m + s) * 75 + f - 150 == (60 * m' + s') * 75 + f' - 150) = false := by simp; omega
  have HL : Live w [] := trivial
  go_enter Tryd.func3, Tryd.ntmps3
  go_wp2_with fail
  (first | ((with_reducible refine (awake_any _).mono ?_); rintro e w1 ⟨rfl, hb⟩; have hz := hb.size; (try simp only [SZ, Nat.reduceAdd] at hz); (first | obtain ⟨HL, hk⟩ := HL.callA hb hz | obtain ⟨HL, hk⟩ := HL.call0A hb hz); (try simp only [addN, Nat.add_zero] at HL hk); have hl := HL; simp only [Live] at hl; (try simp only [Kept] at hk)))
  go_wp2_with fail
  (first | ((with_reducible refine (toLBA_yes _ _ _ hv1 _).mono ?_); rintro e w2 ⟨rfl, hb⟩; have hz := hb.size; (try simp only [SZ, Nat.reduceAdd] at hz); (first | obtain ⟨HL, hk⟩ := HL.callA hb hz | obtain ⟨HL, hk⟩ := HL.call0A hb hz); (try simp only [addN, Nat.add_zero] at HL hk); have hl := HL; simp only [Live] at hl; (try simp only [Kept] at hk)))
  go_wp2_with fail
  (first | ((with_reducible refine (toLBA_yes _ _ _ hv2 _).mono ?_); rintro e w3 ⟨rfl, hb⟩; have hz := hb.size; (try simp only [SZ, Nat.reduceAdd] at hz); (first | obtain ⟨HL, hk⟩ := HL.callA hb hz | obtain ⟨HL, hk⟩ := HL.call0A hb hz); (try simp only [addN, Nat.add_zero] at HL hk); have hl := HL; simp only [Live] at hl; (try simp only [Kept] at hk)))
  go_wp2_with fail
  (first | ((with_reducible refine (encode_at _ _ _ hv1 _).mono ?_); rintro e w4 ⟨rfl, hb⟩; have hz := hb.size; (try simp only [SZ, Nat.reduceAdd] at hz); (first | obtain ⟨HL, hk⟩ := HL.callA hb hz | obtain ⟨HL, hk⟩ := HL.call0A hb hz); (try simp only [addN, Nat.add_zero] at HL hk); have hl := HL; simp only [Live] at hl; (try simp only [Kept] at hk)))
  go_wp2_with fail
  (first | ((with_reducible refine (encode_at _ _ _ hv2 _).mono ?_); rintro e w5 ⟨rfl, hb⟩; have hz := hb.size; (try simp only [SZ, Nat.reduceAdd] at hz); (first | obtain ⟨HL, hk⟩ := HL.callA hb hz | obtain ⟨HL, hk⟩ := HL.call0A hb hz); (try simp only [addN, Nat.add_zero] at HL hk); have hl := HL; simp only [Live] at hl; (try simp only [Kept] at hk)))
  go_wp2_with fail
  (first | ((with_reducible refine (format_yes _ _ _ hv1 _).mono ?_); rintro e w6 ⟨rfl, hb⟩; have hz := hb.size; (try simp only [SZ, Nat.reduceAdd] at hz); (first | obtain ⟨HL, hk⟩ := HL.callA hb hz | obtain ⟨HL, hk⟩ := HL.call0A hb hz); (try simp only [addN, Nat.add_zero] at HL hk); have hl := HL; simp only [Live] at hl; (try simp only [Kept] at hk)))
  go_wp2_with fail
  (first | ((with_reducible refine (format_yes _ _ _ hv2 _).mono ?_); rintro e w7 ⟨rfl, hb⟩; have hz := hb.size; (try simp only [SZ, Nat.reduceAdd] at hz); (first | obtain ⟨HL, hk⟩ := HL.callA hb hz | obtain ⟨HL, hk⟩ := HL.call0A hb hz); (try simp only [addN, Nat.add_zero] at HL hk); have hl := HL; simp only [Live] at hl; (try simp only [Kept] at hk)))
  go_wp2_with fail
  (first | ((with_reducible refine (dist_yes _ _ _ _ _ _ hv1 hv2 _).mono ?_); rintro e w8 ⟨rfl, hb⟩; have hz := hb.size; (try simp only [SZ, Nat.reduceAdd] at hz); (first | obtain ⟨HL, hk⟩ := HL.callA hb hz | obtain ⟨HL, hk⟩ := HL.call0A hb hz); (try simp only [addN, Nat.add_zero] at HL hk); have hl := HL; simp only [Live] at hl; (try simp only [Kept] at hk)))
  go_wp2_with fail
  (first | ((with_reducible refine (move_at m s f m' s' f' _ hv1 hv2 rfl _).mono ?_); rintro e w9 ⟨rfl, hb⟩; have hz := hb.size; (try simp only [SZ, Nat.reduceAdd] at hz); (first | obtain ⟨HL, hk⟩ := HL.callA hb hz | obtain ⟨HL, hk⟩ := HL.call0A hb hz); (try simp only [addN, Nat.add_zero] at HL hk); have hl := HL; simp only [Live] at hl; (try simp only [Kept] at hk)))
  go_wp2
  all_goals (go_ret; exact ⟨rfl, by (exact bl)⟩)
theorem orderW (m s f m' s' f' : Int) (w : World) :
    Calls Tryd.prog 3 #[.agg #[.int .i64 m, .int .i64 s, .int .i64 f], .agg #[.int .i64 m', .int .i64 s', .int .i64 f']] w fun e w' => e = .returned (.bool true) ∧ Below w.heap.size w w' := by
  cases hb : validB m s f && validB m' s' f'
  · exact order_no m s f m' s' f' hb w
  · simp only [Bool.and_eq_true] at hb
    have h := validB_true.1 hb.1
    have h' := validB_true.1 hb.2
    rcases Int.lt_trichotomy ((60 * m + s) * 75 + f) ((60 * m' + s') * 75 + f') with hl | hl | hl
    · exact order_lt m s f m' s' f' hb.1 hb.2 hl w
    · obtain rfl : m = m' := by omega
      obtain rfl : s = s' := by omega
      obtain rfl : f = f' := by omega
      exact order_eq m s f hb.1 w
    · exact order_gt m s f m' s' f' hb.1 hb.2 hl w
end Go.Proofs.YtihnkanmlbgidaaDoor
