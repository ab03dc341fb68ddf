/- The walk of the law AddressInverse. -/
import Derived.Test.YtihnkanmlbgidaaDoorG
import Derived.Test.YtihnkanmlbgidaaDoorI
namespace Go.Proofs.YtihnkanmlbgidaaDoor
set_option linter.unusedSimpArgs false
set_option linter.unusedVariables false
open Go.RowKit
open Go.PlainAid (bt get_bt bt_nonneg bt_le)

def MsfP (lba : Int) (w : World) (e : Ending) (w' : World) : Prop := ∃ m s f : Int, e = .returned (.tuple #[.agg #[.int .i64 m, .int .i64 s, .int .i64 f], .int .i64 0]) ∧ validB m s f = true ∧ (60 * m + s) * 75 + f - 150 = lba ∧ Below w.heap.size w w'
theorem toMSF_at (n : Int) (h0 : -150 ≤ n) (h1 : n ≤ 449849) (w : World) : Calls Tryd.prog 15 #[.int .i64 n] w (MsfP n w) :=
  (toMSF_yes n h0 h1 w).mono fun e w' ⟨he, hb⟩ => ⟨_, _, _, he, validB_true.2 (by omega), by omega, hb⟩
theorem toLBA_at (m s f lba : Int) (hv : validB m s f = true) (hq : (60 * m + s) * 75 + f - 150 = lba) (w : World) :
    Calls Tryd.prog 7 #[.agg #[.int .i64 m, .int .i64 s, .int .i64 f]] w fun e w' => e = .returned (.tuple #[.int .i64 lba, .int .i64 0]) ∧ Below w.heap.size w w' := by
  subst hq; exact toLBA_yes m s f hv w
theorem bt_app (a b : ByteArray) (j : Nat) (hj : j < b.size) : bt (a ++ b) (a.size + j) = bt b j := by
  have h1 : a.size + j < (a ++ b).size := by simp [ByteArray.size_append]; exact hj
  unfold bt
  rw [dif_pos h1, dif_pos hj, ByteArray.getElem_append_right (by omega)]
  simp
theorem unB_bcd (n : Int) (h : 0 ≤ n ∧ n ≤ 99) : unB (n / 10 * 16 + n % 10) = n ∧ okB (n / 10 * 16 + n % 10) := by
  unfold unB okB; omega
theorem bt_enc (l : List UInt8) (i : Nat) (v : Int) (h : l[i]? = some (UInt8.ofNat v.toNat)) (hv : 0 ≤ v ∧ v ≤ 255) : bt ⟨l.toArray⟩ i = v := by
  obtain ⟨hi, hx⟩ := List.getElem?_eq_some_iff.1 h
  unfold bt
  rw [dif_pos (show i < (ByteArray.mk l.toArray).size from hi)]
  show (((l.toArray)[i]).toNat : Int) = _
  simp only [List.getElem_toArray, hx]
  rw [UInt8.toNat_ofNat']; omega
theorem decode_at (m s f : Int) (b : ByteArray) (k : Int) (hv : validB m s f = true) (hk : k = b.size) (hb : b.size ≤ 20) (w : World) :
    Calls Tryd.prog 16 #[.string (b ++ encS m s f), .int .i64 k] w fun e w' => e = .returned (.tuple #[.agg #[.int .i64 m, .int .i64 s, .int .i64 f], .int .i64 0]) ∧ Below w.heap.size w w' := by
  subst hk
  have h := validB_true.1 hv
  have hz : (encS m s f).size = 3 := rfl
  have hs : (b ++ encS m s f).size = b.size + 3 := by rw [ByteArray.size_append, hz]
  have e0 : bt (b ++ encS m s f) b.size = m / 10 * 16 + m % 10 := (bt_app b _ 0 (by omega)).trans (bt_enc _ 0 _ rfl (by omega))
  have e1 : bt (b ++ encS m s f) (b.size + 1) = s / 10 * 16 + s % 10 := (bt_app b _ 1 (by omega)).trans (bt_enc _ 1 _ rfl (by omega))
  have e2 : bt (b ++ encS m s f) (b.size + 2) = f / 10 * 16 + f % 10 := (bt_app b _ 2 (by omega)).trans (bt_enc _ 2 _ rfl (by omega))
  have u0 := unB_bcd m (by omega)
  have u1 := unB_bcd s (by omega)
  have u2 := unB_bcd f (by omega)
  have hd : decOK (bt (b ++ encS m s f) b.size) (bt (b ++ encS m s f) (b.size + 1)) (bt (b ++ encS m s f) (b.size + 2)) := by
    rw [e0, e1, e2]
    refine ⟨u0.2, u1.2, u2.2, ?_⟩
    rw [u0.1, u1.1, u2.1]; exact hv
  have := decode_yes (b ++ encS m s f) b.size (by omega) (by omega) hd w
  rw [e0, e1, e2, u0.1, u1.1, u2.1] at this
  exact this

set_option maxHeartbeats 1000000 in
theorem inv_no (n : Int) (b : ByteArray) (hm : -9223372036854775808 ≤ n) (h : n < -150 ∨ 449849 < n) (w : World) :
    Calls Tryd.prog 5 #[.int .i64 n, .string b] w fun e w' => e = .returned (.bool true) ∧ Below w.heap.size w w' := by
  rcases h with h | h
  all_goals
    have HL : Live w [] := trivial
    go_enter Tryd.func5, Tryd.ntmps5
    go_wp2_with fail
    (first | ((with_reducible refine (awake_any _).mono ?_); rintro e w1 ⟨rfl, hb⟩; have hz := hb.size; (try simp only [SZ, Nat.reduceAdd] at hz); (first | obtain ⟨HL, hk⟩ := HL.callA hb hz | obtain ⟨HL, hk⟩ := HL.call0A hb hz); (try simp only [addN, Nat.add_zero] at HL hk); have hl := HL; simp only [Live] at hl; (try simp only [Kept] at hk)))
    go_wp2_with fail
    (first | ((with_reducible refine (toMSF_no _ hm (by omega) _).mono ?_); rintro e w2 ⟨rfl, hb⟩; have hz := hb.size; (try simp only [SZ, Nat.reduceAdd] at hz); (first | obtain ⟨HL, hk⟩ := HL.callA hb hz | obtain ⟨HL, hk⟩ := HL.call0A hb hz); (try simp only [addN, Nat.add_zero] at HL hk); have hl := HL; simp only [Live] at hl; (try simp only [Kept] at hk)))
    go_wp2
    go_ret
    exact ⟨rfl, by (exact bl)⟩
set_option maxHeartbeats 1000000 in
theorem inv_long (n : Int) (b : ByteArray) (h0 : -150 ≤ n) (h1 : n ≤ 449849) (hb0 : ¬ b.size ≤ 20) (hs : (b.size : Int) ≤ 9223372036854775807) (w : World) :
    Calls Tryd.prog 5 #[.int .i64 n, .string b] w fun e w' => e = .returned (.bool true) ∧ Below w.heap.size w w' := by
  have HL : Live w [] := trivial
  go_enter Tryd.func5, Tryd.ntmps5
  go_wp2_with fail
  (first | ((with_reducible refine (awake_any _).mono ?_); rintro e w1 ⟨rfl, hb⟩; have hz := hb.size; (try simp only [SZ, Nat.reduceAdd] at hz); (first | obtain ⟨HL, hk⟩ := HL.callA hb hz | obtain ⟨HL, hk⟩ := HL.call0A hb hz); (try simp only [addN, Nat.add_zero] at HL hk); have hl := HL; simp only [Live] at hl; (try simp only [Kept] at hk)))
  go_wp2_with fail
  (first | ((with_reducible refine (toMSF_at n h0 h1 _).mono ?_); rintro e w2 ⟨m, s, f, rfl, hv, hq, hb⟩; have hr := validB_true.1 hv; have HQ := hide hq; clear hq; have hz := hb.size; (try simp only [SZ, Nat.reduceAdd] at hz); (first | obtain ⟨HL, hk⟩ := HL.callA hb hz | obtain ⟨HL, hk⟩ := HL.call0A hb hz); (try simp only [addN, Nat.add_zero] at HL hk); have hl := HL; simp only [Live] at hl; (try simp only [Kept] at hk)))
  go_wp2
  go_ret
  exact ⟨rfl, by (exact bl)⟩
set_option maxHeartbeats 2000000 in
theorem inv_yes (n : Int) (b : ByteArray) (h0 : -150 ≤ n) (h1 : n ≤ 449849) (hb0 : b.size ≤ 20) (w : World) (hT : TabP w) :
    Calls Tryd.prog 5 #[.int .i64 n, .string b] w fun e w' => e = .returned (.bool true) ∧ Below w.heap.size w w' := by
  have hz : ∀ m s f, (encS m s f).size = 3 := fun _ _ _ => rfl
  have HL : Live w [] := trivial
  go_enter Tryd.func5, Tryd.ntmps5
  go_wp2_with fail
  (first | ((with_reducible refine (awake_any _).mono ?_); rintro e w1 ⟨rfl, hb⟩; have hz := hb.size; (try simp only [SZ, Nat.reduceAdd] at hz); (first | obtain ⟨HL, hk⟩ := HL.callA hb hz | obtain ⟨HL, hk⟩ := HL.call0A hb hz); (try simp only [addN, Nat.add_zero] at HL hk); have hl := HL; simp only [Live] at hl; (try simp only [Kept] at hk)))
  go_wp2_with fail
  (first | ((with_reducible refine (toMSF_at n h0 h1 _).mono ?_); rintro e w2 ⟨m, s, f, rfl, hv, hq, hb⟩; have hr := validB_true.1 hv; have HQ := hide hq; clear hq; have hz := hb.size; (try simp only [SZ, Nat.reduceAdd] at hz); (first | obtain ⟨HL, hk⟩ := HL.callA hb hz | obtain ⟨HL, hk⟩ := HL.call0A hb hz); (try simp only [addN, Nat.add_zero] at HL hk); have hl := HL; simp only [Live] at hl; (try simp only [Kept] at hk)))
  go_wp2_with fail
  (first | ((with_reducible refine (toLBA_at m s f n hv HQ.out _).mono ?_); rintro e w3 ⟨rfl, hb⟩; have hz := hb.size; (try simp only [SZ, Nat.reduceAdd] at hz); (first | obtain ⟨HL, hk⟩ := HL.callA hb hz | obtain ⟨HL, hk⟩ := HL.call0A hb hz); (try simp only [addN, Nat.add_zero] at HL hk); have hl := HL; simp only [Live] at hl; (try simp only [Kept] at hk)))
  go_wp2_with fail
  (first | ((with_reducible refine (encode_at m s f hv _).mono ?_); rintro e w4 ⟨rfl, hb⟩; have hz := hb.size; (try simp only [SZ, Nat.reduceAdd] at hz); (first | obtain ⟨HL, hk⟩ := HL.callA hb hz | obtain ⟨HL, hk⟩ := HL.call0A hb hz); (try simp only [addN, Nat.add_zero] at HL hk); have hl := HL; simp only [Live] at hl; (try simp only [Kept] at hk)))
  go_wp2_with fail
  (first | ((with_reducible refine (decode_at m s f b _ hv rfl hb0 _).mono ?_); rintro e w5 ⟨rfl, hb⟩; have hz := hb.size; (try simp only [SZ, Nat.reduceAdd] at hz); (first | obtain ⟨HL, hk⟩ := HL.callA hb hz | obtain ⟨HL, hk⟩ := HL.call0A hb hz); (try simp only [addN, Nat.add_zero] at HL hk); have hl := HL; simp only [Live] at hl; (try simp only [Kept] at hk)))
  go_wp2_with fail
  (first | ((with_reducible refine (format_yes m s f hv _).mono ?_); rintro e w6 ⟨rfl, hb⟩; have hz := hb.size; (try simp only [SZ, Nat.reduceAdd] at hz); (first | obtain ⟨HL, hk⟩ := HL.callA hb hz | obtain ⟨HL, hk⟩ := HL.call0A hb hz); (try simp only [addN, Nat.add_zero] at HL hk); have hl := HL; simp only [Live] at hl; (try simp only [Kept] at hk)))
  go_wp2_with fail
  (first | ((with_reducible refine (parse_txt m s f hv _ (hT.below (by (exact bl)))).mono ?_); rintro e w7 ⟨rfl, hb⟩; have hz := hb.size; (try simp only [SZ, Nat.reduceAdd] at hz); (first | obtain ⟨HL, hk⟩ := HL.callA hb hz | obtain ⟨HL, hk⟩ := HL.call0A hb hz); (try simp only [addN, Nat.add_zero] at HL hk); have hl := HL; simp only [Live] at hl; (try simp only [Kept] at hk)))
  go_wp2_with fail
  (first | ((with_reducible refine (valid_any _ _ _ _).mono ?_); rintro e w8 ⟨rfl, hb⟩; have hz := hb.size; (try simp only [SZ, Nat.reduceAdd] at hz); (first | obtain ⟨HL, hk⟩ := HL.callA hb hz | obtain ⟨HL, hk⟩ := HL.call0A hb hz); (try simp only [addN, Nat.add_zero] at HL hk); have hl := HL; simp only [Live] at hl; (try simp only [Kept] at hk)))
  go_wp2
  go_ret
  exact ⟨rfl, by (exact bl)⟩
theorem inverseW (n : Int) (b : ByteArray) (w : World) (hT : TabP w) (hn : (Lit.int .i64 n).wf = true) (hb : b.size ≤ maxLen) :
    Calls Tryd.prog 5 #[.int .i64 n, .string b] w fun e w' => e = .returned (.bool true) ∧ Below w.heap.size w w' := by
  by_cases h : n < -150 ∨ 449849 < n
  · exact inv_no n b (wf64 hn).1 h w
  · by_cases hl : b.size ≤ 20
    · exact inv_yes n b (by omega) (by omega) hl w hT
    · exact inv_long n b (by omega) (by omega) hl (by unfold maxLen at hb; omega) w
end Go.Proofs.YtihnkanmlbgidaaDoor
