/- Contracts of the small functions of package address and its reference. -/
import Derived.Test.YtihnkanmlbgidaaDoorProg
import Derived.Test.YtihnkanmlbgidaaDoorL
namespace Go.Proofs.YtihnkanmlbgidaaDoor
set_option linter.unusedSimpArgs false
set_option linter.unusedVariables false
open Go.RowKit

def validB (m s f : Int) : Bool := decide (0 ≤ m ∧ m ≤ 99 ∧ 0 ≤ s ∧ s ≤ 59 ∧ 0 ≤ f ∧ f ≤ 74)

theorem validB_true {m s f : Int} : validB m s f = true ↔ (0 ≤ m ∧ m ≤ 99 ∧ 0 ≤ s ∧ s ≤ 59 ∧ 0 ≤ f ∧ f ≤ 74) := by
  unfold validB; exact decide_eq_true_iff
theorem validB_false {m s f : Int} : validB m s f = false ↔ ¬ (0 ≤ m ∧ m ≤ 99 ∧ 0 ≤ s ∧ s ≤ 59 ∧ 0 ≤ f ∧ f ≤ 74) := by
  unfold validB; exact decide_eq_false_iff_not

theorem bits_bcd (n : Int) (h0 : 0 ≤ n) (h1 : n ≤ 99) : bits BinOp.or IntKind.i64 (n / 10 * 16) (n % 10) = n / 10 * 16 + n % 10 := by
  have h : ∀ k : Fin 100, bits BinOp.or IntKind.i64 (((k.val : Nat) : Int) / 10 * 16) (((k.val : Nat) : Int) % 10) = ((k.val : Nat) : Int) / 10 * 16 + ((k.val : Nat) : Int) % 10 := by decide +kernel
  have := h ⟨n.toNat, by omega⟩
  rwa [show ((n.toNat : Nat) : Int) = n from by omega] at this

set_option maxHeartbeats 400000 in
theorem bcd_any (n : Int) (h0 : 0 ≤ n) (h1 : n ≤ 99) (w : World) :
    Calls Tryd.prog 21 #[.int .i64 n] w fun e w' => e = .returned (.tuple #[.int .u8 (n / 10 * 16 + n % 10), .int .i64 0]) ∧ w = w' := by
  have hb := bits_bcd n h0 h1
  have HL : Live w [] := trivial
  go_enter Tryd.func21, Tryd.ntmps21
  go_wp2
  go_ret2
  exact ⟨by simp, rfl⟩

set_option maxHeartbeats 400000 in
theorem number_any (m s f : Int) (h0 : 0 ≤ m ∧ m ≤ 99) (h1 : 0 ≤ s ∧ s ≤ 59) (h2 : 0 ≤ f ∧ f ≤ 74) (w : World) :
    Calls Tryd.prog 18 #[.agg #[.int .i64 m, .int .i64 s, .int .i64 f]] w fun e w' => e = .returned (.int .i64 ((60 * m + s) * 75 + f)) ∧ Below w.heap.size w w' := by
  have HL : Live w [] := trivial
  go_enter Tryd.func18, Tryd.ntmps18
  go_wp2
  go_ret
  exact ⟨rfl, by go_grown⟩

theorem vb_close {b : Bool} {m s f : Int} (h : b = true ↔ (0 ≤ m ∧ m ≤ 99 ∧ 0 ≤ s ∧ s ≤ 59 ∧ 0 ≤ f ∧ f ≤ 74)) : Ending.returned (.bool b) = .returned (.bool (validB m s f)) := by
  have : b = validB m s f := by rw [Bool.eq_iff_iff, h, validB_true]
  rw [this]

set_option maxHeartbeats 400000 in
theorem rvalid_any (m s f : Int) (w : World) :
    Calls Tryd.prog 26 #[.agg #[.int .i64 m, .int .i64 s, .int .i64 f]] w fun e w' => e = .returned (.bool (validB m s f)) ∧ Below w.heap.size w w' := by
  have HL : Live w [] := trivial
  go_enter Tryd.func26, Tryd.ntmps26
  go_wp2
  all_goals
    go_ret
    exact ⟨vb_close (by simp; try omega), by go_grown⟩

set_option maxHeartbeats 400000 in
theorem limit0 (w : World) :
    Calls Tryd.prog 33 #[.int .i64 0] w fun e w' => e = .returned (.int .i64 100) ∧ Below w.heap.size w w' := by
  have HL : Live w [] := trivial
  go_enter Tryd.func33, Tryd.ntmps33
  go_wp2
  go_ret
  exact ⟨rfl, by go_grown⟩
set_option maxHeartbeats 400000 in
theorem limit1 (w : World) :
    Calls Tryd.prog 33 #[.int .i64 1] w fun e w' => e = .returned (.int .i64 60) ∧ Below w.heap.size w w' := by
  have HL : Live w [] := trivial
  go_enter Tryd.func33, Tryd.ntmps33
  go_wp2
  go_ret
  exact ⟨rfl, by go_grown⟩
set_option maxHeartbeats 400000 in
theorem limit2 (w : World) :
    Calls Tryd.prog 33 #[.int .i64 2] w fun e w' => e = .returned (.int .i64 75) ∧ Below w.heap.size w w' := by
  have HL : Live w [] := trivial
  go_enter Tryd.func33, Tryd.ntmps33
  go_wp2
  go_ret
  exact ⟨rfl, by go_grown⟩

set_option maxHeartbeats 400000 in
theorem split_any (m s f : Int) (w : World) :
    Calls Tryd.prog 32 #[.agg #[.int .i64 m, .int .i64 s, .int .i64 f]] w fun e w' => e = .returned (.agg #[.int .i64 m, .int .i64 s, .int .i64 f]) ∧ Below w.heap.size w w' := by
  have HL : Live w [] := trivial
  go_enter Tryd.func32, Tryd.ntmps32
  go_wp2
  go_returns
  exact ⟨rfl, by go_grown⟩

set_option maxHeartbeats 1000000 in
theorem valid_any (m s f : Int) (w : World) :
    Calls Tryd.prog 17 #[.agg #[.int .i64 m, .int .i64 s, .int .i64 f]] w fun e w' => e = .returned (.bool (validB m s f)) ∧ Below w.heap.size w w' := by
  have i0 : ∀ w, (Instr.index 51 (.agg #[.int .i64 m, .int .i64 s, .int .i64 f]) (.int .i64 0)).run Tryd.prog w = .ok (.int .i64 m) w := fun _ => by kernel_rfl
  have i1 : ∀ w, (Instr.index 51 (.agg #[.int .i64 m, .int .i64 s, .int .i64 f]) (.int .i64 1)).run Tryd.prog w = .ok (.int .i64 s) w := fun _ => by kernel_rfl
  have i2 : ∀ w, (Instr.index 51 (.agg #[.int .i64 m, .int .i64 s, .int .i64 f]) (.int .i64 2)).run Tryd.prog w = .ok (.int .i64 f) w := fun _ => by kernel_rfl
  have HL : Live w [] := trivial
  go_enter Tryd.func17, Tryd.ntmps17
  go_wp2_with (first | (go_at_call 32; (with_reducible refine (split_any _ _ _ _).mono ?_); rintro e w' ⟨rfl, hb⟩; have hz := hb.size; (try simp only [SZ, Nat.reduceAdd] at hz); (first | obtain ⟨HL, hk⟩ := HL.callA hb hz | obtain ⟨HL, hk⟩ := HL.call0A hb hz); (try simp only [addN, Nat.add_zero] at HL hk); have hl := HL; simp only [Live] at hl; (try simp only [Kept] at hk)))
  refine wp_loop_rounds 4 ?_
  repeat any_goals (rw [rounds_succ]; go_wp2_with (first | (go_at_call 33; (with_reducible refine (limit0 _).mono ?_); rintro e w' ⟨rfl, hb⟩; have hz := hb.size; (try simp only [SZ, Nat.reduceAdd] at hz); (first | obtain ⟨HL, hk⟩ := HL.callA hb hz | obtain ⟨HL, hk⟩ := HL.call0A hb hz); (try simp only [addN, Nat.add_zero] at HL hk); have hl := HL; simp only [Live] at hl; (try simp only [Kept] at hk)) | (go_at_call 33; (with_reducible refine (limit1 _).mono ?_); rintro e w' ⟨rfl, hb⟩; have hz := hb.size; (try simp only [SZ, Nat.reduceAdd] at hz); (first | obtain ⟨HL, hk⟩ := HL.callA hb hz | obtain ⟨HL, hk⟩ := HL.call0A hb hz); (try simp only [addN, Nat.add_zero] at HL hk); have hl := HL; simp only [Live] at hl; (try simp only [Kept] at hk)) | (go_at_call 33; (with_reducible refine (limit2 _).mono ?_); rintro e w' ⟨rfl, hb⟩; have hz := hb.size; (try simp only [SZ, Nat.reduceAdd] at hz); (first | obtain ⟨HL, hk⟩ := HL.callA hb hz | obtain ⟨HL, hk⟩ := HL.call0A hb hz); (try simp only [addN, Nat.add_zero] at HL hk); have hl := HL; simp only [Live] at hl; (try simp only [Kept] at hk))))
  all_goals
    go_ret
    exact ⟨vb_close (by simp; try omega), by (exact bl)⟩

set_option maxHeartbeats 400000 in
theorem toLBA_no (m s f : Int) (hv : validB m s f = false) (w : World) :
    Calls Tryd.prog 7 #[.agg #[.int .i64 m, .int .i64 s, .int .i64 f]] w fun e w' => e = .returned (.tuple #[.int .i64 0, .int .i64 1]) ∧ Below w.heap.size w w' := by
  have HL : Live w [] := trivial
  go_enter Tryd.func7, Tryd.ntmps7
  go_wp2_with (first | (go_at_call 17; (with_reducible refine (valid_any _ _ _ _).mono ?_); rintro e w' ⟨rfl, hb⟩; have hz := hb.size; (try simp only [SZ, Nat.reduceAdd] at hz); (first | obtain ⟨HL, hk⟩ := HL.callA hb hz | obtain ⟨HL, hk⟩ := HL.call0A hb hz); (try simp only [addN, Nat.add_zero] at HL hk); have hl := HL; simp only [Live] at hl; (try simp only [Kept] at hk)))
  go_ret2
  exact ⟨rfl, by (exact bl)⟩
set_option maxHeartbeats 400000 in
theorem toLBA_yes (m s f : Int) (hv : validB m s f = true) (w : World) :
    Calls Tryd.prog 7 #[.agg #[.int .i64 m, .int .i64 s, .int .i64 f]] w fun e w' => e = .returned (.tuple #[.int .i64 ((60 * m + s) * 75 + f - 150), .int .i64 0]) ∧ Below w.heap.size w w' := by
  have hr := validB_true.1 hv
  have HL : Live w [] := trivial
  go_enter Tryd.func7, Tryd.ntmps7
  go_wp2_with (first | (go_at_call 17; (with_reducible refine (valid_any _ _ _ _).mono ?_); rintro e w' ⟨rfl, hb⟩; have hz := hb.size; (try simp only [SZ, Nat.reduceAdd] at hz); (first | obtain ⟨HL, hk⟩ := HL.callA hb hz | obtain ⟨HL, hk⟩ := HL.call0A hb hz); (try simp only [addN, Nat.add_zero] at HL hk); have hl := HL; simp only [Live] at hl; (try simp only [Kept] at hk)) | (go_at_call 18; (with_reducible refine (number_any _ _ _ (by omega) (by omega) (by omega) _).mono ?_); rintro e w' ⟨rfl, hb⟩; have hz := hb.size; (try simp only [SZ, Nat.reduceAdd] at hz); (first | obtain ⟨HL, hk⟩ := HL.callA hb hz | obtain ⟨HL, hk⟩ := HL.call0A hb hz); (try simp only [addN, Nat.add_zero] at HL hk); have hl := HL; simp only [Live] at hl; (try simp only [Kept] at hk)))
  go_ret2
  exact ⟨rfl, by (exact bl)⟩

set_option maxHeartbeats 400000 in
theorem numbered_no (n : Int) (h : n < 0 ∨ 449999 < n) (w : World) :
    Calls Tryd.prog 25 #[.int .i64 n] w fun e w' => e = .returned (.tuple #[.agg #[.int .i64 0, .int .i64 0, .int .i64 0], .bool false]) ∧ Below w.heap.size w w' := by
  rcases h with h | h
  all_goals
    have HL : Live w [] := trivial
    go_enter Tryd.func25, Tryd.ntmps25
    go_wp2
    go_returns
    exact ⟨rfl, by (exact bl)⟩
set_option maxHeartbeats 400000 in
theorem numbered_yes (n : Int) (h0 : 0 ≤ n) (h1 : n ≤ 449999) (w : World) :
    Calls Tryd.prog 25 #[.int .i64 n] w fun e w' => e = .returned (.tuple #[.agg #[.int .i64 (n / 75 / 60), .int .i64 (n / 75 % 60), .int .i64 (n % 75)], .bool true]) ∧ Below w.heap.size w w' := by
  have HL : Live w [] := trivial
  go_enter Tryd.func25, Tryd.ntmps25
  go_wp2
  go_returns
  exact ⟨rfl, by (exact bl)⟩

set_option maxHeartbeats 400000 in
theorem toMSF_no (n : Int) (hm : -9223372036854775808 ≤ n) (h : n < -150 ∨ 449849 < n) (w : World) :
    Calls Tryd.prog 15 #[.int .i64 n] w fun e w' => e = .returned (.tuple #[.agg #[.int .i64 0, .int .i64 0, .int .i64 0], .int .i64 2]) ∧ Below w.heap.size w w' := by
  rcases h with h | h
  all_goals
    have HL : Live w [] := trivial
    go_enter Tryd.func15, Tryd.ntmps15
    go_wp2_with (first | (go_at_call 25; (with_reducible refine (numbered_no _ (by omega) _).mono ?_); rintro e w' ⟨rfl, hb⟩; have hz := hb.size; (try simp only [SZ, Nat.reduceAdd] at hz); (first | obtain ⟨HL, hk⟩ := HL.callA hb hz | obtain ⟨HL, hk⟩ := HL.call0A hb hz); (try simp only [addN, Nat.add_zero] at HL hk); have hl := HL; simp only [Live] at hl; (try simp only [Kept] at hk)))
    ((try simp only [Exit.inBlock, Exit.then]); refine bodyPost_ret (by simp only [results, Tryd.results15]; go_simp; try rfl) rfl ?_)
    exact ⟨rfl, by (exact bl)⟩
set_option maxHeartbeats 400000 in
theorem toMSF_yes (n : Int) (h0 : -150 ≤ n) (h1 : n ≤ 449849) (w : World) :
    Calls Tryd.prog 15 #[.int .i64 n] w fun e w' => e = .returned (.tuple #[.agg #[.int .i64 ((n + 150) / 75 / 60), .int .i64 ((n + 150) / 75 % 60), .int .i64 ((n + 150) % 75)], .int .i64 0]) ∧ Below w.heap.size w w' := by
  have HL : Live w [] := trivial
  go_enter Tryd.func15, Tryd.ntmps15
  go_wp2_with (first | (go_at_call 25; (with_reducible refine (numbered_yes _ (by omega) (by omega) _).mono ?_); rintro e w' ⟨rfl, hb⟩; have hz := hb.size; (try simp only [SZ, Nat.reduceAdd] at hz); (first | obtain ⟨HL, hk⟩ := HL.callA hb hz | obtain ⟨HL, hk⟩ := HL.call0A hb hz); (try simp only [addN, Nat.add_zero] at HL hk); have hl := HL; simp only [Live] at hl; (try simp only [Kept] at hk)))
  ((try simp only [Exit.inBlock, Exit.then]); refine bodyPost_ret (by simp only [results, Tryd.results15]; go_simp; try rfl) rfl ?_)
  exact ⟨rfl, by (exact bl)⟩

theorem msf_eq (n : Int) (h : 0 ≤ n) : n / 4500 = n / 75 / 60 := by omega
end Go.Proofs.YtihnkanmlbgidaaDoor
