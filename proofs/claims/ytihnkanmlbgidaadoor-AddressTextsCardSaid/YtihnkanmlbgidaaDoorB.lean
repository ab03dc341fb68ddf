/- Contracts of Move and Distance of package address and its reference. -/
import Derived.Test.YtihnkanmlbgidaaDoorA
namespace Go.Proofs.YtihnkanmlbgidaaDoor
set_option linter.unusedSimpArgs false
set_option linter.unusedVariables false
open Go.RowKit

set_option maxHeartbeats 400000 in
theorem move_arg (m s f n : Int) (hv : validB m s f = false) (w : World) :
    Calls Tryd.prog 11 #[.agg #[.int .i64 m, .int .i64 s, .int .i64 f], .int .i64 n] w fun e w' => e = .returned (.tuple #[.agg #[.int .i64 0, .int .i64 0, .int .i64 0], .int .i64 1]) ∧ Below w.heap.size w w' := by
  have HL : Live w [] := trivial
  go_enter Tryd.func11, Tryd.ntmps11
  go_wp2_with (first | (go_at_call 17; (with_reducible refine (valid_any _ _ _ _).mono ?_); rintro e w' ⟨rfl, hb⟩; have hz := hb.size; (try simp only [SZ, Nat.reduceAdd] at hz); (first | obtain ⟨HL, hk⟩ := HL.callA hb hz | obtain ⟨HL, hk⟩ := HL.call0A hb hz); (try simp only [addN, Nat.add_zero] at HL hk); have hl := HL; simp only [Live] at hl; (try simp only [Kept] at hk)))
  ((try simp only [Exit.inBlock, Exit.then]); refine bodyPost_ret (by simp only [results, Tryd.results11]; go_simp; try rfl) rfl ?_)
  exact ⟨rfl, by (exact bl)⟩
set_option maxHeartbeats 400000 in
theorem move_far (m s f n : Int) (hv : validB m s f = true) (h : n < -449999 ∨ 449999 < n) (w : World) :
    Calls Tryd.prog 11 #[.agg #[.int .i64 m, .int .i64 s, .int .i64 f], .int .i64 n] w fun e w' => e = .returned (.tuple #[.agg #[.int .i64 0, .int .i64 0, .int .i64 0], .int .i64 2]) ∧ Below w.heap.size w w' := by
  rcases h with h | h
  all_goals
    have HL : Live w [] := trivial
    go_enter Tryd.func11, Tryd.ntmps11
    go_wp2_with (first | (go_at_call 17; (with_reducible refine (valid_any _ _ _ _).mono ?_); rintro e w' ⟨rfl, hb⟩; have hz := hb.size; (try simp only [SZ, Nat.reduceAdd] at hz); (first | obtain ⟨HL, hk⟩ := HL.callA hb hz | obtain ⟨HL, hk⟩ := HL.call0A hb hz); (try simp only [addN, Nat.add_zero] at HL hk); have hl := HL; simp only [Live] at hl; (try simp only [Kept] at hk)))
    ((try simp only [Exit.inBlock, Exit.then]); refine bodyPost_ret (by simp only [results, Tryd.results11]; go_simp; try rfl) rfl ?_)
    exact ⟨rfl, by (exact bl)⟩
set_option maxHeartbeats 400000 in
theorem move_no (m s f n : Int) (hv : validB m s f = true) (h : -449999 ≤ n ∧ n ≤ 449999) (h2 : (60 * m + s) * 75 + f + n < 0 ∨ 449999 < (60 * m + s) * 75 + f + n) (w : World) :
    Calls Tryd.prog 11 #[.agg #[.int .i64 m, .int .i64 s, .int .i64 f], .int .i64 n] w fun e w' => e = .returned (.tuple #[.agg #[.int .i64 0, .int .i64 0, .int .i64 0], .int .i64 2]) ∧ Below w.heap.size w w' := by
  have hr := validB_true.1 hv
  have HL : Live w [] := trivial
  go_enter Tryd.func11, Tryd.ntmps11
  go_wp2_with (first | (go_at_call 17; (with_reducible refine (valid_any _ _ _ _).mono ?_); rintro e w' ⟨rfl, hb⟩; have hz := hb.size; (try simp only [SZ, Nat.reduceAdd] at hz); (first | obtain ⟨HL, hk⟩ := HL.callA hb hz | obtain ⟨HL, hk⟩ := HL.call0A hb hz); (try simp only [addN, Nat.add_zero] at HL hk); have hl := HL; simp only [Live] at hl; (try simp only [Kept] at hk)) | (go_at_call 18; (with_reducible refine (number_any _ _ _ (by omega) (by omega) (by omega) _).mono ?_); rintro e w' ⟨rfl, hb⟩; have hz := hb.size; (try simp only [SZ, Nat.reduceAdd] at hz); (first | obtain ⟨HL, hk⟩ := HL.callA hb hz | obtain ⟨HL, hk⟩ := HL.call0A hb hz); (try simp only [addN, Nat.add_zero] at HL hk); have hl := HL; simp only [Live] at hl; (try simp only [Kept] at hk)) | (go_at_call 25; (with_reducible refine (numbered_no _ (by omega) _).mono ?_); rintro e w' ⟨rfl, hb⟩; have hz := hb.size; (try simp only [SZ, Nat.reduceAdd] at hz); (first | obtain ⟨HL, hk⟩ := HL.callA hb hz | obtain ⟨HL, hk⟩ := HL.call0A hb hz); (try simp only [addN, Nat.add_zero] at HL hk); have hl := HL; simp only [Live] at hl; (try simp only [Kept] at hk)))
  ((try simp only [Exit.inBlock, Exit.then]); refine bodyPost_ret (by simp only [results, Tryd.results11]; go_simp; try rfl) rfl ?_)
  exact ⟨rfl, by (exact bl)⟩
set_option maxHeartbeats 400000 in
theorem move_yes (m s f n : Int) (hv : validB m s f = true) (h : -449999 ≤ n ∧ n ≤ 449999) (h2 : 0 ≤ (60 * m + s) * 75 + f + n ∧ (60 * m + s) * 75 + f + n ≤ 449999) (w : World) :
    Calls Tryd.prog 11 #[.agg #[.int .i64 m, .int .i64 s, .int .i64 f], .int .i64 n] w fun e w' => e = .returned (.tuple #[.agg #[.int .i64 (((60 * m + s) * 75 + f + n) / 75 / 60), .int .i64 (((60 * m + s) * 75 + f + n) / 75 % 60), .int .i64 (((60 * m + s) * 75 + f + n) % 75)], .int .i64 0]) ∧ Below w.heap.size w w' := by
  have hr := validB_true.1 hv
  have HL : Live w [] := trivial
  go_enter Tryd.func11, Tryd.ntmps11
  go_wp2_with (first | (go_at_call 17; (with_reducible refine (valid_any _ _ _ _).mono ?_); rintro e w' ⟨rfl, hb⟩; have hz := hb.size; (try simp only [SZ, Nat.reduceAdd] at hz); (first | obtain ⟨HL, hk⟩ := HL.callA hb hz | obtain ⟨HL, hk⟩ := HL.call0A hb hz); (try simp only [addN, Nat.add_zero] at HL hk); have hl := HL; simp only [Live] at hl; (try simp only [Kept] at hk)) | (go_at_call 18; (with_reducible refine (number_any _ _ _ (by omega) (by omega) (by omega) _).mono ?_); rintro e w' ⟨rfl, hb⟩; have hz := hb.size; (try simp only [SZ, Nat.reduceAdd] at hz); (first | obtain ⟨HL, hk⟩ := HL.callA hb hz | obtain ⟨HL, hk⟩ := HL.call0A hb hz); (try simp only [addN, Nat.add_zero] at HL hk); have hl := HL; simp only [Live] at hl; (try simp only [Kept] at hk)) | (go_at_call 25; (with_reducible refine (numbered_yes _ (by omega) (by omega) _).mono ?_); rintro e w' ⟨rfl, hb⟩; have hz := hb.size; (try simp only [SZ, Nat.reduceAdd] at hz); (first | obtain ⟨HL, hk⟩ := HL.callA hb hz | obtain ⟨HL, hk⟩ := HL.call0A hb hz); (try simp only [addN, Nat.add_zero] at HL hk); have hl := HL; simp only [Live] at hl; (try simp only [Kept] at hk)))
  ((try simp only [Exit.inBlock, Exit.then]); refine bodyPost_ret (by simp only [results, Tryd.results11]; go_simp; try rfl) rfl ?_)
  exact ⟨rfl, by (exact bl)⟩

theorem off150 (a : Int) : a - 150 + 150 = a := by omega
set_option maxHeartbeats 400000 in
theorem dist_no (m s f m' s' f' : Int) (hv : (validB m s f && validB m' s' f') = false) (w : World) :
    Calls Tryd.prog 8 #[.agg #[.int .i64 m, .int .i64 s, .int .i64 f], .agg #[.int .i64 m', .int .i64 s', .int .i64 f']] w fun e w' => e = .returned (.tuple #[.int .i64 0, .int .i64 1]) ∧ Below w.heap.size w w' := by
  have H := hide hv; clear hv
  cases h1 : validB m s f
  · have HL : Live w [] := trivial
    go_enter Tryd.func8, Tryd.ntmps8
    go_wp2_with (first | (go_at_call 17; (with_reducible refine (valid_any _ _ _ _).mono ?_); rintro e w' ⟨rfl, hb⟩; have hz := hb.size; (try simp only [SZ, Nat.reduceAdd] at hz); (first | obtain ⟨HL, hk⟩ := HL.callA hb hz | obtain ⟨HL, hk⟩ := HL.call0A hb hz); (try simp only [addN, Nat.add_zero] at HL hk); have hl := HL; simp only [Live] at hl; (try simp only [Kept] at hk)))
    go_ret2
    exact ⟨rfl, by (exact bl)⟩
  · have h2 : validB m' s' f' = false := by have := H.out; simpa [h1] using this
    have HL : Live w [] := trivial
    go_enter Tryd.func8, Tryd.ntmps8
    go_wp2_with (first | (go_at_call 17; (with_reducible refine (valid_any _ _ _ _).mono ?_); rintro e w' ⟨rfl, hb⟩; have hz := hb.size; (try simp only [SZ, Nat.reduceAdd] at hz); (first | obtain ⟨HL, hk⟩ := HL.callA hb hz | obtain ⟨HL, hk⟩ := HL.call0A hb hz); (try simp only [addN, Nat.add_zero] at HL hk); have hl := HL; simp only [Live] at hl; (try simp only [Kept] at hk)))
    go_ret2
    exact ⟨rfl, by (exact bl)⟩
set_option maxHeartbeats 400000 in
theorem dist_yes (m s f m' s' f' : Int) (hv : validB m s f = true) (hv' : validB m' s' f' = true) (w : World) :
    Calls Tryd.prog 8 #[.agg #[.int .i64 m, .int .i64 s, .int .i64 f], .agg #[.int .i64 m', .int .i64 s', .int .i64 f']] w fun e w' => e = .returned (.tuple #[.int .i64 ((60 * m' + s') * 75 + f' - ((60 * m + s) * 75 + f)), .int .i64 0]) ∧ Below w.heap.size w w' := by
  have hr := validB_true.1 hv
  have hr' := validB_true.1 hv'
  have HL : Live w [] := trivial
  go_enter Tryd.func8, Tryd.ntmps8
  go_wp2_with (first | (go_at_call 17; (with_reducible refine (valid_any _ _ _ _).mono ?_); rintro e w' ⟨rfl, hb⟩; have hz := hb.size; (try simp only [SZ, Nat.reduceAdd] at hz); (first | obtain ⟨HL, hk⟩ := HL.callA hb hz | obtain ⟨HL, hk⟩ := HL.call0A hb hz); (try simp only [addN, Nat.add_zero] at HL hk); have hl := HL; simp only [Live] at hl; (try simp only [Kept] at hk)))
  go_region_held3 (fun x => x.cell? ⟨w.heap.size, 0, none⟩ = some (.int .i64 m) ∧ x.cell? ⟨w.heap.size, 1, none⟩ = some (.int .i64 s) ∧ x.cell? ⟨w.heap.size, 2, none⟩ = some (.int .i64 f) ∧ x.cell? ⟨w.heap.size + 1, 0, none⟩ = some (.int .i64 m') ∧ x.cell? ⟨w.heap.size + 1, 1, none⟩ = some (.int .i64 s') ∧ x.cell? ⟨w.heap.size + 1, 2, none⟩ = some (.int .i64 f')) (go_keep) ((first | (go_at_call 18; (with_reducible refine (number_any _ _ _ (by omega) (by omega) (by omega) _).mono ?_); rintro e w' ⟨rfl, hb⟩; have hz := hb.size; (try simp only [SZ, Nat.reduceAdd] at hz); (first | obtain ⟨HL, hk⟩ := HL.callA hb hz | obtain ⟨HL, hk⟩ := HL.call0A hb hz); (try simp only [addN, Nat.add_zero] at HL hk); have hl := HL; simp only [Live] at hl; (try simp only [Kept] at hk))))
  all_goals go_wp2
  go_ret2
  exact ⟨ret2_i (IntWalk.i64_in _ (by omega)), by (exact bl)⟩

end Go.Proofs.YtihnkanmlbgidaaDoor
