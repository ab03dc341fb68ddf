/- Decode of package address and its reference. -/
import Derived.Test.YtihnkanmlbgidaaDoorC
import Derived.PlainAid
namespace Go.Proofs.YtihnkanmlbgidaaDoor
set_option linter.unusedSimpArgs false
set_option linter.unusedVariables false
open Go.RowKit

theorem bits_and15 (n : Int) (h0 : 0 ≤ n) (h1 : n ≤ 255) : bits BinOp.and IntKind.u8 n 15 = n % 16 := by
  have h : ∀ k : Fin 256, bits BinOp.and IntKind.u8 ((k.val : Nat) : Int) 15 = ((k.val : Nat) : Int) % 16 := by decide +kernel
  have := h ⟨n.toNat, by omega⟩
  rwa [show ((n.toNat : Nat) : Int) = n from by omega] at this

set_option maxHeartbeats 400000 in
theorem fromBCD_no (n : Int) (h0 : 0 ≤ n) (h1 : n ≤ 255) (h : 9 < n / 16 ∨ 9 < n % 16) (w : World) :
    Calls Tryd.prog 31 #[.int .u8 n] w fun e w' => e = .returned (.tuple #[.int .i64 0, .int .i64 2]) ∧ w = w' := by
  have hb := bits_and15 n h0 h1
  rcases h with h | h
  all_goals
    have HL : Live w [] := trivial
    go_enter Tryd.func31, Tryd.ntmps31
    go_wp2
    all_goals
      go_ret2
      exact ⟨rfl, rfl⟩
set_option maxHeartbeats 400000 in
theorem fromBCD_yes (n : Int) (h0 : 0 ≤ n) (h1 : n ≤ 255) (h : n / 16 ≤ 9 ∧ n % 16 ≤ 9) (w : World) :
    Calls Tryd.prog 31 #[.int .u8 n] w fun e w' => e = .returned (.tuple #[.int .i64 (10 * (n / 16) + n % 16), .int .i64 0]) ∧ w = w' := by
  have hb := bits_and15 n h0 h1
  have HL : Live w [] := trivial
  go_enter Tryd.func31, Tryd.ntmps31
  go_wp2
  go_ret2
  exact ⟨rfl, rfl⟩
set_option maxHeartbeats 400000 in
theorem join_any (m s f : Int) (w : World) :
    Calls Tryd.prog 30 #[.agg #[.int .i64 m, .int .i64 s, .int .i64 f]] w fun e w' => e = .returned (.tuple #[.agg #[.int .i64 m, .int .i64 s, .int .i64 f], .bool (validB m s f)]) ∧ Below w.heap.size w w' := by
  have HL : Live w [] := trivial
  go_enter Tryd.func30, Tryd.ntmps30
  go_wp2_with (first | (go_at_call 17; (with_reducible refine (valid_any _ _ _ _).mono ?_); rintro e w' ⟨rfl, hb⟩; have hz := hb.size; (try simp only [SZ, Nat.reduceAdd] at hz); (first | obtain ⟨HL, hk⟩ := HL.callA hb hz | obtain ⟨HL, hk⟩ := HL.call0A hb hz); (try simp only [addN, Nat.add_zero] at HL hk); have hl := HL; simp only [Live] at hl; (try simp only [Kept] at hk)))
  go_region_held3 (fun x => x.cell? ⟨w.heap.size + 1 + 1, 0, none⟩ = some (.int .i64 m) ∧ x.cell? ⟨w.heap.size + 1 + 1, 1, none⟩ = some (.int .i64 s) ∧ x.cell? ⟨w.heap.size + 1 + 1, 2, none⟩ = some (.int .i64 f)) ((simp [*, go_sem])) ((first | (go_at_call 17; (with_reducible refine (valid_any _ _ _ _).mono ?_); rintro e w' ⟨rfl, hb⟩; have hz := hb.size; (try simp only [SZ, Nat.reduceAdd] at hz); (first | obtain ⟨HL, hk⟩ := HL.callA hb hz | obtain ⟨HL, hk⟩ := HL.call0A hb hz); (try simp only [addN, Nat.add_zero] at HL hk); have hl := HL; simp only [Live] at hl; (try simp only [Kept] at hk))))
  all_goals go_wp2
  ((try simp only [Exit.inBlock, Exit.then]); refine bodyPost_ret (by simp only [results, Tryd.results30]; go_simp; try rfl) rfl ?_)
  exact ⟨rfl, by (exact bl)⟩

open Go.PlainAid (bt get_bt bt_nonneg bt_le)
def okB (n : Int) : Prop := n / 16 ≤ 9 ∧ n % 16 ≤ 9
def unB (n : Int) : Int := 10 * (n / 16) + n % 16
def decOK (x y z : Int) : Prop := okB x ∧ okB y ∧ okB z ∧ validB (unB x) (unB y) (unB z) = true

set_option maxHeartbeats 400000 in
theorem decode_range (s : ByteArray) (k : Int) (hs : s.size ≤ 9223372036854775807) (h : k < 0 ∨ (s.size : Int) - 3 < k) (w : World) :
    Calls Tryd.prog 16 #[.string s, .int .i64 k] w fun e w' => e = .returned (.tuple #[.agg #[.int .i64 0, .int .i64 0, .int .i64 0], .int .i64 2]) ∧ Below w.heap.size w w' := by
  by_cases h0 : k < 0
  · have HL : Live w [] := trivial
    go_enter Tryd.func16, Tryd.ntmps16
    go_wp2
    ((try simp only [Exit.inBlock, Exit.then]); refine bodyPost_ret (by simp only [results, Tryd.results16]; go_simp; try rfl) rfl ?_)
    exact ⟨rfl, by (exact bl)⟩
  · have h1 : (s.size : Int) - 3 < k := by omega
    have HL : Live w [] := trivial
    go_enter Tryd.func16, Tryd.ntmps16
    go_wp2
    ((try simp only [Exit.inBlock, Exit.then]); refine bodyPost_ret (by simp only [results, Tryd.results16]; go_simp; try rfl) rfl ?_)
    exact ⟨rfl, by (exact bl)⟩
set_option maxHeartbeats 1000000 in
theorem decode_bad (s : ByteArray) (k : Nat) (hs : s.size ≤ 9223372036854775807) (h : k + 3 ≤ s.size) (hd : ¬ decOK (bt s k) (bt s (k+1)) (bt s (k+2))) (w : World) :
    Calls Tryd.prog 16 #[.string s, .int .i64 k] w fun e w' => e = .returned (.tuple #[.agg #[.int .i64 0, .int .i64 0, .int .i64 0], .int .i64 10]) ∧ Below w.heap.size w w' := by
  have hx0 := bt_nonneg s k
  have hx1 := bt_le s k
  have hy0 := bt_nonneg s (k+1)
  have hy1 := bt_le s (k+1)
  have hz0 := bt_nonneg s (k+2)
  have hz1 := bt_le s (k+2)
  have hb := get_bt s
  have H := hide hd; clear hd
  by_cases h1 : bt s k / 16 ≤ 9 ∧ bt s k % 16 ≤ 9
  · by_cases h2 : bt s (k+1) / 16 ≤ 9 ∧ bt s (k+1) % 16 ≤ 9
    · by_cases h3 : bt s (k+2) / 16 ≤ 9 ∧ bt s (k+2) % 16 ≤ 9
      · have hv : validB (10 * (bt s k / 16) + bt s k % 16) (10 * (bt s (k+1) / 16) + bt s (k+1) % 16) (10 * (bt s (k+2) / 16) + bt s (k+2) % 16) = false := by
          cases hv : validB (10 * (bt s k / 16) + bt s k % 16) (10 * (bt s (k+1) / 16) + bt s (k+1) % 16) (10 * (bt s (k+2) / 16) + bt s (k+2) % 16)
          · rfl
          · exact absurd ⟨h1, h2, h3, hv⟩ H.out
        have HL : Live w [] := trivial
        go_enter Tryd.func16, Tryd.ntmps16
        go_wp2
        refine wp_loop_rounds 4 ?_
        repeat any_goals (rw [rounds_succ]; go_wp2_with (first | (go_at_call 31; (with_reducible refine (fromBCD_yes _ (by omega) (by omega) (by omega) _).mono ?_); rintro e w' ⟨rfl, rfl⟩) | (go_at_call 30; (with_reducible refine (join_any _ _ _ _).mono ?_); rintro e w' ⟨rfl, hb⟩; have hz := hb.size; (try simp only [SZ, Nat.reduceAdd] at hz); (first | obtain ⟨HL, hk⟩ := HL.callA hb hz | obtain ⟨HL, hk⟩ := HL.call0A hb hz); (try simp only [addN, Nat.add_zero] at HL hk); have hl := HL; simp only [Live] at hl; (try simp only [Kept] at hk))))
        ((try simp only [Exit.inBlock, Exit.then]); refine bodyPost_ret (by simp only [results, Tryd.results16]; go_simp; try rfl) rfl ?_)
        exact ⟨rfl, by (exact bl)⟩
      · have h3' : 9 < bt s (k+2) / 16 ∨ 9 < bt s (k+2) % 16 := by omega
        have HL : Live w [] := trivial
        go_enter Tryd.func16, Tryd.ntmps16
        go_wp2
        refine wp_loop_rounds 4 ?_
        repeat any_goals (rw [rounds_succ]; go_wp2_with (first | (go_at_call 31; (with_reducible refine (fromBCD_yes _ (by omega) (by omega) (by omega) _).mono ?_); rintro e w' ⟨rfl, rfl⟩) | (go_at_call 31; (with_reducible refine (fromBCD_no _ (by omega) (by omega) (by omega) _).mono ?_); rintro e w' ⟨rfl, rfl⟩)))
        ((try simp only [Exit.inBlock, Exit.then]); refine bodyPost_ret (by simp only [results, Tryd.results16]; go_simp; try rfl) rfl ?_)
        exact ⟨rfl, by (exact bl)⟩
    · have h2' : 9 < bt s (k+1) / 16 ∨ 9 < bt s (k+1) % 16 := by omega
      have HL : Live w [] := trivial
      go_enter Tryd.func16, Tryd.ntmps16
      go_wp2
      refine wp_loop_rounds 4 ?_
      repeat any_goals (rw [rounds_succ]; go_wp2_with (first | (go_at_call 31; (with_reducible refine (fromBCD_yes _ (by omega) (by omega) (by omega) _).mono ?_); rintro e w' ⟨rfl, rfl⟩) | (go_at_call 31; (with_reducible refine (fromBCD_no _ (by omega) (by omega) (by omega) _).mono ?_); rintro e w' ⟨rfl, rfl⟩)))
      ((try simp only [Exit.inBlock, Exit.then]); refine bodyPost_ret (by simp only [results, Tryd.results16]; go_simp; try rfl) rfl ?_)
      exact ⟨rfl, by (exact bl)⟩
  · have h1' : 9 < bt s k / 16 ∨ 9 < bt s k % 16 := by omega
    have HL : Live w [] := trivial
    go_enter Tryd.func16, Tryd.ntmps16
    go_wp2
    refine wp_loop_rounds 4 ?_
    repeat any_goals (rw [rounds_succ]; go_wp2_with (first | (go_at_call 31; (with_reducible refine (fromBCD_no _ (by omega) (by omega) (by omega) _).mono ?_); rintro e w' ⟨rfl, rfl⟩)))
    ((try simp only [Exit.inBlock, Exit.then]); refine bodyPost_ret (by simp only [results, Tryd.results16]; go_simp; try rfl) rfl ?_)
    exact ⟨rfl, by (exact bl)⟩
set_option maxHeartbeats 1000000 in
theorem decode_yes (s : ByteArray) (k : Nat) (hs : s.size ≤ 9223372036854775807) (h : k + 3 ≤ s.size) (hd : decOK (bt s k) (bt s (k+1)) (bt s (k+2))) (w : World) :
    Calls Tryd.prog 16 #[.string s, .int .i64 k] w fun e w' => e = .returned (.tuple #[.agg #[.int .i64 (unB (bt s k)), .int .i64 (unB (bt s (k+1))), .int .i64 (unB (bt s (k+2)))], .int .i64 0]) ∧ Below w.heap.size w w' := by
  have hx0 := bt_nonneg s k
  have hx1 := bt_le s k
  have hy0 := bt_nonneg s (k+1)
  have hy1 := bt_le s (k+1)
  have hz0 := bt_nonneg s (k+2)
  have hz1 := bt_le s (k+2)
  have hb := get_bt s
  obtain ⟨h1, h2, h3, hv⟩ := hd
  unfold okB at h1 h2 h3
  unfold unB at hv
  have HL : Live w [] := trivial
  go_enter Tryd.func16, Tryd.ntmps16
  go_wp2
  refine wp_loop_rounds 4 ?_
  repeat any_goals (rw [rounds_succ]; go_wp2_with (first | (go_at_call 31; (with_reducible refine (fromBCD_yes _ (by omega) (by omega) (by omega) _).mono ?_); rintro e w' ⟨rfl, rfl⟩) | (go_at_call 30; (with_reducible refine (join_any _ _ _ _).mono ?_); rintro e w' ⟨rfl, hb⟩; have hz := hb.size; (try simp only [SZ, Nat.reduceAdd] at hz); (first | obtain ⟨HL, hk⟩ := HL.callA hb hz | obtain ⟨HL, hk⟩ := HL.call0A hb hz); (try simp only [addN, Nat.add_zero] at HL hk); have hl := HL; simp only [Live] at hl; (try simp only [Kept] at hk))))
  ((try simp only [Exit.inBlock, Exit.then]); refine bodyPost_ret (by simp only [results, Tryd.results16]; go_simp; try rfl) rfl ?_)
  exact ⟨rfl, by (exact bl)⟩

end Go.Proofs.YtihnkanmlbgidaaDoor
