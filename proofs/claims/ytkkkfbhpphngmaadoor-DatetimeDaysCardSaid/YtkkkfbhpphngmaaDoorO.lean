/- The walk of the law DatetimeDays. -/
import Derived.Test.YtkkkfbhpphngmaaDoorJ
namespace Go.Proofs.YtkkkfbhpphngmaaDoor
set_option linter.unusedSimpArgs false
set_option linter.unusedVariables false
open Go.RowKit

theorem day_in (Y M D : Int) : secs Y M (D + 1) 0 0 0 = secs Y M D 0 0 0 + 86400 := by unfold secs; omega
theorem day_month (Y M : Int) (h1 : 1 ≤ M) (h2 : M ≤ 12) : secs Y (M + 1) 1 0 0 0 = secs Y M (mdays Y M) 0 0 0 + 86400 := by
  have := cum_succ Y M h1 h2
  unfold secs
  omega
theorem day_year (Y : Int) : secs (Y + 1) 1 1 0 0 0 = secs Y 12 31 0 0 0 + 86400 := by
  have a : cum Y 13 = cum Y 12 + mdays Y 12 := cum_succ Y 12 (by omega) (by omega)
  have b := cum_end Y
  have c := dby_succ Y
  have d := cum_one (Y + 1)
  have e : mdays Y 12 = 31 := by simp [mdays]
  unfold secs
  omega
theorem lp4 (Y : Int) (h1 : 1980 ≤ Y) (h2 : Y ≤ 2098) : lp Y = if Y % 4 = 0 then 1 else 0 := by
  rw [lp_iff]
  split <;> split <;> omega
theorem day_range {Y M D : Int} (h1 : 1980 ≤ Y) (h2 : Y ≤ 2098) (m1 : 1 ≤ M) (m2 : M ≤ 12) (d1 : 1 ≤ D) (d2 : D ≤ mdays Y M) : 315532800 ≤ secs Y M D 0 0 0 ∧ secs Y M D 0 0 0 + 86400 ≤ 4102444799 := by
  have a := cum_le Y M m1 m2
  have b := cum_bd Y M m1 (by omega)
  have c := dby_succ Y
  have d : 723180 ≤ dby Y := by unfold dby; omega
  have e : dby (Y + 1) ≤ 766645 := by unfold dby; omega
  unfold secs
  omega
theorem clk0 {Y M D : Int} (h1 : 1980 ≤ Y) (h2 : Y ≤ 2099) (m1 : 1 ≤ M) (m2 : M ≤ 12) (d1 : 1 ≤ D) (d2 : D ≤ mdays Y M) : vClk Y M D 0 0 0 := by
  refine ⟨by omega, by omega, m1, m2, d1, d2, ?_⟩
  omega

set_option maxHeartbeats 4000000 in
theorem daysOut (Y M D : Int) (w : World) (hT : Tab w) (hY : ¬ (1980 ≤ Y ∧ Y ≤ 2098)) :
    Calls Tryd.prog 5 #[.int .i64 Y, .int .i64 M, .int .i64 D] w fun e w' => e = .returned (.bool true) ∧ Below w.heap.size w w' := by
  by_cases h : 1980 ≤ Y
  all_goals
    have HL : Live w [] := trivial
    go_enter Tryd.func5, Tryd.ntmps5
    go_wp2_with fail
    (first | ((with_reducible refine (awake_any _ hT).mono ?_); rintro e w1 ⟨rfl, hb⟩; have hz := hb.size; (try simp only [World.size_alloc, World.size_setCell, World.size_drew, Nat.add_assoc, Nat.reduceAdd] at hz); (first | obtain ⟨HL, hk⟩ := HL.call hb hz (by simp only [World.size_alloc, World.size_setCell, World.size_drew, Nat.add_assoc, Nat.reduceAdd]) | obtain ⟨HL, hk⟩ := HL.call0 hb hz (by first | rfl | simp only [World.size_alloc, World.size_setCell, World.size_drew, Nat.add_assoc, Nat.reduceAdd])); (try simp only [addN, Nat.add_zero] at HL hk); have hl := HL; simp only [Live] at hl; (try simp only [Kept] at hk)))
    go_wp2
    go_ret
    exact ⟨rfl, by (repeat' (first | (with_reducible exact Below.refl _ _) | (with_reducible refine Below.alloc ?_ ?_ _) | (with_reducible refine Below.setCell ?_ ?_ _) | (with_reducible refine Below.drew ?_) | (with_reducible refine below_drewN' ?_) | (with_reducible refine below_bytesW ?_ ?_) | (with_reducible refine Below.trans ?_ (Below.mono (by assumption) ?_)) | omega | (simp only [World.size_alloc, World.size_setCell, World.size_drew]; omega) | (simp [size_bytesW]; omega) | (simp; omega)))⟩

set_option maxHeartbeats 4000000 in
theorem daysNo (Y M D : Int) (w : World) (hT : Tab w) (h1 : 1980 ≤ Y) (h2 : Y ≤ 2098) (hM : ¬ (1 ≤ M ∧ M ≤ 12)) :
    Calls Tryd.prog 5 #[.int .i64 Y, .int .i64 M, .int .i64 D] w fun e w' => e = .returned (.bool true) ∧ Below w.heap.size w w' := by
  have hc := vClkB_false.2 (show ¬ vClk Y M D 0 0 0 by unfold vClk; omega)
  by_cases hd : 1 ≤ D
  all_goals
    have HL : Live w [] := trivial
    go_enter Tryd.func5, Tryd.ntmps5
    go_wp2_with fail
    (first | ((with_reducible refine (awake_any _ hT).mono ?_); rintro e w1 ⟨rfl, hb⟩; have hz := hb.size; (try simp only [World.size_alloc, World.size_setCell, World.size_drew, Nat.add_assoc, Nat.reduceAdd] at hz); (first | obtain ⟨HL, hk⟩ := HL.call hb hz (by simp only [World.size_alloc, World.size_setCell, World.size_drew, Nat.add_assoc, Nat.reduceAdd]) | obtain ⟨HL, hk⟩ := HL.call0 hb hz (by first | rfl | simp only [World.size_alloc, World.size_setCell, World.size_drew, Nat.add_assoc, Nat.reduceAdd])); (try simp only [addN, Nat.add_zero] at HL hk); have hl := HL; simp only [Live] at hl; (try simp only [Kept] at hk)))
    go_wp2_with fail
    (first | ((with_reducible refine (join_arg _ _ _ _ _ _ _ (by assumption) _).mono ?_); rintro e w2 ⟨rfl, hb⟩; have hz := hb.size; (try simp only [World.size_alloc, World.size_setCell, World.size_drew, Nat.add_assoc, Nat.reduceAdd] at hz); (first | obtain ⟨HL, hk⟩ := HL.call hb hz (by simp only [World.size_alloc, World.size_setCell, World.size_drew, Nat.add_assoc, Nat.reduceAdd]) | obtain ⟨HL, hk⟩ := HL.call0 hb hz (by first | rfl | simp only [World.size_alloc, World.size_setCell, World.size_drew, Nat.add_assoc, Nat.reduceAdd])); (try simp only [addN, Nat.add_zero] at HL hk); have hl := HL; simp only [Live] at hl; (try simp only [Kept] at hk)))
    go_wp2
    go_ret
    exact ⟨rfl, by (repeat' (first | (with_reducible exact Below.refl _ _) | (with_reducible refine Below.alloc ?_ ?_ _) | (with_reducible refine Below.setCell ?_ ?_ _) | (with_reducible refine Below.drew ?_) | (with_reducible refine below_drewN' ?_) | (with_reducible refine below_bytesW ?_ ?_) | (with_reducible refine Below.trans ?_ (Below.mono (by assumption) ?_)) | omega | (simp only [World.size_alloc, World.size_setCell, World.size_drew]; omega) | (simp [size_bytesW]; omega) | (simp; omega)))⟩
end Go.Proofs.YtkkkfbhpphngmaaDoor
