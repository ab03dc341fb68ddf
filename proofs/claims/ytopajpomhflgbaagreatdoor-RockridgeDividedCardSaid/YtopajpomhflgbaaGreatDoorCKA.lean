/- Contracts of the small functions of package datetime and its reference. -/
import Derived.Test.YtopajpomhflgbaaGreatDoorProg
import Derived.Test.YtopajpomhflgbaaGreatDoorCLN
import Derived.Test.YtopajpomhflgbaaGreatDoorCKPQ
namespace Go.Proofs.YtopajpomhflgbaaGreatDoor.Dt
set_option linter.unusedSimpArgs false
set_option linter.unusedVariables false
open Go.RowKit

theorem ret_b {a b : Bool} (h : a = b) : Ending.returned (.bool a) = .returned (.bool b) := by rw [h]
theorem dec_eq {a b : Prop} [Decidable a] [Decidable b] (h : a ↔ b) : decide a = decide b := by simp [h]

set_option maxHeartbeats 400000 in
theorem leap_any (y : Int) (h : 0 ≤ y) (w : World) : Calls Tryz.prog 119 #[.int .i64 y] w fun e w' => e = .returned (.bool (leapB y)) ∧ w = w' := by
  by_cases h1 : y % 400 = 0
  · have HL : Live w [] := trivial
    go_enter Tryz.func119, Tryz.ntmps119
    go_wp2
    go_ret
    exact ⟨ret_b (by simp [leapB, h1]), rfl⟩
  · by_cases h2 : y % 4 = 0
    · have HL : Live w [] := trivial
      go_enter Tryz.func119, Tryz.ntmps119
      go_wp2
      go_ret
      exact ⟨ret_b (by rw [Bool.eq_iff_iff]; simp [leapB, h1, h2]), rfl⟩
    · have HL : Live w [] := trivial
      go_enter Tryz.func119, Tryz.ntmps119
      go_wp2
      go_ret
      exact ⟨ret_b (by simp [leapB, h1, h2]), rfl⟩
set_option maxHeartbeats 400000 in
theorem rleap_any (y : Int) (h : 0 ≤ y) (w : World) : Calls Tryz.prog 133 #[.int .i64 y] w fun e w' => e = .returned (.bool (leapB y)) ∧ w = w' := by
  by_cases h2 : y % 4 = 0
  · by_cases h3 : y % 100 = 0
    · have HL : Live w [] := trivial
      go_enter Tryz.func133, Tryz.ntmps133
      go_wp2
      go_ret
      exact ⟨ret_b (by rw [Bool.eq_iff_iff]; simp [leapB, h2, h3]), rfl⟩
    · have HL : Live w [] := trivial
      go_enter Tryz.func133, Tryz.ntmps133
      go_wp2
      go_ret
      exact ⟨ret_b (by simp [leapB, h2, h3]), rfl⟩
  · have h1 : ¬ y % 400 = 0 := by omega
    have HL : Live w [] := trivial
    go_enter Tryz.func133, Tryz.ntmps133
    go_wp2
    go_ret
    exact ⟨ret_b (by simp [leapB, h1, h2]), rfl⟩

set_option maxHeartbeats 400000 in
theorem yearDays_any (y : Int) (h : 0 ≤ y) (w : World) : Calls Tryz.prog 95 #[.int .i64 y] w fun e w' => e = .returned (.int .i64 (ydays y)) ∧ w = w' := by
  cases hl : leapB y
  all_goals
    have HL : Live w [] := trivial
    go_enter Tryz.func95, Tryz.ntmps95
    go_wp2_with (first | (go_at_call 119; (with_reducible refine (leap_any _ (by omega) _).mono ?_); rintro e w' ⟨rfl, rfl⟩))
    go_ret
    exact ⟨ret_i (by simp [ydays, lp, hl]), rfl⟩
set_option maxHeartbeats 400000 in
theorem ryear_any (y : Int) (h : 0 ≤ y) (w : World) : Calls Tryz.prog 122 #[.int .i64 y] w fun e w' => e = .returned (.int .i64 (ydays y)) ∧ w = w' := by
  cases hl : leapB y
  all_goals
    have HL : Live w [] := trivial
    go_enter Tryz.func122, Tryz.ntmps122
    go_wp2_with (first | (go_at_call 133; (with_reducible refine (rleap_any _ (by omega) _).mono ?_); rintro e w' ⟨rfl, rfl⟩))
    go_ret
    exact ⟨ret_i (by simp [ydays, lp, hl]), rfl⟩

set_option maxHeartbeats 1000000 in
theorem monthDays_any (y m : Int) (h : 0 ≤ y) (h1 : 1 ≤ m) (h2 : m ≤ 12) (w : World) : Calls Tryz.prog 96 #[.int .i64 y, .int .i64 m] w fun e w' => e = .returned (.int .i64 (mdays y m)) ∧ Below w.heap.size w w' := by
  cases hl : leapB y
  all_goals
    rcases month12 h1 h2 with rfl | rfl | rfl | rfl | rfl | rfl | rfl | rfl | rfl | rfl | rfl | rfl
    all_goals
      have HL : Live w [] := trivial
      go_enter Tryz.func96, Tryz.ntmps96
      go_wp2_with (first | (go_at_call 119; (with_reducible refine (leap_any _ (by omega) _).mono ?_); rintro e w' ⟨rfl, rfl⟩))
      go_ret
      exact ⟨ret_i (by simp [mdays, lp, hl]), by (repeat' (first | (with_reducible exact Below.refl _ _) | (with_reducible refine Below.alloc ?_ ?_ _) | (with_reducible refine Below.setCell ?_ ?_ _) | (with_reducible refine Below.drew ?_) | (with_reducible refine below_drewN' ?_) | (with_reducible refine below_bytesW ?_ ?_) | (with_reducible refine Below.trans ?_ (Below.mono (by assumption) ?_)) | omega | (simp only [World.size_alloc, World.size_setCell, World.size_drew]; omega) | (simp [size_bytesW]; omega) | (simp; omega)))⟩
set_option maxHeartbeats 1000000 in
theorem rdays_any (y m : Int) (h : 0 ≤ y) (h1 : 1 ≤ m) (h2 : m ≤ 12) (w : World) : Calls Tryz.prog 123 #[.int .i64 y, .int .i64 m] w fun e w' => e = .returned (.int .i64 (mdays y m)) ∧ w = w' := by
  cases hl : leapB y
  all_goals
    rcases month12 h1 h2 with rfl | rfl | rfl | rfl | rfl | rfl | rfl | rfl | rfl | rfl | rfl | rfl
    all_goals
      have HL : Live w [] := trivial
      go_enter Tryz.func123, Tryz.ntmps123
      go_wp2_with (first | (go_at_call 133; (with_reducible refine (rleap_any _ (by omega) _).mono ?_); rintro e w' ⟨rfl, rfl⟩))
      go_ret
      exact ⟨ret_i (by simp [mdays, lp, hl]), rfl⟩

def timeB (t : Int) : Bool := decide (315532800 ≤ t ∧ t ≤ 4102444799)
def zoneB (z : Int) : Bool := decide (-1440 ≤ z ∧ z ≤ 1440)
def quarterB (z : Int) : Bool := decide (-720 ≤ z ∧ z ≤ 780 ∧ z.tmod 15 = 0)
theorem timeB_true {t : Int} : timeB t = true ↔ 315532800 ≤ t ∧ t ≤ 4102444799 := decide_eq_true_iff
theorem timeB_false {t : Int} : timeB t = false ↔ ¬ (315532800 ≤ t ∧ t ≤ 4102444799) := decide_eq_false_iff_not
theorem zoneB_true {t : Int} : zoneB t = true ↔ -1440 ≤ t ∧ t ≤ 1440 := decide_eq_true_iff
theorem zoneB_false {t : Int} : zoneB t = false ↔ ¬ (-1440 ≤ t ∧ t ≤ 1440) := decide_eq_false_iff_not

set_option maxHeartbeats 400000 in
theorem isTime_any (t : Int) (w : World) : Calls Tryz.prog 93 #[.int .i64 t] w fun e w' => e = .returned (.bool (timeB t)) ∧ w = w' := by
  have HL : Live w [] := trivial
  go_enter Tryz.func93, Tryz.ntmps93
  go_wp2
  all_goals
    go_ret
    exact ⟨ret_b (by rw [Bool.eq_iff_iff]; simp [timeB, zoneB] <;> omega), rfl⟩
set_option maxHeartbeats 400000 in
theorem rTime_any (t : Int) (w : World) : Calls Tryz.prog 67 #[.int .i64 t] w fun e w' => e = .returned (.bool (timeB t)) ∧ w = w' := by
  have HL : Live w [] := trivial
  go_enter Tryz.func67, Tryz.ntmps67
  go_wp2
  all_goals
    go_ret
    exact ⟨ret_b (by rw [Bool.eq_iff_iff]; simp [timeB, zoneB] <;> omega), rfl⟩
set_option maxHeartbeats 400000 in
theorem isZone_any (t : Int) (w : World) : Calls Tryz.prog 94 #[.int .i64 t] w fun e w' => e = .returned (.bool (zoneB t)) ∧ w = w' := by
  have HL : Live w [] := trivial
  go_enter Tryz.func94, Tryz.ntmps94
  go_wp2
  all_goals
    go_ret
    exact ⟨ret_b (by rw [Bool.eq_iff_iff]; simp [timeB, zoneB] <;> omega), rfl⟩
set_option maxHeartbeats 400000 in
theorem rZone_any (t : Int) (w : World) : Calls Tryz.prog 99 #[.int .i64 t] w fun e w' => e = .returned (.bool (zoneB t)) ∧ w = w' := by
  have HL : Live w [] := trivial
  go_enter Tryz.func99, Tryz.ntmps99
  go_wp2
  all_goals
    go_ret
    exact ⟨ret_b (by rw [Bool.eq_iff_iff]; simp [timeB, zoneB] <;> omega), rfl⟩

set_option maxHeartbeats 400000 in
theorem inLit_any (n m : Int) (w : World) : Calls Tryz.prog 138 #[.int .i64 n, .int .i64 m] w fun e w' => e = .returned (.bool (decide (0 ≤ n ∧ n ≤ m))) ∧ w = w' := by
  have HL : Live w [] := trivial
  go_enter Tryz.func138, Tryz.ntmps138
  go_wp2
  all_goals
    go_ret
    exact ⟨ret_b (by rw [Bool.eq_iff_iff]; simp [timeB, zoneB] <;> omega), rfl⟩
end Go.Proofs.YtopajpomhflgbaaGreatDoor.Dt
