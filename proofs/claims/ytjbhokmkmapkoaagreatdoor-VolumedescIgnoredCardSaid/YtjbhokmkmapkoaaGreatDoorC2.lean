/- Contracts and plain words for the laws of volume descriptors, part 2: KP, KA. No condition. -/
import Derived.WalkKit
import Derived.Test.YtjbhokmkmapkoaaGreatDoorProg
import Derived.Test.YtjbhokmkmapkoaaGreatDoorC1
namespace Go.Proofs.YtjbhokmkmapkoaaGreatDoor.Dt
set_option linter.unusedSimpArgs false
set_option linter.unusedVariables false
def leapB (y : Int) : Bool := decide (y % 400 = 0 ∨ (y % 4 = 0 ∧ y % 100 ≠ 0))
def lp (y : Int) : Int := if leapB y = true then 1 else 0
def ydays (y : Int) : Int := 365 + lp y
def mdays (y m : Int) : Int := if m = 2 then 28 + lp y else if m = 4 ∨ m = 6 ∨ m = 9 ∨ m = 11 then 30 else 31
def dby (y : Int) : Int := 365 * y + (y + 3) / 4 - (y + 99) / 100 + (y + 399) / 400
def cum (y m : Int) : Int :=
  if m ≤ 1 then 0 else if m = 2 then 31 else
  (if m = 3 then 59 else if m = 4 then 90 else if m = 5 then 120 else if m = 6 then 151 else if m = 7 then 181 else if m = 8 then 212 else if m = 9 then 243
   else if m = 10 then 273 else if m = 11 then 304 else if m = 12 then 334 else 365) + lp y
theorem lp_01 (y : Int) : 0 ≤ lp y ∧ lp y ≤ 1 := by unfold lp; split <;> omega
theorem lp_iff (y : Int) : lp y = if y % 400 = 0 ∨ (y % 4 = 0 ∧ y % 100 ≠ 0) then 1 else 0 := by unfold lp leapB; simp
theorem dby_succ (y : Int) : dby (y + 1) = dby y + ydays y := by
  unfold dby ydays; rw [lp_iff]; split <;> omega
theorem mdays_bd (y m : Int) : 28 ≤ mdays y m ∧ mdays y m ≤ 31 := by
  have := lp_01 y; unfold mdays; split
  · omega
  · split <;> omega
theorem ydays_bd (y : Int) : 365 ≤ ydays y ∧ ydays y ≤ 366 := by have := lp_01 y; unfold ydays; omega
theorem month12 {m : Int} (h1 : 1 ≤ m) (h2 : m ≤ 12) : m = 1 ∨ m = 2 ∨ m = 3 ∨ m = 4 ∨ m = 5 ∨ m = 6 ∨ m = 7 ∨ m = 8 ∨ m = 9 ∨ m = 10 ∨ m = 11 ∨ m = 12 := by omega
theorem cum_succ (y m : Int) (h1 : 1 ≤ m) (h2 : m ≤ 12) : cum y (m + 1) = cum y m + mdays y m := by
  rcases month12 h1 h2 with rfl | rfl | rfl | rfl | rfl | rfl | rfl | rfl | rfl | rfl | rfl | rfl <;> simp [cum, mdays] <;> omega
theorem cum_one (y : Int) : cum y 1 = 0 := by simp [cum]
theorem cum_end (y : Int) : cum y 13 = ydays y := by simp [cum, ydays]
theorem cum_bd (y m : Int) (h1 : 1 ≤ m) (h2 : m ≤ 13) : 0 ≤ cum y m ∧ cum y m ≤ 366 := by
  have := lp_01 y
  rcases (show m = 1 ∨ m = 2 ∨ m = 3 ∨ m = 4 ∨ m = 5 ∨ m = 6 ∨ m = 7 ∨ m = 8 ∨ m = 9 ∨ m = 10 ∨ m = 11 ∨ m = 12 ∨ m = 13 by omega) with rfl | rfl | rfl | rfl | rfl | rfl | rfl | rfl | rfl | rfl | rfl | rfl | rfl <;> simp [cum] <;> omega
theorem cum_le (y m : Int) (h1 : 1 ≤ m) (h2 : m ≤ 12) : cum y m + mdays y m ≤ ydays y := by
  have := lp_01 y
  rcases month12 h1 h2 with rfl | rfl | rfl | rfl | rfl | rfl | rfl | rfl | rfl | rfl | rfl | rfl <;> simp [cum, mdays, ydays] <;> omega
theorem cum_up (y a : Int) (h1 : 1 ≤ a) : ∀ k : Nat, a + 1 + k ≤ 13 → cum y (a + 1) ≤ cum y (a + 1 + k)
  | 0, _ => by simp
  | k + 1, h => by
    have ih := cum_up y a h1 k (by omega)
    have e := cum_succ y (a + 1 + k) (by omega) (by omega)
    have := mdays_bd y (a + 1 + k)
    have e2 : a + 1 + ((k + 1 : Nat) : Int) = a + 1 + (k : Int) + 1 := by omega
    rw [e2, e]; omega
theorem cum_mono (y a b : Int) (h1 : 1 ≤ a) (hab : a < b) (h2 : b ≤ 12) : cum y a + mdays y a ≤ cum y b := by
  have h := cum_up y a h1 (b - a - 1).toNat (by omega)
  rw [show a + 1 + (((b - a - 1).toNat : Nat) : Int) = b from by omega, cum_succ y a h1 (by omega)] at h
  exact h
theorem dby_mono (a b : Int) (hab : a < b) : dby a + ydays a ≤ dby b := by
  rw [← dby_succ]; unfold dby; omega
/-- A valid clock. -/
def vClk (Y M D h m s : Int) : Prop := 1900 ≤ Y ∧ Y ≤ 2155 ∧ 1 ≤ M ∧ M ≤ 12 ∧ 1 ≤ D ∧ D ≤ mdays Y M ∧ 0 ≤ h ∧ h ≤ 23 ∧ 0 ≤ m ∧ m ≤ 59 ∧ 0 ≤ s ∧ s ≤ 59
instance (Y M D h m s : Int) : Decidable (vClk Y M D h m s) := by unfold vClk; infer_instance
def vClkB (Y M D h m s : Int) : Bool := decide (vClk Y M D h m s)
theorem vClkB_true {Y M D h m s : Int} : vClkB Y M D h m s = true ↔ vClk Y M D h m s := decide_eq_true_iff
/-- Seconds since 1970, as if it were UTC. -/
def secs (Y M D h m s : Int) : Int := (dby Y - 719528 + cum Y M + D - 1) * 86400 + h * 3600 + m * 60 + s
theorem secs_lt_year {Y M D h m s Y' M' D' h' m' s' : Int} (v : vClk Y M D h m s) (v' : vClk Y' M' D' h' m' s') (hl : Y < Y') : secs Y M D h m s < secs Y' M' D' h' m' s' := by
  obtain ⟨a1, a2, a3, a4, a5, a6, a7, a8, a9, a10, a11, a12⟩ := v
  obtain ⟨b1, b2, b3, b4, b5, b6, b7, b8, b9, b10, b11, b12⟩ := v'
  have := dby_mono Y Y' hl
  have := cum_le Y M a3 a4
  have := cum_bd Y' M' b3 (by omega)
  unfold secs; omega
theorem secs_lt_month {Y M D h m s M' D' h' m' s' : Int} (v : vClk Y M D h m s) (v' : vClk Y M' D' h' m' s') (hl : M < M') : secs Y M D h m s < secs Y M' D' h' m' s' := by
  obtain ⟨a1, a2, a3, a4, a5, a6, a7, a8, a9, a10, a11, a12⟩ := v
  obtain ⟨b1, b2, b3, b4, b5, b6, b7, b8, b9, b10, b11, b12⟩ := v'
  have := cum_mono Y M M' a3 hl b4
  unfold secs; omega
/-- The clock of a number of seconds is one. -/
theorem secs_inj {Y M D h m s Y' M' D' h' m' s' : Int} (v : vClk Y M D h m s) (v' : vClk Y' M' D' h' m' s') (e : secs Y M D h m s = secs Y' M' D' h' m' s') :
    Y = Y' ∧ M = M' ∧ D = D' ∧ h = h' ∧ m = m' ∧ s = s' := by
  have hY : Y = Y' := by
    rcases Int.lt_trichotomy Y Y' with hl | hl | hl
    · have := secs_lt_year v v' hl; omega
    · exact hl
    · have := secs_lt_year v' v hl; omega
  subst hY
  have hM : M = M' := by
    rcases Int.lt_trichotomy M M' with hl | hl | hl
    · have := secs_lt_month v v' hl; omega
    · exact hl
    · have := secs_lt_month v' v hl; omega
  subst hM
  obtain ⟨a1, a2, a3, a4, a5, a6, a7, a8, a9, a10, a11, a12⟩ := v
  obtain ⟨b1, b2, b3, b4, b5, b6, b7, b8, b9, b10, b11, b12⟩ := v'
  unfold secs at e
  refine ⟨rfl, rfl, ?_, ?_, ?_, ?_⟩ <;> omega
end Go.Proofs.YtjbhokmkmapkoaaGreatDoor.Dt
namespace Go.Proofs.YtjbhokmkmapkoaaGreatDoor.Dt
set_option linter.unusedSimpArgs false
set_option linter.unusedVariables false
open Go.RowKit
theorem ret_b {a b : Bool} (h : a = b) : Ending.returned (.bool a) = .returned (.bool b) := by rw [h]
theorem dec_eq {a b : Prop} [Decidable a] [Decidable b] (h : a ↔ b) : decide a = decide b := by simp [h]
set_option maxHeartbeats 400000 in
theorem leap_any (y : Int) (h : 0 ≤ y) (w : World) : Calls Tryz.prog 174 #[.int .i64 y] w fun e w' => e = .returned (.bool (leapB y)) ∧ w = w' := by
  by_cases h1 : y % 400 = 0
  · have HL : Live w [] := trivial
    go_enter Tryz.func174, Tryz.ntmps174
    go_wp2
    go_ret
    exact ⟨ret_b (by simp [leapB, h1]), rfl⟩
  · by_cases h2 : y % 4 = 0
    · have HL : Live w [] := trivial
      go_enter Tryz.func174, Tryz.ntmps174
      go_wp2
      go_ret
      exact ⟨ret_b (by rw [Bool.eq_iff_iff]; simp [leapB, h1, h2]), rfl⟩
    · have HL : Live w [] := trivial
      go_enter Tryz.func174, Tryz.ntmps174
      go_wp2
      go_ret
      exact ⟨ret_b (by simp [leapB, h1, h2]), rfl⟩
set_option maxHeartbeats 400000 in
theorem rleap_any (y : Int) (h : 0 ≤ y) (w : World) : Calls Tryz.prog 191 #[.int .i64 y] w fun e w' => e = .returned (.bool (leapB y)) ∧ w = w' := by
  by_cases h2 : y % 4 = 0
  · by_cases h3 : y % 100 = 0
    · have HL : Live w [] := trivial
      go_enter Tryz.func191, Tryz.ntmps191
      go_wp2
      go_ret
      exact ⟨ret_b (by rw [Bool.eq_iff_iff]; simp [leapB, h2, h3]), rfl⟩
    · have HL : Live w [] := trivial
      go_enter Tryz.func191, Tryz.ntmps191
      go_wp2
      go_ret
      exact ⟨ret_b (by simp [leapB, h2, h3]), rfl⟩
  · have h1 : ¬ y % 400 = 0 := by omega
    have HL : Live w [] := trivial
    go_enter Tryz.func191, Tryz.ntmps191
    go_wp2
    go_ret
    exact ⟨ret_b (by simp [leapB, h1, h2]), rfl⟩
set_option maxHeartbeats 400000 in
theorem yearDays_any (y : Int) (h : 0 ≤ y) (w : World) : Calls Tryz.prog 140 #[.int .i64 y] w fun e w' => e = .returned (.int .i64 (ydays y)) ∧ w = w' := by
  cases hl : leapB y
  all_goals
    have HL : Live w [] := trivial
    go_enter Tryz.func140, Tryz.ntmps140
    go_wp2_with (first | (go_at_call 174; (with_reducible refine (leap_any _ (by omega) _).mono ?_); rintro e w' ⟨rfl, rfl⟩))
    go_ret
    exact ⟨ret_i (by simp [ydays, lp, hl]), rfl⟩
set_option maxHeartbeats 400000 in
theorem ryear_any (y : Int) (h : 0 ≤ y) (w : World) : Calls Tryz.prog 176 #[.int .i64 y] w fun e w' => e = .returned (.int .i64 (ydays y)) ∧ w = w' := by
  cases hl : leapB y
  all_goals
    have HL : Live w [] := trivial
    go_enter Tryz.func176, Tryz.ntmps176
    go_wp2_with (first | (go_at_call 191; (with_reducible refine (rleap_any _ (by omega) _).mono ?_); rintro e w' ⟨rfl, rfl⟩))
    go_ret
    exact ⟨ret_i (by simp [ydays, lp, hl]), rfl⟩
set_option maxHeartbeats 1000000 in
theorem monthDays_any (y m : Int) (h : 0 ≤ y) (h1 : 1 ≤ m) (h2 : m ≤ 12) (w : World) : Calls Tryz.prog 141 #[.int .i64 y, .int .i64 m] w fun e w' => e = .returned (.int .i64 (mdays y m)) ∧ Below w.heap.size w w' := by
  cases hl : leapB y
  all_goals
    rcases month12 h1 h2 with rfl | rfl | rfl | rfl | rfl | rfl | rfl | rfl | rfl | rfl | rfl | rfl
    all_goals
      have HL : Live w [] := trivial
      go_enter Tryz.func141, Tryz.ntmps141
      go_wp2_with (first | (go_at_call 174; (with_reducible refine (leap_any _ (by omega) _).mono ?_); rintro e w' ⟨rfl, rfl⟩))
      go_ret
      exact ⟨ret_i (by simp [mdays, lp, hl]), by (exact bl)⟩
set_option maxHeartbeats 1000000 in
theorem rdays_any (y m : Int) (h : 0 ≤ y) (h1 : 1 ≤ m) (h2 : m ≤ 12) (w : World) : Calls Tryz.prog 167 #[.int .i64 y, .int .i64 m] w fun e w' => e = .returned (.int .i64 (mdays y m)) ∧ w = w' := by
  cases hl : leapB y
  all_goals
    rcases month12 h1 h2 with rfl | rfl | rfl | rfl | rfl | rfl | rfl | rfl | rfl | rfl | rfl | rfl
    all_goals
      have HL : Live w [] := trivial
      go_enter Tryz.func167, Tryz.ntmps167
      go_wp2_with (first | (go_at_call 191; (with_reducible refine (rleap_any _ (by omega) _).mono ?_); rintro e w' ⟨rfl, rfl⟩))
      go_ret
      exact ⟨ret_i (by simp [mdays, lp, hl]), rfl⟩
def timeB (t : Int) : Bool := decide (315532800 ≤ t ∧ t ≤ 4102444799)
def zoneB (z : Int) : Bool := decide (-1440 ≤ z ∧ z ≤ 1440)
def quarterB (z : Int) : Bool := decide (-720 ≤ z ∧ z ≤ 780 ∧ z.tmod 15 = 0)
theorem timeB_true {t : Int} : timeB t = true ↔ 315532800 ≤ t ∧ t ≤ 4102444799 := decide_eq_true_iff
theorem zoneB_true {t : Int} : zoneB t = true ↔ -1440 ≤ t ∧ t ≤ 1440 := decide_eq_true_iff
set_option maxHeartbeats 400000 in
theorem isTime_any (t : Int) (w : World) : Calls Tryz.prog 138 #[.int .i64 t] w fun e w' => e = .returned (.bool (timeB t)) ∧ w = w' := by
  have HL : Live w [] := trivial
  go_enter Tryz.func138, Tryz.ntmps138
  go_wp2
  all_goals
    go_ret
    exact ⟨ret_b (by rw [Bool.eq_iff_iff]; simp [timeB, zoneB] <;> omega), rfl⟩
set_option maxHeartbeats 400000 in
theorem rTime_any (t : Int) (w : World) : Calls Tryz.prog 93 #[.int .i64 t] w fun e w' => e = .returned (.bool (timeB t)) ∧ w = w' := by
  have HL : Live w [] := trivial
  go_enter Tryz.func93, Tryz.ntmps93
  go_wp2
  all_goals
    go_ret
    exact ⟨ret_b (by rw [Bool.eq_iff_iff]; simp [timeB, zoneB] <;> omega), rfl⟩
set_option maxHeartbeats 400000 in
theorem isZone_any (t : Int) (w : World) : Calls Tryz.prog 139 #[.int .i64 t] w fun e w' => e = .returned (.bool (zoneB t)) ∧ w = w' := by
  have HL : Live w [] := trivial
  go_enter Tryz.func139, Tryz.ntmps139
  go_wp2
  all_goals
    go_ret
    exact ⟨ret_b (by rw [Bool.eq_iff_iff]; simp [timeB, zoneB] <;> omega), rfl⟩
set_option maxHeartbeats 400000 in
theorem rZone_any (t : Int) (w : World) : Calls Tryz.prog 143 #[.int .i64 t] w fun e w' => e = .returned (.bool (zoneB t)) ∧ w = w' := by
  have HL : Live w [] := trivial
  go_enter Tryz.func143, Tryz.ntmps143
  go_wp2
  all_goals
    go_ret
    exact ⟨ret_b (by rw [Bool.eq_iff_iff]; simp [timeB, zoneB] <;> omega), rfl⟩
set_option maxHeartbeats 400000 in
theorem inLit_any (n m : Int) (w : World) : Calls Tryz.prog 189 #[.int .i64 n, .int .i64 m] w fun e w' => e = .returned (.bool (decide (0 ≤ n ∧ n ≤ m))) ∧ w = w' := by
  have HL : Live w [] := trivial
  go_enter Tryz.func189, Tryz.ntmps189
  go_wp2
  all_goals
    go_ret
    exact ⟨ret_b (by rw [Bool.eq_iff_iff]; simp [timeB, zoneB] <;> omega), rfl⟩
end Go.Proofs.YtjbhokmkmapkoaaGreatDoor.Dt
