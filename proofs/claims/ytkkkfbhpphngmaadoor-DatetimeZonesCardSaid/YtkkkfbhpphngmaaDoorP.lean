/- The calendar: plain arithmetic, no program in sight. -/
import Derived.WalkKit
namespace Go.Proofs.YtkkkfbhpphngmaaDoor
set_option linter.unusedSimpArgs false
set_option linter.unusedVariables false

def leapB (y : Int) : Bool := decide (y % 400 = 0 ∨ (y % 4 = 0 ∧ y % 100 ≠ 0))
def lp (y : Int) : Int := if leapB y = true then 1 else 0
def ydays (y : Int) : Int := 365 + lp y
def mdays (y m : Int) : Int := if m = 2 then 28 + lp y else if m = 4 ∨ m = 6 ∨ m = 9 ∨ m = 11 then 30 else 31
def dby (y : Int) : Int := 365 * y + (y + 3) / 4 - (y + 99) / 100 + (y + 399) / 400
def cum (y m : Int) : Int :=
  if m ≤ 1 then 0 else if m = 2 then 31 else
  (if m = 3 then 59 else if m = 4 then 90 else if m = 5 then 120 else if m = 6 then 151 else if m = 7 then 181 else if m = 8 then 212 else if m = 9 then 243
   else if m = 10 then 273 else if m = 11 then 304 else if m = 12 then 334 else 365) + lp y
theorem lp_01 (y : Int) : 0 ≤ lp y ∧ lp y ≤ 1 := by unfold lp; split <;> omega
theorem lp_iff (y : Int) : lp y = if y % 400 = 0 ∨ (y % 4 = 0 ∧ y % 100 ≠ 0) then 1 else 0 := by unfold lp leapB; simp
theorem dby_succ (y : Int) : dby (y + 1) = dby y + ydays y := by
  unfold dby ydays; rw [lp_iff]; split <;> omega
theorem mdays_bd (y m : Int) : 28 ≤ mdays y m ∧ mdays y m ≤ 31 := by
  have := lp_01 y; unfold mdays; split
  · omega
  · split <;> omega
theorem ydays_bd (y : Int) : 365 ≤ ydays y ∧ ydays y ≤ 366 := by have := lp_01 y; unfold ydays; omega
theorem month12 {m : Int} (h1 : 1 ≤ m) (h2 : m ≤ 12) : m = 1 ∨ m = 2 ∨ m = 3 ∨ m = 4 ∨ m = 5 ∨ m = 6 ∨ m = 7 ∨ m = 8 ∨ m = 9 ∨ m = 10 ∨ m = 11 ∨ m = 12 := by omega
theorem cum_succ (y m : Int) (h1 : 1 ≤ m) (h2 : m ≤ 12) : cum y (m + 1) = cum y m + mdays y m := by
  rcases month12 h1 h2 with rfl | rfl | rfl | rfl | rfl | rfl | rfl | rfl | rfl | rfl | rfl | rfl <;> simp [cum, mdays] <;> omega
theorem cum_one (y : Int) : cum y 1 = 0 := by simp [cum]
theorem cum_end (y : Int) : cum y 13 = ydays y := by simp [cum, ydays]
theorem cum_bd (y m : Int) (h1 : 1 ≤ m) (h2 : m ≤ 13) : 0 ≤ cum y m ∧ cum y m ≤ 366 := by
  have := lp_01 y
  rcases (show m = 1 ∨ m = 2 ∨ m = 3 ∨ m = 4 ∨ m = 5 ∨ m = 6 ∨ m = 7 ∨ m = 8 ∨ m = 9 ∨ m = 10 ∨ m = 11 ∨ m = 12 ∨ m = 13 by omega) with rfl | rfl | rfl | rfl | rfl | rfl | rfl | rfl | rfl | rfl | rfl | rfl | rfl <;> simp [cum] <;> omega
theorem cum_le (y m : Int) (h1 : 1 ≤ m) (h2 : m ≤ 12) : cum y m + mdays y m ≤ ydays y := by
  have := lp_01 y
  rcases month12 h1 h2 with rfl | rfl | rfl | rfl | rfl | rfl | rfl | rfl | rfl | rfl | rfl | rfl <;> simp [cum, mdays, ydays] <;> omega
theorem cum_up (y a : Int) (h1 : 1 ≤ a) : ∀ k : Nat, a + 1 + k ≤ 13 → cum y (a + 1) ≤ cum y (a + 1 + k)
  | 0, _ => by simp
  | k + 1, h => by
    have ih := cum_up y a h1 k (by omega)
    have e := cum_succ y (a + 1 + k) (by omega) (by omega)
    have := mdays_bd y (a + 1 + k)
    have e2 : a + 1 + ((k + 1 : Nat) : Int) = a + 1 + (k : Int) + 1 := by omega
    rw [e2, e]; omega
theorem cum_mono (y a b : Int) (h1 : 1 ≤ a) (hab : a < b) (h2 : b ≤ 12) : cum y a + mdays y a ≤ cum y b := by
  have h := cum_up y a h1 (b - a - 1).toNat (by omega)
  rw [show a + 1 + (((b - a - 1).toNat : Nat) : Int) = b from by omega, cum_succ y a h1 (by omega)] at h
  exact h
theorem dby_mono (a b : Int) (hab : a < b) : dby a + ydays a ≤ dby b := by
  rw [← dby_succ]; unfold dby; omega

/-- A valid clock. -/
def vClk (Y M D h m s : Int) : Prop := 1900 ≤ Y ∧ Y ≤ 2155 ∧ 1 ≤ M ∧ M ≤ 12 ∧ 1 ≤ D ∧ D ≤ mdays Y M ∧ 0 ≤ h ∧ h ≤ 23 ∧ 0 ≤ m ∧ m ≤ 59 ∧ 0 ≤ s ∧ s ≤ 59
instance (Y M D h m s : Int) : Decidable (vClk Y M D h m s) := by unfold vClk; infer_instance
def vClkB (Y M D h m s : Int) : Bool := decide (vClk Y M D h m s)
theorem vClkB_true {Y M D h m s : Int} : vClkB Y M D h m s = true ↔ vClk Y M D h m s := decide_eq_true_iff
theorem vClkB_false {Y M D h m s : Int} : vClkB Y M D h m s = false ↔ ¬ vClk Y M D h m s := decide_eq_false_iff_not
/-- Seconds since 1970, as if it were UTC. -/
def secs (Y M D h m s : Int) : Int := (dby Y - 719528 + cum Y M + D - 1) * 86400 + h * 3600 + m * 60 + s

theorem secs_lt_year {Y M D h m s Y' M' D' h' m' s' : Int} (v : vClk Y M D h m s) (v' : vClk Y' M' D' h' m' s') (hl : Y < Y') : secs Y M D h m s < secs Y' M' D' h' m' s' := by
  obtain ⟨a1, a2, a3, a4, a5, a6, a7, a8, a9, a10, a11, a12⟩ := v
  obtain ⟨b1, b2, b3, b4, b5, b6, b7, b8, b9, b10, b11, b12⟩ := v'
  have := dby_mono Y Y' hl
  have := cum_le Y M a3 a4
  have := cum_bd Y' M' b3 (by omega)
  unfold secs; omega
theorem secs_lt_month {Y M D h m s M' D' h' m' s' : Int} (v : vClk Y M D h m s) (v' : vClk Y M' D' h' m' s') (hl : M < M') : secs Y M D h m s < secs Y M' D' h' m' s' := by
  obtain ⟨a1, a2, a3, a4, a5, a6, a7, a8, a9, a10, a11, a12⟩ := v
  obtain ⟨b1, b2, b3, b4, b5, b6, b7, b8, b9, b10, b11, b12⟩ := v'
  have := cum_mono Y M M' a3 hl b4
  unfold secs; omega
theorem secs_lt_rest {Y M D h m s D' h' m' s' : Int} (v : vClk Y M D h m s) (v' : vClk Y M D' h' m' s') (hl : D < D' ∨ (D = D' ∧ (h < h' ∨ (h = h' ∧ (m < m' ∨ (m = m' ∧ s < s')))))) : secs Y M D h m s < secs Y M D' h' m' s' := by
  obtain ⟨a1, a2, a3, a4, a5, a6, a7, a8, a9, a10, a11, a12⟩ := v
  obtain ⟨b1, b2, b3, b4, b5, b6, b7, b8, b9, b10, b11, b12⟩ := v'
  unfold secs; omega
/-- The clock of a number of seconds is one. -/
theorem secs_inj {Y M D h m s Y' M' D' h' m' s' : Int} (v : vClk Y M D h m s) (v' : vClk Y' M' D' h' m' s') (e : secs Y M D h m s = secs Y' M' D' h' m' s') :
    Y = Y' ∧ M = M' ∧ D = D' ∧ h = h' ∧ m = m' ∧ s = s' := by
  have hY : Y = Y' := by
    rcases Int.lt_trichotomy Y Y' with hl | hl | hl
    · have := secs_lt_year v v' hl; omega
    · exact hl
    · have := secs_lt_year v' v hl; omega
  subst hY
  have hM : M = M' := by
    rcases Int.lt_trichotomy M M' with hl | hl | hl
    · have := secs_lt_month v v' hl; omega
    · exact hl
    · have := secs_lt_month v' v hl; omega
  subst hM
  obtain ⟨a1, a2, a3, a4, a5, a6, a7, a8, a9, a10, a11, a12⟩ := v
  obtain ⟨b1, b2, b3, b4, b5, b6, b7, b8, b9, b10, b11, b12⟩ := v'
  unfold secs at e
  refine ⟨rfl, rfl, ?_, ?_, ?_, ?_⟩ <;> omega
end Go.Proofs.YtkkkfbhpphngmaaDoor
