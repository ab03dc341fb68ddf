/- The calendar: plain arithmetic, no program in sight. -/
import Derived.WalkKit
import Derived.PlainAid
namespace Go.Proofs.YtopajpomhflgbaaGreatDoor.Dt
set_option linter.unusedSimpArgs false
set_option linter.unusedVariables false

def leapB (y : Int) : Bool := decide (y % 400 = 0 ∨ (y % 4 = 0 ∧ y % 100 ≠ 0))
def lp (y : Int) : Int := if leapB y = true then 1 else 0
def ydays (y : Int) : Int := 365 + lp y
def mdays (y m : Int) : Int := if m = 2 then 28 + lp y else if m = 4 ∨ m = 6 ∨ m = 9 ∨ m = 11 then 30 else 31
def dby (y : Int) : Int := 365 * y + (y + 3) / 4 - (y + 99) / 100 + (y + 399) / 400
def cum (y m : Int) : Int :=
  if m ≤ 1 then 0 else if m = 2 then 31 else
  (if m = 3 then 59 else if m = 4 then 90 else if m = 5 then 120 else if m = 6 then 151 else if m = 7 then 181 else if m = 8 then 212 else if m = 9 then 243
   else if m = 10 then 273 else if m = 11 then 304 else if m = 12 then 334 else 365) + lp y
theorem lp_01 (y : Int) : 0 ≤ lp y ∧ lp y ≤ 1 := by unfold lp; split <;> omega
theorem lp_iff (y : Int) : lp y = if y % 400 = 0 ∨ (y % 4 = 0 ∧ y % 100 ≠ 0) then 1 else 0 := by unfold lp leapB; simp
theorem dby_succ (y : Int) : dby (y + 1) = dby y + ydays y := by
  unfold dby ydays; rw [lp_iff]; split <;> omega
theorem mdays_bd (y m : Int) : 28 ≤ mdays y m ∧ mdays y m ≤ 31 := by
  have := lp_01 y; unfold mdays; split
  · omega
  · split <;> omega
theorem ydays_bd (y : Int) : 365 ≤ ydays y ∧ ydays y ≤ 366 := by have := lp_01 y; unfold ydays; omega
theorem month12 {m : Int} (h1 : 1 ≤ m) (h2 : m ≤ 12) : m = 1 ∨ m = 2 ∨ m = 3 ∨ m = 4 ∨ m = 5 ∨ m = 6 ∨ m = 7 ∨ m = 8 ∨ m = 9 ∨ m = 10 ∨ m = 11 ∨ m = 12 := by omega
theorem cum_succ (y m : Int) (h1 : 1 ≤ m) (h2 : m ≤ 12) : cum y (m + 1) = cum y m + mdays y m := by
  rcases month12 h1 h2 with rfl | rfl | rfl | rfl | rfl | rfl | rfl | rfl | rfl | rfl | rfl | rfl <;> simp [cum, mdays] <;> omega
theorem cum_one (y : Int) : cum y 1 = 0 := by simp [cum]
theorem cum_end (y : Int) : cum y 13 = ydays y := by simp [cum, ydays]
theorem cum_bd (y m : Int) (h1 : 1 ≤ m) (h2 : m ≤ 13) : 0 ≤ cum y m ∧ cum y m ≤ 366 := by
  have := lp_01 y
  rcases (show m = 1 ∨ m = 2 ∨ m = 3 ∨ m = 4 ∨ m = 5 ∨ m = 6 ∨ m = 7 ∨ m = 8 ∨ m = 9 ∨ m = 10 ∨ m = 11 ∨ m = 12 ∨ m = 13 by omega) with rfl | rfl | rfl | rfl | rfl | rfl | rfl | rfl | rfl | rfl | rfl | rfl | rfl <;> simp [cum] <;> omega
theorem cum_le (y m : Int) (h1 : 1 ≤ m) (h2 : m ≤ 12) : cum y m + mdays y m ≤ ydays y := by
  have := lp_01 y
  rcases month12 h1 h2 with rfl | rfl | rfl | rfl | rfl | rfl | rfl | rfl | rfl | rfl | rfl | rfl <;> simp [cum, mdays, ydays] <;> omega
theorem cum_up (y a : Int) (h1 : 1 ≤ a) : ∀ k : Nat, a + 1 + k ≤ 13 → cum y (a + 1) ≤ cum y (a + 1 + k)
  | 0, _ => by simp
  | k + 1, h => by
    have ih := cum_up y a h1 k (by omega)
    have e := cum_succ y (a + 1 + k) (by omega) (by omega)
    have := mdays_bd y (a + 1 + k)
    have e2 : a + 1 + ((k + 1 : Nat) : Int) = a + 1 + (k : Int) + 1 := by omega
    rw [e2, e]; omega
theorem cum_mono (y a b : Int) (h1 : 1 ≤ a) (hab : a < b) (h2 : b ≤ 12) : cum y a + mdays y a ≤ cum y b := by
  have h := cum_up y a h1 (b - a - 1).toNat (by omega)
  rw [show a + 1 + (((b - a - 1).toNat : Nat) : Int) = b from by omega, cum_succ y a h1 (by omega)] at h
  exact h
theorem dby_mono (a b : Int) (hab : a < b) : dby a + ydays a ≤ dby b := by
  rw [← dby_succ]; unfold dby; omega

/-- A valid clock. -/
def vClk (Y M D h m s : Int) : Prop := 1900 ≤ Y ∧ Y ≤ 2155 ∧ 1 ≤ M ∧ M ≤ 12 ∧ 1 ≤ D ∧ D ≤ mdays Y M ∧ 0 ≤ h ∧ h ≤ 23 ∧ 0 ≤ m ∧ m ≤ 59 ∧ 0 ≤ s ∧ s ≤ 59
instance (Y M D h m s : Int) : Decidable (vClk Y M D h m s) := by unfold vClk; infer_instance
def vClkB (Y M D h m s : Int) : Bool := decide (vClk Y M D h m s)
theorem vClkB_true {Y M D h m s : Int} : vClkB Y M D h m s = true ↔ vClk Y M D h m s := decide_eq_true_iff
theorem vClkB_false {Y M D h m s : Int} : vClkB Y M D h m s = false ↔ ¬ vClk Y M D h m s := decide_eq_false_iff_not
/-- Seconds since 1970, as if it were UTC. -/
def secs (Y M D h m s : Int) : Int := (dby Y - 719528 + cum Y M + D - 1) * 86400 + h * 3600 + m * 60 + s

theorem secs_lt_year {Y M D h m s Y' M' D' h' m' s' : Int} (v : vClk Y M D h m s) (v' : vClk Y' M' D' h' m' s') (hl : Y < Y') : secs Y M D h m s < secs Y' M' D' h' m' s' := by
  obtain ⟨a1, a2, a3, a4, a5, a6, a7, a8, a9, a10, a11, a12⟩ := v
  obtain ⟨b1, b2, b3, b4, b5, b6, b7, b8, b9, b10, b11, b12⟩ := v'
  have := dby_mono Y Y' hl
  have := cum_le Y M a3 a4
  have := cum_bd Y' M' b3 (by omega)
  unfold secs; omega
theorem secs_lt_month {Y M D h m s M' D' h' m' s' : Int} (v : vClk Y M D h m s) (v' : vClk Y M' D' h' m' s') (hl : M < M') : secs Y M D h m s < secs Y M' D' h' m' s' := by
  obtain ⟨a1, a2, a3, a4, a5, a6, a7, a8, a9, a10, a11, a12⟩ := v
  obtain ⟨b1, b2, b3, b4, b5, b6, b7, b8, b9, b10, b11, b12⟩ := v'
  have := cum_mono Y M M' a3 hl b4
  unfold secs; omega
theorem secs_lt_rest {Y M D h m s D' h' m' s' : Int} (v : vClk Y M D h m s) (v' : vClk Y M D' h' m' s') (hl : D < D' ∨ (D = D' ∧ (h < h' ∨ (h = h' ∧ (m < m' ∨ (m = m' ∧ s < s')))))) : secs Y M D h m s < secs Y M D' h' m' s' := by
  obtain ⟨a1, a2, a3, a4, a5, a6, a7, a8, a9, a10, a11, a12⟩ := v
  obtain ⟨b1, b2, b3, b4, b5, b6, b7, b8, b9, b10, b11, b12⟩ := v'
  unfold secs; omega
/-- The clock of a number of seconds is one. -/
theorem secs_inj {Y M D h m s Y' M' D' h' m' s' : Int} (v : vClk Y M D h m s) (v' : vClk Y' M' D' h' m' s') (e : secs Y M D h m s = secs Y' M' D' h' m' s') :
    Y = Y' ∧ M = M' ∧ D = D' ∧ h = h' ∧ m = m' ∧ s = s' := by
  have hY : Y = Y' := by
    rcases Int.lt_trichotomy Y Y' with hl | hl | hl
    · have := secs_lt_year v v' hl; omega
    · exact hl
    · have := secs_lt_year v' v hl; omega
  subst hY
  have hM : M = M' := by
    rcases Int.lt_trichotomy M M' with hl | hl | hl
    · have := secs_lt_month v v' hl; omega
    · exact hl
    · have := secs_lt_month v' v hl; omega
  subst hM
  obtain ⟨a1, a2, a3, a4, a5, a6, a7, a8, a9, a10, a11, a12⟩ := v
  obtain ⟨b1, b2, b3, b4, b5, b6, b7, b8, b9, b10, b11, b12⟩ := v'
  unfold secs at e
  refine ⟨rfl, rfl, ?_, ?_, ?_, ?_⟩ <;> omega
end Go.Proofs.YtopajpomhflgbaaGreatDoor.Dt
/- Plain laws of bits of int. -/
namespace Go.Proofs.YtopajpomhflgbaaGreatDoor.Dt
set_option linter.unusedSimpArgs false
set_option linter.unusedVariables false

theorem ofInt64 (a : Nat) (ha : a < 9223372036854775808) : (BitVec.ofInt 64 (a : Int)).toNat = a := by
  rw [BitVec.ofInt_natCast, BitVec.toNat_ofNat]; exact Nat.mod_eq_of_lt (by omega)
theorem i64_or_nat (a b : Nat) (ha : a < 9223372036854775808) (hb : b < 9223372036854775808) : bits .or .i64 (a : Int) (b : Int) = ((a ||| b : Nat) : Int) := by
  have hx : a ||| b < 2 ^ 63 := Nat.or_lt_two_pow (by omega) (by omega)
  show IntKind.i64.wrap ((BitVec.ofInt 64 (a : Int) ||| BitVec.ofInt 64 (b : Int)).toNat : Int) = _
  rw [BitVec.toNat_or, ofInt64 a ha, ofInt64 b hb]
  exact IntWalk.i64_in _ (by omega)
theorem i64_and_nat (a b : Nat) (ha : a < 9223372036854775808) (hb : b < 9223372036854775808) : bits .and .i64 (a : Int) (b : Int) = ((a &&& b : Nat) : Int) := by
  have hx : a &&& b < 2 ^ 63 := Nat.and_lt_two_pow _ (by omega)
  show IntKind.i64.wrap ((BitVec.ofInt 64 (a : Int) &&& BitVec.ofInt 64 (b : Int)).toNat : Int) = _
  rw [BitVec.toNat_and, ofInt64 a ha, ofInt64 b hb]
  exact IntWalk.i64_in _ (by omega)
/-- lo | hi<<8 -/
theorem or256 (a b : Int) (h1 : 0 ≤ a) (h2 : a ≤ 255) (h3 : 0 ≤ b) (h4 : b ≤ 255) : bits .or .i64 a (b * 256) = a + 256 * b := by
  obtain ⟨A, rfl⟩ := Int.eq_ofNat_of_zero_le h1
  obtain ⟨B, rfl⟩ := Int.eq_ofNat_of_zero_le h3
  have e : ((B : Int) * 256) = ((B * 256 : Nat) : Int) := by omega
  have h := Nat.shiftLeft_add_eq_or_of_lt (show A < 2 ^ 8 by omega) B
  rw [e, i64_or_nat A (B * 256) (by omega) (by omega), Nat.or_comm]
  rw [Nat.shiftLeft_eq] at h
  have : B * 256 ||| A = B * 256 + A := h.symm
  rw [this]; omega
theorem and4095 (a : Int) (h1 : 0 ≤ a) (h2 : a ≤ 65535) : bits .and .i64 a 4095 = a % 4096 := by
  obtain ⟨A, rfl⟩ := Int.eq_ofNat_of_zero_le h1
  have h := i64_and_nat A 4095 (by omega) (by omega)
  have e : A &&& 4095 = A % 4096 := Nat.and_two_pow_sub_one_eq_mod A 12
  rw [e] at h
  exact h
theorem and4095z (z : Int) (h1 : -1440 ≤ z) (h2 : z ≤ 1440) : bits .and .i64 z 4095 = z % 4096 := by
  show IntKind.i64.wrap ((BitVec.ofInt 64 z &&& BitVec.ofInt 64 ((4095 : Nat) : Int)).toNat : Int) = _
  rw [BitVec.toNat_and, ofInt64 4095 (by omega), BitVec.toNat_ofInt]
  have e : (z % ((2 ^ 64 : Nat) : Int)).toNat &&& 4095 = (z % ((2 ^ 64 : Nat) : Int)).toNat % 4096 := Nat.and_two_pow_sub_one_eq_mod _ 12
  rw [e]
  have h3 : ((2 ^ 64 : Nat) : Int) = 18446744073709551616 := by decide
  rw [h3, IntWalk.i64_in _ (by omega)]
  omega
theorem or4096 (x : Int) (h1 : 0 ≤ x) (h2 : x ≤ 4095) : bits .or .i64 4096 x = 4096 + x := by
  obtain ⟨A, rfl⟩ := Int.eq_ofNat_of_zero_le h1
  have h := Nat.shiftLeft_add_eq_or_of_lt (show A < 2 ^ 12 by omega) 1
  have h3 := i64_or_nat 4096 A (by omega) (by omega)
  have e : 4096 ||| A = 4096 + A := h.symm
  rw [e] at h3
  rw [show (4096 : Int) = ((4096 : Nat) : Int) from rfl, h3]
  omega
end Go.Proofs.YtopajpomhflgbaaGreatDoor.Dt
