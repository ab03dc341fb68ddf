/- Plain laws of bits of int. -/
import Derived.WalkKit
import Derived.PlainAid
namespace Go.Proofs.YtkkkfbhpphngmaaDoor
set_option linter.unusedSimpArgs false
set_option linter.unusedVariables false

theorem ofInt64 (a : Nat) (ha : a < 9223372036854775808) : (BitVec.ofInt 64 (a : Int)).toNat = a := by
  rw [BitVec.ofInt_natCast, BitVec.toNat_ofNat]; exact Nat.mod_eq_of_lt (by omega)
theorem i64_or_nat (a b : Nat) (ha : a < 9223372036854775808) (hb : b < 9223372036854775808) : bits .or .i64 (a : Int) (b : Int) = ((a ||| b : Nat) : Int) := by
  have hx : a ||| b < 2 ^ 63 := Nat.or_lt_two_pow (by omega) (by omega)
  show IntKind.i64.wrap ((BitVec.ofInt 64 (a : Int) ||| BitVec.ofInt 64 (b : Int)).toNat : Int) = _
  rw [BitVec.toNat_or, ofInt64 a ha, ofInt64 b hb]
  exact IntWalk.i64_in _ (by omega)
theorem i64_and_nat (a b : Nat) (ha : a < 9223372036854775808) (hb : b < 9223372036854775808) : bits .and .i64 (a : Int) (b : Int) = ((a &&& b : Nat) : Int) := by
  have hx : a &&& b < 2 ^ 63 := Nat.and_lt_two_pow _ (by omega)
  show IntKind.i64.wrap ((BitVec.ofInt 64 (a : Int) &&& BitVec.ofInt 64 (b : Int)).toNat : Int) = _
  rw [BitVec.toNat_and, ofInt64 a ha, ofInt64 b hb]
  exact IntWalk.i64_in _ (by omega)
/-- lo | hi<<8 -/
theorem or256 (a b : Int) (h1 : 0 ≤ a) (h2 : a ≤ 255) (h3 : 0 ≤ b) (h4 : b ≤ 255) : bits .or .i64 a (b * 256) = a + 256 * b := by
  obtain ⟨A, rfl⟩ := Int.eq_ofNat_of_zero_le h1
  obtain ⟨B, rfl⟩ := Int.eq_ofNat_of_zero_le h3
  have e : ((B : Int) * 256) = ((B * 256 : Nat) : Int) := by omega
  have h := Nat.shiftLeft_add_eq_or_of_lt (show A < 2 ^ 8 by omega) B
  rw [e, i64_or_nat A (B * 256) (by omega) (by omega), Nat.or_comm]
  rw [Nat.shiftLeft_eq] at h
  have : B * 256 ||| A = B * 256 + A := h.symm
  rw [this]; omega
theorem and4095 (a : Int) (h1 : 0 ≤ a) (h2 : a ≤ 65535) : bits .and .i64 a 4095 = a % 4096 := by
  obtain ⟨A, rfl⟩ := Int.eq_ofNat_of_zero_le h1
  have h := i64_and_nat A 4095 (by omega) (by omega)
  have e : A &&& 4095 = A % 4096 := Nat.and_two_pow_sub_one_eq_mod A 12
  rw [e] at h
  exact h
theorem and4095z (z : Int) (h1 : -1440 ≤ z) (h2 : z ≤ 1440) : bits .and .i64 z 4095 = z % 4096 := by
  show IntKind.i64.wrap ((BitVec.ofInt 64 z &&& BitVec.ofInt 64 ((4095 : Nat) : Int)).toNat : Int) = _
  rw [BitVec.toNat_and, ofInt64 4095 (by omega), BitVec.toNat_ofInt]
  have e : (z % ((2 ^ 64 : Nat) : Int)).toNat &&& 4095 = (z % ((2 ^ 64 : Nat) : Int)).toNat % 4096 := Nat.and_two_pow_sub_one_eq_mod _ 12
  rw [e]
  have h3 : ((2 ^ 64 : Nat) : Int) = 18446744073709551616 := by decide
  rw [h3, IntWalk.i64_in _ (by omega)]
  omega
theorem or4096 (x : Int) (h1 : 0 ≤ x) (h2 : x ≤ 4095) : bits .or .i64 4096 x = 4096 + x := by
  obtain ⟨A, rfl⟩ := Int.eq_ofNat_of_zero_le h1
  have h := Nat.shiftLeft_add_eq_or_of_lt (show A < 2 ^ 12 by omega) 1
  have h3 := i64_or_nat 4096 A (by omega) (by omega)
  have e : 4096 ||| A = 4096 + A := h.symm
  rw [e] at h3
  rw [show (4096 : Int) = ((4096 : Nat) : Int) from rfl, h3]
  omega
end Go.Proofs.YtkkkfbhpphngmaaDoor
