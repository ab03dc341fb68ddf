/- A byte of a string's bytes is changed: words for walks. -/
import Derived.Test.YtjbhokmkmapkoaaGreatDoorC43
import Derived.Test.YtjbhokmkmapkoaaGreatDoorC34
namespace Go.Proofs.YtjbhokmkmapkoaaGreatDoor
set_option linter.unusedSimpArgs false
set_option linter.unusedVariables false
open Go.RowKit
open Go.PlainAid (bt get_bt bt_nonneg bt_le bt_end)

theorem difN7 (s : ByteArray) (h : s.size ≤ 100000) (W : World) : Calls Tryz.prog 20 #[.string s] W fun e w' => (∃ v, e = .returned v ∧ ReadsN w' v (difD s)) ∧ Below W.heap.size W w' :=
  (differ_any s h W).mono fun _ _ ⟨v, h1, h2, h3⟩ => ⟨⟨v, h1, ReadsN.of h2⟩, h3⟩
theorem eqN7 (L : List Nat) (hL : L.length ≤ 8) (a b : Value) (W : World) (ha : ReadsN W a L) (hb : ReadsN W b L) : Calls Tryz.prog 19 #[a, b] W fun e w' => e = .returned (.bool true) ∧ Below W.heap.size W w' := by
  have h := equal_any L L a b (by omega) (by omega) W ha hb
  rwa [decide_eq_true rfl] at h
theorem eqlD7 (d : DR) (W : World) : (binOp .eql 27 (.agg d.cells) (.agg d.cells)).run Tryz.prog W = .ok (.bool true) W := by
  have h := eqlD d d W
  rwa [decide_eq_true rfl] at h
theorem bits_x8 (y : UInt8) (x : Nat) (hx : x ≤ 255) : bits .xor .u8 (y.toNat : Int) (x : Int) = ((y ^^^ UInt8.ofNat x).toNat : Int) := by
  show IntKind.u8.wrap ((BitVec.ofInt 8 (y.toNat : Int) ^^^ BitVec.ofInt 8 (x : Int)).toNat : Int) = _
  have hy := y.toNat_lt
  have e : (BitVec.ofInt 8 (y.toNat : Int) ^^^ BitVec.ofInt 8 (x : Int)).toNat = (y ^^^ UInt8.ofNat x).toNat := by
    rw [BitVec.toNat_xor, BitVec.ofInt_natCast, BitVec.ofInt_natCast, BitVec.toNat_ofNat, BitVec.toNat_ofNat, UInt8.toNat_xor, UInt8.toNat_ofNat', Nat.mod_eq_of_lt (by omega)]
  rw [e]
  have := (y ^^^ UInt8.ofNat x).toNat_lt
  exact IntWalk.u8_in _ (by omega)
theorem x8_ne (y : UInt8) (x : Nat) (hx : x ≤ 255) (h0 : x ≠ 0) : y ^^^ UInt8.ofNat x ≠ y := by
  intro h
  have h1 : y ^^^ (y ^^^ UInt8.ofNat x) = y ^^^ y := by rw [h]
  rw [← UInt8.xor_assoc, UInt8.xor_self, UInt8.zero_xor] at h1
  have := congrArg UInt8.toNat h1
  rw [UInt8.toNat_ofNat', Nat.mod_eq_of_lt (by omega)] at this
  exact h0 this
theorem cvs (s : ByteArray) (W : World) : (convert 9 48 (.string s)).run Tryz.prog W = .ok (.slice (some ⟨W.heap.size, 0, none⟩) s.size (grownCap W s.size 0 5)) (Lib.bytesWorld W 5 s) :=
  Lib.run_convert_string_bytes W 9 48 5 s Tryz.underlying9 Tryz.underlying48 Tryz.underlying5
theorem len_l (s : ByteArray) : s.data.toList.length = s.size := Array.length_toList
theorem BB.chg {w : World} {g cap i n : Nat} {s : ByteArray} {x : UInt8} (h : BB w g (s.data.toList.set i x)) (hn : n = s.size) : (convert 48 9 (.slice (some ⟨g, 0, none⟩) n cap)).run Tryz.prog w = .ok (.string (chg s i x)) w :=
  h.conv (by rw [List.length_set, len_l]; exact hn)
theorem bt_at2 (s : ByteArray) (i : Nat) (h : i < s.data.toList.length) : bt s i = (s.data.toList[i].toNat : Int) := by
  rw [bt_get, List.getElem?_eq_getElem h]
end Go.Proofs.YtjbhokmkmapkoaaGreatDoor
