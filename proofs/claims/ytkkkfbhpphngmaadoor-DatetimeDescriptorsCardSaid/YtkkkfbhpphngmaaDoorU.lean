/- Contracts of the digits' readers: the function literal of ReadDescriptor and the reference's number. -/
import Derived.Test.YtkkkfbhpphngmaaDoorR2
import Derived.Test.YtkkkfbhpphngmaaDoorJ
namespace Go.Proofs.YtkkkfbhpphngmaaDoor
set_option linter.unusedSimpArgs false
set_option linter.unusedVariables false
open Go.RowKit
open Go.PlainAid (bt get_bt bt_nonneg bt_le)

def Dig (s : ByteArray) (m : Nat) : Prop := 48 ≤ bt s m ∧ bt s m ≤ 57
def DigTo (s : ByteArray) (i : Nat) : Prop := ∀ m, m < i → Dig s m
theorem DigTo.zero (s : ByteArray) : DigTo s 0 := fun m h => by omega
theorem DigTo.succ {s : ByteArray} {i : Nat} (h : DigTo s i) (h1 : 48 ≤ bt s i) (h2 : bt s i ≤ 57) : DigTo s (i + 1) := fun m hm => by
  rcases Nat.lt_or_ge m i with h' | h'
  · exact h m h'
  · obtain rfl : m = i := by omega
    exact ⟨h1, h2⟩
def num2 (s : ByteArray) (i : Nat) : Int := 10 * (bt s i - 48) + (bt s (i + 1) - 48)
def num4 (s : ByteArray) (i : Nat) : Int := 1000 * (bt s i - 48) + 100 * (bt s (i + 1) - 48) + 10 * (bt s (i + 2) - 48) + (bt s (i + 3) - 48)

theorem bt_extract (s : ByteArray) (a b j : Nat) (hb : b ≤ s.size) (hj : a + j < b) : bt (s.extract a b) j = bt s (a + j) := by
  have h1 : j < (s.extract a b).size := by simp; omega
  have h2 : a + j < s.size := by omega
  unfold bt
  rw [dif_pos h1, dif_pos h2, ByteArray.getElem_extract]
theorem bt_list (s : ByteArray) : s.data.toList = (List.range s.size).map (fun j => UInt8.ofNat (bt s j).toNat) := by
  apply List.ext_getElem
  · simp
  · intro n h1 h2
    have h : n < s.size := by simpa using h1
    simp only [List.getElem_map, List.getElem_range]
    unfold bt
    rw [dif_pos h]
    simp
    rfl
theorem digU (v : Int) (h : 48 ≤ v ∧ v ≤ 57) : (UInt8.ofNat v.toNat).toNat = v.toNat := by
  rw [UInt8.toNat_ofNat']; omega
theorem atoi2 (s : ByteArray) (hs : s.size = 2) (h0 : Dig s 0) (h1 : Dig s 1) : Lib.atoiAll s.data.toList = .ok (num2 s 0) := by
  have e : s.data.toList = [UInt8.ofNat (bt s 0).toNat, UInt8.ofNat (bt s 1).toNat] := by rw [bt_list, hs]; rfl
  rw [e]
  obtain ⟨a0, a1⟩ := h0
  obtain ⟨b0, b1⟩ := h1
  have u0 := digU (bt s 0) ⟨a0, a1⟩
  have u1 := digU (bt s 1) ⟨b0, b1⟩
  simp only [Lib.atoiAll, Lib.parseMag, Lib.parseUint10, u0, u1]
  rw [if_neg (show ¬ ((bt s 0).toNat = 43 ∨ (bt s 0).toNat = 45) by omega), if_neg (List.cons_ne_nil _ _)]
  simp only [Lib.parseUint10, u0, u1]
  rw [if_pos (by omega), if_neg (by omega), if_neg (by omega), if_pos (by omega), if_neg (by omega), if_neg (by omega)]
  simp only
  rw [if_neg (by omega), if_neg (by omega), if_neg (by omega)]
  congr 1
  simp only [num2, Nat.zero_add]
  omega
theorem atoi4 (s : ByteArray) (hs : s.size = 4) (h0 : Dig s 0) (h1 : Dig s 1) (h2 : Dig s 2) (h3 : Dig s 3) : Lib.atoiAll s.data.toList = .ok (num4 s 0) := by
  have e : s.data.toList = [UInt8.ofNat (bt s 0).toNat, UInt8.ofNat (bt s 1).toNat, UInt8.ofNat (bt s 2).toNat, UInt8.ofNat (bt s 3).toNat] := by rw [bt_list, hs]; rfl
  rw [e]
  obtain ⟨a0, a1⟩ := h0
  obtain ⟨b0, b1⟩ := h1
  obtain ⟨c0, c1⟩ := h2
  obtain ⟨d0, d1⟩ := h3
  have u0 := digU (bt s 0) ⟨a0, a1⟩
  have u1 := digU (bt s 1) ⟨b0, b1⟩
  have u2 := digU (bt s 2) ⟨c0, c1⟩
  have u3 := digU (bt s 3) ⟨d0, d1⟩
  simp only [Lib.atoiAll, Lib.parseMag, Lib.parseUint10, u0, u1, u2, u3]
  rw [if_neg (show ¬ ((bt s 0).toNat = 43 ∨ (bt s 0).toNat = 45) by omega), if_neg (List.cons_ne_nil _ _)]
  simp only [Lib.parseUint10, u0, u1, u2, u3]
  rw [if_pos (by omega), if_neg (by omega), if_neg (by omega), if_pos (by omega), if_neg (by omega), if_neg (by omega), if_pos (by omega), if_neg (by omega), if_neg (by omega), if_pos (by omega), if_neg (by omega), if_neg (by omega)]
  simp only
  rw [if_neg (by omega), if_neg (by omega), if_neg (by omega)]
  congr 1
  simp only [num4, Nat.zero_add]
  omega

theorem below_bytesWorld {w w' : World} {T : TypeId} (h : w' = w ∨ ∃ t, w' = Lib.bytesWorld w T t) : Below w.heap.size w w' := by
  rcases h with rfl | ⟨t, rfl⟩
  · exact Below.refl _ _
  · exact Lib.bytesWorld_below _ _ _

theorem atoi_2 (s : ByteArray) (hs : s.size = 2) (h0 : Dig s 0) (h1 : Dig s 1) (w : World) : Calls Tryd.prog 51 #[.string s] w fun e w' => e = .returned (.tuple #[.int .i64 (num2 s 0), .nilIface]) ∧ Below w.heap.size w w' :=
  (Any.strconv_Atoi_ok Tryd.laysC172 s (by omega) _ (atoi2 s hs h0 h1) w).mono fun e w' ⟨he, hw⟩ => ⟨he, below_bytesWorld hw⟩
theorem atoi_4 (s : ByteArray) (hs : s.size = 4) (h0 : Dig s 0) (h1 : Dig s 1) (h2 : Dig s 2) (h3 : Dig s 3) (w : World) : Calls Tryd.prog 51 #[.string s] w fun e w' => e = .returned (.tuple #[.int .i64 (num4 s 0), .nilIface]) ∧ Below w.heap.size w w' :=
  (Any.strconv_Atoi_ok Tryd.laysC172 s (by omega) _ (atoi4 s hs h0 h1 h2 h3) w).mono fun e w' ⟨he, hw⟩ => ⟨he, below_bytesWorld hw⟩

set_option maxHeartbeats 1000000 in
theorem rnum_2 (s : ByteArray) (hs : s.size = 2) (h0 : Dig s 0) (h1 : Dig s 1) (w : World) : Calls Tryd.prog 53 #[.string s] w fun e w' => e = .returned (.int .i64 (num2 s 0)) ∧ w = w' := by
  have hg := get_bt s
  obtain ⟨a0, a1⟩ := h0
  obtain ⟨b0, b1⟩ := h1
  have HL : Live w [] := trivial
  go_enter Tryd.func53, Tryd.ntmps53
  go_wp2
  refine wp_loop_rounds 3 ?_
  repeat any_goals (rw [rounds_succ]; go_wp2)
  go_ret
  exact ⟨ret_i (by simp only [num2, Nat.zero_add]; omega), rfl⟩
set_option maxHeartbeats 1000000 in
theorem rnum_4 (s : ByteArray) (hs : s.size = 4) (h0 : Dig s 0) (h1 : Dig s 1) (h2 : Dig s 2) (h3 : Dig s 3) (w : World) : Calls Tryd.prog 53 #[.string s] w fun e w' => e = .returned (.int .i64 (num4 s 0)) ∧ w = w' := by
  have hg := get_bt s
  obtain ⟨a0, a1⟩ := h0
  obtain ⟨b0, b1⟩ := h1
  obtain ⟨c0, c1⟩ := h2
  obtain ⟨d0, d1⟩ := h3
  have HL : Live w [] := trivial
  go_enter Tryd.func53, Tryd.ntmps53
  go_wp2
  refine wp_loop_rounds 5 ?_
  repeat any_goals (rw [rounds_succ]; go_wp2)
  go_ret
  exact ⟨ret_i (by simp only [num4, Nat.zero_add]; omega), rfl⟩
end Go.Proofs.YtkkkfbhpphngmaaDoor
