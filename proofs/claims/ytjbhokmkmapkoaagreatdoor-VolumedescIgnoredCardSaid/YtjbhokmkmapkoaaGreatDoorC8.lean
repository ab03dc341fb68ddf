/- Contracts and plain words for the laws of volume descriptors, part 8: KI, KJ, KU, KW. No condition. -/
import Derived.Test.YtjbhokmkmapkoaaGreatDoorRows
import Derived.Test.YtjbhokmkmapkoaaGreatDoorC7
import Derived.Test.YtjbhokmkmapkoaaGreatDoorC5
import Derived.Test.YtjbhokmkmapkoaaGreatDoorC6
namespace Go.Proofs.YtjbhokmkmapkoaaGreatDoor.Dt
set_option linter.unusedSimpArgs false
set_option linter.unusedVariables false
open Go.RowKit
/-- The name of the table that Itoa reads: the first of those that the rows name. -/
def tabName : String := Rows.volumedescEncodesRow.named.getD 2 Rows.volumedescEncodesRow.func
/-- The table holds the powers of ten. -/
def Tab (w : World) : Prop := Lib.TabIs Tryz.prog w tabName .u64 Lib.pow10Tab
theorem tabG : Tryz.prog.globalNamed tabName = some 5 := by kernel_rfl
theorem Tab.lt {w : World} (h : Tab w) : 5 < w.heap.size := by
  rcases Nat.lt_or_ge 5 w.heap.size with h' | h'
  · exact h'
  · unfold Tab Lib.TabIs World.var? at h
    rw [tabG] at h
    simp only [Option.bind_some] at h
    rw [Array.getElem?_eq_none h'] at h
    cases h
theorem Tab.below {w w' : World} (h : Tab w) (hb : Below w.heap.size w w') : Tab w' := var?_below hb tabG h.lt h
theorem below_grow (w : World) (k : Nat) (os : Array Obj) : Below w.heap.size w (Go.Sort.grow (w.drewN k) os) := by
  refine ⟨rfl, rfl, rfl, ?_, ?_⟩
  · show w.heap.size ≤ (w.heap ++ os).size
    simp
  · intro i hi
    show (w.heap ++ os)[i]? = _
    rw [Array.getElem?_append_left hi]
def dig2 (n : Int) : List UInt8 := [UInt8.ofNat (48 + n / 10).toNat, UInt8.ofNat (48 + n % 10).toNat]
def dig4 (n : Int) : List UInt8 := [UInt8.ofNat (48 + n / 1000).toNat, UInt8.ofNat (48 + n / 100 % 10).toNat, UInt8.ofNat (48 + n / 10 % 10).toNat, UInt8.ofNat (48 + n % 10).toNat]
theorem dec2 (i : Nat) (h : i < 100) : (if i < 10 then [UInt8.ofNat 48] ++ Lib.decDigits i else Lib.decDigits i) = dig2 i := by
  have h0 : ∀ k : Fin 100, (if k.val < 10 then [UInt8.ofNat 48] ++ Lib.decDigits k.val else Lib.decDigits k.val) = dig2 ((k.val : Nat) : Int) := by decide +kernel
  exact h0 ⟨i, h⟩
theorem itoa4 (y : Int) (h0 : 1900 ≤ y) (h1 : y ≤ 2155) : Lib.itoa y = dig4 y := by
  have h : ∀ k : Fin 256, Lib.itoa (1900 + ((k.val : Nat) : Int)) = dig4 (1900 + ((k.val : Nat) : Int)) := by decide +kernel
  have := h ⟨(y - 1900).toNat, by omega⟩
  rwa [show 1900 + ((((y - 1900).toNat : Nat)) : Int) = y from by omega] at this
def ch (n : Int) : UInt8 := UInt8.ofNat n.toNat
theorem itoa_1 (n : Int) (h0 : 0 ≤ n) (h1 : n < 10) (w : World) : Calls Tryz.prog 142 #[.int .i64 n] w fun e w' => e = .returned (.string ⟨#[UInt8.ofNat (48 + n % 10).toNat]⟩) ∧ w = w' := by
  obtain ⟨i, rfl⟩ := Int.eq_ofNat_of_zero_le h0
  refine (Any.strconv_Itoa_small Tryz.lays171 i (by omega) w).mono fun e w' ⟨he, hw⟩ => ⟨?_, hw.symm⟩
  rw [he]
  have : Lib.decDigits i = [UInt8.ofNat (48 + (i : Int) % 10).toNat] := by
    rw [Lib.decDigits, dif_pos (by omega), show (48 + (i : Int) % 10).toNat = 48 + i from by omega]
  rw [this]
theorem itoa_2 (n : Int) (h0 : 10 ≤ n) (h1 : n < 100) (w : World) : Calls Tryz.prog 142 #[.int .i64 n] w fun e w' => e = .returned (.string ⟨#[UInt8.ofNat (48 + n / 10).toNat, UInt8.ofNat (48 + n % 10).toNat]⟩) ∧ w = w' := by
  obtain ⟨i, rfl⟩ := Int.eq_ofNat_of_zero_le (show 0 ≤ n by omega)
  refine (Any.strconv_Itoa_small Tryz.lays171 i (by omega) w).mono fun e w' ⟨he, hw⟩ => ⟨?_, hw.symm⟩
  rw [he]
  have h := dec2 i (by omega)
  rw [if_neg (by omega)] at h
  rw [h]; rfl
theorem itoa_4 (n : Int) (h0 : 1900 ≤ n) (h1 : n ≤ 2155) (w : World) (ht : Tab w) : Calls Tryz.prog 142 #[.int .i64 n] w fun e w' => e = .returned (.string ⟨#[UInt8.ofNat (48 + n / 1000).toNat, UInt8.ofNat (48 + n / 100 % 10).toNat, UInt8.ofNat (48 + n / 10 % 10).toNat, UInt8.ofNat (48 + n % 10).toNat]⟩) ∧ Below w.heap.size w w' := by
  refine (Any.strconv_Itoa Tryz.laysM171 n (by omega) (by omega) w ht).mono fun e w' ⟨he, k, os, hw⟩ => ⟨?_, ?_⟩
  · rw [he, itoa4 n h0 h1]; rfl
  · rw [hw]; exact below_grow w k os
set_option maxHeartbeats 1000000 in
theorem digits2 (n : Int) (h0 : 0 ≤ n) (h1 : n < 100) (w : World) : Calls Tryz.prog 85 #[.int .i64 n, .int .i64 2] w fun e w' => e = .returned (.string ⟨(dig2 n).toArray⟩) ∧ w = w' := by
  by_cases h : n < 10
  · have HL : Live w [] := trivial
    go_enter Tryz.func85, Tryz.ntmps85
    go_wp2_with (first | (go_at_call 142; (with_reducible refine (itoa_1 _ (by omega) (by omega) _).mono ?_); rintro e w' ⟨rfl, rfl⟩))
    refine wp_loop_rounds 2 ?_
    repeat any_goals (rw [rounds_succ]; go_wp2)
    go_ret
    exact ⟨by have e : n / 10 = 0 := by omega
              simp [dig2, e]
              rfl, rfl⟩
  · have HL : Live w [] := trivial
    go_enter Tryz.func85, Tryz.ntmps85
    go_wp2_with (first | (go_at_call 142; (with_reducible refine (itoa_2 _ (by omega) (by omega) _).mono ?_); rintro e w' ⟨rfl, rfl⟩))
    refine wp_loop_rounds 2 ?_
    repeat any_goals (rw [rounds_succ]; go_wp2)
    go_ret
    exact ⟨rfl, rfl⟩
set_option maxHeartbeats 1000000 in
theorem digits4 (n : Int) (h0 : 1900 ≤ n) (h1 : n ≤ 2155) (w : World) (ht : Tab w) : Calls Tryz.prog 85 #[.int .i64 n, .int .i64 4] w fun e w' => e = .returned (.string ⟨(dig4 n).toArray⟩) ∧ Below w.heap.size w w' := by
  have HL : Live w [] := trivial
  go_enter Tryz.func85, Tryz.ntmps85
  go_wp2_with (first | (go_at_call 142; (with_reducible refine (itoa_4 _ (by omega) (by omega) _ (by assumption)).mono ?_); rintro e w' ⟨rfl, hb⟩; have hz := hb.size; (try simp only [SZ, Nat.reduceAdd] at hz); (first | obtain ⟨HL, hk⟩ := HL.callA hb hz | obtain ⟨HL, hk⟩ := HL.call0A hb hz); (try simp only [addN, Nat.add_zero] at HL hk); have hl := HL; simp only [Live] at hl; (try simp only [Kept] at hk)))
  refine wp_loop_rounds 2 ?_
  repeat any_goals (rw [rounds_succ]; go_wp2)
  go_ret
  exact ⟨rfl, by (exact bl)⟩
def descS (Y M D h m s q : Int) : ByteArray := ⟨(dig4 Y).toArray⟩ ++ ⟨(dig2 M).toArray⟩ ++ ⟨(dig2 D).toArray⟩ ++ ⟨(dig2 h).toArray⟩ ++ ⟨(dig2 m).toArray⟩ ++ ⟨(dig2 s).toArray⟩ ++ ⟨#[48, 48]⟩ ++ ⟨#[zby q]⟩
def DescP (L q : Int) (w : World) (e : Ending) (w' : World) : Prop :=
  ∃ Y M D h m s : Int, e = .returned (.tuple #[.string (descS Y M D h m s q), .int .i64 0]) ∧ vClk Y M D h m s ∧ secs Y M D h m s = L ∧ Below w.heap.size w w'
set_option maxHeartbeats 400000 in
theorem desc_no (t z : Int) (hb : (timeB t && quarterB z) = false) (w : World) :
    Calls Tryz.prog 37 #[.int .i64 t, .int .i64 z] w fun e w' => e = .returned (.tuple #[.string ⟨#[]⟩, .int .i64 2]) ∧ Below w.heap.size w w' := by
  have hn := tz_no hb
  have H := hide hb
  clear hb
  rcases hn with hn | ⟨hn, hq⟩
  · have HL : Live w [] := trivial
    go_enter Tryz.func37, Tryz.ntmps37
    go_wp2_with (first | (go_at_call 83; (with_reducible refine (split_no _ _ (by assumption) _).mono ?_); rintro e w' ⟨rfl, hb⟩; have hz := hb.size; (try simp only [SZ, Nat.reduceAdd] at hz); (first | obtain ⟨HL, hk⟩ := HL.callA hb hz | obtain ⟨HL, hk⟩ := HL.call0A hb hz); (try simp only [addN, Nat.add_zero] at HL hk); have hl := HL; simp only [Live] at hl; (try simp only [Kept] at hk)) | (go_at_call 84; (with_reducible refine (isQuarter_any _ _).mono ?_); rintro e w' ⟨rfl, rfl⟩))
    go_ret2
    exact ⟨rfl, by (exact bl)⟩
  · have ht := timeB_true.1 (by simp only [Bool.and_eq_true] at hn; exact hn.1)
    have hz := zoneB_true.1 (by simp only [Bool.and_eq_true] at hn; exact hn.2)
    clear hn
    have HL : Live w [] := trivial
    go_enter Tryz.func37, Tryz.ntmps37
    go_wp2_with (first | (go_at_call 83; (with_reducible refine (split_yes _ _ (by omega) (by omega) _).mono ?_); rintro e w' ⟨cY, cM, cD, ch, cm, cs, rfl, hv, hq, hb⟩; have hvv := hv; unfold vClk at hvv; have hmd := mdays_bd cY cM; have hQ := hide hq; clear hq; have hz := hb.size; (try simp only [SZ, Nat.reduceAdd] at hz); (first | obtain ⟨HL, hk⟩ := HL.callA hb hz | obtain ⟨HL, hk⟩ := HL.call0A hb hz); (try simp only [addN, Nat.add_zero] at HL hk); have hl := HL; simp only [Live] at hl; (try simp only [Kept] at hk)) | (go_at_call 84; (with_reducible refine (isQuarter_any _ _).mono ?_); rintro e w' ⟨rfl, rfl⟩))
    go_ret2
    exact ⟨rfl, by (exact bl)⟩
theorem dig2_zero : (⟨(dig2 0).toArray⟩ : ByteArray) = ⟨#[48, 48]⟩ := by decide
set_option maxHeartbeats 2000000 in
theorem desc_yes (t q : Int) (ht : 315532800 ≤ t ∧ t ≤ 4102444799) (hq : -48 ≤ q ∧ q ≤ 52) (w : World) (hT : Tab w) :
    Calls Tryz.prog 37 #[.int .i64 t, .int .i64 (15 * q)] w (DescP (t + 60 * (15 * q)) q w) := by
  have qb : quarterB (15 * q) = true := by rw [quarterB_mul]; exact decide_eq_true hq
  have td := tdiv15 q
  have cv := fun (W : World) (x0 : Int) => conv_at (P := Tryz.prog) 48 9 5 Tryz.underlying48 Tryz.underlying5 Tryz.underlying9 W 5 [x0] #[.int .u8 x0] rfl 1 1 rfl
  have s2 : ∀ n, ByteArray.size ⟨(dig2 n).toArray⟩ = 2 := fun _ => rfl
  have s4 : ∀ n, ByteArray.size ⟨(dig4 n).toArray⟩ = 4 := fun _ => rfl
  have HL : Live w [] := trivial
  go_enter Tryz.func37, Tryz.ntmps37
  go_wp2_with fail
  (first | ((with_reducible refine (split_yes _ _ (by omega) (by omega) _).mono ?_); rintro e w1 ⟨cY, cM, cD, ch, cm, cs, rfl, hv, hq, hb⟩; have hvv := hv; unfold vClk at hvv; have hmd := mdays_bd cY cM; have hQ := hide hq; clear hq; have hz := hb.size; (try simp only [SZ, Nat.reduceAdd] at hz); (first | obtain ⟨HL, hk⟩ := HL.callA hb hz | obtain ⟨HL, hk⟩ := HL.call0A hb hz); (try simp only [addN, Nat.add_zero] at HL hk); have hl := HL; simp only [Live] at hl; (try simp only [Kept] at hk)))
  have hT1 : Tab (w1.alloc (.cells #[.int .i64 cY, .int .i64 cM, .int .i64 cD, .int .i64 ch, .int .i64 cm, .int .i64 cs] 110)) := (hT.below hb).below (Below.alloc (Below.refl _ _) (Nat.le_refl _) _)
  go_wp2_with (first | (go_at_call 84; (with_reducible refine (isQuarter_any _ _).mono ?_); rintro e w' ⟨rfl, rfl⟩) | (go_at_call 85; (with_reducible refine (digits4 _ (by omega) (by omega) _ (by assumption)).mono ?_); rintro e w' ⟨rfl, hb⟩; have hz := hb.size; (try simp only [SZ, Nat.reduceAdd] at hz); (first | obtain ⟨HL, hk⟩ := HL.callA hb hz | obtain ⟨HL, hk⟩ := HL.call0A hb hz); (try simp only [addN, Nat.add_zero] at HL hk); have hl := HL; simp only [Live] at hl; (try simp only [Kept] at hk)))
  refine wp_loop_rounds 7 ?_
  repeat any_goals (rw [rounds_succ]; go_wp2_with (first | (go_at_call 85; (with_reducible refine (digits2 _ (by omega) (by omega) _).mono ?_); rintro e w' ⟨rfl, rfl⟩)))
  go_ret2
  exact ⟨cY, cM, cD, ch, cm, cs, by first | rfl | (rw [descS, ← dig2_zero]; rfl), hv, hQ.out, by (exact bl)⟩
end Go.Proofs.YtjbhokmkmapkoaaGreatDoor.Dt
namespace Go.Proofs.YtjbhokmkmapkoaaGreatDoor.Dt
set_option linter.unusedSimpArgs false
set_option linter.unusedVariables false
open Go.RowKit
theorem Tab.alloc {w : World} (h : Tab w) (o : Obj) : Tab (w.alloc o) := h.below (Below.alloc (Below.refl _ _) (Nat.le_refl _) _)
theorem record_at (t z q : Int) (Y M D h m s : Int) (hv : vClk Y M D h m s) (he : secs Y M D h m s = t + 60 * z) (ht : 315532800 ≤ t ∧ t ≤ 4102444799) (hq : z = 15 * q) (hr : -48 ≤ q ∧ q ≤ 52) (w : World) :
    Calls Tryz.prog 77 #[.int .i64 t, .int .i64 z] w fun e w' => e = .returned (.tuple #[.string (recS Y M D h m s q), .int .i64 0]) ∧ Below w.heap.size w w' := by
  subst hq
  refine (record_yes t q ht hr w).mono fun e w' ⟨cY, cM, cD, ch, cm, cs, h1, h2, h3, h4⟩ => ?_
  obtain ⟨rfl, rfl, rfl, rfl, rfl, rfl⟩ := secs_inj hv h2 (he.trans h3.symm)
  exact ⟨h1, h4⟩
theorem rrecord_at (t z q : Int) (Y M D h m s : Int) (hv : vClk Y M D h m s) (he : secs Y M D h m s = t + 60 * z) (ht : 315532800 ≤ t ∧ t ≤ 4102444799) (hq : z = 15 * q) (hr : -48 ≤ q ∧ q ≤ 52) (w : World) :
    Calls Tryz.prog 90 #[.int .i64 t, .int .i64 z] w fun e w' => e = .returned (.tuple #[.string (recS Y M D h m s q), .int .i64 0]) ∧ Below w.heap.size w w' := by
  subst hq
  refine (rrecord_yes t q ht hr w).mono fun e w' ⟨cY, cM, cD, ch, cm, cs, h1, h2, h3, h4⟩ => ?_
  obtain ⟨rfl, rfl, rfl, rfl, rfl, rfl⟩ := secs_inj hv h2 (he.trans h3.symm)
  exact ⟨h1, h4⟩
set_option maxHeartbeats 400000 in
theorem unspec_any (w : World) : Calls Tryz.prog 38 #[] w fun e w' => e = .returned (.string ⟨#[48, 48, 48, 48, 48, 48, 48, 48, 48, 48, 48, 48, 48, 48, 48, 48, 0]⟩) ∧ w = w' := by
  have HL : Live w [] := trivial
  go_enter Tryz.func38, Tryz.ntmps38
  go_wp2
  go_ret
  exact ⟨rfl, rfl⟩
end Go.Proofs.YtjbhokmkmapkoaaGreatDoor.Dt
namespace Go.Proofs.YtjbhokmkmapkoaaGreatDoor.Dt
set_option linter.unusedSimpArgs false
set_option linter.unusedVariables false
open Go.RowKit
open Go.PlainAid (bt get_bt bt_nonneg bt_le)
def Dig (s : ByteArray) (m : Nat) : Prop := 48 ≤ bt s m ∧ bt s m ≤ 57
def DigTo (s : ByteArray) (i : Nat) : Prop := ∀ m, m < i → Dig s m
theorem DigTo.zero (s : ByteArray) : DigTo s 0 := fun m h => by omega
theorem DigTo.succ {s : ByteArray} {i : Nat} (h : DigTo s i) (h1 : 48 ≤ bt s i) (h2 : bt s i ≤ 57) : DigTo s (i + 1) := fun m hm => by
  rcases Nat.lt_or_ge m i with h' | h'
  · exact h m h'
  · obtain rfl : m = i := by omega
    exact ⟨h1, h2⟩
def num2 (s : ByteArray) (i : Nat) : Int := 10 * (bt s i - 48) + (bt s (i + 1) - 48)
def num4 (s : ByteArray) (i : Nat) : Int := 1000 * (bt s i - 48) + 100 * (bt s (i + 1) - 48) + 10 * (bt s (i + 2) - 48) + (bt s (i + 3) - 48)
theorem bt_extract (s : ByteArray) (a b j : Nat) (hb : b ≤ s.size) (hj : a + j < b) : bt (s.extract a b) j = bt s (a + j) := by
  have h1 : j < (s.extract a b).size := by simp; omega
  have h2 : a + j < s.size := by omega
  unfold bt
  rw [dif_pos h1, dif_pos h2, ByteArray.getElem_extract]
theorem bt_list (s : ByteArray) : s.data.toList = (List.range s.size).map (fun j => UInt8.ofNat (bt s j).toNat) := by
  apply List.ext_getElem
  · simp
  · intro n h1 h2
    have h : n < s.size := by simpa using h1
    simp only [List.getElem_map, List.getElem_range]
    unfold bt
    rw [dif_pos h]
    simp
    rfl
theorem digU (v : Int) (h : 48 ≤ v ∧ v ≤ 57) : (UInt8.ofNat v.toNat).toNat = v.toNat := by
  rw [UInt8.toNat_ofNat']; omega
theorem atoi2 (s : ByteArray) (hs : s.size = 2) (h0 : Dig s 0) (h1 : Dig s 1) : Lib.atoiAll s.data.toList = .ok (num2 s 0) := by
  have e : s.data.toList = [UInt8.ofNat (bt s 0).toNat, UInt8.ofNat (bt s 1).toNat] := by rw [bt_list, hs]; rfl
  rw [e]
  obtain ⟨a0, a1⟩ := h0
  obtain ⟨b0, b1⟩ := h1
  have u0 := digU (bt s 0) ⟨a0, a1⟩
  have u1 := digU (bt s 1) ⟨b0, b1⟩
  simp only [Lib.atoiAll, Lib.parseMag, Lib.parseUint10, u0, u1]
  rw [if_neg (show ¬ ((bt s 0).toNat = 43 ∨ (bt s 0).toNat = 45) by omega), if_neg (List.cons_ne_nil _ _)]
  simp only [Lib.parseUint10, u0, u1]
  rw [if_pos (by omega), if_neg (by omega), if_neg (by omega), if_pos (by omega), if_neg (by omega), if_neg (by omega)]
  simp only
  rw [if_neg (by omega), if_neg (by omega), if_neg (by omega)]
  congr 1
  simp only [num2, Nat.zero_add]
  omega
theorem atoi4 (s : ByteArray) (hs : s.size = 4) (h0 : Dig s 0) (h1 : Dig s 1) (h2 : Dig s 2) (h3 : Dig s 3) : Lib.atoiAll s.data.toList = .ok (num4 s 0) := by
  have e : s.data.toList = [UInt8.ofNat (bt s 0).toNat, UInt8.ofNat (bt s 1).toNat, UInt8.ofNat (bt s 2).toNat, UInt8.ofNat (bt s 3).toNat] := by rw [bt_list, hs]; rfl
  rw [e]
  obtain ⟨a0, a1⟩ := h0
  obtain ⟨b0, b1⟩ := h1
  obtain ⟨c0, c1⟩ := h2
  obtain ⟨d0, d1⟩ := h3
  have u0 := digU (bt s 0) ⟨a0, a1⟩
  have u1 := digU (bt s 1) ⟨b0, b1⟩
  have u2 := digU (bt s 2) ⟨c0, c1⟩
  have u3 := digU (bt s 3) ⟨d0, d1⟩
  simp only [Lib.atoiAll, Lib.parseMag, Lib.parseUint10, u0, u1, u2, u3]
  rw [if_neg (show ¬ ((bt s 0).toNat = 43 ∨ (bt s 0).toNat = 45) by omega), if_neg (List.cons_ne_nil _ _)]
  simp only [Lib.parseUint10, u0, u1, u2, u3]
  rw [if_pos (by omega), if_neg (by omega), if_neg (by omega), if_pos (by omega), if_neg (by omega), if_neg (by omega), if_pos (by omega), if_neg (by omega), if_neg (by omega), if_pos (by omega), if_neg (by omega), if_neg (by omega)]
  simp only
  rw [if_neg (by omega), if_neg (by omega), if_neg (by omega)]
  congr 1
  simp only [num4, Nat.zero_add]
  omega
theorem below_bytesWorld {w w' : World} {T : TypeId} (h : w' = w ∨ ∃ t, w' = Lib.bytesWorld w T t) : Below w.heap.size w w' := by
  rcases h with rfl | ⟨t, rfl⟩
  · exact Below.refl _ _
  · exact Lib.bytesWorld_below _ _ _
theorem atoi_2 (s : ByteArray) (hs : s.size = 2) (h0 : Dig s 0) (h1 : Dig s 1) (w : World) : Calls Tryz.prog 116 #[.string s] w fun e w' => e = .returned (.tuple #[.int .i64 (num2 s 0), .nilIface]) ∧ Below w.heap.size w w' :=
  (Any.strconv_Atoi_ok Tryz.laysC172 s (by omega) _ (atoi2 s hs h0 h1) w).mono fun e w' ⟨he, hw⟩ => ⟨he, below_bytesWorld hw⟩
theorem atoi_4 (s : ByteArray) (hs : s.size = 4) (h0 : Dig s 0) (h1 : Dig s 1) (h2 : Dig s 2) (h3 : Dig s 3) (w : World) : Calls Tryz.prog 116 #[.string s] w fun e w' => e = .returned (.tuple #[.int .i64 (num4 s 0), .nilIface]) ∧ Below w.heap.size w w' :=
  (Any.strconv_Atoi_ok Tryz.laysC172 s (by omega) _ (atoi4 s hs h0 h1 h2 h3) w).mono fun e w' ⟨he, hw⟩ => ⟨he, below_bytesWorld hw⟩
set_option maxHeartbeats 1000000 in
theorem rnum_2 (s : ByteArray) (hs : s.size = 2) (h0 : Dig s 0) (h1 : Dig s 1) (w : World) : Calls Tryz.prog 124 #[.string s] w fun e w' => e = .returned (.int .i64 (num2 s 0)) ∧ w = w' := by
  have hg := get_bt s
  obtain ⟨a0, a1⟩ := h0
  obtain ⟨b0, b1⟩ := h1
  have HL : Live w [] := trivial
  go_enter Tryz.func124, Tryz.ntmps124
  go_wp2
  refine wp_loop_rounds 3 ?_
  repeat any_goals (rw [rounds_succ]; go_wp2)
  go_ret
  exact ⟨ret_i (by simp only [num2, Nat.zero_add]; omega), rfl⟩
set_option maxHeartbeats 1000000 in
theorem rnum_4 (s : ByteArray) (hs : s.size = 4) (h0 : Dig s 0) (h1 : Dig s 1) (h2 : Dig s 2) (h3 : Dig s 3) (w : World) : Calls Tryz.prog 124 #[.string s] w fun e w' => e = .returned (.int .i64 (num4 s 0)) ∧ w = w' := by
  have hg := get_bt s
  obtain ⟨a0, a1⟩ := h0
  obtain ⟨b0, b1⟩ := h1
  obtain ⟨c0, c1⟩ := h2
  obtain ⟨d0, d1⟩ := h3
  have HL : Live w [] := trivial
  go_enter Tryz.func124, Tryz.ntmps124
  go_wp2
  refine wp_loop_rounds 5 ?_
  repeat any_goals (rw [rounds_succ]; go_wp2)
  go_ret
  exact ⟨ret_i (by simp only [num4, Nat.zero_add]; omega), rfl⟩
end Go.Proofs.YtjbhokmkmapkoaaGreatDoor.Dt
namespace Go.Proofs.YtjbhokmkmapkoaaGreatDoor.Dt
set_option linter.unusedSimpArgs false
set_option linter.unusedVariables false
open Go.RowKit
open Go.PlainAid (bt get_bt bt_nonneg bt_le)
def unS : ByteArray := ⟨#[48, 48, 48, 48, 48, 48, 48, 48, 48, 48, 48, 48, 48, 48, 48, 48, 0]⟩
set_option maxHeartbeats 1000000 in
theorem numLit_2 (s : ByteArray) (a : Nat) (x y : Int) (b : Nat) (hx : x = a ∧ y = a + 2) (hs : a + 2 ≤ s.size) (hs2 : s.size ≤ 100) (h0 : Dig s a) (h1 : Dig s (a + 1)) (w : World) (hc : w.cell? ⟨b, 0, none⟩ = some (.string s)) :
    Calls Tryz.prog 115 #[.int .i64 x, .int .i64 y, .pointer (some ⟨b, 0, none⟩)] w fun e w' => e = .returned (.int .i64 (num2 s a)) ∧ Below w.heap.size w w' := by
  obtain ⟨rfl, rfl⟩ := hx
  have hz : (s.extract a (a + 2)).size = 2 := by simp; omega
  have e0 := bt_extract s a (a + 2) 0 hs (by omega)
  have e1 := bt_extract s a (a + 2) 1 hs (by omega)
  have hn : num2 (s.extract a (a + 2)) 0 = num2 s a := by simp only [num2, Nat.zero_add]; rw [e0, e1]; simp
  have d0 : Dig (s.extract a (a + 2)) 0 := by unfold Dig; rw [e0]; exact h0
  have d1 : Dig (s.extract a (a + 2)) 1 := by unfold Dig; rw [e1]; exact h1
  have AT := hide (fun W => atoi_2 (s.extract a (a + 2)) hz d0 d1 W)
  have HN := hide hn
  clear hn e0 e1 hz d0 d1
  have HL : Live w [] := trivial
  go_enter Tryz.func115, Tryz.ntmps115
  go_wp2_with (go_at_call 116; (with_reducible refine (AT.out _).mono ?_); rintro e w' ⟨rfl, hb⟩; have hz := hb.size)
  go_ret
  exact ⟨ret_i HN.out, by (exact bl)⟩
set_option maxHeartbeats 1000000 in
theorem numLit_4 (s : ByteArray) (b : Nat) (hs : 4 ≤ s.size) (hs2 : s.size ≤ 100) (h0 : Dig s 0) (h1 : Dig s 1) (h2 : Dig s 2) (h3 : Dig s 3) (w : World) (hc : w.cell? ⟨b, 0, none⟩ = some (.string s)) :
    Calls Tryz.prog 115 #[.int .i64 0, .int .i64 4, .pointer (some ⟨b, 0, none⟩)] w fun e w' => e = .returned (.int .i64 (num4 s 0)) ∧ Below w.heap.size w w' := by
  have hz : (s.extract 0 4).size = 4 := by simp; omega
  have e0 := bt_extract s 0 4 0 hs (by omega)
  have e1 := bt_extract s 0 4 1 hs (by omega)
  have e2 := bt_extract s 0 4 2 hs (by omega)
  have e3 := bt_extract s 0 4 3 hs (by omega)
  have hn : num4 (s.extract 0 4) 0 = num4 s 0 := by simp only [num4, Nat.zero_add]; rw [e0, e1, e2, e3]
  have d0 : Dig (s.extract 0 4) 0 := by unfold Dig; rw [e0]; exact h0
  have d1 : Dig (s.extract 0 4) 1 := by unfold Dig; rw [e1]; exact h1
  have d2 : Dig (s.extract 0 4) 2 := by unfold Dig; rw [e2]; exact h2
  have d3 : Dig (s.extract 0 4) 3 := by unfold Dig; rw [e3]; exact h3
  have AT := hide (fun W => atoi_4 (s.extract 0 4) hz d0 d1 d2 d3 W)
  have HN := hide hn
  clear hn e0 e1 e2 e3 hz d0 d1 d2 d3
  have HL : Live w [] := trivial
  go_enter Tryz.func115, Tryz.ntmps115
  go_wp2_with (go_at_call 116; (with_reducible refine (AT.out _).mono ?_); rintro e w' ⟨rfl, hb⟩; have hz := hb.size)
  go_ret
  exact ⟨ret_i HN.out, by (exact bl)⟩
set_option maxHeartbeats 400000 in
theorem readDesc_no (s : ByteArray) (hs : ¬ s.size = 17) (w : World) : Calls Tryz.prog 58 #[.string s] w fun e w' => e = .returned (.tuple #[.int .i64 0, .int .i64 0, .int .i64 1]) ∧ Below w.heap.size w w' := by
  obtain ⟨h1, h2⟩ := size_ne hs
  have HL : Live w [] := trivial
  go_enter Tryz.func58, Tryz.ntmps58
  go_wp2
  go_ret3
  exact ⟨rfl, by (exact bl)⟩
set_option maxHeartbeats 400000 in
theorem readDesc_un (w : World) : Calls Tryz.prog 58 #[.string ⟨#[48, 48, 48, 48, 48, 48, 48, 48, 48, 48, 48, 48, 48, 48, 48, 48, 0]⟩] w fun e w' => e = .returned (.tuple #[.int .i64 0, .int .i64 0, .int .i64 0]) ∧ Below w.heap.size w w' := by
  have HL : Live w [] := trivial
  go_enter Tryz.func58, Tryz.ntmps58
  go_wp2
  go_quiet ((go_at_call 38; exact Calls.quiet_of_same ((unspec_any _).mono fun e w' h => ⟨h.1, h.2.symm⟩)))
  go_wp2
  go_ret3
  exact ⟨rfl, by (exact bl)⟩
theorem un_list {s : ByteArray} (h : s ≠ unS) : (s.toList == [48, 48, 48, 48, 48, 48, 48, 48, 48, 48, 48, 48, 48, 48, 48, 48, 0]) = false := by
  rw [beq_eq_false_iff_ne]
  intro e
  apply h
  rw [ByteArray.toList_eq] at e
  obtain ⟨⟨l⟩⟩ := s
  simp only at e
  rw [e]; rfl
theorem dto {s : ByteArray} (h : DigTo s 16) (i : Nat) (hi : i < 16) : Dig s i := h i hi
set_option maxHeartbeats 1000000 in
theorem readDesc_bad (s : ByteArray) (hs : s.size = 17) (hu : s ≠ unS) (hd : ¬ DigTo s 16) (w : World) : Calls Tryz.prog 58 #[.string s] w fun e w' => e = .returned (.tuple #[.int .i64 0, .int .i64 0, .int .i64 10]) ∧ Below w.heap.size w w' := by
  have hg := get_bt s
  have hl := un_list hu
  have HD := hide hd
  clear hd hu
  have HL : Live w [] := trivial
  go_enter Tryz.func58, Tryz.ntmps58
  go_wp2
  go_quiet ((go_at_call 38; exact Calls.quiet_of_same ((unspec_any _).mono fun e w' h => ⟨h.1, h.2.symm⟩)))
  go_wp2
  go_loop [15] (fun c => ∃ i : Nat, i ≤ 16 ∧ c = .int .i64 i ∧ DigTo s i) (fun c => 16 - (intOf c).toNat)
  case atStart => exact ⟨0, by omega, rfl, DigTo.zero s⟩
  case round =>
    obtain ⟨i, hi, rfl, hto⟩ := hrel
    have HT := hide hto
    clear hto
    by_cases hlt : i < 16
    · by_cases g1 : 48 ≤ bt s i
      · by_cases g2 : bt s i ≤ 57
        · go_wp2
          go_round
          case rel => exact ⟨i + 1, by omega, by go_num, HT.out.succ g1 g2⟩
          case measure => simp [intOf]; omega
        · go_wp2
          go_ret3
          exact ⟨rfl, by (exact bl)⟩
      · go_wp2
        go_ret3
        exact ⟨rfl, by (exact bl)⟩
    · obtain rfl : i = 16 := by omega
      exact absurd HT.out HD.out
set_option maxHeartbeats 2000000 in
theorem readDesc_yes (s : ByteArray) (hs : s.size = 17) (hu : s ≠ unS) (hd : DigTo s 16) (w : World) : Calls Tryz.prog 58 #[.string s] w (RoP (num4 s 0) (num2 s 4) (num2 s 6) (num2 s 8) (num2 s 10) (num2 s 12) (15 * sg (bt s 16)) (qB (sg (bt s 16))) w) := by
  have hg := get_bt s
  have hl := un_list hu
  have HD := hide hd
  have b6 := bt_nonneg s 16
  have b6' := bt_le s 16
  have hs2 : s.size ≤ 100 := by omega
  clear hd hu
  have RD := hide (fun W => read_any (num4 s 0) (num2 s 4) (num2 s 6) (num2 s 8) (num2 s 10) (num2 s 12) (15 * sg (bt s 16)) (qB (sg (bt s 16))) qB_zone W)
  have HL : Live w [] := trivial
  go_enter Tryz.func58, Tryz.ntmps58
  go_wp2
  refine wp_region_noPanic ?_
  refine wp_region_held_drew (S := (fun x => x.cell? ⟨w.heap.size, 0, none⟩ = some (.string s))) (by kernel_rfl) kp (fun hHeld => ?_)
  refine tkY 0 ⟨some 12, .load 9 (.tmp 1), 9, "datetime.go:167", #[], none⟩ ?_ ?_ ?_
  rotate_left
  · intro w hSw; (try dsimp only at hSw); go_simp; (try with_reducible rfl)
  try simp only [PT]
  refine wpAnyH_ready (rs := [1]) (by kernel_rfl) (by simp) ?_
  refine AllReadyH.cons (o := ⟨some 13, .call ⟨.value (.func 38), #[], #[]⟩, 9, "datetime.go:167", #[], none⟩) rfl (fun K hK => ?_) AllReadyH.nil
  go_simp
  (go_at_call 38; (with_reducible refine (unspec_any _).mono ?_); rintro e w' ⟨rfl, rfl⟩)
  go_wp2_with fail
  refine hK.out _ _ kp (fun hHeld => ?_)
  clear hK K
  try simp only [PT]
  refine tkY 2 ⟨some 14, .binOp .eql 9 (.tmp 12) (.tmp 13) 9, 4, "datetime.go:167", #[⟨0, .data⟩, ⟨1, .data⟩], none⟩ ?_ ?_ ?_
  rotate_left
  · intro w hSw; (try dsimp only at hSw); go_simp; (try with_reducible rfl)
  try simp only [PT]
  refine wpAnyH_done (by kernel_rfl) ?_ _
  refine NoPanic.normal ?_
  go_wp2
  go_loop [15] (fun c => ∃ i : Nat, i ≤ 16 ∧ c = .int .i64 i) (fun c => 16 - (intOf c).toNat)
  case atStart => exact ⟨0, by omega, rfl⟩
  case round =>
    obtain ⟨i, hi, rfl⟩ := hrel
    by_cases hlt : i < 16
    · have g1 := (HD.out i hlt).1
      have g2 := (HD.out i hlt).2
      go_wp2
      go_round
      case rel => exact ⟨i + 1, by omega, by go_num⟩
      case measure => simp [intOf]; omega
    · obtain rfl : i = 16 := by omega
      go_wp2_with (first | (go_at_call 117; (with_reducible refine (quarter_any _ (by omega) _).mono ?_); rintro e w' ⟨rfl, rfl⟩))
      (first | ((with_reducible refine (numLit_4 s _ (by omega) (by omega) (dto HD.out 0 (by omega)) (dto HD.out 1 (by omega)) (dto HD.out 2 (by omega)) (dto HD.out 3 (by omega)) _ (by go_simp)).mono ?_); rintro e w1 ⟨rfl, hb⟩; have hz := hb.size; (try simp only [SZ, Nat.reduceAdd] at hz); (first | obtain ⟨HL, hk⟩ := HL.callA hb hz | obtain ⟨HL, hk⟩ := HL.call0A hb hz); (try simp only [addN, Nat.add_zero] at HL hk); have hl := HL; simp only [Live] at hl; (try simp only [Kept] at hk)))
      go_wp2_with fail
      (first | ((with_reducible refine (numLit_2 s 4 _ _ _ (by omega) (by omega) (by omega) (dto HD.out 4 (by omega)) (dto HD.out 5 (by omega)) _ (by go_simp)).mono ?_); rintro e w2 ⟨rfl, hb⟩; have hz := hb.size; (try simp only [SZ, Nat.reduceAdd] at hz); (first | obtain ⟨HL, hk⟩ := HL.callA hb hz | obtain ⟨HL, hk⟩ := HL.call0A hb hz); (try simp only [addN, Nat.add_zero] at HL hk); have hl := HL; simp only [Live] at hl; (try simp only [Kept] at hk)))
      go_wp2_with fail
      (first | ((with_reducible refine (numLit_2 s 6 _ _ _ (by omega) (by omega) (by omega) (dto HD.out 6 (by omega)) (dto HD.out 7 (by omega)) _ (by go_simp)).mono ?_); rintro e w3 ⟨rfl, hb⟩; have hz := hb.size; (try simp only [SZ, Nat.reduceAdd] at hz); (first | obtain ⟨HL, hk⟩ := HL.callA hb hz | obtain ⟨HL, hk⟩ := HL.call0A hb hz); (try simp only [addN, Nat.add_zero] at HL hk); have hl := HL; simp only [Live] at hl; (try simp only [Kept] at hk)))
      go_wp2_with fail
      (first | ((with_reducible refine (numLit_2 s 8 _ _ _ (by omega) (by omega) (by omega) (dto HD.out 8 (by omega)) (dto HD.out 9 (by omega)) _ (by go_simp)).mono ?_); rintro e w4 ⟨rfl, hb⟩; have hz := hb.size; (try simp only [SZ, Nat.reduceAdd] at hz); (first | obtain ⟨HL, hk⟩ := HL.callA hb hz | obtain ⟨HL, hk⟩ := HL.call0A hb hz); (try simp only [addN, Nat.add_zero] at HL hk); have hl := HL; simp only [Live] at hl; (try simp only [Kept] at hk)))
      go_wp2_with fail
      (first | ((with_reducible refine (numLit_2 s 10 _ _ _ (by omega) (by omega) (by omega) (dto HD.out 10 (by omega)) (dto HD.out 11 (by omega)) _ (by go_simp)).mono ?_); rintro e w5 ⟨rfl, hb⟩; have hz := hb.size; (try simp only [SZ, Nat.reduceAdd] at hz); (first | obtain ⟨HL, hk⟩ := HL.callA hb hz | obtain ⟨HL, hk⟩ := HL.call0A hb hz); (try simp only [addN, Nat.add_zero] at HL hk); have hl := HL; simp only [Live] at hl; (try simp only [Kept] at hk)))
      go_wp2_with fail
      (first | ((with_reducible refine (numLit_2 s 12 _ _ _ (by omega) (by omega) (by omega) (dto HD.out 12 (by omega)) (dto HD.out 13 (by omega)) _ (by go_simp)).mono ?_); rintro e w6 ⟨rfl, hb⟩; have hz := hb.size; (try simp only [SZ, Nat.reduceAdd] at hz); (first | obtain ⟨HL, hk⟩ := HL.callA hb hz | obtain ⟨HL, hk⟩ := HL.call0A hb hz); (try simp only [addN, Nat.add_zero] at HL hk); have hl := HL; simp only [Live] at hl; (try simp only [Kept] at hk)))
      go_wp2_with (first | (go_at_call 118; (with_reducible refine (RD.out _).mono ?_); rintro e w' ⟨rfl, hb⟩; have hz := hb.size))
      go_ret3
      exact ⟨rfl, by (exact bl)⟩
end Go.Proofs.YtjbhokmkmapkoaaGreatDoor.Dt
