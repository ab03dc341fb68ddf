/- Contracts of digits of package datetime and its reference. -/
import Derived.Test.YtkkkfbhpphngmaaDoorRows
import Derived.Test.YtkkkfbhpphngmaaDoorShelf
import Derived.Test.YtkkkfbhpphngmaaDoorG
namespace Go.Proofs.YtkkkfbhpphngmaaDoor
set_option linter.unusedSimpArgs false
set_option linter.unusedVariables false
open Go.RowKit

/-- The name of the table that Itoa reads: the first of those that the rows name. -/
def tabName : String := Rows.datetimeClocksRow.named.headD Rows.datetimeClocksRow.func
/-- The table holds the powers of ten. -/
def Tab (w : World) : Prop := Lib.TabIs Tryd.prog w tabName .u64 Lib.pow10Tab
theorem tabG : Tryd.prog.globalNamed tabName = some 2 := by kernel_rfl
theorem Tab.lt {w : World} (h : Tab w) : 2 < w.heap.size := by
  rcases Nat.lt_or_ge 2 w.heap.size with h' | h'
  · exact h'
  · unfold Tab Lib.TabIs World.var? at h
    rw [tabG] at h
    simp only [Option.bind_some] at h
    rw [Array.getElem?_eq_none h'] at h
    cases h
theorem Tab.below {w w' : World} (h : Tab w) (hb : Below w.heap.size w w') : Tab w' := var?_below hb tabG h.lt h
theorem below_grow (w : World) (k : Nat) (os : Array Obj) : Below w.heap.size w (Go.Sort.grow (w.drewN k) os) := by
  refine ⟨rfl, rfl, rfl, ?_, ?_⟩
  · show w.heap.size ≤ (w.heap ++ os).size
    simp
  · intro i hi
    show (w.heap ++ os)[i]? = _
    rw [Array.getElem?_append_left hi]

def dig2 (n : Int) : List UInt8 := [UInt8.ofNat (48 + n / 10).toNat, UInt8.ofNat (48 + n % 10).toNat]
def dig4 (n : Int) : List UInt8 := [UInt8.ofNat (48 + n / 1000).toNat, UInt8.ofNat (48 + n / 100 % 10).toNat, UInt8.ofNat (48 + n / 10 % 10).toNat, UInt8.ofNat (48 + n % 10).toNat]
theorem dec2 (i : Nat) (h : i < 100) : (if i < 10 then [UInt8.ofNat 48] ++ Lib.decDigits i else Lib.decDigits i) = dig2 i := by
  have h0 : ∀ k : Fin 100, (if k.val < 10 then [UInt8.ofNat 48] ++ Lib.decDigits k.val else Lib.decDigits k.val) = dig2 ((k.val : Nat) : Int) := by decide +kernel
  exact h0 ⟨i, h⟩
theorem itoa4 (y : Int) (h0 : 1900 ≤ y) (h1 : y ≤ 2155) : Lib.itoa y = dig4 y := by
  have h : ∀ k : Fin 256, Lib.itoa (1900 + ((k.val : Nat) : Int)) = dig4 (1900 + ((k.val : Nat) : Int)) := by decide +kernel
  have := h ⟨(y - 1900).toNat, by omega⟩
  rwa [show 1900 + ((((y - 1900).toNat : Nat)) : Int) = y from by omega] at this

def ch (n : Int) : UInt8 := UInt8.ofNat n.toNat
theorem itoa_1 (n : Int) (h0 : 0 ≤ n) (h1 : n < 10) (w : World) : Calls Tryd.prog 58 #[.int .i64 n] w fun e w' => e = .returned (.string ⟨#[UInt8.ofNat (48 + n % 10).toNat]⟩) ∧ w = w' := by
  obtain ⟨i, rfl⟩ := Int.eq_ofNat_of_zero_le h0
  refine (Any.strconv_Itoa_small Tryd.lays171 i (by omega) w).mono fun e w' ⟨he, hw⟩ => ⟨?_, hw.symm⟩
  rw [he]
  have : Lib.decDigits i = [UInt8.ofNat (48 + (i : Int) % 10).toNat] := by
    rw [Lib.decDigits, dif_pos (by omega), show (48 + (i : Int) % 10).toNat = 48 + i from by omega]
  rw [this]
theorem itoa_2 (n : Int) (h0 : 10 ≤ n) (h1 : n < 100) (w : World) : Calls Tryd.prog 58 #[.int .i64 n] w fun e w' => e = .returned (.string ⟨#[UInt8.ofNat (48 + n / 10).toNat, UInt8.ofNat (48 + n % 10).toNat]⟩) ∧ w = w' := by
  obtain ⟨i, rfl⟩ := Int.eq_ofNat_of_zero_le (show 0 ≤ n by omega)
  refine (Any.strconv_Itoa_small Tryd.lays171 i (by omega) w).mono fun e w' ⟨he, hw⟩ => ⟨?_, hw.symm⟩
  rw [he]
  have h := dec2 i (by omega)
  rw [if_neg (by omega)] at h
  rw [h]; rfl
theorem itoa_4 (n : Int) (h0 : 1900 ≤ n) (h1 : n ≤ 2155) (w : World) (ht : Tab w) : Calls Tryd.prog 58 #[.int .i64 n] w fun e w' => e = .returned (.string ⟨#[UInt8.ofNat (48 + n / 1000).toNat, UInt8.ofNat (48 + n / 100 % 10).toNat, UInt8.ofNat (48 + n / 10 % 10).toNat, UInt8.ofNat (48 + n % 10).toNat]⟩) ∧ Below w.heap.size w w' := by
  refine (Any.strconv_Itoa Tryd.laysM171 n (by omega) (by omega) w ht).mono fun e w' ⟨he, k, os, hw⟩ => ⟨?_, ?_⟩
  · rw [he, itoa4 n h0 h1]; rfl
  · rw [hw]; exact below_grow w k os

set_option maxHeartbeats 1000000 in
theorem digits2 (n : Int) (h0 : 0 ≤ n) (h1 : n < 100) (w : World) : Calls Tryd.prog 48 #[.int .i64 n, .int .i64 2] w fun e w' => e = .returned (.string ⟨(dig2 n).toArray⟩) ∧ w = w' := by
  by_cases h : n < 10
  · have HL : Live w [] := trivial
    go_enter Tryd.func48, Tryd.ntmps48
    go_wp2_with (first | (go_at_call 58; (with_reducible refine (itoa_1 _ (by omega) (by omega) _).mono ?_); rintro e w' ⟨rfl, rfl⟩))
    refine wp_loop_rounds 2 ?_
    repeat any_goals (rw [rounds_succ]; go_wp2)
    go_ret
    exact ⟨by have e : n / 10 = 0 := by omega
              simp [dig2, e]
              rfl, rfl⟩
  · have HL : Live w [] := trivial
    go_enter Tryd.func48, Tryd.ntmps48
    go_wp2_with (first | (go_at_call 58; (with_reducible refine (itoa_2 _ (by omega) (by omega) _).mono ?_); rintro e w' ⟨rfl, rfl⟩))
    refine wp_loop_rounds 2 ?_
    repeat any_goals (rw [rounds_succ]; go_wp2)
    go_ret
    exact ⟨rfl, rfl⟩
set_option maxHeartbeats 1000000 in
theorem digits4 (n : Int) (h0 : 1900 ≤ n) (h1 : n ≤ 2155) (w : World) (ht : Tab w) : Calls Tryd.prog 48 #[.int .i64 n, .int .i64 4] w fun e w' => e = .returned (.string ⟨(dig4 n).toArray⟩) ∧ Below w.heap.size w w' := by
  have HL : Live w [] := trivial
  go_enter Tryd.func48, Tryd.ntmps48
  go_wp2_with (first | (go_at_call 58; (with_reducible refine (itoa_4 _ (by omega) (by omega) _ (by assumption)).mono ?_); rintro e w' ⟨rfl, hb⟩; have hz := hb.size; (try simp only [World.size_alloc, World.size_setCell, World.size_drew, Nat.add_assoc, Nat.reduceAdd] at hz); (first | obtain ⟨HL, hk⟩ := HL.call hb hz (by simp only [World.size_alloc, World.size_setCell, World.size_drew, Nat.add_assoc, Nat.reduceAdd]) | obtain ⟨HL, hk⟩ := HL.call0 hb hz (by first | rfl | simp only [World.size_alloc, World.size_setCell, World.size_drew, Nat.add_assoc, Nat.reduceAdd])); (try simp only [addN, Nat.add_zero] at HL hk); have hl := HL; simp only [Live] at hl; (try simp only [Kept] at hk)))
  refine wp_loop_rounds 2 ?_
  repeat any_goals (rw [rounds_succ]; go_wp2)
  go_ret
  exact ⟨rfl, by (repeat' (first | (with_reducible exact Below.refl _ _) | (with_reducible refine Below.alloc ?_ ?_ _) | (with_reducible refine Below.setCell ?_ ?_ _) | (with_reducible refine Below.drew ?_) | (with_reducible refine below_drewN' ?_) | (with_reducible refine below_bytesW ?_ ?_) | (with_reducible refine Below.trans ?_ (Below.mono (by assumption) ?_)) | omega | (simp only [World.size_alloc, World.size_setCell, World.size_drew]; omega) | (simp [size_bytesW]; omega) | (simp; omega)))⟩

def descS (Y M D h m s q : Int) : ByteArray := ⟨(dig4 Y).toArray⟩ ++ ⟨(dig2 M).toArray⟩ ++ ⟨(dig2 D).toArray⟩ ++ ⟨(dig2 h).toArray⟩ ++ ⟨(dig2 m).toArray⟩ ++ ⟨(dig2 s).toArray⟩ ++ ⟨#[48, 48]⟩ ++ ⟨#[zby q]⟩
def DescP (L q : Int) (w : World) (e : Ending) (w' : World) : Prop :=
  ∃ Y M D h m s : Int, e = .returned (.tuple #[.string (descS Y M D h m s q), .int .i64 0]) ∧ vClk Y M D h m s ∧ secs Y M D h m s = L ∧ Below w.heap.size w w'

set_option maxHeartbeats 400000 in
theorem desc_no (t z : Int) (hb : (timeB t && quarterB z) = false) (w : World) :
    Calls Tryd.prog 27 #[.int .i64 t, .int .i64 z] w fun e w' => e = .returned (.tuple #[.string ⟨#[]⟩, .int .i64 2]) ∧ Below w.heap.size w w' := by
  have hn := tz_no hb
  have H := hide hb
  clear hb
  rcases hn with hn | ⟨hn, hq⟩
  · have HL : Live w [] := trivial
    go_enter Tryd.func27, Tryd.ntmps27
    go_wp2_with (first | (go_at_call 12; (with_reducible refine (split_no _ _ (by assumption) _).mono ?_); rintro e w' ⟨rfl, hb⟩; have hz := hb.size; (try simp only [World.size_alloc, World.size_setCell, World.size_drew, Nat.add_assoc, Nat.reduceAdd] at hz); (first | obtain ⟨HL, hk⟩ := HL.call hb hz (by simp only [World.size_alloc, World.size_setCell, World.size_drew, Nat.add_assoc, Nat.reduceAdd]) | obtain ⟨HL, hk⟩ := HL.call0 hb hz (by first | rfl | simp only [World.size_alloc, World.size_setCell, World.size_drew, Nat.add_assoc, Nat.reduceAdd])); (try simp only [addN, Nat.add_zero] at HL hk); have hl := HL; simp only [Live] at hl; (try simp only [Kept] at hk)) | (go_at_call 42; (with_reducible refine (isQuarter_any _ _).mono ?_); rintro e w' ⟨rfl, rfl⟩))
    go_ret2
    exact ⟨rfl, by (repeat' (first | (with_reducible exact Below.refl _ _) | (with_reducible refine Below.alloc ?_ ?_ _) | (with_reducible refine Below.setCell ?_ ?_ _) | (with_reducible refine Below.drew ?_) | (with_reducible refine below_drewN' ?_) | (with_reducible refine below_bytesW ?_ ?_) | (with_reducible refine Below.trans ?_ (Below.mono (by assumption) ?_)) | omega | (simp only [World.size_alloc, World.size_setCell, World.size_drew]; omega) | (simp [size_bytesW]; omega) | (simp; omega)))⟩
  · have ht := timeB_true.1 (by simp only [Bool.and_eq_true] at hn; exact hn.1)
    have hz := zoneB_true.1 (by simp only [Bool.and_eq_true] at hn; exact hn.2)
    clear hn
    have HL : Live w [] := trivial
    go_enter Tryd.func27, Tryd.ntmps27
    go_wp2_with (first | (go_at_call 12; (with_reducible refine (split_yes _ _ (by omega) (by omega) _).mono ?_); rintro e w' ⟨cY, cM, cD, ch, cm, cs, rfl, hv, hq, hb⟩; have hvv := hv; unfold vClk at hvv; have hmd := mdays_bd cY cM; have hQ := hide hq; clear hq; have hz := hb.size; (try simp only [World.size_alloc, World.size_setCell, World.size_drew, Nat.add_assoc, Nat.reduceAdd] at hz); (first | obtain ⟨HL, hk⟩ := HL.call hb hz (by simp only [World.size_alloc, World.size_setCell, World.size_drew, Nat.add_assoc, Nat.reduceAdd]) | obtain ⟨HL, hk⟩ := HL.call0 hb hz (by first | rfl | simp only [World.size_alloc, World.size_setCell, World.size_drew, Nat.add_assoc, Nat.reduceAdd])); (try simp only [addN, Nat.add_zero] at HL hk); have hl := HL; simp only [Live] at hl; (try simp only [Kept] at hk)) | (go_at_call 42; (with_reducible refine (isQuarter_any _ _).mono ?_); rintro e w' ⟨rfl, rfl⟩))
    go_ret2
    exact ⟨rfl, by (repeat' (first | (with_reducible exact Below.refl _ _) | (with_reducible refine Below.alloc ?_ ?_ _) | (with_reducible refine Below.setCell ?_ ?_ _) | (with_reducible refine Below.drew ?_) | (with_reducible refine below_drewN' ?_) | (with_reducible refine below_bytesW ?_ ?_) | (with_reducible refine Below.trans ?_ (Below.mono (by assumption) ?_)) | omega | (simp only [World.size_alloc, World.size_setCell, World.size_drew]; omega) | (simp [size_bytesW]; omega) | (simp; omega)))⟩
theorem dig2_zero : (⟨(dig2 0).toArray⟩ : ByteArray) = ⟨#[48, 48]⟩ := by decide
set_option maxHeartbeats 2000000 in
theorem desc_yes (t q : Int) (ht : 315532800 ≤ t ∧ t ≤ 4102444799) (hq : -48 ≤ q ∧ q ≤ 52) (w : World) (hT : Tab w) :
    Calls Tryd.prog 27 #[.int .i64 t, .int .i64 (15 * q)] w (DescP (t + 60 * (15 * q)) q w) := by
  have qb : quarterB (15 * q) = true := by rw [quarterB_mul]; exact decide_eq_true hq
  have td := tdiv15 q
  have cv := fun (W : World) (x0 : Int) => conv_at (P := Tryd.prog) 47 9 5 Tryd.underlying47 Tryd.underlying5 Tryd.underlying9 W 5 [x0] #[.int .u8 x0] rfl 1 1 rfl
  have s2 : ∀ n, ByteArray.size ⟨(dig2 n).toArray⟩ = 2 := fun _ => rfl
  have s4 : ∀ n, ByteArray.size ⟨(dig4 n).toArray⟩ = 4 := fun _ => rfl
  have HL : Live w [] := trivial
  go_enter Tryd.func27, Tryd.ntmps27
  go_wp2_with fail
  (first | ((with_reducible refine (split_yes _ _ (by omega) (by omega) _).mono ?_); rintro e w1 ⟨cY, cM, cD, ch, cm, cs, rfl, hv, hq, hb⟩; have hvv := hv; unfold vClk at hvv; have hmd := mdays_bd cY cM; have hQ := hide hq; clear hq; have hz := hb.size; (try simp only [World.size_alloc, World.size_setCell, World.size_drew, Nat.add_assoc, Nat.reduceAdd] at hz); (first | obtain ⟨HL, hk⟩ := HL.call hb hz (by simp only [World.size_alloc, World.size_setCell, World.size_drew, Nat.add_assoc, Nat.reduceAdd]) | obtain ⟨HL, hk⟩ := HL.call0 hb hz (by first | rfl | simp only [World.size_alloc, World.size_setCell, World.size_drew, Nat.add_assoc, Nat.reduceAdd])); (try simp only [addN, Nat.add_zero] at HL hk); have hl := HL; simp only [Live] at hl; (try simp only [Kept] at hk)))
  have hT1 : Tab (w1.alloc (.cells #[.int .i64 cY, .int .i64 cM, .int .i64 cD, .int .i64 ch, .int .i64 cm, .int .i64 cs] 23)) := (hT.below hb).below (Below.alloc (Below.refl _ _) (Nat.le_refl _) _)
  go_wp2_with (first | (go_at_call 42; (with_reducible refine (isQuarter_any _ _).mono ?_); rintro e w' ⟨rfl, rfl⟩) | (go_at_call 48; (with_reducible refine (digits4 _ (by omega) (by omega) _ (by assumption)).mono ?_); rintro e w' ⟨rfl, hb⟩; have hz := hb.size; (try simp only [World.size_alloc, World.size_setCell, World.size_drew, Nat.add_assoc, Nat.reduceAdd] at hz); (first | obtain ⟨HL, hk⟩ := HL.call hb hz (by simp only [World.size_alloc, World.size_setCell, World.size_drew, Nat.add_assoc, Nat.reduceAdd]) | obtain ⟨HL, hk⟩ := HL.call0 hb hz (by first | rfl | simp only [World.size_alloc, World.size_setCell, World.size_drew, Nat.add_assoc, Nat.reduceAdd])); (try simp only [addN, Nat.add_zero] at HL hk); have hl := HL; simp only [Live] at hl; (try simp only [Kept] at hk)))
  refine wp_loop_rounds 7 ?_
  repeat any_goals (rw [rounds_succ]; go_wp2_with (first | (go_at_call 48; (with_reducible refine (digits2 _ (by omega) (by omega) _).mono ?_); rintro e w' ⟨rfl, rfl⟩)))
  go_ret2
  exact ⟨cY, cM, cD, ch, cm, cs, by first | rfl | (rw [descS, ← dig2_zero]; rfl), hv, hQ.out, by (repeat' (first | (with_reducible exact Below.refl _ _) | (with_reducible refine Below.alloc ?_ ?_ _) | (with_reducible refine Below.setCell ?_ ?_ _) | (with_reducible refine Below.drew ?_) | (with_reducible refine below_drewN' ?_) | (with_reducible refine below_bytesW ?_ ?_) | (with_reducible refine Below.trans ?_ (Below.mono (by assumption) ?_)) | omega | (simp only [World.size_alloc, World.size_setCell, World.size_drew]; omega) | (simp [size_bytesW]; omega) | (simp; omega)))⟩
end Go.Proofs.YtkkkfbhpphngmaaDoor
