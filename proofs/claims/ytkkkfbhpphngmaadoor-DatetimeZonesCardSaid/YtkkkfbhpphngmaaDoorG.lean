/- Contracts of the timestamps (Stamp) of package datetime and its reference. -/
import Derived.Test.YtkkkfbhpphngmaaDoorF
import Derived.Test.YtkkkfbhpphngmaaDoorQ
namespace Go.Proofs.YtkkkfbhpphngmaaDoor
set_option linter.unusedSimpArgs false
set_option linter.unusedVariables false
open Go.RowKit

def stS (Y M D h m s z : Int) : ByteArray := ⟨#[UInt8.ofNat ((4096 + z % 4096) % 256).toNat, UInt8.ofNat ((4096 + z % 4096) / 256).toNat, UInt8.ofNat (Y % 256).toNat, UInt8.ofNat (Y / 256).toNat, UInt8.ofNat M.toNat, UInt8.ofNat D.toNat, UInt8.ofNat h.toNat, UInt8.ofNat m.toNat, UInt8.ofNat s.toNat, UInt8.ofNat 0, UInt8.ofNat 0, UInt8.ofNat 0]⟩
def StP (L z : Int) (w : World) (e : Ending) (w' : World) : Prop :=
  ∃ Y M D h m s : Int, e = .returned (.tuple #[.string (stS Y M D h m s z), .int .i64 0]) ∧ vClk Y M D h m s ∧ secs Y M D h m s = L ∧ Below w.heap.size w w'

set_option maxHeartbeats 400000 in
theorem stamp_no (t z : Int) (hb : (timeB t && zoneB z) = false) (w : World) :
    Calls Tryd.prog 23 #[.int .i64 t, .int .i64 z] w fun e w' => e = .returned (.tuple #[.string ⟨#[]⟩, .int .i64 2]) ∧ Below w.heap.size w w' := by
  have H := hide hb
  clear hb
  have HL : Live w [] := trivial
  go_enter Tryd.func23, Tryd.ntmps23
  go_wp2_with (first | (go_at_call 12; (with_reducible refine (split_no _ _ H.out _).mono ?_); rintro e w' ⟨rfl, hb⟩; have hz := hb.size; (try simp only [World.size_alloc, World.size_setCell, World.size_drew, Nat.add_assoc, Nat.reduceAdd] at hz); (first | obtain ⟨HL, hk⟩ := HL.call hb hz (by simp only [World.size_alloc, World.size_setCell, World.size_drew, Nat.add_assoc, Nat.reduceAdd]) | obtain ⟨HL, hk⟩ := HL.call0 hb hz (by first | rfl | simp only [World.size_alloc, World.size_setCell, World.size_drew, Nat.add_assoc, Nat.reduceAdd])); (try simp only [addN, Nat.add_zero] at HL hk); have hl := HL; simp only [Live] at hl; (try simp only [Kept] at hk)))
  go_ret2
  exact ⟨rfl, by (repeat' (first | (with_reducible exact Below.refl _ _) | (with_reducible refine Below.alloc ?_ ?_ _) | (with_reducible refine Below.setCell ?_ ?_ _) | (with_reducible refine Below.drew ?_) | (with_reducible refine below_drewN' ?_) | (with_reducible refine below_bytesW ?_ ?_) | (with_reducible refine Below.trans ?_ (Below.mono (by assumption) ?_)) | omega | (simp only [World.size_alloc, World.size_setCell, World.size_drew]; omega) | (simp [size_bytesW]; omega) | (simp; omega)))⟩
set_option maxHeartbeats 2000000 in
theorem stamp_yes (t z : Int) (ht : 315532800 ≤ t ∧ t ≤ 4102444799) (hz : -1440 ≤ z ∧ z ≤ 1440) (w : World) :
    Calls Tryd.prog 23 #[.int .i64 t, .int .i64 z] w (StP (t + 60 * z) z w) := by
  have a1 := and4095z z hz.1 hz.2
  have a2 := or4096 (z % 4096) (by omega) (by omega)
  have cv := fun (W : World) (x0 x1 x2 x3 x4 x5 x6 x7 x8 : Int) => conv_at (P := Tryd.prog) 47 9 5 Tryd.underlying47 Tryd.underlying5 Tryd.underlying9 W 5 [x0, x1, x2, x3, x4, x5, x6, x7, x8, 0, 0, 0] #[.int .u8 x0, .int .u8 x1, .int .u8 x2, .int .u8 x3, .int .u8 x4, .int .u8 x5, .int .u8 x6, .int .u8 x7, .int .u8 x8, .int .u8 0, .int .u8 0, .int .u8 0] rfl 12 12 rfl
  have cvd := fun (W : World) (x0 x1 x2 x3 x4 x5 x6 x7 x8 : Int) => conv_drew (P := Tryd.prog) 47 9 5 Tryd.underlying47 Tryd.underlying5 Tryd.underlying9 W 5 [x0, x1, x2, x3, x4, x5, x6, x7, x8, 0, 0, 0] #[.int .u8 x0, .int .u8 x1, .int .u8 x2, .int .u8 x3, .int .u8 x4, .int .u8 x5, .int .u8 x6, .int .u8 x7, .int .u8 x8, .int .u8 0, .int .u8 0, .int .u8 0] rfl 12 12 rfl
  have HL : Live w [] := trivial
  go_enter Tryd.func23, Tryd.ntmps23
  go_wp2_with fail
  (first | ((with_reducible refine (split_yes _ _ (by omega) (by omega) _).mono ?_); rintro e w1 ⟨cY, cM, cD, ch, cm, cs, rfl, hv, hq, hb⟩; have hvv := hv; unfold vClk at hvv; have hmd := mdays_bd cY cM; have hQ := hide hq; clear hq; have hz := hb.size; (try simp only [World.size_alloc, World.size_setCell, World.size_drew, Nat.add_assoc, Nat.reduceAdd] at hz); (first | obtain ⟨HL, hk⟩ := HL.call hb hz (by simp only [World.size_alloc, World.size_setCell, World.size_drew, Nat.add_assoc, Nat.reduceAdd]) | obtain ⟨HL, hk⟩ := HL.call0 hb hz (by first | rfl | simp only [World.size_alloc, World.size_setCell, World.size_drew, Nat.add_assoc, Nat.reduceAdd])); (try simp only [addN, Nat.add_zero] at HL hk); have hl := HL; simp only [Live] at hl; (try simp only [Kept] at hk)))
  all_goals (go_wp2; go_ret2; exact ⟨cY, cM, cD, ch, cm, cs, rfl, hv, hQ.out, by (repeat' (first | (with_reducible exact Below.refl _ _) | (with_reducible refine Below.alloc ?_ ?_ _) | (with_reducible refine Below.setCell ?_ ?_ _) | (with_reducible refine Below.drew ?_) | (with_reducible refine below_drewN' ?_) | (with_reducible refine below_bytesW ?_ ?_) | (with_reducible refine Below.trans ?_ (Below.mono (by assumption) ?_)) | omega | (simp only [World.size_alloc, World.size_setCell, World.size_drew]; omega) | (simp [size_bytesW]; omega) | (simp; omega)))⟩)

set_option maxHeartbeats 400000 in
theorem rstamp_no (t z : Int) (hb : (timeB t && zoneB z) = false) (w : World) :
    Calls Tryd.prog 24 #[.int .i64 t, .int .i64 z] w fun e w' => e = .returned (.tuple #[.string ⟨#[]⟩, .int .i64 2]) ∧ Below w.heap.size w w' := by
  have H := hide hb
  clear hb
  have HL : Live w [] := trivial
  go_enter Tryd.func24, Tryd.ntmps24
  go_wp2_with (first | (go_at_call 13; (with_reducible refine (rsplit_no _ _ H.out _).mono ?_); rintro e w' ⟨rfl, hb⟩; have hz := hb.size; (try simp only [World.size_alloc, World.size_setCell, World.size_drew, Nat.add_assoc, Nat.reduceAdd] at hz); (first | obtain ⟨HL, hk⟩ := HL.call hb hz (by simp only [World.size_alloc, World.size_setCell, World.size_drew, Nat.add_assoc, Nat.reduceAdd]) | obtain ⟨HL, hk⟩ := HL.call0 hb hz (by first | rfl | simp only [World.size_alloc, World.size_setCell, World.size_drew, Nat.add_assoc, Nat.reduceAdd])); (try simp only [addN, Nat.add_zero] at HL hk); have hl := HL; simp only [Live] at hl; (try simp only [Kept] at hk)))
  go_ret2
  exact ⟨rfl, by (repeat' (first | (with_reducible exact Below.refl _ _) | (with_reducible refine Below.alloc ?_ ?_ _) | (with_reducible refine Below.setCell ?_ ?_ _) | (with_reducible refine Below.drew ?_) | (with_reducible refine below_drewN' ?_) | (with_reducible refine below_bytesW ?_ ?_) | (with_reducible refine Below.trans ?_ (Below.mono (by assumption) ?_)) | omega | (simp only [World.size_alloc, World.size_setCell, World.size_drew]; omega) | (simp [size_bytesW]; omega) | (simp; omega)))⟩
set_option maxHeartbeats 2000000 in
theorem rstamp_yes (t z : Int) (ht : 315532800 ≤ t ∧ t ≤ 4102444799) (hz : -1440 ≤ z ∧ z ≤ 1440) (w : World) :
    Calls Tryd.prog 24 #[.int .i64 t, .int .i64 z] w (StP (t + 60 * z) z w) := by
  have cv := fun (W : World) (x0 x1 x2 x3 x4 x5 x6 x7 x8 : Int) => conv_at (P := Tryd.prog) 47 9 5 Tryd.underlying47 Tryd.underlying5 Tryd.underlying9 W 5 [x0, x1, x2, x3, x4, x5, x6, x7, x8, 0, 0, 0] #[.int .u8 x0, .int .u8 x1, .int .u8 x2, .int .u8 x3, .int .u8 x4, .int .u8 x5, .int .u8 x6, .int .u8 x7, .int .u8 x8, .int .u8 0, .int .u8 0, .int .u8 0] rfl 12 12 rfl
  have HL : Live w [] := trivial
  go_enter Tryd.func24, Tryd.ntmps24
  go_wp2_with fail
  (first | ((with_reducible refine (rsplit_yes _ _ (by omega) (by omega) _).mono ?_); rintro e w1 ⟨cY, cM, cD, ch, cm, cs, rfl, hv, hq, hb⟩; have hvv := hv; unfold vClk at hvv; have hmd := mdays_bd cY cM; have hQ := hide hq; clear hq; have hz := hb.size; (try simp only [World.size_alloc, World.size_setCell, World.size_drew, Nat.add_assoc, Nat.reduceAdd] at hz); (first | obtain ⟨HL, hk⟩ := HL.call hb hz (by simp only [World.size_alloc, World.size_setCell, World.size_drew, Nat.add_assoc, Nat.reduceAdd]) | obtain ⟨HL, hk⟩ := HL.call0 hb hz (by first | rfl | simp only [World.size_alloc, World.size_setCell, World.size_drew, Nat.add_assoc, Nat.reduceAdd])); (try simp only [addN, Nat.add_zero] at HL hk); have hl := HL; simp only [Live] at hl; (try simp only [Kept] at hk)))
  go_wp2
  go_ret2
  exact ⟨cY, cM, cD, ch, cm, cs, by first | rfl | simp [stS], hv, hQ.out, by (repeat' (first | (with_reducible exact Below.refl _ _) | (with_reducible refine Below.alloc ?_ ?_ _) | (with_reducible refine Below.setCell ?_ ?_ _) | (with_reducible refine Below.drew ?_) | (with_reducible refine below_drewN' ?_) | (with_reducible refine below_bytesW ?_ ?_) | (with_reducible refine Below.trans ?_ (Below.mono (by assumption) ?_)) | omega | (simp only [World.size_alloc, World.size_setCell, World.size_drew]; omega) | (simp [size_bytesW]; omega) | (simp; omega)))⟩

end Go.Proofs.YtkkkfbhpphngmaaDoor
