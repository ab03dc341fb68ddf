/- Contracts at a clock that is known. -/
import Derived.Test.YtkkkfbhpphngmaaDoorI
namespace Go.Proofs.YtkkkfbhpphngmaaDoor
set_option linter.unusedSimpArgs false
set_option linter.unusedVariables false
open Go.RowKit

theorem Tab.alloc {w : World} (h : Tab w) (o : Obj) : Tab (w.alloc o) := h.below (Below.alloc (Below.refl _ _) (Nat.le_refl _) _)
theorem split_at (t z : Int) (Y M D h m s : Int) (hv : vClk Y M D h m s) (he : secs Y M D h m s = t + 60 * z) (ht : 315532800 ≤ t ∧ t ≤ 4102444799) (hz : -1440 ≤ z ∧ z ≤ 1440) (w : World) :
    Calls Tryd.prog 12 #[.int .i64 t, .int .i64 z] w fun e w' => e = .returned (.tuple #[.agg #[.int .i64 Y, .int .i64 M, .int .i64 D, .int .i64 h, .int .i64 m, .int .i64 s], .int .i64 0]) ∧ Below w.heap.size w w' := by
  refine (split_yes t z ht hz w).mono fun e w' ⟨cY, cM, cD, ch, cm, cs, h1, h2, h3, h4⟩ => ?_
  obtain ⟨rfl, rfl, rfl, rfl, rfl, rfl⟩ := secs_inj hv h2 (he.trans h3.symm)
  exact ⟨h1, h4⟩

theorem rsplit_at (t z : Int) (Y M D h m s : Int) (hv : vClk Y M D h m s) (he : secs Y M D h m s = t + 60 * z) (ht : 315532800 ≤ t ∧ t ≤ 4102444799) (hz : -1440 ≤ z ∧ z ≤ 1440) (w : World) :
    Calls Tryd.prog 13 #[.int .i64 t, .int .i64 z] w fun e w' => e = .returned (.tuple #[.agg #[.int .i64 Y, .int .i64 M, .int .i64 D, .int .i64 h, .int .i64 m, .int .i64 s], .int .i64 0]) ∧ Below w.heap.size w w' := by
  refine (rsplit_yes t z ht hz w).mono fun e w' ⟨cY, cM, cD, ch, cm, cs, h1, h2, h3, h4⟩ => ?_
  obtain ⟨rfl, rfl, rfl, rfl, rfl, rfl⟩ := secs_inj hv h2 (he.trans h3.symm)
  exact ⟨h1, h4⟩

theorem record_at (t z q : Int) (Y M D h m s : Int) (hv : vClk Y M D h m s) (he : secs Y M D h m s = t + 60 * z) (ht : 315532800 ≤ t ∧ t ≤ 4102444799) (hq : z = 15 * q) (hr : -48 ≤ q ∧ q ≤ 52) (w : World) :
    Calls Tryd.prog 19 #[.int .i64 t, .int .i64 z] w fun e w' => e = .returned (.tuple #[.string (recS Y M D h m s q), .int .i64 0]) ∧ Below w.heap.size w w' := by
  subst hq
  refine (record_yes t q ht hr w).mono fun e w' ⟨cY, cM, cD, ch, cm, cs, h1, h2, h3, h4⟩ => ?_
  obtain ⟨rfl, rfl, rfl, rfl, rfl, rfl⟩ := secs_inj hv h2 (he.trans h3.symm)
  exact ⟨h1, h4⟩

theorem rrecord_at (t z q : Int) (Y M D h m s : Int) (hv : vClk Y M D h m s) (he : secs Y M D h m s = t + 60 * z) (ht : 315532800 ≤ t ∧ t ≤ 4102444799) (hq : z = 15 * q) (hr : -48 ≤ q ∧ q ≤ 52) (w : World) :
    Calls Tryd.prog 20 #[.int .i64 t, .int .i64 z] w fun e w' => e = .returned (.tuple #[.string (recS Y M D h m s q), .int .i64 0]) ∧ Below w.heap.size w w' := by
  subst hq
  refine (rrecord_yes t q ht hr w).mono fun e w' ⟨cY, cM, cD, ch, cm, cs, h1, h2, h3, h4⟩ => ?_
  obtain ⟨rfl, rfl, rfl, rfl, rfl, rfl⟩ := secs_inj hv h2 (he.trans h3.symm)
  exact ⟨h1, h4⟩

theorem stamp_at (t z : Int) (Y M D h m s : Int) (hv : vClk Y M D h m s) (he : secs Y M D h m s = t + 60 * z) (ht : 315532800 ≤ t ∧ t ≤ 4102444799) (hz : -1440 ≤ z ∧ z ≤ 1440) (w : World) :
    Calls Tryd.prog 23 #[.int .i64 t, .int .i64 z] w fun e w' => e = .returned (.tuple #[.string (stS Y M D h m s z), .int .i64 0]) ∧ Below w.heap.size w w' := by
  refine (stamp_yes t z ht hz w).mono fun e w' ⟨cY, cM, cD, ch, cm, cs, h1, h2, h3, h4⟩ => ?_
  obtain ⟨rfl, rfl, rfl, rfl, rfl, rfl⟩ := secs_inj hv h2 (he.trans h3.symm)
  exact ⟨h1, h4⟩

theorem rstamp_at (t z : Int) (Y M D h m s : Int) (hv : vClk Y M D h m s) (he : secs Y M D h m s = t + 60 * z) (ht : 315532800 ≤ t ∧ t ≤ 4102444799) (hz : -1440 ≤ z ∧ z ≤ 1440) (w : World) :
    Calls Tryd.prog 24 #[.int .i64 t, .int .i64 z] w fun e w' => e = .returned (.tuple #[.string (stS Y M D h m s z), .int .i64 0]) ∧ Below w.heap.size w w' := by
  refine (rstamp_yes t z ht hz w).mono fun e w' ⟨cY, cM, cD, ch, cm, cs, h1, h2, h3, h4⟩ => ?_
  obtain ⟨rfl, rfl, rfl, rfl, rfl, rfl⟩ := secs_inj hv h2 (he.trans h3.symm)
  exact ⟨h1, h4⟩

theorem desc_at (t z q : Int) (Y M D h m s : Int) (hv : vClk Y M D h m s) (he : secs Y M D h m s = t + 60 * z) (ht : 315532800 ≤ t ∧ t ≤ 4102444799) (hq : z = 15 * q) (hr : -48 ≤ q ∧ q ≤ 52) (w : World) (hT : Tab w) :
    Calls Tryd.prog 27 #[.int .i64 t, .int .i64 z] w fun e w' => e = .returned (.tuple #[.string (descS Y M D h m s q), .int .i64 0]) ∧ Below w.heap.size w w' := by
  subst hq
  refine (desc_yes t q ht hr w hT).mono fun e w' ⟨cY, cM, cD, ch, cm, cs, h1, h2, h3, h4⟩ => ?_
  obtain ⟨rfl, rfl, rfl, rfl, rfl, rfl⟩ := secs_inj hv h2 (he.trans h3.symm)
  exact ⟨h1, h4⟩


theorem join_at (t z : Int) (Y M D h m s : Int) (hv : vClk Y M D h m s) (he : secs Y M D h m s = t + 60 * z) (ht : 315532800 ≤ t ∧ t ≤ 4102444799) (hz : -1440 ≤ z ∧ z ≤ 1440) (w : World) :
    Calls Tryd.prog 14 #[.agg #[.int .i64 Y, .int .i64 M, .int .i64 D, .int .i64 h, .int .i64 m, .int .i64 s], .int .i64 z] w fun e w' => e = .returned (.tuple #[.int .i64 t, .int .i64 0]) ∧ Below w.heap.size w w' := by
  have e1 : secs Y M D h m s - 60 * z = t := by omega
  have := join_yes Y M D h m s z hv (zoneB_true.2 hz) (by rw [e1]; exact timeB_true.2 ht) w
  rw [e1] at this
  exact this

theorem rjoin_at (t z : Int) (Y M D h m s : Int) (hv : vClk Y M D h m s) (he : secs Y M D h m s = t + 60 * z) (ht : 315532800 ≤ t ∧ t ≤ 4102444799) (hz : -1440 ≤ z ∧ z ≤ 1440) (w : World) :
    Calls Tryd.prog 15 #[.agg #[.int .i64 Y, .int .i64 M, .int .i64 D, .int .i64 h, .int .i64 m, .int .i64 s], .int .i64 z] w fun e w' => e = .returned (.tuple #[.int .i64 t, .int .i64 0]) ∧ Below w.heap.size w w' := by
  have e1 : secs Y M D h m s - 60 * z = t := by omega
  have := rjoin_yes Y M D h m s z hv (zoneB_true.2 hz) (by rw [e1]; exact timeB_true.2 ht) w
  rw [e1] at this
  exact this

set_option maxHeartbeats 400000 in
theorem unspec_any (w : World) : Calls Tryd.prog 32 #[] w fun e w' => e = .returned (.string ⟨#[48, 48, 48, 48, 48, 48, 48, 48, 48, 48, 48, 48, 48, 48, 48, 48, 0]⟩) ∧ w = w' := by
  have HL : Live w [] := trivial
  go_enter Tryd.func32, Tryd.ntmps32
  go_wp2
  go_ret
  exact ⟨rfl, rfl⟩

set_option maxHeartbeats 2000000 in
theorem awake_any (w : World) (hT : Tab w) : Calls Tryd.prog 11 #[] w fun e w' => e = .returned (.bool true) ∧ Below w.heap.size w w' := by
  have v1 : vClk 2026 11 16 17 4 5 := by decide
  have v2 : vClk 2026 11 16 15 4 5 := by decide
  have q1 : secs 2026 11 16 17 4 5 = 1794845045 + 60 * 60 := by decide
  have q2 : secs 2026 11 16 15 4 5 = 1794845045 + 60 * -60 := by decide
  have Q1 := hide q1
  have Q2 := hide q2
  clear q1 q2
  have r1 : recS 2026 11 16 17 4 5 4 = ⟨#[126, 11, 16, 17, 4, 5, 4]⟩ := by decide
  have r2 : descS 2026 11 16 17 4 5 4 = ⟨#[50, 48, 50, 54, 49, 49, 49, 54, 49, 55, 48, 52, 48, 53, 48, 48, 4]⟩ := by decide
  have r3 : stS 2026 11 16 17 4 5 60 = ⟨#[60, 16, 234, 7, 11, 16, 17, 4, 5, 0, 0, 0]⟩ := by decide
  have r4 : stS 2026 11 16 15 4 5 (-60) = ⟨#[196, 31, 234, 7, 11, 16, 15, 4, 5, 0, 0, 0]⟩ := by decide
  have x1 : (ByteArray.extract ⟨#[196, 31, 234, 7, 11, 16, 15, 4, 5, 0, 0, 0]⟩ 0 2).toList = [196, 31] := by decide +kernel
  have HL : Live w [] := trivial
  go_enter Tryd.func11, Tryd.ntmps11
  go_wp2_with fail
  (first | ((with_reducible refine (split_at 1794845045 60 2026 11 16 17 4 5 v1 Q1.out (by omega) (by omega) _).mono ?_); rintro e w1 ⟨rfl, hb⟩; have hz := hb.size; (try simp only [World.size_alloc, World.size_setCell, World.size_drew, Nat.add_assoc, Nat.reduceAdd] at hz); (first | obtain ⟨HL, hk⟩ := HL.call hb hz (by simp only [World.size_alloc, World.size_setCell, World.size_drew, Nat.add_assoc, Nat.reduceAdd]) | obtain ⟨HL, hk⟩ := HL.call0 hb hz (by first | rfl | simp only [World.size_alloc, World.size_setCell, World.size_drew, Nat.add_assoc, Nat.reduceAdd])); (try simp only [addN, Nat.add_zero] at HL hk); have hl := HL; simp only [Live] at hl; (try simp only [Kept] at hk)))
  have hT1 := hT.below hb
  go_wp2_with fail
  (first | ((with_reducible refine (join_at 1794845045 60 2026 11 16 17 4 5 v1 Q1.out (by omega) (by omega) _).mono ?_); rintro e w2 ⟨rfl, hb⟩; have hz := hb.size; (try simp only [World.size_alloc, World.size_setCell, World.size_drew, Nat.add_assoc, Nat.reduceAdd] at hz); (first | obtain ⟨HL, hk⟩ := HL.call hb hz (by simp only [World.size_alloc, World.size_setCell, World.size_drew, Nat.add_assoc, Nat.reduceAdd]) | obtain ⟨HL, hk⟩ := HL.call0 hb hz (by first | rfl | simp only [World.size_alloc, World.size_setCell, World.size_drew, Nat.add_assoc, Nat.reduceAdd])); (try simp only [addN, Nat.add_zero] at HL hk); have hl := HL; simp only [Live] at hl; (try simp only [Kept] at hk)))
  have hT2 := (hT1.alloc _).below hb
  go_wp2_with fail
  (first | ((with_reducible refine (record_at 1794845045 60 4 2026 11 16 17 4 5 v1 Q1.out (by omega) (by omega) (by omega) _).mono ?_); rintro e w3 ⟨rfl, hb⟩; have hz := hb.size; (try simp only [World.size_alloc, World.size_setCell, World.size_drew, Nat.add_assoc, Nat.reduceAdd] at hz); (first | obtain ⟨HL, hk⟩ := HL.call hb hz (by simp only [World.size_alloc, World.size_setCell, World.size_drew, Nat.add_assoc, Nat.reduceAdd]) | obtain ⟨HL, hk⟩ := HL.call0 hb hz (by first | rfl | simp only [World.size_alloc, World.size_setCell, World.size_drew, Nat.add_assoc, Nat.reduceAdd])); (try simp only [addN, Nat.add_zero] at HL hk); have hl := HL; simp only [Live] at hl; (try simp only [Kept] at hk)))
  have hT3 := hT2.below hb
  go_wp2_with fail
  (first | ((with_reducible refine (desc_at 1794845045 60 4 2026 11 16 17 4 5 v1 Q1.out (by omega) (by omega) (by omega) _ hT3).mono ?_); rintro e w4 ⟨rfl, hb⟩; have hz := hb.size; (try simp only [World.size_alloc, World.size_setCell, World.size_drew, Nat.add_assoc, Nat.reduceAdd] at hz); (first | obtain ⟨HL, hk⟩ := HL.call hb hz (by simp only [World.size_alloc, World.size_setCell, World.size_drew, Nat.add_assoc, Nat.reduceAdd]) | obtain ⟨HL, hk⟩ := HL.call0 hb hz (by first | rfl | simp only [World.size_alloc, World.size_setCell, World.size_drew, Nat.add_assoc, Nat.reduceAdd])); (try simp only [addN, Nat.add_zero] at HL hk); have hl := HL; simp only [Live] at hl; (try simp only [Kept] at hk)))
  go_wp2_with fail
  (first | ((with_reducible refine (stamp_at 1794845045 60 2026 11 16 17 4 5 v1 Q1.out (by omega) (by omega) _).mono ?_); rintro e w5 ⟨rfl, hb⟩; have hz := hb.size; (try simp only [World.size_alloc, World.size_setCell, World.size_drew, Nat.add_assoc, Nat.reduceAdd] at hz); (first | obtain ⟨HL, hk⟩ := HL.call hb hz (by simp only [World.size_alloc, World.size_setCell, World.size_drew, Nat.add_assoc, Nat.reduceAdd]) | obtain ⟨HL, hk⟩ := HL.call0 hb hz (by first | rfl | simp only [World.size_alloc, World.size_setCell, World.size_drew, Nat.add_assoc, Nat.reduceAdd])); (try simp only [addN, Nat.add_zero] at HL hk); have hl := HL; simp only [Live] at hl; (try simp only [Kept] at hk)))
  go_wp2_with fail
  (first | ((with_reducible refine (stamp_at 1794845045 (-60) 2026 11 16 15 4 5 v2 Q2.out (by omega) (by omega) _).mono ?_); rintro e w6 ⟨rfl, hb⟩; have hz := hb.size; (try simp only [World.size_alloc, World.size_setCell, World.size_drew, Nat.add_assoc, Nat.reduceAdd] at hz); (first | obtain ⟨HL, hk⟩ := HL.call hb hz (by simp only [World.size_alloc, World.size_setCell, World.size_drew, Nat.add_assoc, Nat.reduceAdd]) | obtain ⟨HL, hk⟩ := HL.call0 hb hz (by first | rfl | simp only [World.size_alloc, World.size_setCell, World.size_drew, Nat.add_assoc, Nat.reduceAdd])); (try simp only [addN, Nat.add_zero] at HL hk); have hl := HL; simp only [Live] at hl; (try simp only [Kept] at hk)))
  go_wp2_with (first | (go_at_call 32; (with_reducible refine (unspec_any _).mono ?_); rintro e w' ⟨rfl, rfl⟩))
  go_ret
  exact ⟨rfl, by (repeat' (first | (with_reducible exact Below.refl _ _) | (with_reducible refine Below.alloc ?_ ?_ _) | (with_reducible refine Below.setCell ?_ ?_ _) | (with_reducible refine Below.drew ?_) | (with_reducible refine below_drewN' ?_) | (with_reducible refine below_bytesW ?_ ?_) | (with_reducible refine Below.trans ?_ (Below.mono (by assumption) ?_)) | omega | (simp only [World.size_alloc, World.size_setCell, World.size_drew]; omega) | (simp [size_bytesW]; omega) | (simp; omega)))⟩
end Go.Proofs.YtkkkfbhpphngmaaDoor
