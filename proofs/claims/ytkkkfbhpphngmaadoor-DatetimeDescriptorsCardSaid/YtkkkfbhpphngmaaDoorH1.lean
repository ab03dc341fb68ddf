/- Contracts of read and finish at one answer, for every clock, zone and flag. -/
import Derived.Test.YtkkkfbhpphngmaaDoorG
namespace Go.Proofs.YtkkkfbhpphngmaaDoor
set_option linter.unusedSimpArgs false
set_option linter.unusedVariables false
open Go.RowKit

def ro1 (Y M D h m s z : Int) (r : Bool) : Int := if (r && vClkB Y M D h m s && timeB (secs Y M D h m s - 60 * z)) = true then secs Y M D h m s - 60 * z else 0
def ro2 (Y M D h m s z : Int) (r : Bool) : Int := if (r && vClkB Y M D h m s && timeB (secs Y M D h m s - 60 * z)) = true then z else 0
def ro3 (Y M D h m s z : Int) (r : Bool) : Int := if (r && vClkB Y M D h m s) = true then (if timeB (secs Y M D h m s - 60 * z) = true then 0 else 2) else 10
/-- The answer of a reader. -/
def RoP (Y M D h m s z : Int) (r : Bool) (w : World) (e : Ending) (w' : World) : Prop :=
  e = .returned (.tuple #[.int .i64 (ro1 Y M D h m s z r), .int .i64 (ro2 Y M D h m s z r), .int .i64 (ro3 Y M D h m s z r)]) ∧ Below w.heap.size w w'
theorem RoP.bad {Y M D h m s z : Int} {r : Bool} (hb : (r && vClkB Y M D h m s) = false) {w : World} {e : Ending} {w' : World} (he : e = .returned (.tuple #[.int .i64 0, .int .i64 0, .int .i64 10])) (hw : Below w.heap.size w w') : RoP Y M D h m s z r w e w' := by
  refine ⟨?_, hw⟩
  rw [he]; unfold ro1 ro2 ro3; simp [hb]
theorem RoP.range {Y M D h m s z : Int} {r : Bool} (hr : r = true) (hv : vClk Y M D h m s) (ht : timeB (secs Y M D h m s - 60 * z) = false) {w : World} {e : Ending} {w' : World} (he : e = .returned (.tuple #[.int .i64 0, .int .i64 0, .int .i64 2])) (hw : Below w.heap.size w w') : RoP Y M D h m s z r w e w' := by
  refine ⟨?_, hw⟩
  have hv' := vClkB_true.2 hv
  rw [he]; unfold ro1 ro2 ro3; simp [hr, hv', ht]
theorem RoP.yes {Y M D h m s z : Int} {r : Bool} (hr : r = true) (hv : vClk Y M D h m s) (ht : timeB (secs Y M D h m s - 60 * z) = true) {w : World} {e : Ending} {w' : World} (he : e = .returned (.tuple #[.int .i64 (secs Y M D h m s - 60 * z), .int .i64 z, .int .i64 0])) (hw : Below w.heap.size w w') : RoP Y M D h m s z r w e w' := by
  refine ⟨?_, hw⟩
  have hv' := vClkB_true.2 hv
  rw [he]; unfold ro1 ro2 ro3; simp [hr, hv', ht]

theorem read_any (Y M D h m s z : Int) (r : Bool) (hz : r = true → zoneB z = true) (w : World) :
    Calls Tryd.prog 45 #[.agg #[.int .i64 Y, .int .i64 M, .int .i64 D, .int .i64 h, .int .i64 m, .int .i64 s], .int .i64 z, .bool r] w (RoP Y M D h m s z r w) := by
  cases hb : (r && vClkB Y M D h m s)
  · exact (read_bad Y M D h m s z r hb w).mono fun e w' h => RoP.bad hb h.1 h.2
  · simp only [Bool.and_eq_true] at hb
    obtain ⟨rfl, hv⟩ := hb
    have hv := vClkB_true.1 hv
    cases ht : timeB (secs Y M D h m s - 60 * z)
    · exact (read_range Y M D h m s z hv (by rw [ht]; simp) w).mono fun e w' h => RoP.range rfl hv ht h.1 h.2
    · exact (read_yes Y M D h m s z hv (hz rfl) ht w).mono fun e w' h => RoP.yes rfl hv ht h.1 h.2

theorem finish_any (Y M D h m s z : Int) (hv : vClk Y M D h m s) (hz : -3000 ≤ z ∧ z ≤ 3000) (w : World) :
    Calls Tryd.prog 47 #[.agg #[.int .i64 Y, .int .i64 M, .int .i64 D, .int .i64 h, .int .i64 m, .int .i64 s], .int .i64 z] w (RoP Y M D h m s z true w) := by
  cases ht : timeB (secs Y M D h m s - 60 * z)
  · exact (finish_range Y M D h m s z hv hz ht w).mono fun e w' h => RoP.range rfl hv ht h.1 h.2
  · exact (finish_yes Y M D h m s z hv hz ht w).mono fun e w' h => RoP.yes rfl hv ht h.1 h.2
end Go.Proofs.YtkkkfbhpphngmaaDoor
