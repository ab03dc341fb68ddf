/- The contract of clocks, which compares two clocks; the day after. -/
import Derived.Test.YtkkkfbhpphngmaaDoorJ
namespace Go.Proofs.YtkkkfbhpphngmaaDoor
set_option linter.unusedSimpArgs false
set_option linter.unusedVariables false
open Go.RowKit

/-- The first difference that is not zero. -/
def cmp6 (Y M D h m s Y' M' D' h' m' s' : Int) : Int :=
  if Y - Y' ≠ 0 then Y - Y' else if M - M' ≠ 0 then M - M' else if D - D' ≠ 0 then D - D' else if h - h' ≠ 0 then h - h' else if m - m' ≠ 0 then m - m' else s - s'

/-- The difference at place k is zero, if place k lies before j. -/
def ZeroTo (j k : Nat) (d : Int) : Prop := j ≤ k ∨ d = 0
theorem ZeroTo.mk {j k : Nat} {d : Int} (h : j ≤ k ∨ d = 0) : ZeroTo j k d := h
theorem ZeroTo.get {j k : Nat} {d : Int} (h : ZeroTo j k d) : j ≤ k ∨ d = 0 := h

set_option maxHeartbeats 4000000 in
theorem clocks_any (Y M D h m s Y' M' D' h' m' s' : Int) (hv : vClk Y M D h m s) (hv' : vClk Y' M' D' h' m' s') (w : World) :
    Calls Tryd.prog 18 #[.agg #[.int .i64 Y, .int .i64 M, .int .i64 D, .int .i64 h, .int .i64 m, .int .i64 s], .agg #[.int .i64 Y', .int .i64 M', .int .i64 D', .int .i64 h', .int .i64 m', .int .i64 s']] w
      fun e w' => e = .returned (.int .i64 (cmp6 Y M D h m s Y' M' D' h' m' s')) ∧ Below w.heap.size w w' := by
  obtain ⟨a1, a2, a3, a4, a5, a6, a7, a8, a9, a10, a11, a12⟩ := hv
  obtain ⟨b1, b2, b3, b4, b5, b6, b7, b8, b9, b10, b11, b12⟩ := hv'
  have m1 := mdays_bd Y M
  have m2 := mdays_bd Y' M'
  have HL : Live w [] := trivial
  go_enter Tryd.func18, Tryd.ntmps18
  go_wp2
  go_loop [4, 7, 41] (fun _ _ k => ∃ j : Nat, j ≤ 6 ∧ k = .int .i64 j ∧ ZeroTo j 0 (Y - Y') ∧ ZeroTo j 1 (M - M') ∧ ZeroTo j 2 (D - D') ∧ ZeroTo j 3 (h - h') ∧ ZeroTo j 4 (m - m') ∧ ZeroTo j 5 (s - s')) (fun _ _ k => (6 - intOf k).toNat)
  case atStart => exact ⟨0, by omega, rfl, .mk (by omega), .mk (by omega), .mk (by omega), .mk (by omega), .mk (by omega), .mk (by omega)⟩
  case round =>
    obtain ⟨j, hj, rfl, c0, c1, c2, c3, c4, c5⟩ := hrel
    rcases (show j = 0 ∨ j = 1 ∨ j = 2 ∨ j = 3 ∨ j = 4 ∨ j = 5 ∨ j = 6 by omega) with rfl | rfl | rfl | rfl | rfl | rfl | rfl
    · by_cases g : Y - Y' = 0
      · go_wp2
        go_round
        case rel => exact ⟨_, _, _, ⟨1, by omega, rfl, .mk (by omega), .mk (by omega), .mk (by omega), .mk (by omega), .mk (by omega), .mk (by omega)⟩, rfl, rfl, rfl⟩
        case measure => simp [intOf]; try omega
      · go_wp2
        go_ret
        exact ⟨ret_i (by unfold cmp6; repeat' split
                         all_goals omega), by (repeat' (first | (with_reducible exact Below.refl _ _) | (with_reducible refine Below.alloc ?_ ?_ _) | (with_reducible refine Below.setCell ?_ ?_ _) | (with_reducible refine Below.drew ?_) | (with_reducible refine below_drewN' ?_) | (with_reducible refine below_bytesW ?_ ?_) | (with_reducible refine Below.trans ?_ (Below.mono (by assumption) ?_)) | omega | (simp only [World.size_alloc, World.size_setCell, World.size_drew]; omega) | (simp [size_bytesW]; omega) | (simp; omega)))⟩
    · by_cases g : M - M' = 0
      · go_wp2
        go_round
        case rel => exact ⟨_, _, _, ⟨2, by omega, rfl, c0.get.elim (fun h => .mk (by omega)) (fun h => .mk (.inr h)), .mk (by omega), .mk (by omega), .mk (by omega), .mk (by omega), .mk (by omega)⟩, rfl, rfl, rfl⟩
        case measure => simp [intOf]; try omega
      · have e0 := c0.get
        go_wp2
        go_ret
        exact ⟨ret_i (by unfold cmp6; repeat' split
                         all_goals omega), by (repeat' (first | (with_reducible exact Below.refl _ _) | (with_reducible refine Below.alloc ?_ ?_ _) | (with_reducible refine Below.setCell ?_ ?_ _) | (with_reducible refine Below.drew ?_) | (with_reducible refine below_drewN' ?_) | (with_reducible refine below_bytesW ?_ ?_) | (with_reducible refine Below.trans ?_ (Below.mono (by assumption) ?_)) | omega | (simp only [World.size_alloc, World.size_setCell, World.size_drew]; omega) | (simp [size_bytesW]; omega) | (simp; omega)))⟩
    · by_cases g : D - D' = 0
      · go_wp2
        go_round
        case rel => exact ⟨_, _, _, ⟨3, by omega, rfl, c0.get.elim (fun h => .mk (by omega)) (fun h => .mk (.inr h)), c1.get.elim (fun h => .mk (by omega)) (fun h => .mk (.inr h)), .mk (by omega), .mk (by omega), .mk (by omega), .mk (by omega)⟩, rfl, rfl, rfl⟩
        case measure => simp [intOf]; try omega
      · have e0 := c0.get
        have e1 := c1.get
        go_wp2
        go_ret
        exact ⟨ret_i (by unfold cmp6; repeat' split
                         all_goals omega), by (repeat' (first | (with_reducible exact Below.refl _ _) | (with_reducible refine Below.alloc ?_ ?_ _) | (with_reducible refine Below.setCell ?_ ?_ _) | (with_reducible refine Below.drew ?_) | (with_reducible refine below_drewN' ?_) | (with_reducible refine below_bytesW ?_ ?_) | (with_reducible refine Below.trans ?_ (Below.mono (by assumption) ?_)) | omega | (simp only [World.size_alloc, World.size_setCell, World.size_drew]; omega) | (simp [size_bytesW]; omega) | (simp; omega)))⟩
    · by_cases g : h - h' = 0
      · go_wp2
        go_round
        case rel => exact ⟨_, _, _, ⟨4, by omega, rfl, c0.get.elim (fun h => .mk (by omega)) (fun h => .mk (.inr h)), c1.get.elim (fun h => .mk (by omega)) (fun h => .mk (.inr h)), c2.get.elim (fun h => .mk (by omega)) (fun h => .mk (.inr h)), .mk (by omega), .mk (by omega), .mk (by omega)⟩, rfl, rfl, rfl⟩
        case measure => simp [intOf]; try omega
      · have e0 := c0.get
        have e1 := c1.get
        have e2 := c2.get
        go_wp2
        go_ret
        exact ⟨ret_i (by unfold cmp6; repeat' split
                         all_goals omega), by (repeat' (first | (with_reducible exact Below.refl _ _) | (with_reducible refine Below.alloc ?_ ?_ _) | (with_reducible refine Below.setCell ?_ ?_ _) | (with_reducible refine Below.drew ?_) | (with_reducible refine below_drewN' ?_) | (with_reducible refine below_bytesW ?_ ?_) | (with_reducible refine Below.trans ?_ (Below.mono (by assumption) ?_)) | omega | (simp only [World.size_alloc, World.size_setCell, World.size_drew]; omega) | (simp [size_bytesW]; omega) | (simp; omega)))⟩
    · by_cases g : m - m' = 0
      · go_wp2
        go_round
        case rel => exact ⟨_, _, _, ⟨5, by omega, rfl, c0.get.elim (fun h => .mk (by omega)) (fun h => .mk (.inr h)), c1.get.elim (fun h => .mk (by omega)) (fun h => .mk (.inr h)), c2.get.elim (fun h => .mk (by omega)) (fun h => .mk (.inr h)), c3.get.elim (fun h => .mk (by omega)) (fun h => .mk (.inr h)), .mk (by omega), .mk (by omega)⟩, rfl, rfl, rfl⟩
        case measure => simp [intOf]; try omega
      · have e0 := c0.get
        have e1 := c1.get
        have e2 := c2.get
        have e3 := c3.get
        go_wp2
        go_ret
        exact ⟨ret_i (by unfold cmp6; repeat' split
                         all_goals omega), by (repeat' (first | (with_reducible exact Below.refl _ _) | (with_reducible refine Below.alloc ?_ ?_ _) | (with_reducible refine Below.setCell ?_ ?_ _) | (with_reducible refine Below.drew ?_) | (with_reducible refine below_drewN' ?_) | (with_reducible refine below_bytesW ?_ ?_) | (with_reducible refine Below.trans ?_ (Below.mono (by assumption) ?_)) | omega | (simp only [World.size_alloc, World.size_setCell, World.size_drew]; omega) | (simp [size_bytesW]; omega) | (simp; omega)))⟩
    · by_cases g : s - s' = 0
      · go_wp2
        go_round
        case rel => exact ⟨_, _, _, ⟨6, by omega, rfl, c0.get.elim (fun h => .mk (by omega)) (fun h => .mk (.inr h)), c1.get.elim (fun h => .mk (by omega)) (fun h => .mk (.inr h)), c2.get.elim (fun h => .mk (by omega)) (fun h => .mk (.inr h)), c3.get.elim (fun h => .mk (by omega)) (fun h => .mk (.inr h)), c4.get.elim (fun h => .mk (by omega)) (fun h => .mk (.inr h)), .mk (by omega)⟩, rfl, rfl, rfl⟩
        case measure => simp [intOf]; try omega
      · have e0 := c0.get
        have e1 := c1.get
        have e2 := c2.get
        have e3 := c3.get
        have e4 := c4.get
        go_wp2
        go_ret
        exact ⟨ret_i (by unfold cmp6; repeat' split
                         all_goals omega), by (repeat' (first | (with_reducible exact Below.refl _ _) | (with_reducible refine Below.alloc ?_ ?_ _) | (with_reducible refine Below.setCell ?_ ?_ _) | (with_reducible refine Below.drew ?_) | (with_reducible refine below_drewN' ?_) | (with_reducible refine below_bytesW ?_ ?_) | (with_reducible refine Below.trans ?_ (Below.mono (by assumption) ?_)) | omega | (simp only [World.size_alloc, World.size_setCell, World.size_drew]; omega) | (simp [size_bytesW]; omega) | (simp; omega)))⟩
    · have e0 := c0.get
      have e1 := c1.get
      have e2 := c2.get
      have e3 := c3.get
      have e4 := c4.get
      have e5 := c5.get
      go_wp2
      go_ret
      exact ⟨ret_i (by unfold cmp6; repeat' split
                       all_goals omega), by (repeat' (first | (with_reducible exact Below.refl _ _) | (with_reducible refine Below.alloc ?_ ?_ _) | (with_reducible refine Below.setCell ?_ ?_ _) | (with_reducible refine Below.drew ?_) | (with_reducible refine below_drewN' ?_) | (with_reducible refine below_bytesW ?_ ?_) | (with_reducible refine Below.trans ?_ (Below.mono (by assumption) ?_)) | omega | (simp only [World.size_alloc, World.size_setCell, World.size_drew]; omega) | (simp [size_bytesW]; omega) | (simp; omega)))⟩
end Go.Proofs.YtkkkfbhpphngmaaDoor
