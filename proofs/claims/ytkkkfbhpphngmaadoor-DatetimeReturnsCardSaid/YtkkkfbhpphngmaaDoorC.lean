/- Contracts of Valid, seconds, Join of package datetime and its reference. -/
import Derived.Test.YtkkkfbhpphngmaaDoorB
namespace Go.Proofs.YtkkkfbhpphngmaaDoor
set_option linter.unusedSimpArgs false
set_option linter.unusedVariables false
open Go.RowKit

set_option maxHeartbeats 2000000 in
theorem rvalid_any (Y M D h m s : Int) (w : World) :
    Calls Tryd.prog 40 #[.agg #[.int .i64 Y, .int .i64 M, .int .i64 D, .int .i64 h, .int .i64 m, .int .i64 s]] w fun e w' => e = .returned (.bool (vClkB Y M D h m s)) ∧ Below w.heap.size w w' := by
  by_cases g0 : 1900 ≤ Y
  case neg =>
    have f0 : decide (1900 ≤ Y) = false := by simpa using g0
    have HL : Live w [] := trivial
    go_enter Tryd.func40, Tryd.ntmps40
    go_wp2_with fail
    go_quiet (fail)
    go_wp2
    go_ret
    exact ⟨vClk_close (by unfold vClk; simp; try omega), by (repeat' (first | (with_reducible exact Below.refl _ _) | (with_reducible refine Below.alloc ?_ ?_ _) | (with_reducible refine Below.setCell ?_ ?_ _) | (with_reducible refine Below.drew ?_) | (with_reducible refine below_drewN' ?_) | (with_reducible refine below_bytesW ?_ ?_) | (with_reducible refine Below.trans ?_ (Below.mono (by assumption) ?_)) | omega | (simp only [World.size_alloc, World.size_setCell, World.size_drew]; omega) | (simp [size_bytesW]; omega) | (simp; omega)))⟩
  by_cases g1 : Y ≤ 2155
  case neg =>
    have f1 : decide (Y ≤ 2155) = false := by simpa using g1
    have HL : Live w [] := trivial
    go_enter Tryd.func40, Tryd.ntmps40
    go_wp2_with fail
    go_quiet (fail)
    go_wp2
    go_ret
    exact ⟨vClk_close (by unfold vClk; simp; try omega), by (repeat' (first | (with_reducible exact Below.refl _ _) | (with_reducible refine Below.alloc ?_ ?_ _) | (with_reducible refine Below.setCell ?_ ?_ _) | (with_reducible refine Below.drew ?_) | (with_reducible refine below_drewN' ?_) | (with_reducible refine below_bytesW ?_ ?_) | (with_reducible refine Below.trans ?_ (Below.mono (by assumption) ?_)) | omega | (simp only [World.size_alloc, World.size_setCell, World.size_drew]; omega) | (simp [size_bytesW]; omega) | (simp; omega)))⟩
  by_cases g2 : 1 ≤ M
  case neg =>
    have f2 : decide (1 ≤ M) = false := by simpa using g2
    have HL : Live w [] := trivial
    go_enter Tryd.func40, Tryd.ntmps40
    go_wp2_with fail
    go_quiet (fail)
    go_wp2
    go_ret
    exact ⟨vClk_close (by unfold vClk; simp; try omega), by (repeat' (first | (with_reducible exact Below.refl _ _) | (with_reducible refine Below.alloc ?_ ?_ _) | (with_reducible refine Below.setCell ?_ ?_ _) | (with_reducible refine Below.drew ?_) | (with_reducible refine below_drewN' ?_) | (with_reducible refine below_bytesW ?_ ?_) | (with_reducible refine Below.trans ?_ (Below.mono (by assumption) ?_)) | omega | (simp only [World.size_alloc, World.size_setCell, World.size_drew]; omega) | (simp [size_bytesW]; omega) | (simp; omega)))⟩
  by_cases g3 : M ≤ 12
  case neg =>
    have f3 : decide (M ≤ 12) = false := by simpa using g3
    have HL : Live w [] := trivial
    go_enter Tryd.func40, Tryd.ntmps40
    go_wp2_with fail
    go_quiet (fail)
    go_wp2
    go_ret
    exact ⟨vClk_close (by unfold vClk; simp; try omega), by (repeat' (first | (with_reducible exact Below.refl _ _) | (with_reducible refine Below.alloc ?_ ?_ _) | (with_reducible refine Below.setCell ?_ ?_ _) | (with_reducible refine Below.drew ?_) | (with_reducible refine below_drewN' ?_) | (with_reducible refine below_bytesW ?_ ?_) | (with_reducible refine Below.trans ?_ (Below.mono (by assumption) ?_)) | omega | (simp only [World.size_alloc, World.size_setCell, World.size_drew]; omega) | (simp [size_bytesW]; omega) | (simp; omega)))⟩
  have hm := mdays_bd Y M
  have CD := hide (fun W => (rdays_any Y M (by omega) (by omega) (by omega) W).mono (fun e w' h => (⟨h.1, h.2.symm⟩ : e = Ending.returned (.int .i64 (mdays Y M)) ∧ w' = W)))
  by_cases g4 : 1 ≤ D
  case neg =>
    have f4 : decide (1 ≤ D) = false := by simpa using g4
    have HL : Live w [] := trivial
    go_enter Tryd.func40, Tryd.ntmps40
    go_wp2_with fail
    go_quiet (fail)
    go_wp2
    go_ret
    exact ⟨vClk_close (by unfold vClk; simp; try omega), by (repeat' (first | (with_reducible exact Below.refl _ _) | (with_reducible refine Below.alloc ?_ ?_ _) | (with_reducible refine Below.setCell ?_ ?_ _) | (with_reducible refine Below.drew ?_) | (with_reducible refine below_drewN' ?_) | (with_reducible refine below_bytesW ?_ ?_) | (with_reducible refine Below.trans ?_ (Below.mono (by assumption) ?_)) | omega | (simp only [World.size_alloc, World.size_setCell, World.size_drew]; omega) | (simp [size_bytesW]; omega) | (simp; omega)))⟩
  by_cases g5 : D ≤ mdays Y M
  case neg =>
    have f5 : decide (D ≤ mdays Y M) = false := by simpa using g5
    have HL : Live w [] := trivial
    go_enter Tryd.func40, Tryd.ntmps40
    go_wp2_with fail
    go_quiet ((go_at_call 56; exact Calls.quiet_of_same (CD.out _)))
    go_wp2
    go_ret
    exact ⟨vClk_close (by unfold vClk; simp; try omega), by (repeat' (first | (with_reducible exact Below.refl _ _) | (with_reducible refine Below.alloc ?_ ?_ _) | (with_reducible refine Below.setCell ?_ ?_ _) | (with_reducible refine Below.drew ?_) | (with_reducible refine below_drewN' ?_) | (with_reducible refine below_bytesW ?_ ?_) | (with_reducible refine Below.trans ?_ (Below.mono (by assumption) ?_)) | omega | (simp only [World.size_alloc, World.size_setCell, World.size_drew]; omega) | (simp [size_bytesW]; omega) | (simp; omega)))⟩
  by_cases g6 : 0 ≤ h
  case neg =>
    have f6 : decide (0 ≤ h) = false := by simpa using g6
    have HL : Live w [] := trivial
    go_enter Tryd.func40, Tryd.ntmps40
    go_wp2_with fail
    go_quiet ((go_at_call 56; exact Calls.quiet_of_same (CD.out _)))
    go_wp2
    go_ret
    exact ⟨vClk_close (by unfold vClk; simp; try omega), by (repeat' (first | (with_reducible exact Below.refl _ _) | (with_reducible refine Below.alloc ?_ ?_ _) | (with_reducible refine Below.setCell ?_ ?_ _) | (with_reducible refine Below.drew ?_) | (with_reducible refine below_drewN' ?_) | (with_reducible refine below_bytesW ?_ ?_) | (with_reducible refine Below.trans ?_ (Below.mono (by assumption) ?_)) | omega | (simp only [World.size_alloc, World.size_setCell, World.size_drew]; omega) | (simp [size_bytesW]; omega) | (simp; omega)))⟩
  by_cases g7 : h ≤ 23
  case neg =>
    have f7 : decide (h ≤ 23) = false := by simpa using g7
    have HL : Live w [] := trivial
    go_enter Tryd.func40, Tryd.ntmps40
    go_wp2_with fail
    go_quiet ((go_at_call 56; exact Calls.quiet_of_same (CD.out _)))
    go_wp2
    go_ret
    exact ⟨vClk_close (by unfold vClk; simp; try omega), by (repeat' (first | (with_reducible exact Below.refl _ _) | (with_reducible refine Below.alloc ?_ ?_ _) | (with_reducible refine Below.setCell ?_ ?_ _) | (with_reducible refine Below.drew ?_) | (with_reducible refine below_drewN' ?_) | (with_reducible refine below_bytesW ?_ ?_) | (with_reducible refine Below.trans ?_ (Below.mono (by assumption) ?_)) | omega | (simp only [World.size_alloc, World.size_setCell, World.size_drew]; omega) | (simp [size_bytesW]; omega) | (simp; omega)))⟩
  by_cases g8 : 0 ≤ m
  case neg =>
    have f8 : decide (0 ≤ m) = false := by simpa using g8
    have HL : Live w [] := trivial
    go_enter Tryd.func40, Tryd.ntmps40
    go_wp2_with fail
    go_quiet ((go_at_call 56; exact Calls.quiet_of_same (CD.out _)))
    go_wp2
    go_ret
    exact ⟨vClk_close (by unfold vClk; simp; try omega), by (repeat' (first | (with_reducible exact Below.refl _ _) | (with_reducible refine Below.alloc ?_ ?_ _) | (with_reducible refine Below.setCell ?_ ?_ _) | (with_reducible refine Below.drew ?_) | (with_reducible refine below_drewN' ?_) | (with_reducible refine below_bytesW ?_ ?_) | (with_reducible refine Below.trans ?_ (Below.mono (by assumption) ?_)) | omega | (simp only [World.size_alloc, World.size_setCell, World.size_drew]; omega) | (simp [size_bytesW]; omega) | (simp; omega)))⟩
  by_cases g9 : m ≤ 59
  case neg =>
    have f9 : decide (m ≤ 59) = false := by simpa using g9
    have HL : Live w [] := trivial
    go_enter Tryd.func40, Tryd.ntmps40
    go_wp2_with fail
    go_quiet ((go_at_call 56; exact Calls.quiet_of_same (CD.out _)))
    go_wp2
    go_ret
    exact ⟨vClk_close (by unfold vClk; simp; try omega), by (repeat' (first | (with_reducible exact Below.refl _ _) | (with_reducible refine Below.alloc ?_ ?_ _) | (with_reducible refine Below.setCell ?_ ?_ _) | (with_reducible refine Below.drew ?_) | (with_reducible refine below_drewN' ?_) | (with_reducible refine below_bytesW ?_ ?_) | (with_reducible refine Below.trans ?_ (Below.mono (by assumption) ?_)) | omega | (simp only [World.size_alloc, World.size_setCell, World.size_drew]; omega) | (simp [size_bytesW]; omega) | (simp; omega)))⟩
  by_cases g10 : 0 ≤ s
  case neg =>
    have f10 : decide (0 ≤ s) = false := by simpa using g10
    have HL : Live w [] := trivial
    go_enter Tryd.func40, Tryd.ntmps40
    go_wp2_with fail
    go_quiet ((go_at_call 56; exact Calls.quiet_of_same (CD.out _)))
    go_wp2
    go_ret
    exact ⟨vClk_close (by unfold vClk; simp; try omega), by (repeat' (first | (with_reducible exact Below.refl _ _) | (with_reducible refine Below.alloc ?_ ?_ _) | (with_reducible refine Below.setCell ?_ ?_ _) | (with_reducible refine Below.drew ?_) | (with_reducible refine below_drewN' ?_) | (with_reducible refine below_bytesW ?_ ?_) | (with_reducible refine Below.trans ?_ (Below.mono (by assumption) ?_)) | omega | (simp only [World.size_alloc, World.size_setCell, World.size_drew]; omega) | (simp [size_bytesW]; omega) | (simp; omega)))⟩
  by_cases g11 : s ≤ 59
  case neg =>
    have f11 : decide (s ≤ 59) = false := by simpa using g11
    have HL : Live w [] := trivial
    go_enter Tryd.func40, Tryd.ntmps40
    go_wp2_with fail
    go_quiet ((go_at_call 56; exact Calls.quiet_of_same (CD.out _)))
    go_wp2
    go_ret
    exact ⟨vClk_close (by unfold vClk; simp; try omega), by (repeat' (first | (with_reducible exact Below.refl _ _) | (with_reducible refine Below.alloc ?_ ?_ _) | (with_reducible refine Below.setCell ?_ ?_ _) | (with_reducible refine Below.drew ?_) | (with_reducible refine below_drewN' ?_) | (with_reducible refine below_bytesW ?_ ?_) | (with_reducible refine Below.trans ?_ (Below.mono (by assumption) ?_)) | omega | (simp only [World.size_alloc, World.size_setCell, World.size_drew]; omega) | (simp [size_bytesW]; omega) | (simp; omega)))⟩
  have HL : Live w [] := trivial
  go_enter Tryd.func40, Tryd.ntmps40
  go_wp2_with fail
  go_quiet ((go_at_call 56; exact Calls.quiet_of_same (CD.out _)))
  go_wp2
  go_ret
  exact ⟨vClk_close (by unfold vClk; simp; try omega), by (repeat' (first | (with_reducible exact Below.refl _ _) | (with_reducible refine Below.alloc ?_ ?_ _) | (with_reducible refine Below.setCell ?_ ?_ _) | (with_reducible refine Below.drew ?_) | (with_reducible refine below_drewN' ?_) | (with_reducible refine below_bytesW ?_ ?_) | (with_reducible refine Below.trans ?_ (Below.mono (by assumption) ?_)) | omega | (simp only [World.size_alloc, World.size_setCell, World.size_drew]; omega) | (simp [size_bytesW]; omega) | (simp; omega)))⟩

theorem dby_bd (y : Int) (h : 1900 ≤ y) (h2 : y ≤ 2156) : 693960 ≤ dby y ∧ dby y ≤ 787500 := by unfold dby; omega
theorem dby1970 : dby 1970 = 719528 := by decide
set_option maxHeartbeats 2000000 in
theorem seconds_any (Y M D h m s : Int) (hv : vClk Y M D h m s) (w : World) :
    Calls Tryd.prog 39 #[.agg #[.int .i64 Y, .int .i64 M, .int .i64 D, .int .i64 h, .int .i64 m, .int .i64 s]] w fun e w' => e = .returned (.int .i64 (secs Y M D h m s)) ∧ Below w.heap.size w w' := by
  obtain ⟨a1, a2, a3, a4, a5, a6, a7, a8, a9, a10, a11, a12⟩ := hv
  have mdM := mdays_bd Y M
  have cM := cum_bd Y M a3 (by omega)
  have c1 := hide (cum_one Y)
  have d70 := hide dby1970
  have HL : Live w [] := trivial
  go_enter Tryd.func39, Tryd.ntmps39
  go_wp2
  go_loopw [3, 4] (fun d k wr => ∃ j : Int, 1 ≤ j ∧ j ≤ M ∧ k = .int .i64 j ∧ d = .int .i64 (D - 1 + cum Y j) ∧ Below w.heap.size w wr ∧ Blk wr w.heap.size #[.int .i64 Y, .int .i64 M, .int .i64 D, .int .i64 h, .int .i64 m, .int .i64 s] 23) (fun _ k _ => (M - intOf k).toNat)
  case atStart => exact ⟨1, by omega, by omega, rfl, by rw [c1.out]; go_num, by (repeat' (first | (with_reducible exact Below.refl _ _) | (with_reducible refine Below.alloc ?_ ?_ _) | (with_reducible refine Below.setCell ?_ ?_ _) | (with_reducible refine Below.drew ?_) | (with_reducible refine below_drewN' ?_) | (with_reducible refine below_bytesW ?_ ?_) | (with_reducible refine Below.trans ?_ (Below.mono (by assumption) ?_)) | omega | (simp only [World.size_alloc, World.size_setCell, World.size_drew]; omega) | (simp [size_bytesW]; omega) | (simp; omega))), Blk.newAt rfl⟩
  case round =>
    obtain ⟨j, hj1, hj2, rfl, rfl, hbel, hB⟩ := hrel
    have hsz := hbel.size
    have hc := hB.cells
    have hf := hB.free
    have HL : Live wr [w.heap.size] := ⟨hB.lt, trivial⟩
    have cj := cum_bd Y j hj1 (by omega)
    have mj := mdays_bd Y j
    by_cases hlt : j < M
    · have cs := hide (cum_succ Y j hj1 (by omega))
      go_wp2_with (first | (go_at_call 36; (with_reducible refine (monthDays_any _ _ (by omega) (by omega) (by omega) _).mono ?_); rintro e w' ⟨rfl, hb⟩; have hz := hb.size; (try simp only [World.size_alloc, World.size_setCell, World.size_drew, Nat.add_assoc, Nat.reduceAdd] at hz); (first | obtain ⟨HL, hk⟩ := HL.call hb hz (by simp only [World.size_alloc, World.size_setCell, World.size_drew, Nat.add_assoc, Nat.reduceAdd]) | obtain ⟨HL, hk⟩ := HL.call0 hb hz (by first | rfl | simp only [World.size_alloc, World.size_setCell, World.size_drew, Nat.add_assoc, Nat.reduceAdd])); (try simp only [addN, Nat.add_zero] at HL hk); have hl := HL; simp only [Live] at hl; (try simp only [Kept] at hk)))
      go_roundw
      case rel => exact ⟨j + 1, by omega, by omega, rfl, by rw [cs.out]; go_num, by (repeat' (first | (with_reducible exact Below.refl _ _) | (with_reducible refine Below.alloc ?_ ?_ _) | (with_reducible refine Below.setCell ?_ ?_ _) | (with_reducible refine Below.drew ?_) | (with_reducible refine below_drewN' ?_) | (with_reducible refine below_bytesW ?_ ?_) | (with_reducible refine Below.trans ?_ (Below.mono (by assumption) ?_)) | omega | (simp only [World.size_alloc, World.size_setCell, World.size_drew]; omega) | (simp [size_bytesW]; omega) | (simp; omega))), hB.below hb⟩
      case measure => simp [intOf]; omega
    · obtain rfl : j = M := by omega
      go_wp2
      go_loop [3, 5] (fun d y => ∃ k : Int, 1970 ≤ k ∧ (k ≤ Y ∨ k = 1970) ∧ y = .int .i64 k ∧ d = .int .i64 (D - 1 + cum Y j + (dby k - 719528))) (fun _ y => (Y - intOf y).toNat)
      case atStart => exact ⟨1970, by omega, by omega, rfl, by rw [d70.out]; go_num⟩
      case round =>
        obtain ⟨k, hk1, hk2, rfl, rfl⟩ := hrel
        have yk := ydays_bd k
        have dk := dby_bd k (by omega) (by omega)
        by_cases hlt2 : k < Y
        · have ds := hide (dby_succ k)
          go_wp2_with (first | (go_at_call 35; (with_reducible refine (yearDays_any _ (by omega) _).mono ?_); rintro e w' ⟨rfl, rfl⟩))
          go_round
          case rel => exact ⟨k + 1, by omega, by omega, rfl, by rw [ds.out]; go_num⟩
          case measure => simp [intOf]; omega
        · clear dk yk
          have dk := dby_bd k (by omega) (by omega)
          have dY := dby_bd Y (by omega) (by omega)
          go_wp2
          go_loop [3, 6] (fun d z => ∃ q : Int, Y ≤ q ∧ q ≤ k ∧ z = .int .i64 q ∧ d = .int .i64 (D - 1 + cum Y j + (dby k - 719528) - (dby q - dby Y))) (fun _ z => (1970 - intOf z).toNat)
          case atStart => exact ⟨Y, by omega, by omega, rfl, by go_num⟩
          case round =>
            obtain ⟨q, hq1, hq2, rfl, rfl⟩ := hrel
            have yq := ydays_bd q
            have dq := dby_bd q (by omega) (by omega)
            by_cases hlt3 : q < 1970
            · have ds := hide (dby_succ q)
              go_wp2_with (first | (go_at_call 35; (with_reducible refine (yearDays_any _ (by omega) _).mono ?_); rintro e w' ⟨rfl, rfl⟩))
              go_round
              case rel => exact ⟨q + 1, by omega, by omega, rfl, by rw [ds.out]; go_num⟩
              case measure => simp [intOf]; omega
            · obtain rfl : q = k := by omega
              go_wp2
              go_ret
              exact ⟨ret_i (by unfold secs; omega), by (repeat' (first | (with_reducible exact Below.refl _ _) | (with_reducible refine Below.alloc ?_ ?_ _) | (with_reducible refine Below.setCell ?_ ?_ _) | (with_reducible refine Below.drew ?_) | (with_reducible refine below_drewN' ?_) | (with_reducible refine below_bytesW ?_ ?_) | (with_reducible refine Below.trans ?_ (Below.mono (by assumption) ?_)) | omega | (simp only [World.size_alloc, World.size_setCell, World.size_drew]; omega) | (simp [size_bytesW]; omega) | (simp; omega)))⟩
end Go.Proofs.YtkkkfbhpphngmaaDoor
