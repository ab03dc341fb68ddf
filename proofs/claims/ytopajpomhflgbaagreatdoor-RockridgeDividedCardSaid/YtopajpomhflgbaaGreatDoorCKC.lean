/- Contracts of Valid, seconds, Join of package datetime and its reference. -/
import Derived.Test.YtopajpomhflgbaaGreatDoorCKB
namespace Go.Proofs.YtopajpomhflgbaaGreatDoor.Dt
set_option linter.unusedSimpArgs false
set_option linter.unusedVariables false
open Go.RowKit

theorem dby_bd (y : Int) (h : 1900 ≤ y) (h2 : y ≤ 2156) : 693960 ≤ dby y ∧ dby y ≤ 787500 := by unfold dby; omega
theorem dby1970 : dby 1970 = 719528 := by decide
set_option maxHeartbeats 2000000 in
theorem seconds_any (Y M D h m s : Int) (hv : vClk Y M D h m s) (w : World) :
    Calls Tryz.prog 139 #[.agg #[.int .i64 Y, .int .i64 M, .int .i64 D, .int .i64 h, .int .i64 m, .int .i64 s]] w fun e w' => e = .returned (.int .i64 (secs Y M D h m s)) ∧ Below w.heap.size w w' := by
  obtain ⟨a1, a2, a3, a4, a5, a6, a7, a8, a9, a10, a11, a12⟩ := hv
  have mdM := mdays_bd Y M
  have cM := cum_bd Y M a3 (by omega)
  have c1 := hide (cum_one Y)
  have d70 := hide dby1970
  have HL : Live w [] := trivial
  go_enter Tryz.func139, Tryz.ntmps139
  go_wp2
  go_loopw [3, 4] (fun d k wr => ∃ j : Int, 1 ≤ j ∧ j ≤ M ∧ k = .int .i64 j ∧ d = .int .i64 (D - 1 + cum Y j) ∧ Below w.heap.size w wr ∧ Blk wr w.heap.size #[.int .i64 Y, .int .i64 M, .int .i64 D, .int .i64 h, .int .i64 m, .int .i64 s] 96) (fun _ k _ => (M - intOf k).toNat)
  case atStart => exact ⟨1, by omega, by omega, rfl, by rw [c1.out]; go_num, by (repeat' (first | (with_reducible exact Below.refl _ _) | (with_reducible refine Below.alloc ?_ ?_ _) | (with_reducible refine Below.setCell ?_ ?_ _) | (with_reducible refine Below.drew ?_) | (with_reducible refine below_drewN' ?_) | (with_reducible refine below_bytesW ?_ ?_) | (with_reducible refine Below.trans ?_ (Below.mono (by assumption) ?_)) | omega | (simp only [World.size_alloc, World.size_setCell, World.size_drew]; omega) | (simp [size_bytesW]; omega) | (simp; omega))), Blk.newAt rfl⟩
  case round =>
    obtain ⟨j, hj1, hj2, rfl, rfl, hbel, hB⟩ := hrel
    have hsz := hbel.size
    have hc := hB.cells
    have hf := hB.free
    have HL : Live wr [w.heap.size] := ⟨hB.lt, trivial⟩
    have cj := cum_bd Y j hj1 (by omega)
    have mj := mdays_bd Y j
    by_cases hlt : j < M
    · have cs := hide (cum_succ Y j hj1 (by omega))
      go_wp2_with (first | (go_at_call 96; (with_reducible refine (monthDays_any _ _ (by omega) (by omega) (by omega) _).mono ?_); rintro e w' ⟨rfl, hb⟩; have hz := hb.size; (try simp only [World.size_alloc, World.size_setCell, World.size_drew, Nat.add_assoc, Nat.reduceAdd] at hz); (first | obtain ⟨HL, hk⟩ := HL.call hb hz (by simp only [World.size_alloc, World.size_setCell, World.size_drew, Nat.add_assoc, Nat.reduceAdd]) | obtain ⟨HL, hk⟩ := HL.call0 hb hz (by first | rfl | simp only [World.size_alloc, World.size_setCell, World.size_drew, Nat.add_assoc, Nat.reduceAdd])); (try simp only [addN, Nat.add_zero] at HL hk); have hl := HL; simp only [Live] at hl; (try simp only [Kept] at hk)))
      go_roundw
      case rel => exact ⟨j + 1, by omega, by omega, rfl, by rw [cs.out]; go_num, by (repeat' (first | (with_reducible exact Below.refl _ _) | (with_reducible refine Below.alloc ?_ ?_ _) | (with_reducible refine Below.setCell ?_ ?_ _) | (with_reducible refine Below.drew ?_) | (with_reducible refine below_drewN' ?_) | (with_reducible refine below_bytesW ?_ ?_) | (with_reducible refine Below.trans ?_ (Below.mono (by assumption) ?_)) | omega | (simp only [World.size_alloc, World.size_setCell, World.size_drew]; omega) | (simp [size_bytesW]; omega) | (simp; omega))), hB.below hb⟩
      case measure => simp [intOf]; omega
    · obtain rfl : j = M := by omega
      go_wp2
      go_loop [3, 5] (fun d y => ∃ k : Int, 1970 ≤ k ∧ (k ≤ Y ∨ k = 1970) ∧ y = .int .i64 k ∧ d = .int .i64 (D - 1 + cum Y j + (dby k - 719528))) (fun _ y => (Y - intOf y).toNat)
      case atStart => exact ⟨1970, by omega, by omega, rfl, by rw [d70.out]; go_num⟩
      case round =>
        obtain ⟨k, hk1, hk2, rfl, rfl⟩ := hrel
        have yk := ydays_bd k
        have dk := dby_bd k (by omega) (by omega)
        by_cases hlt2 : k < Y
        · have ds := hide (dby_succ k)
          go_wp2_with (first | (go_at_call 95; (with_reducible refine (yearDays_any _ (by omega) _).mono ?_); rintro e w' ⟨rfl, rfl⟩))
          go_round
          case rel => exact ⟨k + 1, by omega, by omega, rfl, by rw [ds.out]; go_num⟩
          case measure => simp [intOf]; omega
        · clear dk yk
          have dk := dby_bd k (by omega) (by omega)
          have dY := dby_bd Y (by omega) (by omega)
          go_wp2
          go_loop [3, 6] (fun d z => ∃ q : Int, Y ≤ q ∧ q ≤ k ∧ z = .int .i64 q ∧ d = .int .i64 (D - 1 + cum Y j + (dby k - 719528) - (dby q - dby Y))) (fun _ z => (1970 - intOf z).toNat)
          case atStart => exact ⟨Y, by omega, by omega, rfl, by go_num⟩
          case round =>
            obtain ⟨q, hq1, hq2, rfl, rfl⟩ := hrel
            have yq := ydays_bd q
            have dq := dby_bd q (by omega) (by omega)
            by_cases hlt3 : q < 1970
            · have ds := hide (dby_succ q)
              go_wp2_with (first | (go_at_call 95; (with_reducible refine (yearDays_any _ (by omega) _).mono ?_); rintro e w' ⟨rfl, rfl⟩))
              go_round
              case rel => exact ⟨q + 1, by omega, by omega, rfl, by rw [ds.out]; go_num⟩
              case measure => simp [intOf]; omega
            · obtain rfl : q = k := by omega
              go_wp2
              go_ret
              exact ⟨ret_i (by unfold secs; omega), by (repeat' (first | (with_reducible exact Below.refl _ _) | (with_reducible refine Below.alloc ?_ ?_ _) | (with_reducible refine Below.setCell ?_ ?_ _) | (with_reducible refine Below.drew ?_) | (with_reducible refine below_drewN' ?_) | (with_reducible refine below_bytesW ?_ ?_) | (with_reducible refine Below.trans ?_ (Below.mono (by assumption) ?_)) | omega | (simp only [World.size_alloc, World.size_setCell, World.size_drew]; omega) | (simp [size_bytesW]; omega) | (simp; omega)))⟩
end Go.Proofs.YtopajpomhflgbaaGreatDoor.Dt
