/- Contracts and plain words for the laws of volume descriptors, part 3: KC, KD, KE, KF. No condition. -/
import Derived.Test.YtjbhokmkmapkoaaGreatDoorC2
namespace Go.Proofs.YtjbhokmkmapkoaaGreatDoor.Dt
set_option linter.unusedSimpArgs false
set_option linter.unusedVariables false
open Go.RowKit
theorem dby_bd (y : Int) (h : 1900 ≤ y) (h2 : y ≤ 2156) : 693960 ≤ dby y ∧ dby y ≤ 787500 := by unfold dby; omega
theorem dby1970 : dby 1970 = 719528 := by decide
set_option maxHeartbeats 2000000 in
theorem seconds_any (Y M D h m s : Int) (hv : vClk Y M D h m s) (w : World) :
    Calls Tryz.prog 190 #[.agg #[.int .i64 Y, .int .i64 M, .int .i64 D, .int .i64 h, .int .i64 m, .int .i64 s]] w fun e w' => e = .returned (.int .i64 (secs Y M D h m s)) ∧ Below w.heap.size w w' := by
  obtain ⟨a1, a2, a3, a4, a5, a6, a7, a8, a9, a10, a11, a12⟩ := hv
  have mdM := mdays_bd Y M
  have cM := cum_bd Y M a3 (by omega)
  have c1 := hide (cum_one Y)
  have d70 := hide dby1970
  have HL : Live w [] := trivial
  go_enter Tryz.func190, Tryz.ntmps190
  go_wp2
  go_loopw [3, 4] (fun d k wr => ∃ j : Int, 1 ≤ j ∧ j ≤ M ∧ k = .int .i64 j ∧ d = .int .i64 (D - 1 + cum Y j) ∧ Below w.heap.size w wr ∧ Blk wr w.heap.size #[.int .i64 Y, .int .i64 M, .int .i64 D, .int .i64 h, .int .i64 m, .int .i64 s] 110) (fun _ k _ => (M - intOf k).toNat)
  case atStart => exact ⟨1, by omega, by omega, rfl, by rw [c1.out]; go_num, by (repeat' (first | (with_reducible exact Below.refl _ _) | (with_reducible refine Below.alloc ?_ ?_ _) | (with_reducible refine Below.setCell ?_ ?_ _) | (with_reducible refine Below.drew ?_) | (with_reducible refine below_drewN' ?_) | (with_reducible refine below_bytesW ?_ ?_) | (with_reducible refine Below.trans ?_ (Below.mono (by assumption) ?_)) | omega | (simp only [World.size_alloc, World.size_setCell, World.size_drew]; omega) | (simp [size_bytesW]; omega) | (simp; omega))), Blk.newAt rfl⟩
  case round =>
    obtain ⟨j, hj1, hj2, rfl, rfl, hbel, hB⟩ := hrel
    have hsz := hbel.size
    have hc := hB.cells
    have hf := hB.free
    have HL : Live wr [w.heap.size] := ⟨hB.lt, trivial⟩
    have cj := cum_bd Y j hj1 (by omega)
    have mj := mdays_bd Y j
    by_cases hlt : j < M
    · have cs := hide (cum_succ Y j hj1 (by omega))
      go_wp2_with (first | (go_at_call 141; (with_reducible refine (monthDays_any _ _ (by omega) (by omega) (by omega) _).mono ?_); rintro e w' ⟨rfl, hb⟩; have hz := hb.size; (try simp only [World.size_alloc, World.size_setCell, World.size_drew, Nat.add_assoc, Nat.reduceAdd] at hz); (first | obtain ⟨HL, hk⟩ := HL.call hb hz (by simp only [World.size_alloc, World.size_setCell, World.size_drew, Nat.add_assoc, Nat.reduceAdd]) | obtain ⟨HL, hk⟩ := HL.call0 hb hz (by first | rfl | simp only [World.size_alloc, World.size_setCell, World.size_drew, Nat.add_assoc, Nat.reduceAdd])); (try simp only [addN, Nat.add_zero] at HL hk); have hl := HL; simp only [Live] at hl; (try simp only [Kept] at hk)))
      go_roundw
      case rel => exact ⟨j + 1, by omega, by omega, rfl, by rw [cs.out]; go_num, by (repeat' (first | (with_reducible exact Below.refl _ _) | (with_reducible refine Below.alloc ?_ ?_ _) | (with_reducible refine Below.setCell ?_ ?_ _) | (with_reducible refine Below.drew ?_) | (with_reducible refine below_drewN' ?_) | (with_reducible refine below_bytesW ?_ ?_) | (with_reducible refine Below.trans ?_ (Below.mono (by assumption) ?_)) | omega | (simp only [World.size_alloc, World.size_setCell, World.size_drew]; omega) | (simp [size_bytesW]; omega) | (simp; omega))), hB.below hb⟩
      case measure => simp [intOf]; omega
    · obtain rfl : j = M := by omega
      go_wp2
      go_loop [3, 5] (fun d y => ∃ k : Int, 1970 ≤ k ∧ (k ≤ Y ∨ k = 1970) ∧ y = .int .i64 k ∧ d = .int .i64 (D - 1 + cum Y j + (dby k - 719528))) (fun _ y => (Y - intOf y).toNat)
      case atStart => exact ⟨1970, by omega, by omega, rfl, by rw [d70.out]; go_num⟩
      case round =>
        obtain ⟨k, hk1, hk2, rfl, rfl⟩ := hrel
        have yk := ydays_bd k
        have dk := dby_bd k (by omega) (by omega)
        by_cases hlt2 : k < Y
        · have ds := hide (dby_succ k)
          go_wp2_with (first | (go_at_call 140; (with_reducible refine (yearDays_any _ (by omega) _).mono ?_); rintro e w' ⟨rfl, rfl⟩))
          go_round
          case rel => exact ⟨k + 1, by omega, by omega, rfl, by rw [ds.out]; go_num⟩
          case measure => simp [intOf]; omega
        · clear dk yk
          have dk := dby_bd k (by omega) (by omega)
          have dY := dby_bd Y (by omega) (by omega)
          go_wp2
          go_loop [3, 6] (fun d z => ∃ q : Int, Y ≤ q ∧ q ≤ k ∧ z = .int .i64 q ∧ d = .int .i64 (D - 1 + cum Y j + (dby k - 719528) - (dby q - dby Y))) (fun _ z => (1970 - intOf z).toNat)
          case atStart => exact ⟨Y, by omega, by omega, rfl, by go_num⟩
          case round =>
            obtain ⟨q, hq1, hq2, rfl, rfl⟩ := hrel
            have yq := ydays_bd q
            have dq := dby_bd q (by omega) (by omega)
            by_cases hlt3 : q < 1970
            · have ds := hide (dby_succ q)
              go_wp2_with (first | (go_at_call 140; (with_reducible refine (yearDays_any _ (by omega) _).mono ?_); rintro e w' ⟨rfl, rfl⟩))
              go_round
              case rel => exact ⟨q + 1, by omega, by omega, rfl, by rw [ds.out]; go_num⟩
              case measure => simp [intOf]; omega
            · obtain rfl : q = k := by omega
              go_wp2
              go_ret
              exact ⟨ret_i (by unfold secs; omega), by (repeat' (first | (with_reducible exact Below.refl _ _) | (with_reducible refine Below.alloc ?_ ?_ _) | (with_reducible refine Below.setCell ?_ ?_ _) | (with_reducible refine Below.drew ?_) | (with_reducible refine below_drewN' ?_) | (with_reducible refine below_bytesW ?_ ?_) | (with_reducible refine Below.trans ?_ (Below.mono (by assumption) ?_)) | omega | (simp only [World.size_alloc, World.size_setCell, World.size_drew]; omega) | (simp [size_bytesW]; omega) | (simp; omega)))⟩
end Go.Proofs.YtjbhokmkmapkoaaGreatDoor.Dt
namespace Go.Proofs.YtjbhokmkmapkoaaGreatDoor.Dt
set_option linter.unusedSimpArgs false
set_option linter.unusedVariables false
open Go.RowKit
theorem dby_top (y : Int) (h : dby y ≤ 767060) : y ≤ 2101 := by unfold dby at h; omega
/-- The clock of L seconds. -/
def SplitP (L : Int) (w : World) (e : Ending) (w' : World) : Prop :=
  ∃ Y M D h m s : Int, e = .returned (.tuple #[.agg #[.int .i64 Y, .int .i64 M, .int .i64 D, .int .i64 h, .int .i64 m, .int .i64 s], .int .i64 0]) ∧ vClk Y M D h m s ∧ secs Y M D h m s = L ∧ Below w.heap.size w w'
theorem split_fin {L y k d : Int} (h0 : 315446400 ≤ L) (h1 : L ≤ 4102531199) (hy1 : 1970 ≤ y) (hy2 : y ≤ 2101) (hk1 : 1 ≤ k) (hk2 : k ≤ 12) (hd : 0 ≤ d) (hm : d < mdays y k)
    (e : d + cum y k + dby y = L / 86400 + 719528) :
    vClk y k (d + 1) (L % 86400 / 3600) (L % 86400 / 60 % 60) (L % 86400 % 60) ∧ secs y k (d + 1) (L % 86400 / 3600) (L % 86400 / 60 % 60) (L % 86400 % 60) = L := by
  unfold vClk secs
  refine ⟨⟨?_, ?_, ?_, ?_, ?_, ?_, ?_, ?_, ?_, ?_, ?_, ?_⟩, ?_⟩ <;> omega
set_option maxHeartbeats 4000000 in
theorem split_yes (t z : Int) (ht : 315532800 ≤ t ∧ t ≤ 4102444799) (hz : -1440 ≤ z ∧ z ≤ 1440) (w : World) :
    Calls Tryz.prog 83 #[.int .i64 t, .int .i64 z] w (SplitP (t + 60 * z) w) := by
  have tb : timeB t = true := timeB_true.2 ht
  have zb : zoneB z = true := zoneB_true.2 hz
  have d70 := hide dby1970
  have hL1 : 315446400 ≤ t + 60 * z ∧ t + 60 * z ≤ 4102531199 := by omega
  have HL : Live w [] := trivial
  go_enter Tryz.func83, Tryz.ntmps83
  go_wp2_with (first | (go_at_call 138; (with_reducible refine (isTime_any _ _).mono ?_); rintro e w' ⟨rfl, rfl⟩) | (go_at_call 139; (with_reducible refine (isZone_any _ _).mono ?_); rintro e w' ⟨rfl, rfl⟩))
  have e60 := hide (show (t + 60 * z) % 86400 % 60 = t % 60 by omega)
  clear tb zb
  rw [e60.out]
  go_loopw [7] (fun a wr => ∃ y d : Int, a = .int .i64 d ∧ 0 ≤ d ∧ 1970 ≤ y ∧ d + dby y = (t + 60 * z) / 86400 + 719528 ∧ Below w.heap.size w wr ∧ Blk wr w.heap.size #[.int .i64 0, .int .i64 0, .int .i64 0, .int .i64 0, .int .i64 0, .int .i64 0] 110 ∧
    Blk wr (w.heap.size + 1) #[.int .i64 y, .int .i64 1, .int .i64 0, .int .i64 ((t + 60 * z) % 86400 / 3600), .int .i64 ((t + 60 * z) % 86400 / 60 % 60), .int .i64 (t % 60)] 110) (fun a _ => (intOf a).toNat)
  case atStart => exact ⟨1970, (t + 60 * z) / 86400, rfl, by omega, by omega, by rw [d70.out], by (repeat' (first | (with_reducible exact Below.refl _ _) | (with_reducible refine Below.alloc ?_ ?_ _) | (with_reducible refine Below.setCell ?_ ?_ _) | (with_reducible refine Below.drew ?_) | (with_reducible refine below_drewN' ?_) | (with_reducible refine below_bytesW ?_ ?_) | (with_reducible refine Below.trans ?_ (Below.mono (by assumption) ?_)) | omega | (simp only [World.size_alloc, World.size_setCell, World.size_drew]; omega) | (simp [size_bytesW]; omega) | (simp; omega))), (Blk.newAt rfl).alloc _, Blk.newAt (World.size_alloc _ _)⟩
  case round =>
    obtain ⟨y, d, rfl, hd0, hy0, hdy, hbel, hR, hC⟩ := hrel
    have hsz := hbel.size
    have hR1 := hR.cells
    have hR2 := hR.free
    have hC1 := hC.cells
    have hC2 := hC.free
    have hy1 := dby_top y (by omega)
    have yk := ydays_bd y
    have E := hide hdy
    by_cases hlt : ydays y ≤ d
    · have ds := hide (dby_succ y)
      have hdd : d ≤ 80000 := by have := dby_bd y (by omega) (by omega); omega
      clear hdy
      go_wp2_with (first | (go_at_call 140; (with_reducible refine (yearDays_any _ (by omega) _).mono ?_); rintro e w' ⟨rfl, rfl⟩))
      go_roundw
      case rel => exact ⟨y + 1, d - ydays y, by go_num, by omega, by omega, by rw [ds.out, ← E.out]; omega, by (repeat' (first | (with_reducible exact Below.refl _ _) | (with_reducible refine Below.alloc ?_ ?_ _) | (with_reducible refine Below.setCell ?_ ?_ _) | (with_reducible refine Below.drew ?_) | (with_reducible refine below_drewN' ?_) | (with_reducible refine below_bytesW ?_ ?_) | (with_reducible refine Below.trans ?_ (Below.mono (by assumption) ?_)) | omega | (simp only [World.size_alloc, World.size_setCell, World.size_drew]; omega) | (simp [size_bytesW]; omega) | (simp; omega))), hR.other (by omega), hC.put rfl⟩
      case measure => simp [intOf]; omega
    · clear hdy
      go_wp2_with (first | (go_at_call 140; (with_reducible refine (yearDays_any _ (by omega) _).mono ?_); rintro e w' ⟨rfl, rfl⟩))
      have cy1 := hide (cum_one y)
      go_loopw [7] (fun a wv => ∃ k g : Int, a = .int .i64 g ∧ 0 ≤ g ∧ g ≤ d ∧ 1 ≤ k ∧ k ≤ 12 ∧ g + cum y k = d ∧ Below w.heap.size w wv ∧ Blk wv w.heap.size #[.int .i64 0, .int .i64 0, .int .i64 0, .int .i64 0, .int .i64 0, .int .i64 0] 110 ∧
        Blk wv (w.heap.size + 1) #[.int .i64 y, .int .i64 k, .int .i64 0, .int .i64 ((t + 60 * z) % 86400 / 3600), .int .i64 ((t + 60 * z) % 86400 / 60 % 60), .int .i64 (t % 60)] 110) (fun a _ => (intOf a).toNat)
      case atStart => exact ⟨1, d, rfl, by omega, by omega, by omega, by omega, by rw [cy1.out]; omega, by (repeat' (first | (with_reducible exact Below.refl _ _) | (with_reducible refine Below.alloc ?_ ?_ _) | (with_reducible refine Below.setCell ?_ ?_ _) | (with_reducible refine Below.drew ?_) | (with_reducible refine below_drewN' ?_) | (with_reducible refine below_bytesW ?_ ?_) | (with_reducible refine Below.trans ?_ (Below.mono (by assumption) ?_)) | omega | (simp only [World.size_alloc, World.size_setCell, World.size_drew]; omega) | (simp [size_bytesW]; omega) | (simp; omega))), hR, hC⟩
      case round =>
        clear hR hC hR1 hR2 hC1 hC2 hsz hbel
        obtain ⟨k, g, rfl, hg0, hgd, hk1, hk2, hgk, hbel, hR, hC⟩ := hrel
        have hsz := hbel.size
        have hR1 := hR.cells
        have hR2 := hR.free
        have hC1 := hC.cells
        have hC2 := hC.free
        have mk := mdays_bd y k
        have ck := cum_bd y k hk1 (by omega)
        by_cases hlt2 : mdays y k ≤ g
        · have hk3 : k < 12 := by
            rcases Int.lt_or_eq_of_le hk2 with h | rfl
            · exact h
            · have := cum_succ y 12 (by omega) (by omega)
              have := cum_end y
              simp only [Int.reduceAdd] at *
              omega
          have cs := hide (cum_succ y k hk1 hk2)
          have EK := hide hgk
          clear hgk
          have HL : Live wr [w.heap.size + 1, w.heap.size] := ⟨hC.lt, hR.lt, trivial⟩
          go_wp2_with (first | (go_at_call 141; (with_reducible refine (monthDays_any _ _ (by omega) (by omega) (by omega) _).mono ?_); rintro e w' ⟨rfl, hb⟩; have hz := hb.size; (try simp only [World.size_alloc, World.size_setCell, World.size_drew, Nat.add_assoc, Nat.reduceAdd] at hz); (first | obtain ⟨HL, hk⟩ := HL.call hb hz (by simp only [World.size_alloc, World.size_setCell, World.size_drew, Nat.add_assoc, Nat.reduceAdd]) | obtain ⟨HL, hk⟩ := HL.call0 hb hz (by first | rfl | simp only [World.size_alloc, World.size_setCell, World.size_drew, Nat.add_assoc, Nat.reduceAdd])); (try simp only [addN, Nat.add_zero] at HL hk); have hl := HL; simp only [Live] at hl; (try simp only [Kept] at hk)))
          go_roundw
          case rel => exact ⟨k + 1, g - mdays y k, by go_num, by omega, by omega, by omega, by omega, by rw [cs.out]; have := EK.out; omega, by (repeat' (first | (with_reducible exact Below.refl _ _) | (with_reducible refine Below.alloc ?_ ?_ _) | (with_reducible refine Below.setCell ?_ ?_ _) | (with_reducible refine Below.drew ?_) | (with_reducible refine below_drewN' ?_) | (with_reducible refine below_bytesW ?_ ?_) | (with_reducible refine Below.trans ?_ (Below.mono (by assumption) ?_)) | omega | (simp only [World.size_alloc, World.size_setCell, World.size_drew]; omega) | (simp [size_bytesW]; omega) | (simp; omega))), (Blk.below hb (Blk.below ‹Below wr.heap.size wr _› hR)).other (by omega), (Blk.below hb (Blk.below ‹Below wr.heap.size wr _› hC)).put rfl⟩
          case measure => simp [intOf]; omega
        · have EK := hide hgk
          clear hgk
          have HL : Live wr [w.heap.size + 1, w.heap.size] := ⟨hC.lt, hR.lt, trivial⟩
          go_wp2_with (first | (go_at_call 141; (with_reducible refine (monthDays_any _ _ (by omega) (by omega) (by omega) _).mono ?_); rintro e w' ⟨rfl, hb⟩; have hz := hb.size; (try simp only [World.size_alloc, World.size_setCell, World.size_drew, Nat.add_assoc, Nat.reduceAdd] at hz); (first | obtain ⟨HL, hk⟩ := HL.call hb hz (by simp only [World.size_alloc, World.size_setCell, World.size_drew, Nat.add_assoc, Nat.reduceAdd]) | obtain ⟨HL, hk⟩ := HL.call0 hb hz (by first | rfl | simp only [World.size_alloc, World.size_setCell, World.size_drew, Nat.add_assoc, Nat.reduceAdd])); (try simp only [addN, Nat.add_zero] at HL hk); have hl := HL; simp only [Live] at hl; (try simp only [Kept] at hk)))
          have SF := split_fin (L := t + 60 * z) hL1.1 hL1.2 hy0 hy1 hk1 hk2 hg0 (by omega) (by have := E.out; have := EK.out; omega)
          rw [e60.out] at SF
          ((try simp only [Exit.inBlock, Exit.then]); refine bodyPost_ret (by simp only [results, Tryz.results83]; go_simp; try rfl) rfl ?_)
          exact ⟨y, k, g + 1, _, _, _, rfl, SF.1, SF.2, by (repeat' (first | (with_reducible exact Below.refl _ _) | (with_reducible refine Below.alloc ?_ ?_ _) | (with_reducible refine Below.setCell ?_ ?_ _) | (with_reducible refine Below.drew ?_) | (with_reducible refine below_drewN' ?_) | (with_reducible refine below_bytesW ?_ ?_) | (with_reducible refine Below.trans ?_ (Below.mono (by assumption) ?_)) | omega | (simp only [World.size_alloc, World.size_setCell, World.size_drew]; omega) | (simp [size_bytesW]; omega) | (simp; omega)))⟩
set_option maxHeartbeats 400000 in
theorem split_no (t z : Int) (hb : (timeB t && zoneB z) = false) (w : World) :
    Calls Tryz.prog 83 #[.int .i64 t, .int .i64 z] w fun e w' => e = .returned (.tuple #[.agg #[.int .i64 0, .int .i64 0, .int .i64 0, .int .i64 0, .int .i64 0, .int .i64 0], .int .i64 2]) ∧ Below w.heap.size w w' := by
  have H := hide hb
  clear hb
  cases h1 : timeB t
  · have HL : Live w [] := trivial
    go_enter Tryz.func83, Tryz.ntmps83
    go_wp2_with (first | (go_at_call 138; (with_reducible refine (isTime_any _ _).mono ?_); rintro e w' ⟨rfl, rfl⟩) | (go_at_call 139; (with_reducible refine (isZone_any _ _).mono ?_); rintro e w' ⟨rfl, rfl⟩))
    ((try simp only [Exit.inBlock, Exit.then]); refine bodyPost_ret (by simp only [results, Tryz.results83]; go_simp; try rfl) rfl ?_)
    exact ⟨rfl, by (repeat' (first | (with_reducible exact Below.refl _ _) | (with_reducible refine Below.alloc ?_ ?_ _) | (with_reducible refine Below.setCell ?_ ?_ _) | (with_reducible refine Below.drew ?_) | (with_reducible refine below_drewN' ?_) | (with_reducible refine below_bytesW ?_ ?_) | (with_reducible refine Below.trans ?_ (Below.mono (by assumption) ?_)) | omega | (simp only [World.size_alloc, World.size_setCell, World.size_drew]; omega) | (simp [size_bytesW]; omega) | (simp; omega)))⟩
  · have h2 : zoneB z = false := by have := H.out; simpa [h1] using this
    have HL : Live w [] := trivial
    go_enter Tryz.func83, Tryz.ntmps83
    go_wp2_with (first | (go_at_call 138; (with_reducible refine (isTime_any _ _).mono ?_); rintro e w' ⟨rfl, rfl⟩) | (go_at_call 139; (with_reducible refine (isZone_any _ _).mono ?_); rintro e w' ⟨rfl, rfl⟩))
    ((try simp only [Exit.inBlock, Exit.then]); refine bodyPost_ret (by simp only [results, Tryz.results83]; go_simp; try rfl) rfl ?_)
    exact ⟨rfl, by (repeat' (first | (with_reducible exact Below.refl _ _) | (with_reducible refine Below.alloc ?_ ?_ _) | (with_reducible refine Below.setCell ?_ ?_ _) | (with_reducible refine Below.drew ?_) | (with_reducible refine below_drewN' ?_) | (with_reducible refine below_bytesW ?_ ?_) | (with_reducible refine Below.trans ?_ (Below.mono (by assumption) ?_)) | omega | (simp only [World.size_alloc, World.size_setCell, World.size_drew]; omega) | (simp [size_bytesW]; omega) | (simp; omega)))⟩
end Go.Proofs.YtjbhokmkmapkoaaGreatDoor.Dt
namespace Go.Proofs.YtjbhokmkmapkoaaGreatDoor.Dt
set_option linter.unusedSimpArgs false
set_option linter.unusedVariables false
open Go.RowKit
theorem secs_bd {Y M D h m s : Int} (hv : vClk Y M D h m s) : -2300000000 ≤ secs Y M D h m s ∧ secs Y M D h m s ≤ 6000000000 := by
  obtain ⟨a1, a2, a3, a4, a5, a6, a7, a8, a9, a10, a11, a12⟩ := hv
  have := dby_bd Y (by omega) (by omega)
  have := cum_bd Y M a3 (by omega)
  have := mdays_bd Y M
  unfold secs; omega
set_option maxHeartbeats 400000 in
theorem join_zone (Y M D h m s z : Int) (hv : vClk Y M D h m s) (hz : zoneB z = false) (w : World) :
    Calls Tryz.prog 165 #[.agg #[.int .i64 Y, .int .i64 M, .int .i64 D, .int .i64 h, .int .i64 m, .int .i64 s], .int .i64 z] w fun e w' => e = .returned (.tuple #[.int .i64 0, .int .i64 2]) ∧ Below w.heap.size w w' := by
  have hv' := vClkB_true.2 hv
  have HL : Live w [] := trivial
  go_enter Tryz.func165, Tryz.ntmps165
  go_wp2_with (first | (go_at_call 164; (with_reducible refine (valid_any _ _ _ _ _ _ _).mono ?_); rintro e w' ⟨rfl, hb⟩; have hz := hb.size; (try simp only [World.size_alloc, World.size_setCell, World.size_drew, Nat.add_assoc, Nat.reduceAdd] at hz); (first | obtain ⟨HL, hk⟩ := HL.call hb hz (by simp only [World.size_alloc, World.size_setCell, World.size_drew, Nat.add_assoc, Nat.reduceAdd]) | obtain ⟨HL, hk⟩ := HL.call0 hb hz (by first | rfl | simp only [World.size_alloc, World.size_setCell, World.size_drew, Nat.add_assoc, Nat.reduceAdd])); (try simp only [addN, Nat.add_zero] at HL hk); have hl := HL; simp only [Live] at hl; (try simp only [Kept] at hk)) | (go_at_call 139; (with_reducible refine (isZone_any _ _).mono ?_); rintro e w' ⟨rfl, rfl⟩))
  go_ret2
  exact ⟨rfl, by (repeat' (first | (with_reducible exact Below.refl _ _) | (with_reducible refine Below.alloc ?_ ?_ _) | (with_reducible refine Below.setCell ?_ ?_ _) | (with_reducible refine Below.drew ?_) | (with_reducible refine below_drewN' ?_) | (with_reducible refine below_bytesW ?_ ?_) | (with_reducible refine Below.trans ?_ (Below.mono (by assumption) ?_)) | omega | (simp only [World.size_alloc, World.size_setCell, World.size_drew]; omega) | (simp [size_bytesW]; omega) | (simp; omega)))⟩
set_option maxHeartbeats 400000 in
theorem join_time (Y M D h m s z : Int) (hv : vClk Y M D h m s) (hz : zoneB z = true) (ht : timeB (secs Y M D h m s - 60 * z) = false) (w : World) :
    Calls Tryz.prog 165 #[.agg #[.int .i64 Y, .int .i64 M, .int .i64 D, .int .i64 h, .int .i64 m, .int .i64 s], .int .i64 z] w fun e w' => e = .returned (.tuple #[.int .i64 0, .int .i64 2]) ∧ Below w.heap.size w w' := by
  have hv' := vClkB_true.2 hv
  have hq := secs_bd hv
  have hz' := zoneB_true.1 hz
  have HL : Live w [] := trivial
  go_enter Tryz.func165, Tryz.ntmps165
  go_wp2_with (first | (go_at_call 164; (with_reducible refine (valid_any _ _ _ _ _ _ _).mono ?_); rintro e w' ⟨rfl, hb⟩; have hz := hb.size; (try simp only [World.size_alloc, World.size_setCell, World.size_drew, Nat.add_assoc, Nat.reduceAdd] at hz); (first | obtain ⟨HL, hk⟩ := HL.call hb hz (by simp only [World.size_alloc, World.size_setCell, World.size_drew, Nat.add_assoc, Nat.reduceAdd]) | obtain ⟨HL, hk⟩ := HL.call0 hb hz (by first | rfl | simp only [World.size_alloc, World.size_setCell, World.size_drew, Nat.add_assoc, Nat.reduceAdd])); (try simp only [addN, Nat.add_zero] at HL hk); have hl := HL; simp only [Live] at hl; (try simp only [Kept] at hk)) | (go_at_call 139; (with_reducible refine (isZone_any _ _).mono ?_); rintro e w' ⟨rfl, rfl⟩) | (go_at_call 138; (with_reducible refine (isTime_any _ _).mono ?_); rintro e w' ⟨rfl, rfl⟩) | (go_at_call 190; (with_reducible refine (seconds_any _ _ _ _ _ _ (by assumption) _).mono ?_); rintro e w' ⟨rfl, hb⟩; have hz := hb.size; (try simp only [World.size_alloc, World.size_setCell, World.size_drew, Nat.add_assoc, Nat.reduceAdd] at hz); (first | obtain ⟨HL, hk⟩ := HL.call hb hz (by simp only [World.size_alloc, World.size_setCell, World.size_drew, Nat.add_assoc, Nat.reduceAdd]) | obtain ⟨HL, hk⟩ := HL.call0 hb hz (by first | rfl | simp only [World.size_alloc, World.size_setCell, World.size_drew, Nat.add_assoc, Nat.reduceAdd])); (try simp only [addN, Nat.add_zero] at HL hk); have hl := HL; simp only [Live] at hl; (try simp only [Kept] at hk)))
  go_ret2
  exact ⟨rfl, by (repeat' (first | (with_reducible exact Below.refl _ _) | (with_reducible refine Below.alloc ?_ ?_ _) | (with_reducible refine Below.setCell ?_ ?_ _) | (with_reducible refine Below.drew ?_) | (with_reducible refine below_drewN' ?_) | (with_reducible refine below_bytesW ?_ ?_) | (with_reducible refine Below.trans ?_ (Below.mono (by assumption) ?_)) | omega | (simp only [World.size_alloc, World.size_setCell, World.size_drew]; omega) | (simp [size_bytesW]; omega) | (simp; omega)))⟩
set_option maxHeartbeats 400000 in
theorem join_yes (Y M D h m s z : Int) (hv : vClk Y M D h m s) (hz : zoneB z = true) (ht : timeB (secs Y M D h m s - 60 * z) = true) (w : World) :
    Calls Tryz.prog 165 #[.agg #[.int .i64 Y, .int .i64 M, .int .i64 D, .int .i64 h, .int .i64 m, .int .i64 s], .int .i64 z] w fun e w' => e = .returned (.tuple #[.int .i64 (secs Y M D h m s - 60 * z), .int .i64 0]) ∧ Below w.heap.size w w' := by
  have hv' := vClkB_true.2 hv
  have hq := secs_bd hv
  have hz' := zoneB_true.1 hz
  have HL : Live w [] := trivial
  go_enter Tryz.func165, Tryz.ntmps165
  go_wp2_with (first | (go_at_call 164; (with_reducible refine (valid_any _ _ _ _ _ _ _).mono ?_); rintro e w' ⟨rfl, hb⟩; have hz := hb.size; (try simp only [World.size_alloc, World.size_setCell, World.size_drew, Nat.add_assoc, Nat.reduceAdd] at hz); (first | obtain ⟨HL, hk⟩ := HL.call hb hz (by simp only [World.size_alloc, World.size_setCell, World.size_drew, Nat.add_assoc, Nat.reduceAdd]) | obtain ⟨HL, hk⟩ := HL.call0 hb hz (by first | rfl | simp only [World.size_alloc, World.size_setCell, World.size_drew, Nat.add_assoc, Nat.reduceAdd])); (try simp only [addN, Nat.add_zero] at HL hk); have hl := HL; simp only [Live] at hl; (try simp only [Kept] at hk)) | (go_at_call 139; (with_reducible refine (isZone_any _ _).mono ?_); rintro e w' ⟨rfl, rfl⟩) | (go_at_call 138; (with_reducible refine (isTime_any _ _).mono ?_); rintro e w' ⟨rfl, rfl⟩) | (go_at_call 190; (with_reducible refine (seconds_any _ _ _ _ _ _ (by assumption) _).mono ?_); rintro e w' ⟨rfl, hb⟩; have hz := hb.size; (try simp only [World.size_alloc, World.size_setCell, World.size_drew, Nat.add_assoc, Nat.reduceAdd] at hz); (first | obtain ⟨HL, hk⟩ := HL.call hb hz (by simp only [World.size_alloc, World.size_setCell, World.size_drew, Nat.add_assoc, Nat.reduceAdd]) | obtain ⟨HL, hk⟩ := HL.call0 hb hz (by first | rfl | simp only [World.size_alloc, World.size_setCell, World.size_drew, Nat.add_assoc, Nat.reduceAdd])); (try simp only [addN, Nat.add_zero] at HL hk); have hl := HL; simp only [Live] at hl; (try simp only [Kept] at hk)))
  go_ret2
  exact ⟨rfl, by (repeat' (first | (with_reducible exact Below.refl _ _) | (with_reducible refine Below.alloc ?_ ?_ _) | (with_reducible refine Below.setCell ?_ ?_ _) | (with_reducible refine Below.drew ?_) | (with_reducible refine below_drewN' ?_) | (with_reducible refine below_bytesW ?_ ?_) | (with_reducible refine Below.trans ?_ (Below.mono (by assumption) ?_)) | omega | (simp only [World.size_alloc, World.size_setCell, World.size_drew]; omega) | (simp [size_bytesW]; omega) | (simp; omega)))⟩
end Go.Proofs.YtjbhokmkmapkoaaGreatDoor.Dt
namespace Go.Proofs.YtjbhokmkmapkoaaGreatDoor.Dt
set_option linter.unusedSimpArgs false
set_option linter.unusedVariables false
open Go.RowKit
theorem conv_at {P : Program} (src dst e : TypeId) (hs : P.underlying src = some (.slice e)) (he : P.underlying e = some (.int .u8)) (hd : P.underlying dst = some .string)
    (W : World) (t : TypeId) (ns : List Int) (C : Array Value) (hC : C = (ns.map (Value.int .u8)).toArray) (n cap : Nat) (hn : n = ns.length) (b : Nat) (hb : b = W.heap.size) :
    (convert src dst (.slice (some ⟨b, 0, none⟩) n cap)).run P (W.alloc (.cells C t)) = .ok (.string ⟨(ns.map fun n => UInt8.ofNat n.toNat).toArray⟩) (W.alloc (.cells C t)) := by
  subst hb
  exact conv_lit src dst e hs he hd W t ns C hC n cap hn
theorem tdiv15 (q : Int) : (15 * q).tdiv 15 = q := by rw [Int.mul_comm]; exact Int.mul_tdiv_cancel _ (by decide)
theorem tmod15 (q : Int) : (15 * q).tmod 15 = 0 := by rw [Int.mul_comm]; exact Int.mul_tmod_left _ _
theorem quarterB_mul (q : Int) : quarterB (15 * q) = decide (-48 ≤ q ∧ q ≤ 52) := by
  unfold quarterB; rw [tmod15]; apply dec_eq; omega
set_option maxHeartbeats 400000 in
theorem isQuarter_any (z : Int) (w : World) : Calls Tryz.prog 84 #[.int .i64 z] w fun e w' => e = .returned (.bool (quarterB z)) ∧ w = w' := by
  have HL : Live w [] := trivial
  go_enter Tryz.func84, Tryz.ntmps84
  go_wp2
  all_goals
    go_ret
    exact ⟨ret_b (by rw [Bool.eq_iff_iff]; simp [quarterB] <;> omega), rfl⟩
def zby (q : Int) : UInt8 := UInt8.ofNat (q % 256).toNat
def recS (Y M D h m s q : Int) : ByteArray := ⟨#[UInt8.ofNat (Y - 1900).toNat, UInt8.ofNat M.toNat, UInt8.ofNat D.toNat, UInt8.ofNat h.toNat, UInt8.ofNat m.toNat, UInt8.ofNat s.toNat, zby q]⟩
def RecP (L q : Int) (w : World) (e : Ending) (w' : World) : Prop :=
  ∃ Y M D h m s : Int, e = .returned (.tuple #[.string (recS Y M D h m s q), .int .i64 0]) ∧ vClk Y M D h m s ∧ secs Y M D h m s = L ∧ Below w.heap.size w w'
theorem tz_no {t z : Int} (h : (timeB t && quarterB z) = false) : (timeB t && zoneB z) = false ∨ ((timeB t && zoneB z) = true ∧ quarterB z = false) := by
  cases h1 : timeB t <;> cases h2 : zoneB z <;> cases h3 : quarterB z <;> simp_all
set_option maxHeartbeats 400000 in
theorem record_no (t z : Int) (hb : (timeB t && quarterB z) = false) (w : World) :
    Calls Tryz.prog 77 #[.int .i64 t, .int .i64 z] w fun e w' => e = .returned (.tuple #[.string ⟨#[]⟩, .int .i64 2]) ∧ Below w.heap.size w w' := by
  have hn := tz_no hb
  have H := hide hb
  clear hb
  rcases hn with hn | ⟨hn, hq⟩
  · have HL : Live w [] := trivial
    go_enter Tryz.func77, Tryz.ntmps77
    go_wp2_with (first | (go_at_call 83; (with_reducible refine (split_no _ _ (by assumption) _).mono ?_); rintro e w' ⟨rfl, hb⟩; have hz := hb.size; (try simp only [World.size_alloc, World.size_setCell, World.size_drew, Nat.add_assoc, Nat.reduceAdd] at hz); (first | obtain ⟨HL, hk⟩ := HL.call hb hz (by simp only [World.size_alloc, World.size_setCell, World.size_drew, Nat.add_assoc, Nat.reduceAdd]) | obtain ⟨HL, hk⟩ := HL.call0 hb hz (by first | rfl | simp only [World.size_alloc, World.size_setCell, World.size_drew, Nat.add_assoc, Nat.reduceAdd])); (try simp only [addN, Nat.add_zero] at HL hk); have hl := HL; simp only [Live] at hl; (try simp only [Kept] at hk)) | (go_at_call 84; (with_reducible refine (isQuarter_any _ _).mono ?_); rintro e w' ⟨rfl, rfl⟩))
    go_ret2
    exact ⟨rfl, by (repeat' (first | (with_reducible exact Below.refl _ _) | (with_reducible refine Below.alloc ?_ ?_ _) | (with_reducible refine Below.setCell ?_ ?_ _) | (with_reducible refine Below.drew ?_) | (with_reducible refine below_drewN' ?_) | (with_reducible refine below_bytesW ?_ ?_) | (with_reducible refine Below.trans ?_ (Below.mono (by assumption) ?_)) | omega | (simp only [World.size_alloc, World.size_setCell, World.size_drew]; omega) | (simp [size_bytesW]; omega) | (simp; omega)))⟩
  · have ht := timeB_true.1 (by simp only [Bool.and_eq_true] at hn; exact hn.1)
    have hz := zoneB_true.1 (by simp only [Bool.and_eq_true] at hn; exact hn.2)
    clear hn
    have HL : Live w [] := trivial
    go_enter Tryz.func77, Tryz.ntmps77
    go_wp2_with (first | (go_at_call 83; (with_reducible refine (split_yes _ _ (by omega) (by omega) _).mono ?_); rintro e w' ⟨cY, cM, cD, ch, cm, cs, rfl, hv, hq, hb⟩; have hvv := hv; unfold vClk at hvv; have hmd := mdays_bd cY cM; have hQ := hide hq; clear hq; have hz := hb.size; (try simp only [World.size_alloc, World.size_setCell, World.size_drew, Nat.add_assoc, Nat.reduceAdd] at hz); (first | obtain ⟨HL, hk⟩ := HL.call hb hz (by simp only [World.size_alloc, World.size_setCell, World.size_drew, Nat.add_assoc, Nat.reduceAdd]) | obtain ⟨HL, hk⟩ := HL.call0 hb hz (by first | rfl | simp only [World.size_alloc, World.size_setCell, World.size_drew, Nat.add_assoc, Nat.reduceAdd])); (try simp only [addN, Nat.add_zero] at HL hk); have hl := HL; simp only [Live] at hl; (try simp only [Kept] at hk)) | (go_at_call 84; (with_reducible refine (isQuarter_any _ _).mono ?_); rintro e w' ⟨rfl, rfl⟩))
    go_ret2
    exact ⟨rfl, by (repeat' (first | (with_reducible exact Below.refl _ _) | (with_reducible refine Below.alloc ?_ ?_ _) | (with_reducible refine Below.setCell ?_ ?_ _) | (with_reducible refine Below.drew ?_) | (with_reducible refine below_drewN' ?_) | (with_reducible refine below_bytesW ?_ ?_) | (with_reducible refine Below.trans ?_ (Below.mono (by assumption) ?_)) | omega | (simp only [World.size_alloc, World.size_setCell, World.size_drew]; omega) | (simp [size_bytesW]; omega) | (simp; omega)))⟩
set_option maxHeartbeats 1000000 in
theorem record_yes (t q : Int) (ht : 315532800 ≤ t ∧ t ≤ 4102444799) (hq : -48 ≤ q ∧ q ≤ 52) (w : World) :
    Calls Tryz.prog 77 #[.int .i64 t, .int .i64 (15 * q)] w (RecP (t + 60 * (15 * q)) q w) := by
  have qb : quarterB (15 * q) = true := by rw [quarterB_mul]; exact decide_eq_true hq
  have td := tdiv15 q
  have cv := fun (W : World) (x0 x1 x2 x3 x4 x5 x6 : Int) => conv_at (P := Tryz.prog) 48 9 5 Tryz.underlying48 Tryz.underlying5 Tryz.underlying9 W 5 [x0, x1, x2, x3, x4, x5, x6] #[.int .u8 x0, .int .u8 x1, .int .u8 x2, .int .u8 x3, .int .u8 x4, .int .u8 x5, .int .u8 x6] rfl 7 7 rfl
  have HL : Live w [] := trivial
  go_enter Tryz.func77, Tryz.ntmps77
  go_wp2_with (first | (go_at_call 83; (with_reducible refine (split_yes _ _ (by omega) (by omega) _).mono ?_); rintro e w' ⟨cY, cM, cD, ch, cm, cs, rfl, hv, hq, hb⟩; have hvv := hv; unfold vClk at hvv; have hmd := mdays_bd cY cM; have hQ := hide hq; clear hq; have hz := hb.size; (try simp only [World.size_alloc, World.size_setCell, World.size_drew, Nat.add_assoc, Nat.reduceAdd] at hz); (first | obtain ⟨HL, hk⟩ := HL.call hb hz (by simp only [World.size_alloc, World.size_setCell, World.size_drew, Nat.add_assoc, Nat.reduceAdd]) | obtain ⟨HL, hk⟩ := HL.call0 hb hz (by first | rfl | simp only [World.size_alloc, World.size_setCell, World.size_drew, Nat.add_assoc, Nat.reduceAdd])); (try simp only [addN, Nat.add_zero] at HL hk); have hl := HL; simp only [Live] at hl; (try simp only [Kept] at hk)) | (go_at_call 84; (with_reducible refine (isQuarter_any _ _).mono ?_); rintro e w' ⟨rfl, rfl⟩))
  go_ret2
  exact ⟨cY, cM, cD, ch, cm, cs, rfl, hv, hQ.out, by (repeat' (first | (with_reducible exact Below.refl _ _) | (with_reducible refine Below.alloc ?_ ?_ _) | (with_reducible refine Below.setCell ?_ ?_ _) | (with_reducible refine Below.drew ?_) | (with_reducible refine below_drewN' ?_) | (with_reducible refine below_bytesW ?_ ?_) | (with_reducible refine Below.trans ?_ (Below.mono (by assumption) ?_)) | omega | (simp only [World.size_alloc, World.size_setCell, World.size_drew]; omega) | (simp [size_bytesW]; omega) | (simp; omega)))⟩
theorem ret2_vb {v : Value} {a b : Bool} (h : a = b) : Ending.returned (.tuple #[v, .bool a]) = .returned (.tuple #[v, .bool b]) := by rw [h]
def sg (v : Int) : Int := if v < 128 then v else v - 256
def qB (n : Int) : Bool := decide (-48 ≤ n ∧ n ≤ 52)
theorem sg_bd {v : Int} (h : 0 ≤ v ∧ v ≤ 255) : -128 ≤ sg v ∧ sg v ≤ 127 := by unfold sg; split <;> omega
set_option maxHeartbeats 400000 in
theorem quarter_any (v : Int) (h : 0 ≤ v ∧ v ≤ 255) (w : World) : Calls Tryz.prog 117 #[.int .u8 v] w fun e w' => e = .returned (.tuple #[.int .i64 (15 * sg v), .bool (qB (sg v))]) ∧ w = w' := by
  have hs := sg_bd h
  have e8 : IntKind.i8.wrap v = sg v := by unfold sg IntKind.wrap; simp [IntKind.bits, IntKind.signed]; omega
  by_cases h1 : -48 ≤ sg v
  all_goals
    have HL : Live w [] := trivial
    go_enter Tryz.func117, Tryz.ntmps117
    go_wp2
    go_ret2
    exact ⟨ret2_vb (by unfold qB; rw [Bool.eq_iff_iff]; first | (simp; done) | (simp; omega)), rfl⟩
set_option maxHeartbeats 400000 in
theorem read_bad (Y M D h m s z : Int) (r : Bool) (hb : (r && vClkB Y M D h m s) = false) (w : World) :
    Calls Tryz.prog 118 #[.agg #[.int .i64 Y, .int .i64 M, .int .i64 D, .int .i64 h, .int .i64 m, .int .i64 s], .int .i64 z, .bool r] w fun e w' => e = .returned (.tuple #[.int .i64 0, .int .i64 0, .int .i64 10]) ∧ Below w.heap.size w w' := by
  have H := hide hb
  clear hb
  cases r
  · have HL : Live w [] := trivial
    go_enter Tryz.func118, Tryz.ntmps118
    go_wp2_with (first | (go_at_call 164; (with_reducible refine (valid_any _ _ _ _ _ _ _).mono ?_); rintro e w' ⟨rfl, hb⟩; have hz := hb.size; (try simp only [World.size_alloc, World.size_setCell, World.size_drew, Nat.add_assoc, Nat.reduceAdd] at hz); (first | obtain ⟨HL, hk⟩ := HL.call hb hz (by simp only [World.size_alloc, World.size_setCell, World.size_drew, Nat.add_assoc, Nat.reduceAdd]) | obtain ⟨HL, hk⟩ := HL.call0 hb hz (by first | rfl | simp only [World.size_alloc, World.size_setCell, World.size_drew, Nat.add_assoc, Nat.reduceAdd])); (try simp only [addN, Nat.add_zero] at HL hk); have hl := HL; simp only [Live] at hl; (try simp only [Kept] at hk)))
    go_ret3
    exact ⟨rfl, by (repeat' (first | (with_reducible exact Below.refl _ _) | (with_reducible refine Below.alloc ?_ ?_ _) | (with_reducible refine Below.setCell ?_ ?_ _) | (with_reducible refine Below.drew ?_) | (with_reducible refine below_drewN' ?_) | (with_reducible refine below_bytesW ?_ ?_) | (with_reducible refine Below.trans ?_ (Below.mono (by assumption) ?_)) | omega | (simp only [World.size_alloc, World.size_setCell, World.size_drew]; omega) | (simp [size_bytesW]; omega) | (simp; omega)))⟩
  · have h2 : vClkB Y M D h m s = false := by have := H.out; simpa using this
    have HL : Live w [] := trivial
    go_enter Tryz.func118, Tryz.ntmps118
    go_wp2_with (first | (go_at_call 164; (with_reducible refine (valid_any _ _ _ _ _ _ _).mono ?_); rintro e w' ⟨rfl, hb⟩; have hz := hb.size; (try simp only [World.size_alloc, World.size_setCell, World.size_drew, Nat.add_assoc, Nat.reduceAdd] at hz); (first | obtain ⟨HL, hk⟩ := HL.call hb hz (by simp only [World.size_alloc, World.size_setCell, World.size_drew, Nat.add_assoc, Nat.reduceAdd]) | obtain ⟨HL, hk⟩ := HL.call0 hb hz (by first | rfl | simp only [World.size_alloc, World.size_setCell, World.size_drew, Nat.add_assoc, Nat.reduceAdd])); (try simp only [addN, Nat.add_zero] at HL hk); have hl := HL; simp only [Live] at hl; (try simp only [Kept] at hk)))
    go_ret3
    exact ⟨rfl, by (repeat' (first | (with_reducible exact Below.refl _ _) | (with_reducible refine Below.alloc ?_ ?_ _) | (with_reducible refine Below.setCell ?_ ?_ _) | (with_reducible refine Below.drew ?_) | (with_reducible refine below_drewN' ?_) | (with_reducible refine below_bytesW ?_ ?_) | (with_reducible refine Below.trans ?_ (Below.mono (by assumption) ?_)) | omega | (simp only [World.size_alloc, World.size_setCell, World.size_drew]; omega) | (simp [size_bytesW]; omega) | (simp; omega)))⟩
set_option maxHeartbeats 400000 in
theorem read_range (Y M D h m s z : Int) (hv : vClk Y M D h m s) (hb : (zoneB z && timeB (secs Y M D h m s - 60 * z)) = false) (w : World) :
    Calls Tryz.prog 118 #[.agg #[.int .i64 Y, .int .i64 M, .int .i64 D, .int .i64 h, .int .i64 m, .int .i64 s], .int .i64 z, .bool true] w fun e w' => e = .returned (.tuple #[.int .i64 0, .int .i64 0, .int .i64 2]) ∧ Below w.heap.size w w' := by
  have H := hide hb
  clear hb
  have hv' := vClkB_true.2 hv
  cases hz : zoneB z
  · have HL : Live w [] := trivial
    go_enter Tryz.func118, Tryz.ntmps118
    go_wp2_with (first | (go_at_call 164; (with_reducible refine (valid_any _ _ _ _ _ _ _).mono ?_); rintro e w' ⟨rfl, hb⟩; have hz := hb.size; (try simp only [World.size_alloc, World.size_setCell, World.size_drew, Nat.add_assoc, Nat.reduceAdd] at hz); (first | obtain ⟨HL, hk⟩ := HL.call hb hz (by simp only [World.size_alloc, World.size_setCell, World.size_drew, Nat.add_assoc, Nat.reduceAdd]) | obtain ⟨HL, hk⟩ := HL.call0 hb hz (by first | rfl | simp only [World.size_alloc, World.size_setCell, World.size_drew, Nat.add_assoc, Nat.reduceAdd])); (try simp only [addN, Nat.add_zero] at HL hk); have hl := HL; simp only [Live] at hl; (try simp only [Kept] at hk)) | (go_at_call 165; (with_reducible refine (join_zone _ _ _ _ _ _ _ (by assumption) (by assumption) _).mono ?_); rintro e w' ⟨rfl, hb⟩; have hz := hb.size; (try simp only [World.size_alloc, World.size_setCell, World.size_drew, Nat.add_assoc, Nat.reduceAdd] at hz); (first | obtain ⟨HL, hk⟩ := HL.call hb hz (by simp only [World.size_alloc, World.size_setCell, World.size_drew, Nat.add_assoc, Nat.reduceAdd]) | obtain ⟨HL, hk⟩ := HL.call0 hb hz (by first | rfl | simp only [World.size_alloc, World.size_setCell, World.size_drew, Nat.add_assoc, Nat.reduceAdd])); (try simp only [addN, Nat.add_zero] at HL hk); have hl := HL; simp only [Live] at hl; (try simp only [Kept] at hk)))
    go_ret3
    exact ⟨rfl, by (repeat' (first | (with_reducible exact Below.refl _ _) | (with_reducible refine Below.alloc ?_ ?_ _) | (with_reducible refine Below.setCell ?_ ?_ _) | (with_reducible refine Below.drew ?_) | (with_reducible refine below_drewN' ?_) | (with_reducible refine below_bytesW ?_ ?_) | (with_reducible refine Below.trans ?_ (Below.mono (by assumption) ?_)) | omega | (simp only [World.size_alloc, World.size_setCell, World.size_drew]; omega) | (simp [size_bytesW]; omega) | (simp; omega)))⟩
  · have h2 : timeB (secs Y M D h m s - 60 * z) = false := by have := H.out; simpa [hz] using this
    have HL : Live w [] := trivial
    go_enter Tryz.func118, Tryz.ntmps118
    go_wp2_with (first | (go_at_call 164; (with_reducible refine (valid_any _ _ _ _ _ _ _).mono ?_); rintro e w' ⟨rfl, hb⟩; have hz := hb.size; (try simp only [World.size_alloc, World.size_setCell, World.size_drew, Nat.add_assoc, Nat.reduceAdd] at hz); (first | obtain ⟨HL, hk⟩ := HL.call hb hz (by simp only [World.size_alloc, World.size_setCell, World.size_drew, Nat.add_assoc, Nat.reduceAdd]) | obtain ⟨HL, hk⟩ := HL.call0 hb hz (by first | rfl | simp only [World.size_alloc, World.size_setCell, World.size_drew, Nat.add_assoc, Nat.reduceAdd])); (try simp only [addN, Nat.add_zero] at HL hk); have hl := HL; simp only [Live] at hl; (try simp only [Kept] at hk)) | (go_at_call 165; (with_reducible refine (join_time _ _ _ _ _ _ _ (by assumption) (by assumption) (by assumption) _).mono ?_); rintro e w' ⟨rfl, hb⟩; have hz := hb.size; (try simp only [World.size_alloc, World.size_setCell, World.size_drew, Nat.add_assoc, Nat.reduceAdd] at hz); (first | obtain ⟨HL, hk⟩ := HL.call hb hz (by simp only [World.size_alloc, World.size_setCell, World.size_drew, Nat.add_assoc, Nat.reduceAdd]) | obtain ⟨HL, hk⟩ := HL.call0 hb hz (by first | rfl | simp only [World.size_alloc, World.size_setCell, World.size_drew, Nat.add_assoc, Nat.reduceAdd])); (try simp only [addN, Nat.add_zero] at HL hk); have hl := HL; simp only [Live] at hl; (try simp only [Kept] at hk)))
    go_ret3
    exact ⟨rfl, by (repeat' (first | (with_reducible exact Below.refl _ _) | (with_reducible refine Below.alloc ?_ ?_ _) | (with_reducible refine Below.setCell ?_ ?_ _) | (with_reducible refine Below.drew ?_) | (with_reducible refine below_drewN' ?_) | (with_reducible refine below_bytesW ?_ ?_) | (with_reducible refine Below.trans ?_ (Below.mono (by assumption) ?_)) | omega | (simp only [World.size_alloc, World.size_setCell, World.size_drew]; omega) | (simp [size_bytesW]; omega) | (simp; omega)))⟩
set_option maxHeartbeats 400000 in
theorem read_yes (Y M D h m s z : Int) (hv : vClk Y M D h m s) (hz : zoneB z = true) (ht : timeB (secs Y M D h m s - 60 * z) = true) (w : World) :
    Calls Tryz.prog 118 #[.agg #[.int .i64 Y, .int .i64 M, .int .i64 D, .int .i64 h, .int .i64 m, .int .i64 s], .int .i64 z, .bool true] w fun e w' => e = .returned (.tuple #[.int .i64 (secs Y M D h m s - 60 * z), .int .i64 z, .int .i64 0]) ∧ Below w.heap.size w w' := by
  have hv' := vClkB_true.2 hv
  have HL : Live w [] := trivial
  go_enter Tryz.func118, Tryz.ntmps118
  go_wp2_with (first | (go_at_call 164; (with_reducible refine (valid_any _ _ _ _ _ _ _).mono ?_); rintro e w' ⟨rfl, hb⟩; have hz := hb.size; (try simp only [World.size_alloc, World.size_setCell, World.size_drew, Nat.add_assoc, Nat.reduceAdd] at hz); (first | obtain ⟨HL, hk⟩ := HL.call hb hz (by simp only [World.size_alloc, World.size_setCell, World.size_drew, Nat.add_assoc, Nat.reduceAdd]) | obtain ⟨HL, hk⟩ := HL.call0 hb hz (by first | rfl | simp only [World.size_alloc, World.size_setCell, World.size_drew, Nat.add_assoc, Nat.reduceAdd])); (try simp only [addN, Nat.add_zero] at HL hk); have hl := HL; simp only [Live] at hl; (try simp only [Kept] at hk)) | (go_at_call 165; (with_reducible refine (join_yes _ _ _ _ _ _ _ (by assumption) (by assumption) (by assumption) _).mono ?_); rintro e w' ⟨rfl, hb⟩; have hz := hb.size; (try simp only [World.size_alloc, World.size_setCell, World.size_drew, Nat.add_assoc, Nat.reduceAdd] at hz); (first | obtain ⟨HL, hk⟩ := HL.call hb hz (by simp only [World.size_alloc, World.size_setCell, World.size_drew, Nat.add_assoc, Nat.reduceAdd]) | obtain ⟨HL, hk⟩ := HL.call0 hb hz (by first | rfl | simp only [World.size_alloc, World.size_setCell, World.size_drew, Nat.add_assoc, Nat.reduceAdd])); (try simp only [addN, Nat.add_zero] at HL hk); have hl := HL; simp only [Live] at hl; (try simp only [Kept] at hk)))
  go_ret3
  exact ⟨rfl, by (repeat' (first | (with_reducible exact Below.refl _ _) | (with_reducible refine Below.alloc ?_ ?_ _) | (with_reducible refine Below.setCell ?_ ?_ _) | (with_reducible refine Below.drew ?_) | (with_reducible refine below_drewN' ?_) | (with_reducible refine below_bytesW ?_ ?_) | (with_reducible refine Below.trans ?_ (Below.mono (by assumption) ?_)) | omega | (simp only [World.size_alloc, World.size_setCell, World.size_drew]; omega) | (simp [size_bytesW]; omega) | (simp; omega)))⟩
end Go.Proofs.YtjbhokmkmapkoaaGreatDoor.Dt
