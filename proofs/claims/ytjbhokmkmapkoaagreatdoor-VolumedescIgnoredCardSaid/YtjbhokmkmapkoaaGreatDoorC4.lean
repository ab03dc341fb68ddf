/- Contracts and plain words for the laws of volume descriptors, part 4: KD, KE. No condition. -/
import Derived.Test.YtjbhokmkmapkoaaGreatDoorC3
namespace Go.Proofs.YtjbhokmkmapkoaaGreatDoor.Dt
set_option linter.unusedSimpArgs false
set_option linter.unusedVariables false
open Go.RowKit
set_option maxHeartbeats 2000000 in
theorem rseconds_any (Y M D h m s : Int) (hv : vClk Y M D h m s) (w : World) :
    Calls Tryz.prog 168 #[.agg #[.int .i64 Y, .int .i64 M, .int .i64 D, .int .i64 h, .int .i64 m, .int .i64 s]] w fun e w' => e = .returned (.int .i64 (secs Y M D h m s)) ∧ Below w.heap.size w w' := by
  obtain ⟨a1, a2, a3, a4, a5, a6, a7, a8, a9, a10, a11, a12⟩ := hv
  have mdM := mdays_bd Y M
  have cM := cum_bd Y M a3 (by omega)
  have c1 := hide (cum_one Y)
  have d70 := hide dby1970
  have HL : Live w [] := trivial
  go_enter Tryz.func168, Tryz.ntmps168
  go_wp2
  go_loop [3, 4] (fun d y => ∃ k : Int, 1970 ≤ k ∧ (k ≤ Y ∨ k = 1970) ∧ y = .int .i64 k ∧ d = .int .i64 (dby k - 719528)) (fun _ y => (Y - intOf y).toNat)
  case atStart => exact ⟨1970, by omega, by omega, rfl, by rw [d70.out]; go_num⟩
  case round =>
    obtain ⟨k, hk1, hk2, rfl, rfl⟩ := hrel
    have yk := ydays_bd k
    have dk := dby_bd k (by omega) (by omega)
    by_cases hlt2 : k < Y
    · have ds := hide (dby_succ k)
      go_wp2_with (first | (go_at_call 176; (with_reducible refine (ryear_any _ (by omega) _).mono ?_); rintro e w' ⟨rfl, rfl⟩))
      go_round
      case rel => exact ⟨k + 1, by omega, by omega, rfl, by rw [ds.out]; go_num⟩
      case measure => simp [intOf]; omega
    · clear dk yk
      have dk := dby_bd k (by omega) (by omega)
      have dY := dby_bd Y (by omega) (by omega)
      go_wp2
      go_loop [3, 5] (fun d z => ∃ q : Int, Y ≤ q ∧ q ≤ k ∧ z = .int .i64 q ∧ d = .int .i64 (dby k - 719528 - (dby q - dby Y))) (fun _ z => (1970 - intOf z).toNat)
      case atStart => exact ⟨Y, by omega, by omega, rfl, by go_num⟩
      case round =>
        obtain ⟨q, hq1, hq2, rfl, rfl⟩ := hrel
        have yq := ydays_bd q
        have dq := dby_bd q (by omega) (by omega)
        by_cases hlt3 : q < 1970
        · have ds := hide (dby_succ q)
          go_wp2_with (first | (go_at_call 176; (with_reducible refine (ryear_any _ (by omega) _).mono ?_); rintro e w' ⟨rfl, rfl⟩))
          go_round
          case rel => exact ⟨q + 1, by omega, by omega, rfl, by rw [ds.out]; go_num⟩
          case measure => simp [intOf]; omega
        · obtain rfl : q = k := by omega
          go_wp2
          go_loop [3, 6] (fun d z => ∃ j : Int, 1 ≤ j ∧ j ≤ M ∧ z = .int .i64 j ∧ d = .int .i64 (dby Y - 719528 + cum Y j)) (fun _ z => (M - intOf z).toNat)
          case atStart => exact ⟨1, by omega, by omega, rfl, by rw [c1.out]; go_num⟩
          case round =>
            obtain ⟨j, hj1, hj2, rfl, rfl⟩ := hrel
            have cj := cum_bd Y j hj1 (by omega)
            have mj := mdays_bd Y j
            by_cases hlt : j < M
            · have cs := hide (cum_succ Y j hj1 (by omega))
              go_wp2_with (first | (go_at_call 167; (with_reducible refine (rdays_any _ _ (by omega) (by omega) (by omega) _).mono ?_); rintro e w' ⟨rfl, rfl⟩))
              go_round
              case rel => exact ⟨j + 1, by omega, by omega, rfl, by rw [cs.out]; go_num⟩
              case measure => simp [intOf]; omega
            · obtain rfl : j = M := by omega
              go_wp2
              go_ret
              exact ⟨ret_i (by unfold secs; omega), by (exact bl)⟩
theorem dby_top (y : Int) (h : dby y ≤ 767060) : y ≤ 2101 := by unfold dby at h; omega
/-- The clock of L seconds. -/
def SplitP (L : Int) (w : World) (e : Ending) (w' : World) : Prop :=
  ∃ Y M D h m s : Int, e = .returned (.tuple #[.agg #[.int .i64 Y, .int .i64 M, .int .i64 D, .int .i64 h, .int .i64 m, .int .i64 s], .int .i64 0]) ∧ vClk Y M D h m s ∧ secs Y M D h m s = L ∧ Below w.heap.size w w'
theorem split_fin {L y k d : Int} (h0 : 315446400 ≤ L) (h1 : L ≤ 4102531199) (hy1 : 1970 ≤ y) (hy2 : y ≤ 2101) (hk1 : 1 ≤ k) (hk2 : k ≤ 12) (hd : 0 ≤ d) (hm : d < mdays y k)
    (e : d + cum y k + dby y = L / 86400 + 719528) :
    vClk y k (d + 1) (L % 86400 / 3600) (L % 86400 / 60 % 60) (L % 86400 % 60) ∧ secs y k (d + 1) (L % 86400 / 3600) (L % 86400 / 60 % 60) (L % 86400 % 60) = L := by
  unfold vClk secs
  refine ⟨⟨?_, ?_, ?_, ?_, ?_, ?_, ?_, ?_, ?_, ?_, ?_, ?_⟩, ?_⟩ <;> omega
set_option maxHeartbeats 4000000 in
theorem split_yes (t z : Int) (ht : 315532800 ≤ t ∧ t ≤ 4102444799) (hz : -1440 ≤ z ∧ z ≤ 1440) (w : World) :
    Calls Tryz.prog 83 #[.int .i64 t, .int .i64 z] w (SplitP (t + 60 * z) w) := by
  have tb : timeB t = true := timeB_true.2 ht
  have zb : zoneB z = true := zoneB_true.2 hz
  have d70 := hide dby1970
  have hL1 : 315446400 ≤ t + 60 * z ∧ t + 60 * z ≤ 4102531199 := by omega
  have HL : Live w [] := trivial
  go_enter Tryz.func83, Tryz.ntmps83
  go_wp2_with (first | (go_at_call 138; (with_reducible refine (isTime_any _ _).mono ?_); rintro e w' ⟨rfl, rfl⟩) | (go_at_call 139; (with_reducible refine (isZone_any _ _).mono ?_); rintro e w' ⟨rfl, rfl⟩))
  have e60 := hide (show (t + 60 * z) % 86400 % 60 = t % 60 by omega)
  clear tb zb
  rw [e60.out]
  go_loopw [7] (fun a wr => ∃ y d : Int, a = .int .i64 d ∧ 0 ≤ d ∧ 1970 ≤ y ∧ d + dby y = (t + 60 * z) / 86400 + 719528 ∧ Below w.heap.size w wr ∧ Blk wr w.heap.size #[.int .i64 0, .int .i64 0, .int .i64 0, .int .i64 0, .int .i64 0, .int .i64 0] 110 ∧
    Blk wr (w.heap.size + 1) #[.int .i64 y, .int .i64 1, .int .i64 0, .int .i64 ((t + 60 * z) % 86400 / 3600), .int .i64 ((t + 60 * z) % 86400 / 60 % 60), .int .i64 (t % 60)] 110) (fun a _ => (intOf a).toNat)
  case atStart => exact ⟨1970, (t + 60 * z) / 86400, rfl, by omega, by omega, by rw [d70.out], by (exact bl), (Blk.newAt rfl).alloc _, Blk.newAt (World.size_alloc _ _)⟩
  case round =>
    obtain ⟨y, d, rfl, hd0, hy0, hdy, hbel, hR, hC⟩ := hrel
    have hsz := hbel.size
    have hR1 := hR.cells
    have hR2 := hR.free
    have hC1 := hC.cells
    have hC2 := hC.free
    have hy1 := dby_top y (by omega)
    have yk := ydays_bd y
    have E := hide hdy
    by_cases hlt : ydays y ≤ d
    · have ds := hide (dby_succ y)
      have hdd : d ≤ 80000 := by have := dby_bd y (by omega) (by omega); omega
      clear hdy
      go_wp2_with (first | (go_at_call 140; (with_reducible refine (yearDays_any _ (by omega) _).mono ?_); rintro e w' ⟨rfl, rfl⟩))
      go_roundw
      case rel => exact ⟨y + 1, d - ydays y, by go_num, by omega, by omega, by rw [ds.out, ← E.out]; omega, by (exact bl), hR.other (by omega), hC.put rfl⟩
      case measure => simp [intOf]; omega
    · clear hdy
      go_wp2_with (first | (go_at_call 140; (with_reducible refine (yearDays_any _ (by omega) _).mono ?_); rintro e w' ⟨rfl, rfl⟩))
      have cy1 := hide (cum_one y)
      go_loopw [7] (fun a wv => ∃ k g : Int, a = .int .i64 g ∧ 0 ≤ g ∧ g ≤ d ∧ 1 ≤ k ∧ k ≤ 12 ∧ g + cum y k = d ∧ Below w.heap.size w wv ∧ Blk wv w.heap.size #[.int .i64 0, .int .i64 0, .int .i64 0, .int .i64 0, .int .i64 0, .int .i64 0] 110 ∧
        Blk wv (w.heap.size + 1) #[.int .i64 y, .int .i64 k, .int .i64 0, .int .i64 ((t + 60 * z) % 86400 / 3600), .int .i64 ((t + 60 * z) % 86400 / 60 % 60), .int .i64 (t % 60)] 110) (fun a _ => (intOf a).toNat)
      case atStart => exact ⟨1, d, rfl, by omega, by omega, by omega, by omega, by rw [cy1.out]; omega, by (exact bl), hR, hC⟩
      case round =>
        clear hR hC hR1 hR2 hC1 hC2 hsz hbel
        obtain ⟨k, g, rfl, hg0, hgd, hk1, hk2, hgk, hbel, hR, hC⟩ := hrel
        have hsz := hbel.size
        have hR1 := hR.cells
        have hR2 := hR.free
        have hC1 := hC.cells
        have hC2 := hC.free
        have mk := mdays_bd y k
        have ck := cum_bd y k hk1 (by omega)
        by_cases hlt2 : mdays y k ≤ g
        · have hk3 : k < 12 := by
            rcases Int.lt_or_eq_of_le hk2 with h | rfl
            · exact h
            · have := cum_succ y 12 (by omega) (by omega)
              have := cum_end y
              simp only [Int.reduceAdd] at *
              omega
          have cs := hide (cum_succ y k hk1 hk2)
          have EK := hide hgk
          clear hgk
          have HL : Live wr [w.heap.size + 1, w.heap.size] := ⟨hC.lt, hR.lt, trivial⟩
          go_wp2_with (first | (go_at_call 141; (with_reducible refine (monthDays_any _ _ (by omega) (by omega) (by omega) _).mono ?_); rintro e w' ⟨rfl, hb⟩; have hz := hb.size; (try simp only [SZ, Nat.reduceAdd] at hz); (first | obtain ⟨HL, hk⟩ := HL.callA hb hz | obtain ⟨HL, hk⟩ := HL.call0A hb hz); (try simp only [addN, Nat.add_zero] at HL hk); have hl := HL; simp only [Live] at hl; (try simp only [Kept] at hk)))
          go_roundw
          case rel => exact ⟨k + 1, g - mdays y k, by go_num, by omega, by omega, by omega, by omega, by rw [cs.out]; have := EK.out; omega, by (exact bl), (Blk.below hb (Blk.below ‹Below wr.heap.size wr _› hR)).other (by omega), (Blk.below hb (Blk.below ‹Below wr.heap.size wr _› hC)).put rfl⟩
          case measure => simp [intOf]; omega
        · have EK := hide hgk
          clear hgk
          have HL : Live wr [w.heap.size + 1, w.heap.size] := ⟨hC.lt, hR.lt, trivial⟩
          go_wp2_with (first | (go_at_call 141; (with_reducible refine (monthDays_any _ _ (by omega) (by omega) (by omega) _).mono ?_); rintro e w' ⟨rfl, hb⟩; have hz := hb.size; (try simp only [SZ, Nat.reduceAdd] at hz); (first | obtain ⟨HL, hk⟩ := HL.callA hb hz | obtain ⟨HL, hk⟩ := HL.call0A hb hz); (try simp only [addN, Nat.add_zero] at HL hk); have hl := HL; simp only [Live] at hl; (try simp only [Kept] at hk)))
          have SF := split_fin (L := t + 60 * z) hL1.1 hL1.2 hy0 hy1 hk1 hk2 hg0 (by omega) (by have := E.out; have := EK.out; omega)
          rw [e60.out] at SF
          ((try simp only [Exit.inBlock, Exit.then]); refine bodyPost_ret (by simp only [results, Tryz.results83]; go_simp; try rfl) rfl ?_)
          exact ⟨y, k, g + 1, _, _, _, rfl, SF.1, SF.2, by (exact bl)⟩
set_option maxHeartbeats 400000 in
theorem split_no (t z : Int) (hb : (timeB t && zoneB z) = false) (w : World) :
    Calls Tryz.prog 83 #[.int .i64 t, .int .i64 z] w fun e w' => e = .returned (.tuple #[.agg #[.int .i64 0, .int .i64 0, .int .i64 0, .int .i64 0, .int .i64 0, .int .i64 0], .int .i64 2]) ∧ Below w.heap.size w w' := by
  have H := hide hb
  clear hb
  cases h1 : timeB t
  · have HL : Live w [] := trivial
    go_enter Tryz.func83, Tryz.ntmps83
    go_wp2_with (first | (go_at_call 138; (with_reducible refine (isTime_any _ _).mono ?_); rintro e w' ⟨rfl, rfl⟩) | (go_at_call 139; (with_reducible refine (isZone_any _ _).mono ?_); rintro e w' ⟨rfl, rfl⟩))
    ((try simp only [Exit.inBlock, Exit.then]); refine bodyPost_ret (by simp only [results, Tryz.results83]; go_simp; try rfl) rfl ?_)
    exact ⟨rfl, by (exact bl)⟩
  · have h2 : zoneB z = false := by have := H.out; simpa [h1] using this
    have HL : Live w [] := trivial
    go_enter Tryz.func83, Tryz.ntmps83
    go_wp2_with (first | (go_at_call 138; (with_reducible refine (isTime_any _ _).mono ?_); rintro e w' ⟨rfl, rfl⟩) | (go_at_call 139; (with_reducible refine (isZone_any _ _).mono ?_); rintro e w' ⟨rfl, rfl⟩))
    ((try simp only [Exit.inBlock, Exit.then]); refine bodyPost_ret (by simp only [results, Tryz.results83]; go_simp; try rfl) rfl ?_)
    exact ⟨rfl, by (exact bl)⟩
/-- The reference's clock of L seconds. -/
def UtcP (L : Int) (w : World) (e : Ending) (w' : World) : Prop :=
  ∃ Y M D h m s : Int, e = .returned (.agg #[.int .i64 Y, .int .i64 M, .int .i64 D, .int .i64 h, .int .i64 m, .int .i64 s]) ∧ vClk Y M D h m s ∧ secs Y M D h m s = L ∧ Below w.heap.size w w'
set_option maxHeartbeats 4000000 in
theorem utc_any (L : Int) (hL1 : 315446400 ≤ L ∧ L ≤ 4102531199) (w : World) :
    Calls Tryz.prog 144 #[.int .i64 L] w (UtcP L w) := by
  have d70 := hide dby1970
  have e60 := hide (show L % 86400 % 60 = L % 60 by omega)
  have HL : Live w [] := trivial
  go_enter Tryz.func144, Tryz.ntmps144
  go_wp2
  go_loopw [4] (fun a wr => ∃ y d : Int, a = .int .i64 d ∧ 0 ≤ d ∧ 1970 ≤ y ∧ d + dby y = L / 86400 + 719528 ∧ Below w.heap.size w wr ∧ Blk wr w.heap.size #[.int .i64 0, .int .i64 0, .int .i64 0, .int .i64 0, .int .i64 0, .int .i64 0] 110 ∧
    Blk wr (w.heap.size + 1) #[.int .i64 y, .int .i64 1, .int .i64 1, .int .i64 0, .int .i64 0, .int .i64 0] 110) (fun a _ => (intOf a).toNat)
  case atStart => exact ⟨1970, L / 86400, rfl, by omega, by omega, by rw [d70.out], by (exact bl), (Blk.newAt rfl).alloc _, Blk.newAt (World.size_alloc _ _)⟩
  case round =>
    obtain ⟨y, d, rfl, hd0, hy0, hdy, hbel, hR, hC⟩ := hrel
    have hsz := hbel.size
    have hR1 := hR.cells
    have hR2 := hR.free
    have hC1 := hC.cells
    have hC2 := hC.free
    have hy1 := dby_top y (by omega)
    have yk := ydays_bd y
    have E := hide hdy
    by_cases hlt : ydays y ≤ d
    · have ds := hide (dby_succ y)
      have hdd : d ≤ 80000 := by have := dby_bd y (by omega) (by omega); omega
      clear hdy
      go_wp2_with (first | (go_at_call 176; (with_reducible refine (ryear_any _ (by omega) _).mono ?_); rintro e w' ⟨rfl, rfl⟩))
      go_roundw
      case rel => exact ⟨y + 1, d - ydays y, by go_num, by omega, by omega, by rw [ds.out, ← E.out]; omega, by (exact bl), hR.other (by omega), hC.put rfl⟩
      case measure => simp [intOf]; omega
    · clear hdy
      go_wp2_with (first | (go_at_call 176; (with_reducible refine (ryear_any _ (by omega) _).mono ?_); rintro e w' ⟨rfl, rfl⟩))
      have cy1 := hide (cum_one y)
      go_loopw [4] (fun a wv => ∃ k g : Int, a = .int .i64 g ∧ 0 ≤ g ∧ g ≤ d ∧ 1 ≤ k ∧ k ≤ 12 ∧ g + cum y k = d ∧ Below w.heap.size w wv ∧ Blk wv w.heap.size #[.int .i64 0, .int .i64 0, .int .i64 0, .int .i64 0, .int .i64 0, .int .i64 0] 110 ∧
        Blk wv (w.heap.size + 1) #[.int .i64 y, .int .i64 k, .int .i64 1, .int .i64 0, .int .i64 0, .int .i64 0] 110) (fun a _ => (intOf a).toNat)
      case atStart => exact ⟨1, d, rfl, by omega, by omega, by omega, by omega, by rw [cy1.out]; omega, by (exact bl), hR, hC⟩
      case round =>
        clear hR hC hR1 hR2 hC1 hC2 hsz hbel
        obtain ⟨k, g, rfl, hg0, hgd, hk1, hk2, hgk, hbel, hR, hC⟩ := hrel
        have hsz := hbel.size
        have hR1 := hR.cells
        have hR2 := hR.free
        have hC1 := hC.cells
        have hC2 := hC.free
        have mk := mdays_bd y k
        have ck := cum_bd y k hk1 (by omega)
        by_cases hlt2 : mdays y k ≤ g
        · have hk3 : k < 12 := by
            rcases Int.lt_or_eq_of_le hk2 with h | rfl
            · exact h
            · have := cum_succ y 12 (by omega) (by omega)
              have := cum_end y
              simp only [Int.reduceAdd] at *
              omega
          have cs := hide (cum_succ y k hk1 hk2)
          have EK := hide hgk
          clear hgk
          go_wp2_with (first | (go_at_call 167; (with_reducible refine (rdays_any _ _ (by omega) (by omega) (by omega) _).mono ?_); rintro e w' ⟨rfl, rfl⟩))
          go_roundw
          case rel => exact ⟨k + 1, g - mdays y k, by go_num, by omega, by omega, by omega, by omega, by rw [cs.out]; have := EK.out; omega, by (exact bl), hR.other (by omega), hC.put rfl⟩
          case measure => simp [intOf]; omega
        · have EK := hide hgk
          clear hgk
          go_wp2_with (first | (go_at_call 167; (with_reducible refine (rdays_any _ _ (by omega) (by omega) (by omega) _).mono ?_); rintro e w' ⟨rfl, rfl⟩))
          have SF := split_fin (L := L) hL1.1 hL1.2 hy0 hy1 hk1 hk2 hg0 (by omega) (by have := E.out; have := EK.out; omega)
          ((try simp only [Exit.inBlock, Exit.then]); refine bodyPost_ret (by simp only [results, Tryz.results144]; go_simp; try rfl) rfl ?_)
          first
          | exact ⟨y, k, 1 + g, _, _, _, rfl, (by rw [Int.add_comm 1 g]; exact SF.1), (by rw [Int.add_comm 1 g]; exact SF.2), by (exact bl)⟩
          | (rw [e60.out] at SF; exact ⟨y, k, 1 + g, _, _, _, rfl, (by rw [Int.add_comm 1 g]; exact SF.1), (by rw [Int.add_comm 1 g]; exact SF.2), by (exact bl)⟩)
end Go.Proofs.YtjbhokmkmapkoaaGreatDoor.Dt
namespace Go.Proofs.YtjbhokmkmapkoaaGreatDoor.Dt
set_option linter.unusedSimpArgs false
set_option linter.unusedVariables false
open Go.RowKit
theorem secs_bd {Y M D h m s : Int} (hv : vClk Y M D h m s) : -2300000000 ≤ secs Y M D h m s ∧ secs Y M D h m s ≤ 6000000000 := by
  obtain ⟨a1, a2, a3, a4, a5, a6, a7, a8, a9, a10, a11, a12⟩ := hv
  have := dby_bd Y (by omega) (by omega)
  have := cum_bd Y M a3 (by omega)
  have := mdays_bd Y M
  unfold secs; omega
set_option maxHeartbeats 1000000 in
theorem rsplit_yes (t z : Int) (ht : 315532800 ≤ t ∧ t ≤ 4102444799) (hz : -1440 ≤ z ∧ z ≤ 1440) (w : World) :
    Calls Tryz.prog 95 #[.int .i64 t, .int .i64 z] w (SplitP (t + 60 * z) w) := by
  have tb : timeB t = true := timeB_true.2 ht
  have zb : zoneB z = true := zoneB_true.2 hz
  have HL : Live w [] := trivial
  go_enter Tryz.func95, Tryz.ntmps95
  go_wp2_with (first | (go_at_call 93; (with_reducible refine (rTime_any _ _).mono ?_); rintro e w' ⟨rfl, rfl⟩) | (go_at_call 143; (with_reducible refine (rZone_any _ _).mono ?_); rintro e w' ⟨rfl, rfl⟩) | (go_at_call 144; (with_reducible refine (utc_any _ (by omega) _).mono ?_); rintro e w' ⟨cY, cM, cD, ch, cm, cs, rfl, hv, hq, hb⟩; have hvv := hv; unfold vClk at hvv; have hmd := mdays_bd cY cM; have hQ := hide hq; clear hq; have hz := hb.size; (try simp only [SZ, Nat.reduceAdd] at hz); (first | obtain ⟨HL, hk⟩ := HL.callA hb hz | obtain ⟨HL, hk⟩ := HL.call0A hb hz); (try simp only [addN, Nat.add_zero] at HL hk); have hl := HL; simp only [Live] at hl; (try simp only [Kept] at hk)))
  ((try simp only [Exit.inBlock, Exit.then]); refine bodyPost_ret (by simp only [results, Tryz.results95]; go_simp; try rfl) rfl ?_)
  exact ⟨cY, cM, cD, ch, cm, cs, rfl, hv, hQ.out, by (exact bl)⟩
set_option maxHeartbeats 400000 in
theorem join_zone (Y M D h m s z : Int) (hv : vClk Y M D h m s) (hz : zoneB z = false) (w : World) :
    Calls Tryz.prog 165 #[.agg #[.int .i64 Y, .int .i64 M, .int .i64 D, .int .i64 h, .int .i64 m, .int .i64 s], .int .i64 z] w fun e w' => e = .returned (.tuple #[.int .i64 0, .int .i64 2]) ∧ Below w.heap.size w w' := by
  have hv' := vClkB_true.2 hv
  have HL : Live w [] := trivial
  go_enter Tryz.func165, Tryz.ntmps165
  go_wp2_with (first | (go_at_call 164; (with_reducible refine (valid_any _ _ _ _ _ _ _).mono ?_); rintro e w' ⟨rfl, hb⟩; have hz := hb.size; (try simp only [SZ, Nat.reduceAdd] at hz); (first | obtain ⟨HL, hk⟩ := HL.callA hb hz | obtain ⟨HL, hk⟩ := HL.call0A hb hz); (try simp only [addN, Nat.add_zero] at HL hk); have hl := HL; simp only [Live] at hl; (try simp only [Kept] at hk)) | (go_at_call 139; (with_reducible refine (isZone_any _ _).mono ?_); rintro e w' ⟨rfl, rfl⟩))
  go_ret2
  exact ⟨rfl, by (exact bl)⟩
set_option maxHeartbeats 400000 in
theorem join_time (Y M D h m s z : Int) (hv : vClk Y M D h m s) (hz : zoneB z = true) (ht : timeB (secs Y M D h m s - 60 * z) = false) (w : World) :
    Calls Tryz.prog 165 #[.agg #[.int .i64 Y, .int .i64 M, .int .i64 D, .int .i64 h, .int .i64 m, .int .i64 s], .int .i64 z] w fun e w' => e = .returned (.tuple #[.int .i64 0, .int .i64 2]) ∧ Below w.heap.size w w' := by
  have hv' := vClkB_true.2 hv
  have hq := secs_bd hv
  have hz' := zoneB_true.1 hz
  have HL : Live w [] := trivial
  go_enter Tryz.func165, Tryz.ntmps165
  go_wp2_with (first | (go_at_call 164; (with_reducible refine (valid_any _ _ _ _ _ _ _).mono ?_); rintro e w' ⟨rfl, hb⟩; have hz := hb.size; (try simp only [SZ, Nat.reduceAdd] at hz); (first | obtain ⟨HL, hk⟩ := HL.callA hb hz | obtain ⟨HL, hk⟩ := HL.call0A hb hz); (try simp only [addN, Nat.add_zero] at HL hk); have hl := HL; simp only [Live] at hl; (try simp only [Kept] at hk)) | (go_at_call 139; (with_reducible refine (isZone_any _ _).mono ?_); rintro e w' ⟨rfl, rfl⟩) | (go_at_call 138; (with_reducible refine (isTime_any _ _).mono ?_); rintro e w' ⟨rfl, rfl⟩) | (go_at_call 190; (with_reducible refine (seconds_any _ _ _ _ _ _ (by assumption) _).mono ?_); rintro e w' ⟨rfl, hb⟩; have hz := hb.size; (try simp only [SZ, Nat.reduceAdd] at hz); (first | obtain ⟨HL, hk⟩ := HL.callA hb hz | obtain ⟨HL, hk⟩ := HL.call0A hb hz); (try simp only [addN, Nat.add_zero] at HL hk); have hl := HL; simp only [Live] at hl; (try simp only [Kept] at hk)))
  go_ret2
  exact ⟨rfl, by (exact bl)⟩
set_option maxHeartbeats 400000 in
theorem join_yes (Y M D h m s z : Int) (hv : vClk Y M D h m s) (hz : zoneB z = true) (ht : timeB (secs Y M D h m s - 60 * z) = true) (w : World) :
    Calls Tryz.prog 165 #[.agg #[.int .i64 Y, .int .i64 M, .int .i64 D, .int .i64 h, .int .i64 m, .int .i64 s], .int .i64 z] w fun e w' => e = .returned (.tuple #[.int .i64 (secs Y M D h m s - 60 * z), .int .i64 0]) ∧ Below w.heap.size w w' := by
  have hv' := vClkB_true.2 hv
  have hq := secs_bd hv
  have hz' := zoneB_true.1 hz
  have HL : Live w [] := trivial
  go_enter Tryz.func165, Tryz.ntmps165
  go_wp2_with (first | (go_at_call 164; (with_reducible refine (valid_any _ _ _ _ _ _ _).mono ?_); rintro e w' ⟨rfl, hb⟩; have hz := hb.size; (try simp only [SZ, Nat.reduceAdd] at hz); (first | obtain ⟨HL, hk⟩ := HL.callA hb hz | obtain ⟨HL, hk⟩ := HL.call0A hb hz); (try simp only [addN, Nat.add_zero] at HL hk); have hl := HL; simp only [Live] at hl; (try simp only [Kept] at hk)) | (go_at_call 139; (with_reducible refine (isZone_any _ _).mono ?_); rintro e w' ⟨rfl, rfl⟩) | (go_at_call 138; (with_reducible refine (isTime_any _ _).mono ?_); rintro e w' ⟨rfl, rfl⟩) | (go_at_call 190; (with_reducible refine (seconds_any _ _ _ _ _ _ (by assumption) _).mono ?_); rintro e w' ⟨rfl, hb⟩; have hz := hb.size; (try simp only [SZ, Nat.reduceAdd] at hz); (first | obtain ⟨HL, hk⟩ := HL.callA hb hz | obtain ⟨HL, hk⟩ := HL.call0A hb hz); (try simp only [addN, Nat.add_zero] at HL hk); have hl := HL; simp only [Live] at hl; (try simp only [Kept] at hk)))
  go_ret2
  exact ⟨rfl, by (exact bl)⟩
end Go.Proofs.YtjbhokmkmapkoaaGreatDoor.Dt
