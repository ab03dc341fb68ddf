/- The walk of the law DatetimeOrder. -/
import Derived.Test.YtkkkfbhpphngmaaDoorM
namespace Go.Proofs.YtkkkfbhpphngmaaDoor
set_option linter.unusedSimpArgs false
set_option linter.unusedVariables false
open Go.RowKit

theorem cmp6_secs {Y M D h m s Y' M' D' h' m' s' : Int} (v : vClk Y M D h m s) (v' : vClk Y' M' D' h' m' s') :
    (cmp6 Y M D h m s Y' M' D' h' m' s' < 0 ∧ secs Y M D h m s < secs Y' M' D' h' m' s') ∨ (cmp6 Y M D h m s Y' M' D' h' m' s' = 0 ∧ secs Y M D h m s = secs Y' M' D' h' m' s') ∨ (0 < cmp6 Y M D h m s Y' M' D' h' m' s' ∧ secs Y' M' D' h' m' s' < secs Y M D h m s) := by
  rcases (show Y < Y' ∨ Y' < Y ∨ Y = Y' by omega) with e | e | rfl
  · exact Or.inl ⟨by unfold cmp6; split <;> omega, secs_lt_year v v' e⟩
  · exact Or.inr (Or.inr ⟨by unfold cmp6; split <;> omega, secs_lt_year v' v e⟩)
  rcases (show M < M' ∨ M' < M ∨ M = M' by omega) with e | e | rfl
  · exact Or.inl ⟨by unfold cmp6; repeat' split
                     all_goals omega, secs_lt_month v v' e⟩
  · exact Or.inr (Or.inr ⟨by unfold cmp6; repeat' split
                             all_goals omega, secs_lt_month v' v e⟩)
  by_cases g : D < D' ∨ (D = D' ∧ (h < h' ∨ (h = h' ∧ (m < m' ∨ (m = m' ∧ s < s')))))
  · exact Or.inl ⟨by unfold cmp6; repeat' split
                     all_goals omega, secs_lt_rest v v' g⟩
  by_cases g' : D' < D ∨ (D' = D ∧ (h' < h ∨ (h' = h ∧ (m' < m ∨ (m' = m ∧ s' < s)))))
  · exact Or.inr (Or.inr ⟨by unfold cmp6; repeat' split
                             all_goals omega, secs_lt_rest v' v g'⟩)
  obtain rfl : D = D' := by omega
  obtain rfl : h = h' := by omega
  obtain rfl : m = m' := by omega
  obtain rfl : s = s' := by omega
  exact Or.inr (Or.inl ⟨by unfold cmp6; simp, rfl⟩)

theorem split_y2 (t z : Int) (ht : 315532800 ≤ t ∧ t ≤ 4102444799) (hz : -1440 ≤ z ∧ z ≤ 1440) (w : World) :
    Calls Tryd.prog 12 #[.int .i64 t, .int .i64 z] w (SplitP (t + 60 * z) w) := split_yes t z ht hz w

set_option maxHeartbeats 4000000 in
theorem orderW (t u z : Int) (w : World) (hT : Tab w) :
    Calls Tryd.prog 4 #[.int .i64 t, .int .i64 u, .int .i64 z] w fun e w' => e = .returned (.bool true) ∧ Below w.heap.size w w' := by
  cases htb : timeB t
  case false =>
    have HL : Live w [] := trivial
    go_enter Tryd.func4, Tryd.ntmps4
    go_wp2_with fail
    (first | ((with_reducible refine (awake_any _ hT).mono ?_); rintro e w1 ⟨rfl, hb⟩; have hz := hb.size; (try simp only [World.size_alloc, World.size_setCell, World.size_drew, Nat.add_assoc, Nat.reduceAdd] at hz); (first | obtain ⟨HL, hk⟩ := HL.call hb hz (by simp only [World.size_alloc, World.size_setCell, World.size_drew, Nat.add_assoc, Nat.reduceAdd]) | obtain ⟨HL, hk⟩ := HL.call0 hb hz (by first | rfl | simp only [World.size_alloc, World.size_setCell, World.size_drew, Nat.add_assoc, Nat.reduceAdd])); (try simp only [addN, Nat.add_zero] at HL hk); have hl := HL; simp only [Live] at hl; (try simp only [Kept] at hk)))
    go_wp2_with (first | (go_at_call 16; (with_reducible refine (rTime_any _ _).mono ?_); rintro e w' ⟨rfl, rfl⟩) | (go_at_call 17; (with_reducible refine (rZone_any _ _).mono ?_); rintro e w' ⟨rfl, rfl⟩))
    go_ret
    exact ⟨rfl, by (repeat' (first | (with_reducible exact Below.refl _ _) | (with_reducible refine Below.alloc ?_ ?_ _) | (with_reducible refine Below.setCell ?_ ?_ _) | (with_reducible refine Below.drew ?_) | (with_reducible refine below_drewN' ?_) | (with_reducible refine below_bytesW ?_ ?_) | (with_reducible refine Below.trans ?_ (Below.mono (by assumption) ?_)) | omega | (simp only [World.size_alloc, World.size_setCell, World.size_drew]; omega) | (simp [size_bytesW]; omega) | (simp; omega)))⟩
  cases hub : timeB u
  case false =>
    have HL : Live w [] := trivial
    go_enter Tryd.func4, Tryd.ntmps4
    go_wp2_with fail
    (first | ((with_reducible refine (awake_any _ hT).mono ?_); rintro e w1 ⟨rfl, hb⟩; have hz := hb.size; (try simp only [World.size_alloc, World.size_setCell, World.size_drew, Nat.add_assoc, Nat.reduceAdd] at hz); (first | obtain ⟨HL, hk⟩ := HL.call hb hz (by simp only [World.size_alloc, World.size_setCell, World.size_drew, Nat.add_assoc, Nat.reduceAdd]) | obtain ⟨HL, hk⟩ := HL.call0 hb hz (by first | rfl | simp only [World.size_alloc, World.size_setCell, World.size_drew, Nat.add_assoc, Nat.reduceAdd])); (try simp only [addN, Nat.add_zero] at HL hk); have hl := HL; simp only [Live] at hl; (try simp only [Kept] at hk)))
    go_wp2_with (first | (go_at_call 16; (with_reducible refine (rTime_any _ _).mono ?_); rintro e w' ⟨rfl, rfl⟩) | (go_at_call 17; (with_reducible refine (rZone_any _ _).mono ?_); rintro e w' ⟨rfl, rfl⟩))
    go_ret
    exact ⟨rfl, by (repeat' (first | (with_reducible exact Below.refl _ _) | (with_reducible refine Below.alloc ?_ ?_ _) | (with_reducible refine Below.setCell ?_ ?_ _) | (with_reducible refine Below.drew ?_) | (with_reducible refine below_drewN' ?_) | (with_reducible refine below_bytesW ?_ ?_) | (with_reducible refine Below.trans ?_ (Below.mono (by assumption) ?_)) | omega | (simp only [World.size_alloc, World.size_setCell, World.size_drew]; omega) | (simp [size_bytesW]; omega) | (simp; omega)))⟩
  cases hzb : zoneB z
  case false =>
    have HL : Live w [] := trivial
    go_enter Tryd.func4, Tryd.ntmps4
    go_wp2_with fail
    (first | ((with_reducible refine (awake_any _ hT).mono ?_); rintro e w1 ⟨rfl, hb⟩; have hz := hb.size; (try simp only [World.size_alloc, World.size_setCell, World.size_drew, Nat.add_assoc, Nat.reduceAdd] at hz); (first | obtain ⟨HL, hk⟩ := HL.call hb hz (by simp only [World.size_alloc, World.size_setCell, World.size_drew, Nat.add_assoc, Nat.reduceAdd]) | obtain ⟨HL, hk⟩ := HL.call0 hb hz (by first | rfl | simp only [World.size_alloc, World.size_setCell, World.size_drew, Nat.add_assoc, Nat.reduceAdd])); (try simp only [addN, Nat.add_zero] at HL hk); have hl := HL; simp only [Live] at hl; (try simp only [Kept] at hk)))
    go_wp2_with (first | (go_at_call 16; (with_reducible refine (rTime_any _ _).mono ?_); rintro e w' ⟨rfl, rfl⟩) | (go_at_call 17; (with_reducible refine (rZone_any _ _).mono ?_); rintro e w' ⟨rfl, rfl⟩))
    go_ret
    exact ⟨rfl, by (repeat' (first | (with_reducible exact Below.refl _ _) | (with_reducible refine Below.alloc ?_ ?_ _) | (with_reducible refine Below.setCell ?_ ?_ _) | (with_reducible refine Below.drew ?_) | (with_reducible refine below_drewN' ?_) | (with_reducible refine below_bytesW ?_ ?_) | (with_reducible refine Below.trans ?_ (Below.mono (by assumption) ?_)) | omega | (simp only [World.size_alloc, World.size_setCell, World.size_drew]; omega) | (simp [size_bytesW]; omega) | (simp; omega)))⟩
  have hz := zoneB_true.1 hzb
  have ht := timeB_true.1 htb
  have hu := timeB_true.1 hub
  have HL : Live w [] := trivial
  go_enter Tryd.func4, Tryd.ntmps4
  go_wp2_with fail
  (first | ((with_reducible refine (awake_any _ hT).mono ?_); rintro e w1 ⟨rfl, hb⟩; have hz := hb.size; (try simp only [World.size_alloc, World.size_setCell, World.size_drew, Nat.add_assoc, Nat.reduceAdd] at hz); (first | obtain ⟨HL, hk⟩ := HL.call hb hz (by simp only [World.size_alloc, World.size_setCell, World.size_drew, Nat.add_assoc, Nat.reduceAdd]) | obtain ⟨HL, hk⟩ := HL.call0 hb hz (by first | rfl | simp only [World.size_alloc, World.size_setCell, World.size_drew, Nat.add_assoc, Nat.reduceAdd])); (try simp only [addN, Nat.add_zero] at HL hk); have hl := HL; simp only [Live] at hl; (try simp only [Kept] at hk)))
  go_wp2_with (first | (go_at_call 16; (with_reducible refine (rTime_any _ _).mono ?_); rintro e w' ⟨rfl, rfl⟩) | (go_at_call 17; (with_reducible refine (rZone_any _ _).mono ?_); rintro e w' ⟨rfl, rfl⟩))
  (first | ((with_reducible refine (split_yes _ _ (by omega) (by omega) _).mono ?_); rintro e w2 ⟨cY, cM, cD, ch, cm, cs, rfl, hv, hq, hb⟩; have hvv := hv; unfold vClk at hvv; have hmd := mdays_bd cY cM; have hQ := hide hq; clear hq; have hz := hb.size; (try simp only [World.size_alloc, World.size_setCell, World.size_drew, Nat.add_assoc, Nat.reduceAdd] at hz); (first | obtain ⟨HL, hk⟩ := HL.call hb hz (by simp only [World.size_alloc, World.size_setCell, World.size_drew, Nat.add_assoc, Nat.reduceAdd]) | obtain ⟨HL, hk⟩ := HL.call0 hb hz (by first | rfl | simp only [World.size_alloc, World.size_setCell, World.size_drew, Nat.add_assoc, Nat.reduceAdd])); (try simp only [addN, Nat.add_zero] at HL hk); have hl := HL; simp only [Live] at hl; (try simp only [Kept] at hk)))
  go_wp2_with fail
  (first | ((with_reducible refine (split_y2 _ _ (by omega) (by omega) _).mono ?_); rintro e w3 ⟨dY, dM, dD, dh, dm, ds, rfl, hv2, hq2, hb⟩; have hvv2 := hv2; unfold vClk at hvv2; have hmd2 := mdays_bd dY dM; have hQ2 := hide hq2; clear hq2; have hz := hb.size; (try simp only [World.size_alloc, World.size_setCell, World.size_drew, Nat.add_assoc, Nat.reduceAdd] at hz); (first | obtain ⟨HL, hk⟩ := HL.call hb hz (by simp only [World.size_alloc, World.size_setCell, World.size_drew, Nat.add_assoc, Nat.reduceAdd]) | obtain ⟨HL, hk⟩ := HL.call0 hb hz (by first | rfl | simp only [World.size_alloc, World.size_setCell, World.size_drew, Nat.add_assoc, Nat.reduceAdd])); (try simp only [addN, Nat.add_zero] at HL hk); have hl := HL; simp only [Live] at hl; (try simp only [Kept] at hk)))
  have hc := cmp6_secs hv hv2
  have hq1 := hQ.out
  have hq2 := hQ2.out
  rw [hq1, hq2] at hc
  clear hq1 hq2
  generalize hC : cmp6 cY cM cD ch cm cs dY dM dD dh dm ds = c at hc
  have HC := hide hC
  clear hC
  have hcd : (decide (c < 0) = true ∧ decide (0 < c) = false ∧ decide (t < u) = true ∧ decide (u < t) = false) ∨ (decide (c < 0) = false ∧ decide (0 < c) = false ∧ decide (t < u) = false ∧ decide (u < t) = false) ∨ (decide (c < 0) = false ∧ decide (0 < c) = true ∧ decide (t < u) = false ∧ decide (u < t) = true) := by
    simp only [decide_eq_true_eq, decide_eq_false_iff_not]
    omega
  clear hc
  rcases hcd with ⟨f1, f2, f3, f4⟩ | ⟨f1, f2, f3, f4⟩ | ⟨f1, f2, f3, f4⟩
  all_goals
    go_wp2_with fail
    (first | ((with_reducible refine (clocks_any _ _ _ _ _ _ _ _ _ _ _ _ hv hv2 _).mono ?_); rintro e w4 ⟨rfl, hb⟩; have hz := hb.size; (try simp only [World.size_alloc, World.size_setCell, World.size_drew, Nat.add_assoc, Nat.reduceAdd] at hz); (first | obtain ⟨HL, hk⟩ := HL.call hb hz (by simp only [World.size_alloc, World.size_setCell, World.size_drew, Nat.add_assoc, Nat.reduceAdd]) | obtain ⟨HL, hk⟩ := HL.call0 hb hz (by first | rfl | simp only [World.size_alloc, World.size_setCell, World.size_drew, Nat.add_assoc, Nat.reduceAdd])); (try simp only [addN, Nat.add_zero] at HL hk); have hl := HL; simp only [Live] at hl; (try simp only [Kept] at hk)))
    rw [HC.out]
    go_wp2_with fail
    (first | ((with_reducible refine (join_at t z cY cM cD ch cm cs hv hQ.out (by omega) (by omega) _).mono ?_); rintro e w5 ⟨rfl, hb⟩; have hz := hb.size; (try simp only [World.size_alloc, World.size_setCell, World.size_drew, Nat.add_assoc, Nat.reduceAdd] at hz); (first | obtain ⟨HL, hk⟩ := HL.call hb hz (by simp only [World.size_alloc, World.size_setCell, World.size_drew, Nat.add_assoc, Nat.reduceAdd]) | obtain ⟨HL, hk⟩ := HL.call0 hb hz (by first | rfl | simp only [World.size_alloc, World.size_setCell, World.size_drew, Nat.add_assoc, Nat.reduceAdd])); (try simp only [addN, Nat.add_zero] at HL hk); have hl := HL; simp only [Live] at hl; (try simp only [Kept] at hk)))
    go_wp2_with fail
    (first | ((with_reducible refine (join_at u z dY dM dD dh dm ds hv2 hQ2.out (by omega) (by omega) _).mono ?_); rintro e w6 ⟨rfl, hb⟩; have hz := hb.size; (try simp only [World.size_alloc, World.size_setCell, World.size_drew, Nat.add_assoc, Nat.reduceAdd] at hz); (first | obtain ⟨HL, hk⟩ := HL.call hb hz (by simp only [World.size_alloc, World.size_setCell, World.size_drew, Nat.add_assoc, Nat.reduceAdd]) | obtain ⟨HL, hk⟩ := HL.call0 hb hz (by first | rfl | simp only [World.size_alloc, World.size_setCell, World.size_drew, Nat.add_assoc, Nat.reduceAdd])); (try simp only [addN, Nat.add_zero] at HL hk); have hl := HL; simp only [Live] at hl; (try simp only [Kept] at hk)))
    go_wp2
    go_ret
    exact ⟨rfl, by (repeat' (first | (with_reducible exact Below.refl _ _) | (with_reducible refine Below.alloc ?_ ?_ _) | (with_reducible refine Below.setCell ?_ ?_ _) | (with_reducible refine Below.drew ?_) | (with_reducible refine below_drewN' ?_) | (with_reducible refine below_bytesW ?_ ?_) | (with_reducible refine Below.trans ?_ (Below.mono (by assumption) ?_)) | omega | (simp only [World.size_alloc, World.size_setCell, World.size_drew]; omega) | (simp [size_bytesW]; omega) | (simp; omega)))⟩
end Go.Proofs.YtkkkfbhpphngmaaDoor
