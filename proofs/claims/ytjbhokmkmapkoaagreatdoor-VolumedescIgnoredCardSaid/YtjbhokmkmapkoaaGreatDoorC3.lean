/- Contracts and plain words for the laws of volume descriptors, part 3: KB, KC. No condition. -/
import Derived.Test.YtjbhokmkmapkoaaGreatDoorC2
namespace Go.Proofs.YtjbhokmkmapkoaaGreatDoor.Dt
set_option linter.unusedSimpArgs false
set_option linter.unusedVariables false
open Go.RowKit
theorem vClk_close {b : Bool} {Y M D h m s : Int} (e : b = true ↔ vClk Y M D h m s) : Ending.returned (.bool b) = .returned (.bool (vClkB Y M D h m s)) := by
  have : b = vClkB Y M D h m s := by rw [Bool.eq_iff_iff, e, vClkB_true]
  rw [this]
set_option maxHeartbeats 2000000 in
theorem valid_any (Y M D h m s : Int) (w : World) :
    Calls Tryz.prog 164 #[.agg #[.int .i64 Y, .int .i64 M, .int .i64 D, .int .i64 h, .int .i64 m, .int .i64 s]] w fun e w' => e = .returned (.bool (vClkB Y M D h m s)) ∧ Below w.heap.size w w' := by
  by_cases h0 : Y < 1900 ∨ 2155 < Y ∨ M < 1 ∨ 12 < M
  · rcases h0 with h0 | h0 | h0 | h0
    all_goals
      have HL : Live w [] := trivial
      go_enter Tryz.func164, Tryz.ntmps164
      go_wp2
      all_goals
        go_ret
        exact ⟨vClk_close (by unfold vClk; simp; try omega), by (exact bl)⟩
  · have h1 : 1900 ≤ Y ∧ Y ≤ 2155 ∧ 1 ≤ M ∧ M ≤ 12 := by omega
    clear h0
    have hm := mdays_bd Y M
    by_cases hd : 1 ≤ D
    · have HL : Live w [] := trivial
      by_cases hd2 : D ≤ mdays Y M
      · by_cases hh : 0 ≤ h ∧ h ≤ 23
        · by_cases hmm : 0 ≤ m ∧ m ≤ 59
          · have HL : Live w [] := trivial
            go_enter Tryz.func164, Tryz.ntmps164
            go_wp2
            go_region_held3 (fun x => x.cell? ⟨w.heap.size, 0, none⟩ = some (.int .i64 Y) ∧ x.cell? ⟨w.heap.size, 1, none⟩ = some (.int .i64 M) ∧ x.cell? ⟨w.heap.size, 2, none⟩ = some (.int .i64 D) ∧ x.cell? ⟨w.heap.size, 3, none⟩ = some (.int .i64 h) ∧ x.cell? ⟨w.heap.size, 4, none⟩ = some (.int .i64 m) ∧ x.cell? ⟨w.heap.size, 5, none⟩ = some (.int .i64 s)) ((simp [*, go_sem])) ((first | (go_at_call 141; (with_reducible refine (monthDays_any _ _ (by omega) (by omega) (by omega) _).mono ?_); rintro e w' ⟨rfl, hb⟩; have hz := hb.size; (try simp only [SZ, Nat.reduceAdd] at hz); (first | obtain ⟨HL, hk⟩ := HL.callA hb hz | obtain ⟨HL, hk⟩ := HL.call0A hb hz); (try simp only [addN, Nat.add_zero] at HL hk); have hl := HL; simp only [Live] at hl; (try simp only [Kept] at hk)) | (go_at_call 189; (with_reducible refine (inLit_any _ _ _).mono ?_); rintro e w' ⟨rfl, rfl⟩)))
            all_goals (go_wp2; go_ret; exact ⟨vClk_close (by unfold vClk; simp; try omega), by (exact bl)⟩)
          · have hd' : decide (0 ≤ m ∧ m ≤ 59) = false := by simpa using hmm
            have H := hide hmm
            clear hmm
            have HL : Live w [] := trivial
            go_enter Tryz.func164, Tryz.ntmps164
            go_wp2
            refine wp_region_noPanic ?_
            refine wp_region_held_drew (S := (fun x => x.cell? ⟨w.heap.size, 0, none⟩ = some (.int .i64 Y) ∧ x.cell? ⟨w.heap.size, 1, none⟩ = some (.int .i64 M) ∧ x.cell? ⟨w.heap.size, 2, none⟩ = some (.int .i64 D) ∧ x.cell? ⟨w.heap.size, 3, none⟩ = some (.int .i64 h) ∧ x.cell? ⟨w.heap.size, 4, none⟩ = some (.int .i64 m) ∧ x.cell? ⟨w.heap.size, 5, none⟩ = some (.int .i64 s))) (by kernel_rfl) kp (fun hHeld => ?_)
            refine tkY 0 ⟨some 22, .fieldAddr 110 (.tmp 1) 2, 0, "datetime.go:49", #[], none⟩ ?_ ?_ ?_
            rotate_left
            · intro w hSw; (try dsimp only at hSw); go_simp; (try with_reducible rfl)
            try simp only [PT]
            refine tkY 1 ⟨some 23, .load 3 (.tmp 22), 3, "datetime.go:49", #[⟨0, .data⟩], none⟩ ?_ ?_ ?_
            rotate_left
            · intro w hSw; (try dsimp only at hSw); go_simp; (try with_reducible rfl)
            try simp only [PT]
            refine tkY 2 ⟨some 24, .binOp .geq 3 (.tmp 23) (.const (.int .i64 1)) 3, 4, "datetime.go:49", #[⟨1, .data⟩], none⟩ ?_ ?_ ?_
            rotate_left
            · intro w hSw; (try dsimp only at hSw); go_simp; (try with_reducible rfl)
            try simp only [PT]
            refine tkY 3 ⟨some 25, .move (.tmp 24), 4, "datetime.go:49", #[⟨2, .data⟩], none⟩ ?_ ?_ ?_
            rotate_left
            · intro w hSw; (try dsimp only at hSw); go_simp; (try with_reducible rfl)
            try simp only [PT]
            refine tkY 4 ⟨some 26, .fieldAddr 110 (.tmp 1) 2, 0, "datetime.go:49", #[⟨3, .guard⟩], some (3, true)⟩ ?_ ?_ ?_
            rotate_left
            · intro w hSw; (try dsimp only at hSw); go_simp; (try with_reducible rfl)
            try simp only [PT]
            refine tkY 5 ⟨some 27, .load 3 (.tmp 26), 3, "datetime.go:49", #[⟨4, .data⟩, ⟨3, .guard⟩], some (3, true)⟩ ?_ ?_ ?_
            rotate_left
            · intro w hSw; (try dsimp only at hSw); go_simp; (try with_reducible rfl)
            try simp only [PT]
            refine tkY 6 ⟨some 28, .fieldAddr 110 (.tmp 1) 0, 0, "datetime.go:49", #[⟨3, .guard⟩], some (3, true)⟩ ?_ ?_ ?_
            rotate_left
            · intro w hSw; (try dsimp only at hSw); go_simp; (try with_reducible rfl)
            try simp only [PT]
            refine tkY 7 ⟨some 29, .load 3 (.tmp 28), 3, "datetime.go:49", #[⟨6, .data⟩, ⟨3, .guard⟩], some (3, true)⟩ ?_ ?_ ?_
            rotate_left
            · intro w hSw; (try dsimp only at hSw); go_simp; (try with_reducible rfl)
            try simp only [PT]
            refine tkY 8 ⟨some 30, .fieldAddr 110 (.tmp 1) 1, 0, "datetime.go:49", #[⟨3, .guard⟩], some (3, true)⟩ ?_ ?_ ?_
            rotate_left
            · intro w hSw; (try dsimp only at hSw); go_simp; (try with_reducible rfl)
            try simp only [PT]
            refine tkY 9 ⟨some 31, .load 3 (.tmp 30), 3, "datetime.go:49", #[⟨8, .data⟩, ⟨3, .guard⟩], some (3, true)⟩ ?_ ?_ ?_
            rotate_left
            · intro w hSw; (try dsimp only at hSw); go_simp; (try with_reducible rfl)
            try simp only [PT]
            refine wpAnyH_ready (rs := [10]) (by kernel_rfl) (by simp) ?_
            refine AllReadyH.cons (o := ⟨some 32, .call ⟨.value (.func 141), #[.tmp 29, .tmp 31], #[3, 3]⟩, 3, "datetime.go:49", #[⟨7, .data⟩, ⟨9, .data⟩, ⟨3, .chain⟩, ⟨3, .guard⟩], some (3, true)⟩) rfl (fun K hK => ?_) AllReadyH.nil
            go_simp
            (go_at_call 141; (with_reducible refine (monthDays_any _ _ (by omega) (by omega) (by omega) _).mono ?_); rintro e w' ⟨rfl, hb⟩; have hz := hb.size; (try simp only [SZ, Nat.reduceAdd] at hz); (first | obtain ⟨HL, hk⟩ := HL.callA hb hz | obtain ⟨HL, hk⟩ := HL.call0A hb hz); (try simp only [addN, Nat.add_zero] at HL hk); have hl := HL; simp only [Live] at hl; (try simp only [Kept] at hk))
            go_wp2_with fail
            refine hK.out _ _ kp (fun hHeld => ?_)
            clear hK K
            try simp only [PT]
            refine tkY 11 ⟨some 33, .binOp .leq 3 (.tmp 27) (.tmp 32) 3, 4, "datetime.go:49", #[⟨5, .data⟩, ⟨10, .data⟩, ⟨3, .guard⟩], some (3, true)⟩ ?_ ?_ ?_
            rotate_left
            · intro w hSw; (try dsimp only at hSw); go_simp; (try with_reducible rfl)
            try simp only [PT]
            refine tkY 12 ⟨some 34, .pick (.tmp 25) (.tmp 33) (.const (.bool false)), 4, "datetime.go:49", #[⟨3, .data⟩, ⟨11, .data⟩], none⟩ ?_ ?_ ?_
            rotate_left
            · intro w hSw; (try dsimp only at hSw); go_simp; (try with_reducible rfl)
            try simp only [PT]
            refine tkY 13 ⟨some 35, .move (.tmp 34), 4, "datetime.go:49", #[⟨12, .data⟩, ⟨10, .chain⟩], none⟩ ?_ ?_ ?_
            rotate_left
            · intro w hSw; (try dsimp only at hSw); go_simp; (try with_reducible rfl)
            try simp only [PT]
            refine tkY 14 ⟨some 36, .move (.tmp 3), 98, "datetime.go:49", #[⟨13, .guard⟩], some (13, true)⟩ ?_ ?_ ?_
            rotate_left
            · intro w hSw; (try dsimp only at hSw); go_simp; (try with_reducible rfl)
            try simp only [PT]
            refine tkY 15 ⟨some 37, .fieldAddr 110 (.tmp 1) 3, 0, "datetime.go:49", #[⟨13, .guard⟩], some (13, true)⟩ ?_ ?_ ?_
            rotate_left
            · intro w hSw; (try dsimp only at hSw); go_simp; (try with_reducible rfl)
            try simp only [PT]
            refine tkY 16 ⟨some 38, .load 3 (.tmp 37), 3, "datetime.go:49", #[⟨15, .data⟩, ⟨13, .guard⟩], some (13, true)⟩ ?_ ?_ ?_
            rotate_left
            · intro w hSw; (try dsimp only at hSw); go_simp; (try with_reducible rfl)
            try simp only [PT]
            refine wpAnyH_ready (rs := [17]) (by kernel_rfl) (by simp) ?_
            refine AllReadyH.cons (o := ⟨some 39, .call ⟨.value (.tmp 36), #[.tmp 38, .const (.int .i64 23)], #[3, 3]⟩, 4, "datetime.go:49", #[⟨14, .data⟩, ⟨16, .data⟩, ⟨13, .chain⟩, ⟨13, .guard⟩], some (13, true)⟩) rfl (fun K hK => ?_) AllReadyH.nil
            go_simp
            (first | (go_at_call 141; (with_reducible refine (monthDays_any _ _ (by omega) (by omega) (by omega) _).mono ?_); rintro e w' ⟨rfl, hb⟩; have hz := hb.size; (try simp only [SZ, Nat.reduceAdd] at hz); (first | obtain ⟨HL, hk⟩ := HL.callA hb hz | obtain ⟨HL, hk⟩ := HL.call0A hb hz); (try simp only [addN, Nat.add_zero] at HL hk); have hl := HL; simp only [Live] at hl; (try simp only [Kept] at hk)) | (go_at_call 189; (with_reducible refine (inLit_any _ _ _).mono ?_); rintro e w' ⟨rfl, rfl⟩))
            go_wp2_with fail
            refine hK.out _ _ kp (fun hHeld => ?_)
            clear hK K
            try simp only [PT]
            refine tkY 18 ⟨some 40, .pick (.tmp 35) (.tmp 39) (.const (.bool false)), 4, "datetime.go:49", #[⟨13, .data⟩, ⟨17, .data⟩], none⟩ ?_ ?_ ?_
            rotate_left
            · intro w hSw; (try dsimp only at hSw); go_simp; (try with_reducible rfl)
            try simp only [PT]
            refine tkY 19 ⟨some 41, .move (.tmp 40), 4, "datetime.go:49", #[⟨18, .data⟩, ⟨17, .chain⟩], none⟩ ?_ ?_ ?_
            rotate_left
            · intro w hSw; (try dsimp only at hSw); go_simp; (try with_reducible rfl)
            try simp only [PT]
            refine tkY 20 ⟨some 42, .move (.tmp 3), 98, "datetime.go:49", #[⟨19, .guard⟩], some (19, true)⟩ ?_ ?_ ?_
            rotate_left
            · intro w hSw; (try dsimp only at hSw); go_simp; (try with_reducible rfl)
            try simp only [PT]
            refine tkY 21 ⟨some 43, .fieldAddr 110 (.tmp 1) 4, 0, "datetime.go:49", #[⟨19, .guard⟩], some (19, true)⟩ ?_ ?_ ?_
            rotate_left
            · intro w hSw; (try dsimp only at hSw); go_simp; (try with_reducible rfl)
            try simp only [PT]
            refine tkY 22 ⟨some 44, .load 3 (.tmp 43), 3, "datetime.go:49", #[⟨21, .data⟩, ⟨19, .guard⟩], some (19, true)⟩ ?_ ?_ ?_
            rotate_left
            · intro w hSw; (try dsimp only at hSw); go_simp; (try with_reducible rfl)
            try simp only [PT]
            refine wpAnyH_ready (rs := [23]) (by kernel_rfl) (by simp) ?_
            refine AllReadyH.cons (o := ⟨some 45, .call ⟨.value (.tmp 42), #[.tmp 44, .const (.int .i64 59)], #[3, 3]⟩, 4, "datetime.go:49", #[⟨20, .data⟩, ⟨22, .data⟩, ⟨19, .chain⟩, ⟨19, .guard⟩], some (19, true)⟩) rfl (fun K hK => ?_) AllReadyH.nil
            go_simp
            (first | (go_at_call 141; (with_reducible refine (monthDays_any _ _ (by omega) (by omega) (by omega) _).mono ?_); rintro e w' ⟨rfl, hb⟩; have hz := hb.size; (try simp only [SZ, Nat.reduceAdd] at hz); (first | obtain ⟨HL, hk⟩ := HL.callA hb hz | obtain ⟨HL, hk⟩ := HL.call0A hb hz); (try simp only [addN, Nat.add_zero] at HL hk); have hl := HL; simp only [Live] at hl; (try simp only [Kept] at hk)) | (go_at_call 189; (with_reducible refine (inLit_any _ _ _).mono ?_); rintro e w' ⟨rfl, rfl⟩))
            go_wp2_with fail
            refine hK.out _ _ kp (fun hHeld => ?_)
            clear hK K
            try simp only [PT]
            refine tkY 24 ⟨some 46, .pick (.tmp 41) (.tmp 45) (.const (.bool false)), 4, "datetime.go:49", #[⟨19, .data⟩, ⟨23, .data⟩], none⟩ ?_ ?_ ?_
            rotate_left
            · intro w hSw; (try dsimp only at hSw); go_simp; (try with_reducible rfl)
            try simp only [PT]
            refine tkY 25 ⟨some 47, .move (.tmp 46), 4, "datetime.go:49", #[⟨24, .data⟩, ⟨23, .chain⟩], none⟩ ?_ ?_ ?_
            rotate_left
            · intro w hSw; (try dsimp only at hSw); go_simp; (try with_reducible rfl)
            try simp only [PT]
            refine tkN 26 ⟨some 48, .move (.tmp 3), 98, "datetime.go:49", #[⟨25, .guard⟩], some (25, true)⟩ ?_
            try simp only [PT]
            refine tkN 27 ⟨some 49, .fieldAddr 110 (.tmp 1) 5, 0, "datetime.go:49", #[⟨25, .guard⟩], some (25, true)⟩ ?_
            try simp only [PT]
            refine tkN 28 ⟨some 50, .load 3 (.tmp 49), 3, "datetime.go:49", #[⟨27, .data⟩, ⟨25, .guard⟩], some (25, true)⟩ ?_
            try simp only [PT]
            refine tkN 29 ⟨some 51, .call ⟨.value (.tmp 48), #[.tmp 50, .const (.int .i64 59)], #[3, 3]⟩, 4, "datetime.go:49", #[⟨26, .data⟩, ⟨28, .data⟩, ⟨25, .chain⟩, ⟨25, .guard⟩], some (25, true)⟩ ?_
            try simp only [PT]
            refine tkY 30 ⟨some 52, .pick (.tmp 47) (.tmp 51) (.const (.bool false)), 4, "datetime.go:49", #[⟨25, .data⟩, ⟨29, .data⟩], none⟩ ?_ ?_ ?_
            rotate_left
            · intro w hSw; (try dsimp only at hSw); go_simp; (try with_reducible rfl)
            try simp only [PT]
            refine tkY 31 ⟨some 2, .assign (.tmp 52), 4, "datetime.go:49", #[⟨30, .data⟩, ⟨29, .chain⟩, ⟨0, .phase⟩, ⟨1, .phase⟩, ⟨2, .phase⟩, ⟨3, .phase⟩, ⟨4, .phase⟩, ⟨5, .phase⟩, ⟨6, .phase⟩, ⟨7, .phase⟩, ⟨8, .phase⟩, ⟨9, .phase⟩, ⟨10, .phase⟩, ⟨11, .phase⟩, ⟨12, .phase⟩, ⟨13, .phase⟩, ⟨14, .phase⟩, ⟨15, .phase⟩, ⟨16, .phase⟩, ⟨17, .phase⟩, ⟨18, .phase⟩, ⟨19, .phase⟩, ⟨20, .phase⟩, ⟨21, .phase⟩, ⟨22, .phase⟩, ⟨23, .phase⟩, ⟨24, .phase⟩, ⟨25, .phase⟩, ⟨26, .phase⟩, ⟨27, .phase⟩, ⟨28, .phase⟩, ⟨29, .phase⟩, ⟨30, .phase⟩], none⟩ ?_ ?_ ?_
            rotate_left
            · intro w hSw; (try dsimp only at hSw); go_simp; (try with_reducible rfl)
            try simp only [PT]
            refine wpAnyH_done (by kernel_rfl) ?_ _
            refine NoPanic.normal ?_
            all_goals (go_wp2; go_ret; exact ⟨vClk_close (by have := H.out; unfold vClk; simp; try omega), by (exact bl)⟩)
        · have hd' : decide (0 ≤ h ∧ h ≤ 23) = false := by simpa using hh
          have H := hide hh
          clear hh
          have HL : Live w [] := trivial
          go_enter Tryz.func164, Tryz.ntmps164
          go_wp2
          refine wp_region_noPanic ?_
          refine wp_region_held_drew (S := (fun x => x.cell? ⟨w.heap.size, 0, none⟩ = some (.int .i64 Y) ∧ x.cell? ⟨w.heap.size, 1, none⟩ = some (.int .i64 M) ∧ x.cell? ⟨w.heap.size, 2, none⟩ = some (.int .i64 D) ∧ x.cell? ⟨w.heap.size, 3, none⟩ = some (.int .i64 h) ∧ x.cell? ⟨w.heap.size, 4, none⟩ = some (.int .i64 m) ∧ x.cell? ⟨w.heap.size, 5, none⟩ = some (.int .i64 s))) (by kernel_rfl) kp (fun hHeld => ?_)
          refine tkY 0 ⟨some 22, .fieldAddr 110 (.tmp 1) 2, 0, "datetime.go:49", #[], none⟩ ?_ ?_ ?_
          rotate_left
          · intro w hSw; (try dsimp only at hSw); go_simp; (try with_reducible rfl)
          try simp only [PT]
          refine tkY 1 ⟨some 23, .load 3 (.tmp 22), 3, "datetime.go:49", #[⟨0, .data⟩], none⟩ ?_ ?_ ?_
          rotate_left
          · intro w hSw; (try dsimp only at hSw); go_simp; (try with_reducible rfl)
          try simp only [PT]
          refine tkY 2 ⟨some 24, .binOp .geq 3 (.tmp 23) (.const (.int .i64 1)) 3, 4, "datetime.go:49", #[⟨1, .data⟩], none⟩ ?_ ?_ ?_
          rotate_left
          · intro w hSw; (try dsimp only at hSw); go_simp; (try with_reducible rfl)
          try simp only [PT]
          refine tkY 3 ⟨some 25, .move (.tmp 24), 4, "datetime.go:49", #[⟨2, .data⟩], none⟩ ?_ ?_ ?_
          rotate_left
          · intro w hSw; (try dsimp only at hSw); go_simp; (try with_reducible rfl)
          try simp only [PT]
          refine tkY 4 ⟨some 26, .fieldAddr 110 (.tmp 1) 2, 0, "datetime.go:49", #[⟨3, .guard⟩], some (3, true)⟩ ?_ ?_ ?_
          rotate_left
          · intro w hSw; (try dsimp only at hSw); go_simp; (try with_reducible rfl)
          try simp only [PT]
          refine tkY 5 ⟨some 27, .load 3 (.tmp 26), 3, "datetime.go:49", #[⟨4, .data⟩, ⟨3, .guard⟩], some (3, true)⟩ ?_ ?_ ?_
          rotate_left
          · intro w hSw; (try dsimp only at hSw); go_simp; (try with_reducible rfl)
          try simp only [PT]
          refine tkY 6 ⟨some 28, .fieldAddr 110 (.tmp 1) 0, 0, "datetime.go:49", #[⟨3, .guard⟩], some (3, true)⟩ ?_ ?_ ?_
          rotate_left
          · intro w hSw; (try dsimp only at hSw); go_simp; (try with_reducible rfl)
          try simp only [PT]
          refine tkY 7 ⟨some 29, .load 3 (.tmp 28), 3, "datetime.go:49", #[⟨6, .data⟩, ⟨3, .guard⟩], some (3, true)⟩ ?_ ?_ ?_
          rotate_left
          · intro w hSw; (try dsimp only at hSw); go_simp; (try with_reducible rfl)
          try simp only [PT]
          refine tkY 8 ⟨some 30, .fieldAddr 110 (.tmp 1) 1, 0, "datetime.go:49", #[⟨3, .guard⟩], some (3, true)⟩ ?_ ?_ ?_
          rotate_left
          · intro w hSw; (try dsimp only at hSw); go_simp; (try with_reducible rfl)
          try simp only [PT]
          refine tkY 9 ⟨some 31, .load 3 (.tmp 30), 3, "datetime.go:49", #[⟨8, .data⟩, ⟨3, .guard⟩], some (3, true)⟩ ?_ ?_ ?_
          rotate_left
          · intro w hSw; (try dsimp only at hSw); go_simp; (try with_reducible rfl)
          try simp only [PT]
          refine wpAnyH_ready (rs := [10]) (by kernel_rfl) (by simp) ?_
          refine AllReadyH.cons (o := ⟨some 32, .call ⟨.value (.func 141), #[.tmp 29, .tmp 31], #[3, 3]⟩, 3, "datetime.go:49", #[⟨7, .data⟩, ⟨9, .data⟩, ⟨3, .chain⟩, ⟨3, .guard⟩], some (3, true)⟩) rfl (fun K hK => ?_) AllReadyH.nil
          go_simp
          (go_at_call 141; (with_reducible refine (monthDays_any _ _ (by omega) (by omega) (by omega) _).mono ?_); rintro e w' ⟨rfl, hb⟩; have hz := hb.size; (try simp only [SZ, Nat.reduceAdd] at hz); (first | obtain ⟨HL, hk⟩ := HL.callA hb hz | obtain ⟨HL, hk⟩ := HL.call0A hb hz); (try simp only [addN, Nat.add_zero] at HL hk); have hl := HL; simp only [Live] at hl; (try simp only [Kept] at hk))
          go_wp2_with fail
          refine hK.out _ _ kp (fun hHeld => ?_)
          clear hK K
          try simp only [PT]
          refine tkY 11 ⟨some 33, .binOp .leq 3 (.tmp 27) (.tmp 32) 3, 4, "datetime.go:49", #[⟨5, .data⟩, ⟨10, .data⟩, ⟨3, .guard⟩], some (3, true)⟩ ?_ ?_ ?_
          rotate_left
          · intro w hSw; (try dsimp only at hSw); go_simp; (try with_reducible rfl)
          try simp only [PT]
          refine tkY 12 ⟨some 34, .pick (.tmp 25) (.tmp 33) (.const (.bool false)), 4, "datetime.go:49", #[⟨3, .data⟩, ⟨11, .data⟩], none⟩ ?_ ?_ ?_
          rotate_left
          · intro w hSw; (try dsimp only at hSw); go_simp; (try with_reducible rfl)
          try simp only [PT]
          refine tkY 13 ⟨some 35, .move (.tmp 34), 4, "datetime.go:49", #[⟨12, .data⟩, ⟨10, .chain⟩], none⟩ ?_ ?_ ?_
          rotate_left
          · intro w hSw; (try dsimp only at hSw); go_simp; (try with_reducible rfl)
          try simp only [PT]
          refine tkY 14 ⟨some 36, .move (.tmp 3), 98, "datetime.go:49", #[⟨13, .guard⟩], some (13, true)⟩ ?_ ?_ ?_
          rotate_left
          · intro w hSw; (try dsimp only at hSw); go_simp; (try with_reducible rfl)
          try simp only [PT]
          refine tkY 15 ⟨some 37, .fieldAddr 110 (.tmp 1) 3, 0, "datetime.go:49", #[⟨13, .guard⟩], some (13, true)⟩ ?_ ?_ ?_
          rotate_left
          · intro w hSw; (try dsimp only at hSw); go_simp; (try with_reducible rfl)
          try simp only [PT]
          refine tkY 16 ⟨some 38, .load 3 (.tmp 37), 3, "datetime.go:49", #[⟨15, .data⟩, ⟨13, .guard⟩], some (13, true)⟩ ?_ ?_ ?_
          rotate_left
          · intro w hSw; (try dsimp only at hSw); go_simp; (try with_reducible rfl)
          try simp only [PT]
          refine wpAnyH_ready (rs := [17]) (by kernel_rfl) (by simp) ?_
          refine AllReadyH.cons (o := ⟨some 39, .call ⟨.value (.tmp 36), #[.tmp 38, .const (.int .i64 23)], #[3, 3]⟩, 4, "datetime.go:49", #[⟨14, .data⟩, ⟨16, .data⟩, ⟨13, .chain⟩, ⟨13, .guard⟩], some (13, true)⟩) rfl (fun K hK => ?_) AllReadyH.nil
          go_simp
          (first | (go_at_call 141; (with_reducible refine (monthDays_any _ _ (by omega) (by omega) (by omega) _).mono ?_); rintro e w' ⟨rfl, hb⟩; have hz := hb.size; (try simp only [SZ, Nat.reduceAdd] at hz); (first | obtain ⟨HL, hk⟩ := HL.callA hb hz | obtain ⟨HL, hk⟩ := HL.call0A hb hz); (try simp only [addN, Nat.add_zero] at HL hk); have hl := HL; simp only [Live] at hl; (try simp only [Kept] at hk)) | (go_at_call 189; (with_reducible refine (inLit_any _ _ _).mono ?_); rintro e w' ⟨rfl, rfl⟩))
          go_wp2_with fail
          refine hK.out _ _ kp (fun hHeld => ?_)
          clear hK K
          try simp only [PT]
          refine tkY 18 ⟨some 40, .pick (.tmp 35) (.tmp 39) (.const (.bool false)), 4, "datetime.go:49", #[⟨13, .data⟩, ⟨17, .data⟩], none⟩ ?_ ?_ ?_
          rotate_left
          · intro w hSw; (try dsimp only at hSw); go_simp; (try with_reducible rfl)
          try simp only [PT]
          refine tkY 19 ⟨some 41, .move (.tmp 40), 4, "datetime.go:49", #[⟨18, .data⟩, ⟨17, .chain⟩], none⟩ ?_ ?_ ?_
          rotate_left
          · intro w hSw; (try dsimp only at hSw); go_simp; (try with_reducible rfl)
          try simp only [PT]
          refine tkN 20 ⟨some 42, .move (.tmp 3), 98, "datetime.go:49", #[⟨19, .guard⟩], some (19, true)⟩ ?_
          try simp only [PT]
          refine tkN 21 ⟨some 43, .fieldAddr 110 (.tmp 1) 4, 0, "datetime.go:49", #[⟨19, .guard⟩], some (19, true)⟩ ?_
          try simp only [PT]
          refine tkN 22 ⟨some 44, .load 3 (.tmp 43), 3, "datetime.go:49", #[⟨21, .data⟩, ⟨19, .guard⟩], some (19, true)⟩ ?_
          try simp only [PT]
          refine tkN 23 ⟨some 45, .call ⟨.value (.tmp 42), #[.tmp 44, .const (.int .i64 59)], #[3, 3]⟩, 4, "datetime.go:49", #[⟨20, .data⟩, ⟨22, .data⟩, ⟨19, .chain⟩, ⟨19, .guard⟩], some (19, true)⟩ ?_
          try simp only [PT]
          refine tkY 24 ⟨some 46, .pick (.tmp 41) (.tmp 45) (.const (.bool false)), 4, "datetime.go:49", #[⟨19, .data⟩, ⟨23, .data⟩], none⟩ ?_ ?_ ?_
          rotate_left
          · intro w hSw; (try dsimp only at hSw); go_simp; (try with_reducible rfl)
          try simp only [PT]
          refine tkY 25 ⟨some 47, .move (.tmp 46), 4, "datetime.go:49", #[⟨24, .data⟩, ⟨23, .chain⟩], none⟩ ?_ ?_ ?_
          rotate_left
          · intro w hSw; (try dsimp only at hSw); go_simp; (try with_reducible rfl)
          try simp only [PT]
          refine tkN 26 ⟨some 48, .move (.tmp 3), 98, "datetime.go:49", #[⟨25, .guard⟩], some (25, true)⟩ ?_
          try simp only [PT]
          refine tkN 27 ⟨some 49, .fieldAddr 110 (.tmp 1) 5, 0, "datetime.go:49", #[⟨25, .guard⟩], some (25, true)⟩ ?_
          try simp only [PT]
          refine tkN 28 ⟨some 50, .load 3 (.tmp 49), 3, "datetime.go:49", #[⟨27, .data⟩, ⟨25, .guard⟩], some (25, true)⟩ ?_
          try simp only [PT]
          refine tkN 29 ⟨some 51, .call ⟨.value (.tmp 48), #[.tmp 50, .const (.int .i64 59)], #[3, 3]⟩, 4, "datetime.go:49", #[⟨26, .data⟩, ⟨28, .data⟩, ⟨25, .chain⟩, ⟨25, .guard⟩], some (25, true)⟩ ?_
          try simp only [PT]
          refine tkY 30 ⟨some 52, .pick (.tmp 47) (.tmp 51) (.const (.bool false)), 4, "datetime.go:49", #[⟨25, .data⟩, ⟨29, .data⟩], none⟩ ?_ ?_ ?_
          rotate_left
          · intro w hSw; (try dsimp only at hSw); go_simp; (try with_reducible rfl)
          try simp only [PT]
          refine tkY 31 ⟨some 2, .assign (.tmp 52), 4, "datetime.go:49", #[⟨30, .data⟩, ⟨29, .chain⟩, ⟨0, .phase⟩, ⟨1, .phase⟩, ⟨2, .phase⟩, ⟨3, .phase⟩, ⟨4, .phase⟩, ⟨5, .phase⟩, ⟨6, .phase⟩, ⟨7, .phase⟩, ⟨8, .phase⟩, ⟨9, .phase⟩, ⟨10, .phase⟩, ⟨11, .phase⟩, ⟨12, .phase⟩, ⟨13, .phase⟩, ⟨14, .phase⟩, ⟨15, .phase⟩, ⟨16, .phase⟩, ⟨17, .phase⟩, ⟨18, .phase⟩, ⟨19, .phase⟩, ⟨20, .phase⟩, ⟨21, .phase⟩, ⟨22, .phase⟩, ⟨23, .phase⟩, ⟨24, .phase⟩, ⟨25, .phase⟩, ⟨26, .phase⟩, ⟨27, .phase⟩, ⟨28, .phase⟩, ⟨29, .phase⟩, ⟨30, .phase⟩], none⟩ ?_ ?_ ?_
          rotate_left
          · intro w hSw; (try dsimp only at hSw); go_simp; (try with_reducible rfl)
          try simp only [PT]
          refine wpAnyH_done (by kernel_rfl) ?_ _
          refine NoPanic.normal ?_
          all_goals (go_wp2; go_ret; exact ⟨vClk_close (by have := H.out; unfold vClk; simp; try omega), by (exact bl)⟩)
      · have hd' : decide (D ≤ mdays Y M) = false := by simpa using hd2
        have HL : Live w [] := trivial
        go_enter Tryz.func164, Tryz.ntmps164
        go_wp2
        refine wp_region_noPanic ?_
        refine wp_region_held_drew (S := (fun x => x.cell? ⟨w.heap.size, 0, none⟩ = some (.int .i64 Y) ∧ x.cell? ⟨w.heap.size, 1, none⟩ = some (.int .i64 M) ∧ x.cell? ⟨w.heap.size, 2, none⟩ = some (.int .i64 D) ∧ x.cell? ⟨w.heap.size, 3, none⟩ = some (.int .i64 h) ∧ x.cell? ⟨w.heap.size, 4, none⟩ = some (.int .i64 m) ∧ x.cell? ⟨w.heap.size, 5, none⟩ = some (.int .i64 s))) (by kernel_rfl) kp (fun hHeld => ?_)
        refine tkY 0 ⟨some 22, .fieldAddr 110 (.tmp 1) 2, 0, "datetime.go:49", #[], none⟩ ?_ ?_ ?_
        rotate_left
        · intro w hSw; (try dsimp only at hSw); go_simp; (try with_reducible rfl)
        try simp only [PT]
        refine tkY 1 ⟨some 23, .load 3 (.tmp 22), 3, "datetime.go:49", #[⟨0, .data⟩], none⟩ ?_ ?_ ?_
        rotate_left
        · intro w hSw; (try dsimp only at hSw); go_simp; (try with_reducible rfl)
        try simp only [PT]
        refine tkY 2 ⟨some 24, .binOp .geq 3 (.tmp 23) (.const (.int .i64 1)) 3, 4, "datetime.go:49", #[⟨1, .data⟩], none⟩ ?_ ?_ ?_
        rotate_left
        · intro w hSw; (try dsimp only at hSw); go_simp; (try with_reducible rfl)
        try simp only [PT]
        refine tkY 3 ⟨some 25, .move (.tmp 24), 4, "datetime.go:49", #[⟨2, .data⟩], none⟩ ?_ ?_ ?_
        rotate_left
        · intro w hSw; (try dsimp only at hSw); go_simp; (try with_reducible rfl)
        try simp only [PT]
        refine tkY 4 ⟨some 26, .fieldAddr 110 (.tmp 1) 2, 0, "datetime.go:49", #[⟨3, .guard⟩], some (3, true)⟩ ?_ ?_ ?_
        rotate_left
        · intro w hSw; (try dsimp only at hSw); go_simp; (try with_reducible rfl)
        try simp only [PT]
        refine tkY 5 ⟨some 27, .load 3 (.tmp 26), 3, "datetime.go:49", #[⟨4, .data⟩, ⟨3, .guard⟩], some (3, true)⟩ ?_ ?_ ?_
        rotate_left
        · intro w hSw; (try dsimp only at hSw); go_simp; (try with_reducible rfl)
        try simp only [PT]
        refine tkY 6 ⟨some 28, .fieldAddr 110 (.tmp 1) 0, 0, "datetime.go:49", #[⟨3, .guard⟩], some (3, true)⟩ ?_ ?_ ?_
        rotate_left
        · intro w hSw; (try dsimp only at hSw); go_simp; (try with_reducible rfl)
        try simp only [PT]
        refine tkY 7 ⟨some 29, .load 3 (.tmp 28), 3, "datetime.go:49", #[⟨6, .data⟩, ⟨3, .guard⟩], some (3, true)⟩ ?_ ?_ ?_
        rotate_left
        · intro w hSw; (try dsimp only at hSw); go_simp; (try with_reducible rfl)
        try simp only [PT]
        refine tkY 8 ⟨some 30, .fieldAddr 110 (.tmp 1) 1, 0, "datetime.go:49", #[⟨3, .guard⟩], some (3, true)⟩ ?_ ?_ ?_
        rotate_left
        · intro w hSw; (try dsimp only at hSw); go_simp; (try with_reducible rfl)
        try simp only [PT]
        refine tkY 9 ⟨some 31, .load 3 (.tmp 30), 3, "datetime.go:49", #[⟨8, .data⟩, ⟨3, .guard⟩], some (3, true)⟩ ?_ ?_ ?_
        rotate_left
        · intro w hSw; (try dsimp only at hSw); go_simp; (try with_reducible rfl)
        try simp only [PT]
        refine wpAnyH_ready (rs := [10]) (by kernel_rfl) (by simp) ?_
        refine AllReadyH.cons (o := ⟨some 32, .call ⟨.value (.func 141), #[.tmp 29, .tmp 31], #[3, 3]⟩, 3, "datetime.go:49", #[⟨7, .data⟩, ⟨9, .data⟩, ⟨3, .chain⟩, ⟨3, .guard⟩], some (3, true)⟩) rfl (fun K hK => ?_) AllReadyH.nil
        go_simp
        (go_at_call 141; (with_reducible refine (monthDays_any _ _ (by omega) (by omega) (by omega) _).mono ?_); rintro e w' ⟨rfl, hb⟩; have hz := hb.size; (try simp only [SZ, Nat.reduceAdd] at hz); (first | obtain ⟨HL, hk⟩ := HL.callA hb hz | obtain ⟨HL, hk⟩ := HL.call0A hb hz); (try simp only [addN, Nat.add_zero] at HL hk); have hl := HL; simp only [Live] at hl; (try simp only [Kept] at hk))
        go_wp2_with fail
        refine hK.out _ _ kp (fun hHeld => ?_)
        clear hK K
        try simp only [PT]
        refine tkY 11 ⟨some 33, .binOp .leq 3 (.tmp 27) (.tmp 32) 3, 4, "datetime.go:49", #[⟨5, .data⟩, ⟨10, .data⟩, ⟨3, .guard⟩], some (3, true)⟩ ?_ ?_ ?_
        rotate_left
        · intro w hSw; (try dsimp only at hSw); go_simp; (try with_reducible rfl)
        try simp only [PT]
        refine tkY 12 ⟨some 34, .pick (.tmp 25) (.tmp 33) (.const (.bool false)), 4, "datetime.go:49", #[⟨3, .data⟩, ⟨11, .data⟩], none⟩ ?_ ?_ ?_
        rotate_left
        · intro w hSw; (try dsimp only at hSw); go_simp; (try with_reducible rfl)
        try simp only [PT]
        refine tkY 13 ⟨some 35, .move (.tmp 34), 4, "datetime.go:49", #[⟨12, .data⟩, ⟨10, .chain⟩], none⟩ ?_ ?_ ?_
        rotate_left
        · intro w hSw; (try dsimp only at hSw); go_simp; (try with_reducible rfl)
        try simp only [PT]
        refine tkN 14 ⟨some 36, .move (.tmp 3), 98, "datetime.go:49", #[⟨13, .guard⟩], some (13, true)⟩ ?_
        try simp only [PT]
        refine tkN 15 ⟨some 37, .fieldAddr 110 (.tmp 1) 3, 0, "datetime.go:49", #[⟨13, .guard⟩], some (13, true)⟩ ?_
        try simp only [PT]
        refine tkN 16 ⟨some 38, .load 3 (.tmp 37), 3, "datetime.go:49", #[⟨15, .data⟩, ⟨13, .guard⟩], some (13, true)⟩ ?_
        try simp only [PT]
        refine tkN 17 ⟨some 39, .call ⟨.value (.tmp 36), #[.tmp 38, .const (.int .i64 23)], #[3, 3]⟩, 4, "datetime.go:49", #[⟨14, .data⟩, ⟨16, .data⟩, ⟨13, .chain⟩, ⟨13, .guard⟩], some (13, true)⟩ ?_
        try simp only [PT]
        refine tkY 18 ⟨some 40, .pick (.tmp 35) (.tmp 39) (.const (.bool false)), 4, "datetime.go:49", #[⟨13, .data⟩, ⟨17, .data⟩], none⟩ ?_ ?_ ?_
        rotate_left
        · intro w hSw; (try dsimp only at hSw); go_simp; (try with_reducible rfl)
        try simp only [PT]
        refine tkY 19 ⟨some 41, .move (.tmp 40), 4, "datetime.go:49", #[⟨18, .data⟩, ⟨17, .chain⟩], none⟩ ?_ ?_ ?_
        rotate_left
        · intro w hSw; (try dsimp only at hSw); go_simp; (try with_reducible rfl)
        try simp only [PT]
        refine tkN 20 ⟨some 42, .move (.tmp 3), 98, "datetime.go:49", #[⟨19, .guard⟩], some (19, true)⟩ ?_
        try simp only [PT]
        refine tkN 21 ⟨some 43, .fieldAddr 110 (.tmp 1) 4, 0, "datetime.go:49", #[⟨19, .guard⟩], some (19, true)⟩ ?_
        try simp only [PT]
        refine tkN 22 ⟨some 44, .load 3 (.tmp 43), 3, "datetime.go:49", #[⟨21, .data⟩, ⟨19, .guard⟩], some (19, true)⟩ ?_
        try simp only [PT]
        refine tkN 23 ⟨some 45, .call ⟨.value (.tmp 42), #[.tmp 44, .const (.int .i64 59)], #[3, 3]⟩, 4, "datetime.go:49", #[⟨20, .data⟩, ⟨22, .data⟩, ⟨19, .chain⟩, ⟨19, .guard⟩], some (19, true)⟩ ?_
        try simp only [PT]
        refine tkY 24 ⟨some 46, .pick (.tmp 41) (.tmp 45) (.const (.bool false)), 4, "datetime.go:49", #[⟨19, .data⟩, ⟨23, .data⟩], none⟩ ?_ ?_ ?_
        rotate_left
        · intro w hSw; (try dsimp only at hSw); go_simp; (try with_reducible rfl)
        try simp only [PT]
        refine tkY 25 ⟨some 47, .move (.tmp 46), 4, "datetime.go:49", #[⟨24, .data⟩, ⟨23, .chain⟩], none⟩ ?_ ?_ ?_
        rotate_left
        · intro w hSw; (try dsimp only at hSw); go_simp; (try with_reducible rfl)
        try simp only [PT]
        refine tkN 26 ⟨some 48, .move (.tmp 3), 98, "datetime.go:49", #[⟨25, .guard⟩], some (25, true)⟩ ?_
        try simp only [PT]
        refine tkN 27 ⟨some 49, .fieldAddr 110 (.tmp 1) 5, 0, "datetime.go:49", #[⟨25, .guard⟩], some (25, true)⟩ ?_
        try simp only [PT]
        refine tkN 28 ⟨some 50, .load 3 (.tmp 49), 3, "datetime.go:49", #[⟨27, .data⟩, ⟨25, .guard⟩], some (25, true)⟩ ?_
        try simp only [PT]
        refine tkN 29 ⟨some 51, .call ⟨.value (.tmp 48), #[.tmp 50, .const (.int .i64 59)], #[3, 3]⟩, 4, "datetime.go:49", #[⟨26, .data⟩, ⟨28, .data⟩, ⟨25, .chain⟩, ⟨25, .guard⟩], some (25, true)⟩ ?_
        try simp only [PT]
        refine tkY 30 ⟨some 52, .pick (.tmp 47) (.tmp 51) (.const (.bool false)), 4, "datetime.go:49", #[⟨25, .data⟩, ⟨29, .data⟩], none⟩ ?_ ?_ ?_
        rotate_left
        · intro w hSw; (try dsimp only at hSw); go_simp; (try with_reducible rfl)
        try simp only [PT]
        refine tkY 31 ⟨some 2, .assign (.tmp 52), 4, "datetime.go:49", #[⟨30, .data⟩, ⟨29, .chain⟩, ⟨0, .phase⟩, ⟨1, .phase⟩, ⟨2, .phase⟩, ⟨3, .phase⟩, ⟨4, .phase⟩, ⟨5, .phase⟩, ⟨6, .phase⟩, ⟨7, .phase⟩, ⟨8, .phase⟩, ⟨9, .phase⟩, ⟨10, .phase⟩, ⟨11, .phase⟩, ⟨12, .phase⟩, ⟨13, .phase⟩, ⟨14, .phase⟩, ⟨15, .phase⟩, ⟨16, .phase⟩, ⟨17, .phase⟩, ⟨18, .phase⟩, ⟨19, .phase⟩, ⟨20, .phase⟩, ⟨21, .phase⟩, ⟨22, .phase⟩, ⟨23, .phase⟩, ⟨24, .phase⟩, ⟨25, .phase⟩, ⟨26, .phase⟩, ⟨27, .phase⟩, ⟨28, .phase⟩, ⟨29, .phase⟩, ⟨30, .phase⟩], none⟩ ?_ ?_ ?_
        rotate_left
        · intro w hSw; (try dsimp only at hSw); go_simp; (try with_reducible rfl)
        try simp only [PT]
        refine wpAnyH_done (by kernel_rfl) ?_ _
        refine NoPanic.normal ?_
        all_goals (go_wp2; go_ret; exact ⟨vClk_close (by unfold vClk; simp; try omega), by (exact bl)⟩)
    · have hd' : decide (1 ≤ D) = false := by simpa using hd
      have HL : Live w [] := trivial
      go_enter Tryz.func164, Tryz.ntmps164
      go_wp2
      go_quiet (fail)
      go_wp2
      go_ret
      exact ⟨vClk_close (by unfold vClk; simp; try omega), by (exact bl)⟩
end Go.Proofs.YtjbhokmkmapkoaaGreatDoor.Dt
namespace Go.Proofs.YtjbhokmkmapkoaaGreatDoor.Dt
set_option linter.unusedSimpArgs false
set_option linter.unusedVariables false
open Go.RowKit
set_option maxHeartbeats 2000000 in
theorem rvalid_any (Y M D h m s : Int) (w : World) :
    Calls Tryz.prog 126 #[.agg #[.int .i64 Y, .int .i64 M, .int .i64 D, .int .i64 h, .int .i64 m, .int .i64 s]] w fun e w' => e = .returned (.bool (vClkB Y M D h m s)) ∧ Below w.heap.size w w' := by
  by_cases g0 : 1900 ≤ Y
  case neg =>
    have f0 : decide (1900 ≤ Y) = false := by simpa using g0
    have HL : Live w [] := trivial
    go_enter Tryz.func126, Tryz.ntmps126
    go_wp2_with fail
    go_quiet (fail)
    go_wp2
    go_ret
    exact ⟨vClk_close (by unfold vClk; simp; try omega), by (exact bl)⟩
  by_cases g1 : Y ≤ 2155
  case neg =>
    have f1 : decide (Y ≤ 2155) = false := by simpa using g1
    have HL : Live w [] := trivial
    go_enter Tryz.func126, Tryz.ntmps126
    go_wp2_with fail
    go_quiet (fail)
    go_wp2
    go_ret
    exact ⟨vClk_close (by unfold vClk; simp; try omega), by (exact bl)⟩
  by_cases g2 : 1 ≤ M
  case neg =>
    have f2 : decide (1 ≤ M) = false := by simpa using g2
    have HL : Live w [] := trivial
    go_enter Tryz.func126, Tryz.ntmps126
    go_wp2_with fail
    go_quiet (fail)
    go_wp2
    go_ret
    exact ⟨vClk_close (by unfold vClk; simp; try omega), by (exact bl)⟩
  by_cases g3 : M ≤ 12
  case neg =>
    have f3 : decide (M ≤ 12) = false := by simpa using g3
    have HL : Live w [] := trivial
    go_enter Tryz.func126, Tryz.ntmps126
    go_wp2_with fail
    go_quiet (fail)
    go_wp2
    go_ret
    exact ⟨vClk_close (by unfold vClk; simp; try omega), by (exact bl)⟩
  have hm := mdays_bd Y M
  have CD := hide (fun W => (rdays_any Y M (by omega) (by omega) (by omega) W).mono (fun e w' h => (⟨h.1, h.2.symm⟩ : e = Ending.returned (.int .i64 (mdays Y M)) ∧ w' = W)))
  by_cases g4 : 1 ≤ D
  case neg =>
    have f4 : decide (1 ≤ D) = false := by simpa using g4
    have HL : Live w [] := trivial
    go_enter Tryz.func126, Tryz.ntmps126
    go_wp2_with fail
    go_quiet (fail)
    go_wp2
    go_ret
    exact ⟨vClk_close (by unfold vClk; simp; try omega), by (exact bl)⟩
  by_cases g5 : D ≤ mdays Y M
  case neg =>
    have f5 : decide (D ≤ mdays Y M) = false := by simpa using g5
    have HL : Live w [] := trivial
    go_enter Tryz.func126, Tryz.ntmps126
    go_wp2_with fail
    go_quiet ((go_at_call 167; exact Calls.quiet_of_same (CD.out _)))
    go_wp2
    go_ret
    exact ⟨vClk_close (by unfold vClk; simp; try omega), by (exact bl)⟩
  by_cases g6 : 0 ≤ h
  case neg =>
    have f6 : decide (0 ≤ h) = false := by simpa using g6
    have HL : Live w [] := trivial
    go_enter Tryz.func126, Tryz.ntmps126
    go_wp2_with fail
    go_quiet ((go_at_call 167; exact Calls.quiet_of_same (CD.out _)))
    go_wp2
    go_ret
    exact ⟨vClk_close (by unfold vClk; simp; try omega), by (exact bl)⟩
  by_cases g7 : h ≤ 23
  case neg =>
    have f7 : decide (h ≤ 23) = false := by simpa using g7
    have HL : Live w [] := trivial
    go_enter Tryz.func126, Tryz.ntmps126
    go_wp2_with fail
    go_quiet ((go_at_call 167; exact Calls.quiet_of_same (CD.out _)))
    go_wp2
    go_ret
    exact ⟨vClk_close (by unfold vClk; simp; try omega), by (exact bl)⟩
  by_cases g8 : 0 ≤ m
  case neg =>
    have f8 : decide (0 ≤ m) = false := by simpa using g8
    have HL : Live w [] := trivial
    go_enter Tryz.func126, Tryz.ntmps126
    go_wp2_with fail
    go_quiet ((go_at_call 167; exact Calls.quiet_of_same (CD.out _)))
    go_wp2
    go_ret
    exact ⟨vClk_close (by unfold vClk; simp; try omega), by (exact bl)⟩
  by_cases g9 : m ≤ 59
  case neg =>
    have f9 : decide (m ≤ 59) = false := by simpa using g9
    have HL : Live w [] := trivial
    go_enter Tryz.func126, Tryz.ntmps126
    go_wp2_with fail
    go_quiet ((go_at_call 167; exact Calls.quiet_of_same (CD.out _)))
    go_wp2
    go_ret
    exact ⟨vClk_close (by unfold vClk; simp; try omega), by (exact bl)⟩
  by_cases g10 : 0 ≤ s
  case neg =>
    have f10 : decide (0 ≤ s) = false := by simpa using g10
    have HL : Live w [] := trivial
    go_enter Tryz.func126, Tryz.ntmps126
    go_wp2_with fail
    go_quiet ((go_at_call 167; exact Calls.quiet_of_same (CD.out _)))
    go_wp2
    go_ret
    exact ⟨vClk_close (by unfold vClk; simp; try omega), by (exact bl)⟩
  by_cases g11 : s ≤ 59
  case neg =>
    have f11 : decide (s ≤ 59) = false := by simpa using g11
    have HL : Live w [] := trivial
    go_enter Tryz.func126, Tryz.ntmps126
    go_wp2_with fail
    go_quiet ((go_at_call 167; exact Calls.quiet_of_same (CD.out _)))
    go_wp2
    go_ret
    exact ⟨vClk_close (by unfold vClk; simp; try omega), by (exact bl)⟩
  have HL : Live w [] := trivial
  go_enter Tryz.func126, Tryz.ntmps126
  go_wp2_with fail
  go_quiet ((go_at_call 167; exact Calls.quiet_of_same (CD.out _)))
  go_wp2
  go_ret
  exact ⟨vClk_close (by unfold vClk; simp; try omega), by (exact bl)⟩
theorem dby_bd (y : Int) (h : 1900 ≤ y) (h2 : y ≤ 2156) : 693960 ≤ dby y ∧ dby y ≤ 787500 := by unfold dby; omega
theorem dby1970 : dby 1970 = 719528 := by decide
set_option maxHeartbeats 2000000 in
theorem seconds_any (Y M D h m s : Int) (hv : vClk Y M D h m s) (w : World) :
    Calls Tryz.prog 190 #[.agg #[.int .i64 Y, .int .i64 M, .int .i64 D, .int .i64 h, .int .i64 m, .int .i64 s]] w fun e w' => e = .returned (.int .i64 (secs Y M D h m s)) ∧ Below w.heap.size w w' := by
  obtain ⟨a1, a2, a3, a4, a5, a6, a7, a8, a9, a10, a11, a12⟩ := hv
  have mdM := mdays_bd Y M
  have cM := cum_bd Y M a3 (by omega)
  have c1 := hide (cum_one Y)
  have d70 := hide dby1970
  have HL : Live w [] := trivial
  go_enter Tryz.func190, Tryz.ntmps190
  go_wp2
  go_loopw [3, 4] (fun d k wr => ∃ j : Int, 1 ≤ j ∧ j ≤ M ∧ k = .int .i64 j ∧ d = .int .i64 (D - 1 + cum Y j) ∧ Below w.heap.size w wr ∧ Blk wr w.heap.size #[.int .i64 Y, .int .i64 M, .int .i64 D, .int .i64 h, .int .i64 m, .int .i64 s] 110) (fun _ k _ => (M - intOf k).toNat)
  case atStart => exact ⟨1, by omega, by omega, rfl, by rw [c1.out]; go_num, by (exact bl), Blk.newAt rfl⟩
  case round =>
    obtain ⟨j, hj1, hj2, rfl, rfl, hbel, hB⟩ := hrel
    have hsz := hbel.size
    have hc := hB.cells
    have hf := hB.free
    have HL : Live wr [w.heap.size] := ⟨hB.lt, trivial⟩
    have cj := cum_bd Y j hj1 (by omega)
    have mj := mdays_bd Y j
    by_cases hlt : j < M
    · have cs := hide (cum_succ Y j hj1 (by omega))
      go_wp2_with (first | (go_at_call 141; (with_reducible refine (monthDays_any _ _ (by omega) (by omega) (by omega) _).mono ?_); rintro e w' ⟨rfl, hb⟩; have hz := hb.size; (try simp only [SZ, Nat.reduceAdd] at hz); (first | obtain ⟨HL, hk⟩ := HL.callA hb hz | obtain ⟨HL, hk⟩ := HL.call0A hb hz); (try simp only [addN, Nat.add_zero] at HL hk); have hl := HL; simp only [Live] at hl; (try simp only [Kept] at hk)))
      go_roundw
      case rel => exact ⟨j + 1, by omega, by omega, rfl, by rw [cs.out]; go_num, by (exact bl), hB.below hb⟩
      case measure => simp [intOf]; omega
    · obtain rfl : j = M := by omega
      go_wp2
      go_loop [3, 5] (fun d y => ∃ k : Int, 1970 ≤ k ∧ (k ≤ Y ∨ k = 1970) ∧ y = .int .i64 k ∧ d = .int .i64 (D - 1 + cum Y j + (dby k - 719528))) (fun _ y => (Y - intOf y).toNat)
      case atStart => exact ⟨1970, by omega, by omega, rfl, by rw [d70.out]; go_num⟩
      case round =>
        obtain ⟨k, hk1, hk2, rfl, rfl⟩ := hrel
        have yk := ydays_bd k
        have dk := dby_bd k (by omega) (by omega)
        by_cases hlt2 : k < Y
        · have ds := hide (dby_succ k)
          go_wp2_with (first | (go_at_call 140; (with_reducible refine (yearDays_any _ (by omega) _).mono ?_); rintro e w' ⟨rfl, rfl⟩))
          go_round
          case rel => exact ⟨k + 1, by omega, by omega, rfl, by rw [ds.out]; go_num⟩
          case measure => simp [intOf]; omega
        · clear dk yk
          have dk := dby_bd k (by omega) (by omega)
          have dY := dby_bd Y (by omega) (by omega)
          go_wp2
          go_loop [3, 6] (fun d z => ∃ q : Int, Y ≤ q ∧ q ≤ k ∧ z = .int .i64 q ∧ d = .int .i64 (D - 1 + cum Y j + (dby k - 719528) - (dby q - dby Y))) (fun _ z => (1970 - intOf z).toNat)
          case atStart => exact ⟨Y, by omega, by omega, rfl, by go_num⟩
          case round =>
            obtain ⟨q, hq1, hq2, rfl, rfl⟩ := hrel
            have yq := ydays_bd q
            have dq := dby_bd q (by omega) (by omega)
            by_cases hlt3 : q < 1970
            · have ds := hide (dby_succ q)
              go_wp2_with (first | (go_at_call 140; (with_reducible refine (yearDays_any _ (by omega) _).mono ?_); rintro e w' ⟨rfl, rfl⟩))
              go_round
              case rel => exact ⟨q + 1, by omega, by omega, rfl, by rw [ds.out]; go_num⟩
              case measure => simp [intOf]; omega
            · obtain rfl : q = k := by omega
              go_wp2
              go_ret
              exact ⟨ret_i (by unfold secs; omega), by (exact bl)⟩
end Go.Proofs.YtjbhokmkmapkoaaGreatDoor.Dt
