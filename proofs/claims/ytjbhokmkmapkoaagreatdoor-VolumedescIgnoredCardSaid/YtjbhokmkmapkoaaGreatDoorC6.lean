/- Contracts and plain words for the laws of volume descriptors, part 6: KR2. No condition. -/
import Derived.Test.YtjbhokmkmapkoaaGreatDoorC5
namespace Go.Proofs.YtjbhokmkmapkoaaGreatDoor.Dt
set_option linter.unusedSimpArgs false
set_option linter.unusedVariables false
open Go.RowKit
open Go.PlainAid (bt get_bt bt_nonneg bt_le)
set_option maxHeartbeats 400000 in
theorem rreadRecord_no (s : ByteArray) (hs : ¬ s.size = 7) (w : World) : Calls Tryz.prog 120 #[.string s] w fun e w' => e = .returned (.tuple #[.int .i64 0, .int .i64 0, .int .i64 1]) ∧ Below w.heap.size w w' := by
  obtain ⟨h1, h2⟩ := size_ne hs
  have HL : Live w [] := trivial
  go_enter Tryz.func120, Tryz.ntmps120
  go_wp2
  go_ret3
  exact ⟨rfl, by (exact bl)⟩
set_option maxHeartbeats 1000000 in
theorem rreadRecord_yes (s : ByteArray) (hs : s.size = 7) (w : World) : Calls Tryz.prog 120 #[.string s] w (RoP (1900 + bt s 0) (bt s 1) (bt s 2) (bt s 3) (bt s 4) (bt s 5) (15 * sg (bt s 6)) (qB (sg (bt s 6))) w) := by
  have hg := get_bt s
  have b0 := bt_nonneg s 0
  have b0' := bt_le s 0
  have b6 := bt_nonneg s 6
  have b6' := bt_le s 6
  have sb := sg_bd ⟨b6, b6'⟩
  cases hv : vClkB (1900 + bt s 0) (bt s 1) (bt s 2) (bt s 3) (bt s 4) (bt s 5)
  · have HV := hide hv
    have HL : Live w [] := trivial
    go_enter Tryz.func120, Tryz.ntmps120
    go_wp2_with fail
    have wb : ∀ j, IntKind.i64.wrap (bt s j) = bt s j := fun j => IntWalk.i64_in _ ⟨by have := bt_nonneg s j; omega, by have := bt_le s j; omega⟩
    have ws : IntKind.i64.wrap (1900 + bt s 0) = 1900 + bt s 0 := IntWalk.i64_in _ (by omega)
    refine wp_region_noPanic ?_
    refine wp_region_held_drew (S := (fun _ => True ∧ True)) (by kernel_rfl) kp (fun hHeld => ?_)
    refine tkY 0 ⟨some 11, .move (.tmp 0), 9, "ref.go:133", #[], none⟩ ?_ ?_ ?_
    rotate_left
    · intro w hSw; (try dsimp only at hSw); go_simp; (try with_reducible rfl)
    try simp only [PT]
    refine tkY 1 ⟨some 12, .index 9 (.tmp 11) (.const (.int .i64 0)), 5, "ref.go:133", #[⟨0, .data⟩], none⟩ ?_ ?_ ?_
    rotate_left
    · intro w hSw; (try dsimp only at hSw); go_simp; (try with_reducible rfl)
    try simp only [PT]
    refine tkY 2 ⟨some 13, .convert 5 3 (.tmp 12), 3, "ref.go:133", #[⟨1, .data⟩], none⟩ ?_ ?_ ?_
    rotate_left
    · intro w hSw; (try dsimp only at hSw); go_simp; (try with_reducible rfl)
    try simp only [PT]
    refine tkY 3 ⟨some 14, .binOp .add 3 (.const (.int .i64 1900)) (.tmp 13) 3, 3, "ref.go:133", #[⟨2, .data⟩], none⟩ ?_ ?_ ?_
    rotate_left
    · intro w hSw; (try dsimp only at hSw); go_simp; (try with_reducible rfl)
    try simp only [PT]
    refine tkY 4 ⟨some 15, .move (.tmp 0), 9, "ref.go:133", #[], none⟩ ?_ ?_ ?_
    rotate_left
    · intro w hSw; (try dsimp only at hSw); go_simp; (try with_reducible rfl)
    try simp only [PT]
    refine tkY 5 ⟨some 16, .index 9 (.tmp 15) (.const (.int .i64 1)), 5, "ref.go:133", #[⟨4, .data⟩], none⟩ ?_ ?_ ?_
    rotate_left
    · intro w hSw; (try dsimp only at hSw); go_simp; (try with_reducible rfl)
    try simp only [PT]
    refine tkY 6 ⟨some 17, .convert 5 3 (.tmp 16), 3, "ref.go:133", #[⟨5, .data⟩], none⟩ ?_ ?_ ?_
    rotate_left
    · intro w hSw; (try dsimp only at hSw); go_simp; (try with_reducible rfl)
    try simp only [PT]
    refine tkY 7 ⟨some 18, .move (.tmp 0), 9, "ref.go:133", #[], none⟩ ?_ ?_ ?_
    rotate_left
    · intro w hSw; (try dsimp only at hSw); go_simp; (try with_reducible rfl)
    try simp only [PT]
    refine tkY 8 ⟨some 19, .index 9 (.tmp 18) (.const (.int .i64 2)), 5, "ref.go:133", #[⟨7, .data⟩], none⟩ ?_ ?_ ?_
    rotate_left
    · intro w hSw; (try dsimp only at hSw); go_simp; (try with_reducible rfl)
    try simp only [PT]
    refine tkY 9 ⟨some 20, .convert 5 3 (.tmp 19), 3, "ref.go:133", #[⟨8, .data⟩], none⟩ ?_ ?_ ?_
    rotate_left
    · intro w hSw; (try dsimp only at hSw); go_simp; (try with_reducible rfl)
    try simp only [PT]
    refine tkY 10 ⟨some 21, .move (.tmp 0), 9, "ref.go:133", #[], none⟩ ?_ ?_ ?_
    rotate_left
    · intro w hSw; (try dsimp only at hSw); go_simp; (try with_reducible rfl)
    try simp only [PT]
    refine tkY 11 ⟨some 22, .index 9 (.tmp 21) (.const (.int .i64 3)), 5, "ref.go:133", #[⟨10, .data⟩], none⟩ ?_ ?_ ?_
    rotate_left
    · intro w hSw; (try dsimp only at hSw); go_simp; (try with_reducible rfl)
    try simp only [PT]
    refine tkY 12 ⟨some 23, .convert 5 3 (.tmp 22), 3, "ref.go:133", #[⟨11, .data⟩], none⟩ ?_ ?_ ?_
    rotate_left
    · intro w hSw; (try dsimp only at hSw); go_simp; (try with_reducible rfl)
    try simp only [PT]
    refine tkY 13 ⟨some 24, .move (.tmp 0), 9, "ref.go:133", #[], none⟩ ?_ ?_ ?_
    rotate_left
    · intro w hSw; (try dsimp only at hSw); go_simp; (try with_reducible rfl)
    try simp only [PT]
    refine tkY 14 ⟨some 25, .index 9 (.tmp 24) (.const (.int .i64 4)), 5, "ref.go:133", #[⟨13, .data⟩], none⟩ ?_ ?_ ?_
    rotate_left
    · intro w hSw; (try dsimp only at hSw); go_simp; (try with_reducible rfl)
    try simp only [PT]
    refine tkY 15 ⟨some 26, .convert 5 3 (.tmp 25), 3, "ref.go:133", #[⟨14, .data⟩], none⟩ ?_ ?_ ?_
    rotate_left
    · intro w hSw; (try dsimp only at hSw); go_simp; (try with_reducible rfl)
    try simp only [PT]
    refine tkY 16 ⟨some 27, .move (.tmp 0), 9, "ref.go:133", #[], none⟩ ?_ ?_ ?_
    rotate_left
    · intro w hSw; (try dsimp only at hSw); go_simp; (try with_reducible rfl)
    try simp only [PT]
    refine tkY 17 ⟨some 28, .index 9 (.tmp 27) (.const (.int .i64 5)), 5, "ref.go:133", #[⟨16, .data⟩], none⟩ ?_ ?_ ?_
    rotate_left
    · intro w hSw; (try dsimp only at hSw); go_simp; (try with_reducible rfl)
    try simp only [PT]
    refine tkY 18 ⟨some 29, .convert 5 3 (.tmp 28), 3, "ref.go:133", #[⟨17, .data⟩], none⟩ ?_ ?_ ?_
    rotate_left
    · intro w hSw; (try dsimp only at hSw); go_simp; (try with_reducible rfl)
    try simp only [PT]
    refine tkY 19 ⟨some 30, .build 110 #[(0, .tmp 14), (1, .tmp 17), (2, .tmp 20), (3, .tmp 23), (4, .tmp 26), (5, .tmp 29)], 110, "ref.go:133", #[⟨3, .data⟩, ⟨6, .data⟩, ⟨9, .data⟩, ⟨12, .data⟩, ⟨15, .data⟩, ⟨18, .data⟩], none⟩ ?_ ?_ ?_
    rotate_left
    · intro w hSw; (try dsimp only at hSw); go_simp; (try with_reducible rfl)
    try simp only [PT]
    refine wpAnyH_ready (rs := [20]) (by kernel_rfl) (by simp) ?_
    refine AllReadyH.cons (o := ⟨some 5, .alloc 110, 0, "ref.go:133", #[], none⟩) rfl (fun K hK => ?_) AllReadyH.nil
    go_simp
    refine hK.out _ _ kp (fun hHeld => ?_)
    clear hK K
    try simp only [PT]
    refine wpAnyH_ready (rs := [21]) (by kernel_rfl) (by simp) ?_
    refine AllReadyH.cons (o := ⟨none, .store 110 (.tmp 5) (.tmp 30), 0, "ref.go:133", #[⟨20, .data⟩, ⟨19, .data⟩, ⟨0, .phase⟩, ⟨1, .phase⟩, ⟨2, .phase⟩, ⟨3, .phase⟩, ⟨4, .phase⟩, ⟨5, .phase⟩, ⟨6, .phase⟩, ⟨7, .phase⟩, ⟨8, .phase⟩, ⟨9, .phase⟩, ⟨10, .phase⟩, ⟨11, .phase⟩, ⟨12, .phase⟩, ⟨13, .phase⟩, ⟨14, .phase⟩, ⟨15, .phase⟩, ⟨16, .phase⟩, ⟨17, .phase⟩, ⟨18, .phase⟩, ⟨19, .phase⟩, ⟨20, .phase⟩], none⟩) rfl (fun K hK => ?_) AllReadyH.nil
    go_simp
    refine hK.out _ _ kp (fun hHeld => ?_)
    clear hK K
    try simp only [PT]
    refine wpAnyH_done (by kernel_rfl) ?_ _
    refine NoPanic.normal ?_
    clear wb ws
    go_wp2_with (first | (go_at_call 125; (with_reducible refine (rzone_any _ (by omega) _).mono ?_); rintro e w' ⟨rfl, rfl⟩) | (go_at_call 126; (with_reducible refine (rvalid_any _ _ _ _ _ _ _).mono ?_); rintro e w' ⟨rfl, hb⟩; have hz := hb.size; (try simp only [SZ, Nat.reduceAdd] at hz); (first | obtain ⟨HL, hk⟩ := HL.callA hb hz | obtain ⟨HL, hk⟩ := HL.call0A hb hz); (try simp only [addN, Nat.add_zero] at HL hk); have hl := HL; simp only [Live] at hl; (try simp only [Kept] at hk)))
    go_ret3
    exact RoP.bad (by rw [HV.out]; simp) rfl (by (exact bl))
  · have hv' := vClkB_true.1 hv
    cases hq : qB (sg (bt s 6))
    · have HQ := hide hq
      have HL : Live w [] := trivial
      go_enter Tryz.func120, Tryz.ntmps120
      go_wp2_with fail
      have wb : ∀ j, IntKind.i64.wrap (bt s j) = bt s j := fun j => IntWalk.i64_in _ ⟨by have := bt_nonneg s j; omega, by have := bt_le s j; omega⟩
      have ws : IntKind.i64.wrap (1900 + bt s 0) = 1900 + bt s 0 := IntWalk.i64_in _ (by omega)
      refine wp_region_noPanic ?_
      refine wp_region_held_drew (S := (fun _ => True ∧ True)) (by kernel_rfl) kp (fun hHeld => ?_)
      refine tkY 0 ⟨some 11, .move (.tmp 0), 9, "ref.go:133", #[], none⟩ ?_ ?_ ?_
      rotate_left
      · intro w hSw; (try dsimp only at hSw); go_simp; (try with_reducible rfl)
      try simp only [PT]
      refine tkY 1 ⟨some 12, .index 9 (.tmp 11) (.const (.int .i64 0)), 5, "ref.go:133", #[⟨0, .data⟩], none⟩ ?_ ?_ ?_
      rotate_left
      · intro w hSw; (try dsimp only at hSw); go_simp; (try with_reducible rfl)
      try simp only [PT]
      refine tkY 2 ⟨some 13, .convert 5 3 (.tmp 12), 3, "ref.go:133", #[⟨1, .data⟩], none⟩ ?_ ?_ ?_
      rotate_left
      · intro w hSw; (try dsimp only at hSw); go_simp; (try with_reducible rfl)
      try simp only [PT]
      refine tkY 3 ⟨some 14, .binOp .add 3 (.const (.int .i64 1900)) (.tmp 13) 3, 3, "ref.go:133", #[⟨2, .data⟩], none⟩ ?_ ?_ ?_
      rotate_left
      · intro w hSw; (try dsimp only at hSw); go_simp; (try with_reducible rfl)
      try simp only [PT]
      refine tkY 4 ⟨some 15, .move (.tmp 0), 9, "ref.go:133", #[], none⟩ ?_ ?_ ?_
      rotate_left
      · intro w hSw; (try dsimp only at hSw); go_simp; (try with_reducible rfl)
      try simp only [PT]
      refine tkY 5 ⟨some 16, .index 9 (.tmp 15) (.const (.int .i64 1)), 5, "ref.go:133", #[⟨4, .data⟩], none⟩ ?_ ?_ ?_
      rotate_left
      · intro w hSw; (try dsimp only at hSw); go_simp; (try with_reducible rfl)
      try simp only [PT]
      refine tkY 6 ⟨some 17, .convert 5 3 (.tmp 16), 3, "ref.go:133", #[⟨5, .data⟩], none⟩ ?_ ?_ ?_
      rotate_left
      · intro w hSw; (try dsimp only at hSw); go_simp; (try with_reducible rfl)
      try simp only [PT]
      refine tkY 7 ⟨some 18, .move (.tmp 0), 9, "ref.go:133", #[], none⟩ ?_ ?_ ?_
      rotate_left
      · intro w hSw; (try dsimp only at hSw); go_simp; (try with_reducible rfl)
      try simp only [PT]
      refine tkY 8 ⟨some 19, .index 9 (.tmp 18) (.const (.int .i64 2)), 5, "ref.go:133", #[⟨7, .data⟩], none⟩ ?_ ?_ ?_
      rotate_left
      · intro w hSw; (try dsimp only at hSw); go_simp; (try with_reducible rfl)
      try simp only [PT]
      refine tkY 9 ⟨some 20, .convert 5 3 (.tmp 19), 3, "ref.go:133", #[⟨8, .data⟩], none⟩ ?_ ?_ ?_
      rotate_left
      · intro w hSw; (try dsimp only at hSw); go_simp; (try with_reducible rfl)
      try simp only [PT]
      refine tkY 10 ⟨some 21, .move (.tmp 0), 9, "ref.go:133", #[], none⟩ ?_ ?_ ?_
      rotate_left
      · intro w hSw; (try dsimp only at hSw); go_simp; (try with_reducible rfl)
      try simp only [PT]
      refine tkY 11 ⟨some 22, .index 9 (.tmp 21) (.const (.int .i64 3)), 5, "ref.go:133", #[⟨10, .data⟩], none⟩ ?_ ?_ ?_
      rotate_left
      · intro w hSw; (try dsimp only at hSw); go_simp; (try with_reducible rfl)
      try simp only [PT]
      refine tkY 12 ⟨some 23, .convert 5 3 (.tmp 22), 3, "ref.go:133", #[⟨11, .data⟩], none⟩ ?_ ?_ ?_
      rotate_left
      · intro w hSw; (try dsimp only at hSw); go_simp; (try with_reducible rfl)
      try simp only [PT]
      refine tkY 13 ⟨some 24, .move (.tmp 0), 9, "ref.go:133", #[], none⟩ ?_ ?_ ?_
      rotate_left
      · intro w hSw; (try dsimp only at hSw); go_simp; (try with_reducible rfl)
      try simp only [PT]
      refine tkY 14 ⟨some 25, .index 9 (.tmp 24) (.const (.int .i64 4)), 5, "ref.go:133", #[⟨13, .data⟩], none⟩ ?_ ?_ ?_
      rotate_left
      · intro w hSw; (try dsimp only at hSw); go_simp; (try with_reducible rfl)
      try simp only [PT]
      refine tkY 15 ⟨some 26, .convert 5 3 (.tmp 25), 3, "ref.go:133", #[⟨14, .data⟩], none⟩ ?_ ?_ ?_
      rotate_left
      · intro w hSw; (try dsimp only at hSw); go_simp; (try with_reducible rfl)
      try simp only [PT]
      refine tkY 16 ⟨some 27, .move (.tmp 0), 9, "ref.go:133", #[], none⟩ ?_ ?_ ?_
      rotate_left
      · intro w hSw; (try dsimp only at hSw); go_simp; (try with_reducible rfl)
      try simp only [PT]
      refine tkY 17 ⟨some 28, .index 9 (.tmp 27) (.const (.int .i64 5)), 5, "ref.go:133", #[⟨16, .data⟩], none⟩ ?_ ?_ ?_
      rotate_left
      · intro w hSw; (try dsimp only at hSw); go_simp; (try with_reducible rfl)
      try simp only [PT]
      refine tkY 18 ⟨some 29, .convert 5 3 (.tmp 28), 3, "ref.go:133", #[⟨17, .data⟩], none⟩ ?_ ?_ ?_
      rotate_left
      · intro w hSw; (try dsimp only at hSw); go_simp; (try with_reducible rfl)
      try simp only [PT]
      refine tkY 19 ⟨some 30, .build 110 #[(0, .tmp 14), (1, .tmp 17), (2, .tmp 20), (3, .tmp 23), (4, .tmp 26), (5, .tmp 29)], 110, "ref.go:133", #[⟨3, .data⟩, ⟨6, .data⟩, ⟨9, .data⟩, ⟨12, .data⟩, ⟨15, .data⟩, ⟨18, .data⟩], none⟩ ?_ ?_ ?_
      rotate_left
      · intro w hSw; (try dsimp only at hSw); go_simp; (try with_reducible rfl)
      try simp only [PT]
      refine wpAnyH_ready (rs := [20]) (by kernel_rfl) (by simp) ?_
      refine AllReadyH.cons (o := ⟨some 5, .alloc 110, 0, "ref.go:133", #[], none⟩) rfl (fun K hK => ?_) AllReadyH.nil
      go_simp
      refine hK.out _ _ kp (fun hHeld => ?_)
      clear hK K
      try simp only [PT]
      refine wpAnyH_ready (rs := [21]) (by kernel_rfl) (by simp) ?_
      refine AllReadyH.cons (o := ⟨none, .store 110 (.tmp 5) (.tmp 30), 0, "ref.go:133", #[⟨20, .data⟩, ⟨19, .data⟩, ⟨0, .phase⟩, ⟨1, .phase⟩, ⟨2, .phase⟩, ⟨3, .phase⟩, ⟨4, .phase⟩, ⟨5, .phase⟩, ⟨6, .phase⟩, ⟨7, .phase⟩, ⟨8, .phase⟩, ⟨9, .phase⟩, ⟨10, .phase⟩, ⟨11, .phase⟩, ⟨12, .phase⟩, ⟨13, .phase⟩, ⟨14, .phase⟩, ⟨15, .phase⟩, ⟨16, .phase⟩, ⟨17, .phase⟩, ⟨18, .phase⟩, ⟨19, .phase⟩, ⟨20, .phase⟩], none⟩) rfl (fun K hK => ?_) AllReadyH.nil
      go_simp
      refine hK.out _ _ kp (fun hHeld => ?_)
      clear hK K
      try simp only [PT]
      refine wpAnyH_done (by kernel_rfl) ?_ _
      refine NoPanic.normal ?_
      clear wb ws
      go_wp2_with (first | (go_at_call 125; (with_reducible refine (rzone_any _ (by omega) _).mono ?_); rintro e w' ⟨rfl, rfl⟩) | (go_at_call 126; (with_reducible refine (rvalid_any _ _ _ _ _ _ _).mono ?_); rintro e w' ⟨rfl, hb⟩; have hz := hb.size; (try simp only [SZ, Nat.reduceAdd] at hz); (first | obtain ⟨HL, hk⟩ := HL.callA hb hz | obtain ⟨HL, hk⟩ := HL.call0A hb hz); (try simp only [addN, Nat.add_zero] at HL hk); have hl := HL; simp only [Live] at hl; (try simp only [Kept] at hk)))
      go_ret3
      exact RoP.bad rfl rfl (by (exact bl))
    · have FN := hide (fun W => finish_any (1900 + bt s 0) (bt s 1) (bt s 2) (bt s 3) (bt s 4) (bt s 5) (15 * sg (bt s 6)) hv' (by omega) W)
      clear hv'
      have HL : Live w [] := trivial
      go_enter Tryz.func120, Tryz.ntmps120
      go_wp2_with fail
      have wb : ∀ j, IntKind.i64.wrap (bt s j) = bt s j := fun j => IntWalk.i64_in _ ⟨by have := bt_nonneg s j; omega, by have := bt_le s j; omega⟩
      have ws : IntKind.i64.wrap (1900 + bt s 0) = 1900 + bt s 0 := IntWalk.i64_in _ (by omega)
      refine wp_region_noPanic ?_
      refine wp_region_held_drew (S := (fun _ => True ∧ True)) (by kernel_rfl) kp (fun hHeld => ?_)
      refine tkY 0 ⟨some 11, .move (.tmp 0), 9, "ref.go:133", #[], none⟩ ?_ ?_ ?_
      rotate_left
      · intro w hSw; (try dsimp only at hSw); go_simp; (try with_reducible rfl)
      try simp only [PT]
      refine tkY 1 ⟨some 12, .index 9 (.tmp 11) (.const (.int .i64 0)), 5, "ref.go:133", #[⟨0, .data⟩], none⟩ ?_ ?_ ?_
      rotate_left
      · intro w hSw; (try dsimp only at hSw); go_simp; (try with_reducible rfl)
      try simp only [PT]
      refine tkY 2 ⟨some 13, .convert 5 3 (.tmp 12), 3, "ref.go:133", #[⟨1, .data⟩], none⟩ ?_ ?_ ?_
      rotate_left
      · intro w hSw; (try dsimp only at hSw); go_simp; (try with_reducible rfl)
      try simp only [PT]
      refine tkY 3 ⟨some 14, .binOp .add 3 (.const (.int .i64 1900)) (.tmp 13) 3, 3, "ref.go:133", #[⟨2, .data⟩], none⟩ ?_ ?_ ?_
      rotate_left
      · intro w hSw; (try dsimp only at hSw); go_simp; (try with_reducible rfl)
      try simp only [PT]
      refine tkY 4 ⟨some 15, .move (.tmp 0), 9, "ref.go:133", #[], none⟩ ?_ ?_ ?_
      rotate_left
      · intro w hSw; (try dsimp only at hSw); go_simp; (try with_reducible rfl)
      try simp only [PT]
      refine tkY 5 ⟨some 16, .index 9 (.tmp 15) (.const (.int .i64 1)), 5, "ref.go:133", #[⟨4, .data⟩], none⟩ ?_ ?_ ?_
      rotate_left
      · intro w hSw; (try dsimp only at hSw); go_simp; (try with_reducible rfl)
      try simp only [PT]
      refine tkY 6 ⟨some 17, .convert 5 3 (.tmp 16), 3, "ref.go:133", #[⟨5, .data⟩], none⟩ ?_ ?_ ?_
      rotate_left
      · intro w hSw; (try dsimp only at hSw); go_simp; (try with_reducible rfl)
      try simp only [PT]
      refine tkY 7 ⟨some 18, .move (.tmp 0), 9, "ref.go:133", #[], none⟩ ?_ ?_ ?_
      rotate_left
      · intro w hSw; (try dsimp only at hSw); go_simp; (try with_reducible rfl)
      try simp only [PT]
      refine tkY 8 ⟨some 19, .index 9 (.tmp 18) (.const (.int .i64 2)), 5, "ref.go:133", #[⟨7, .data⟩], none⟩ ?_ ?_ ?_
      rotate_left
      · intro w hSw; (try dsimp only at hSw); go_simp; (try with_reducible rfl)
      try simp only [PT]
      refine tkY 9 ⟨some 20, .convert 5 3 (.tmp 19), 3, "ref.go:133", #[⟨8, .data⟩], none⟩ ?_ ?_ ?_
      rotate_left
      · intro w hSw; (try dsimp only at hSw); go_simp; (try with_reducible rfl)
      try simp only [PT]
      refine tkY 10 ⟨some 21, .move (.tmp 0), 9, "ref.go:133", #[], none⟩ ?_ ?_ ?_
      rotate_left
      · intro w hSw; (try dsimp only at hSw); go_simp; (try with_reducible rfl)
      try simp only [PT]
      refine tkY 11 ⟨some 22, .index 9 (.tmp 21) (.const (.int .i64 3)), 5, "ref.go:133", #[⟨10, .data⟩], none⟩ ?_ ?_ ?_
      rotate_left
      · intro w hSw; (try dsimp only at hSw); go_simp; (try with_reducible rfl)
      try simp only [PT]
      refine tkY 12 ⟨some 23, .convert 5 3 (.tmp 22), 3, "ref.go:133", #[⟨11, .data⟩], none⟩ ?_ ?_ ?_
      rotate_left
      · intro w hSw; (try dsimp only at hSw); go_simp; (try with_reducible rfl)
      try simp only [PT]
      refine tkY 13 ⟨some 24, .move (.tmp 0), 9, "ref.go:133", #[], none⟩ ?_ ?_ ?_
      rotate_left
      · intro w hSw; (try dsimp only at hSw); go_simp; (try with_reducible rfl)
      try simp only [PT]
      refine tkY 14 ⟨some 25, .index 9 (.tmp 24) (.const (.int .i64 4)), 5, "ref.go:133", #[⟨13, .data⟩], none⟩ ?_ ?_ ?_
      rotate_left
      · intro w hSw; (try dsimp only at hSw); go_simp; (try with_reducible rfl)
      try simp only [PT]
      refine tkY 15 ⟨some 26, .convert 5 3 (.tmp 25), 3, "ref.go:133", #[⟨14, .data⟩], none⟩ ?_ ?_ ?_
      rotate_left
      · intro w hSw; (try dsimp only at hSw); go_simp; (try with_reducible rfl)
      try simp only [PT]
      refine tkY 16 ⟨some 27, .move (.tmp 0), 9, "ref.go:133", #[], none⟩ ?_ ?_ ?_
      rotate_left
      · intro w hSw; (try dsimp only at hSw); go_simp; (try with_reducible rfl)
      try simp only [PT]
      refine tkY 17 ⟨some 28, .index 9 (.tmp 27) (.const (.int .i64 5)), 5, "ref.go:133", #[⟨16, .data⟩], none⟩ ?_ ?_ ?_
      rotate_left
      · intro w hSw; (try dsimp only at hSw); go_simp; (try with_reducible rfl)
      try simp only [PT]
      refine tkY 18 ⟨some 29, .convert 5 3 (.tmp 28), 3, "ref.go:133", #[⟨17, .data⟩], none⟩ ?_ ?_ ?_
      rotate_left
      · intro w hSw; (try dsimp only at hSw); go_simp; (try with_reducible rfl)
      try simp only [PT]
      refine tkY 19 ⟨some 30, .build 110 #[(0, .tmp 14), (1, .tmp 17), (2, .tmp 20), (3, .tmp 23), (4, .tmp 26), (5, .tmp 29)], 110, "ref.go:133", #[⟨3, .data⟩, ⟨6, .data⟩, ⟨9, .data⟩, ⟨12, .data⟩, ⟨15, .data⟩, ⟨18, .data⟩], none⟩ ?_ ?_ ?_
      rotate_left
      · intro w hSw; (try dsimp only at hSw); go_simp; (try with_reducible rfl)
      try simp only [PT]
      refine wpAnyH_ready (rs := [20]) (by kernel_rfl) (by simp) ?_
      refine AllReadyH.cons (o := ⟨some 5, .alloc 110, 0, "ref.go:133", #[], none⟩) rfl (fun K hK => ?_) AllReadyH.nil
      go_simp
      refine hK.out _ _ kp (fun hHeld => ?_)
      clear hK K
      try simp only [PT]
      refine wpAnyH_ready (rs := [21]) (by kernel_rfl) (by simp) ?_
      refine AllReadyH.cons (o := ⟨none, .store 110 (.tmp 5) (.tmp 30), 0, "ref.go:133", #[⟨20, .data⟩, ⟨19, .data⟩, ⟨0, .phase⟩, ⟨1, .phase⟩, ⟨2, .phase⟩, ⟨3, .phase⟩, ⟨4, .phase⟩, ⟨5, .phase⟩, ⟨6, .phase⟩, ⟨7, .phase⟩, ⟨8, .phase⟩, ⟨9, .phase⟩, ⟨10, .phase⟩, ⟨11, .phase⟩, ⟨12, .phase⟩, ⟨13, .phase⟩, ⟨14, .phase⟩, ⟨15, .phase⟩, ⟨16, .phase⟩, ⟨17, .phase⟩, ⟨18, .phase⟩, ⟨19, .phase⟩, ⟨20, .phase⟩], none⟩) rfl (fun K hK => ?_) AllReadyH.nil
      go_simp
      refine hK.out _ _ kp (fun hHeld => ?_)
      clear hK K
      try simp only [PT]
      refine wpAnyH_done (by kernel_rfl) ?_ _
      refine NoPanic.normal ?_
      clear wb ws
      go_wp2_with (first | (go_at_call 125; (with_reducible refine (rzone_any _ (by omega) _).mono ?_); rintro e w' ⟨rfl, rfl⟩) | (go_at_call 126; (with_reducible refine (rvalid_any _ _ _ _ _ _ _).mono ?_); rintro e w' ⟨rfl, hb⟩; have hz := hb.size; (try simp only [SZ, Nat.reduceAdd] at hz); (first | obtain ⟨HL, hk⟩ := HL.callA hb hz | obtain ⟨HL, hk⟩ := HL.call0A hb hz); (try simp only [addN, Nat.add_zero] at HL hk); have hl := HL; simp only [Live] at hl; (try simp only [Kept] at hk)) | (go_at_call 127; (with_reducible refine (FN.out _).mono ?_); rintro e w' ⟨rfl, hb⟩; have hz := hb.size))
      go_ret3
      exact ⟨rfl, by (exact bl)⟩
end Go.Proofs.YtjbhokmkmapkoaaGreatDoor.Dt
