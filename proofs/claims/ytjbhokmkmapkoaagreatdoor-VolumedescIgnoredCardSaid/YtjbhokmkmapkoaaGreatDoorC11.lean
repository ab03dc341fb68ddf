/- Contracts and plain words for the laws of volume descriptors, part 11: KW2. No condition. -/
import Derived.Deep.DeepCutAuto
import Derived.Test.YtjbhokmkmapkoaaGreatDoorC8
import Derived.Test.YtjbhokmkmapkoaaGreatDoorC10
namespace Go.Proofs.YtjbhokmkmapkoaaGreatDoor.Dt
set_option linter.unusedSimpArgs false
set_option linter.unusedVariables false
open Go.RowKit
open Go.PlainAid (bt get_bt bt_nonneg bt_le)
theorem rnumEx_2 (s : ByteArray) (a b : Nat) (hb : b = a + 2) (hs : a + 2 ≤ s.size) (h0 : Dig s a) (h1 : Dig s (a + 1)) (w : World) : Calls Tryz.prog 124 #[.string (s.extract a b)] w fun e w' => e = .returned (.int .i64 (num2 s a)) ∧ w = w' := by
  subst hb
  have hz : (s.extract a (a + 2)).size = 2 := by simp; omega
  have e0 := bt_extract s a (a + 2) 0 hs (by omega)
  have e1 := bt_extract s a (a + 2) 1 hs (by omega)
  have hn : num2 (s.extract a (a + 2)) 0 = num2 s a := by simp only [num2, Nat.zero_add]; rw [e0, e1]; simp
  rw [← hn]
  exact rnum_2 _ hz (by unfold Dig; rw [e0]; exact h0) (by unfold Dig; rw [e1]; exact h1) w
theorem rnumEx_4 (s : ByteArray) (hs : 4 ≤ s.size) (h0 : Dig s 0) (h1 : Dig s 1) (h2 : Dig s 2) (h3 : Dig s 3) (w : World) : Calls Tryz.prog 124 #[.string (s.extract 0 4)] w fun e w' => e = .returned (.int .i64 (num4 s 0)) ∧ w = w' := by
  have hz : (s.extract 0 4).size = 4 := by simp; omega
  have e0 := bt_extract s 0 4 0 hs (by omega)
  have e1 := bt_extract s 0 4 1 hs (by omega)
  have e2 := bt_extract s 0 4 2 hs (by omega)
  have e3 := bt_extract s 0 4 3 hs (by omega)
  have hn : num4 (s.extract 0 4) 0 = num4 s 0 := by simp only [num4, Nat.zero_add]; rw [e0, e1, e2, e3]
  rw [← hn]
  exact rnum_4 _ hz (by unfold Dig; rw [e0]; exact h0) (by unfold Dig; rw [e1]; exact h1) (by unfold Dig; rw [e2]; exact h2) (by unfold Dig; rw [e3]; exact h3) w
set_option maxHeartbeats 400000 in
theorem rreadDesc_no (s : ByteArray) (hs : ¬ s.size = 17) (w : World) : Calls Tryz.prog 63 #[.string s] w fun e w' => e = .returned (.tuple #[.int .i64 0, .int .i64 0, .int .i64 1]) ∧ Below w.heap.size w w' := by
  obtain ⟨h1, h2⟩ := size_ne hs
  have HL : Live w [] := trivial
  go_enter Tryz.func63, Tryz.ntmps63
  go_wp2
  go_ret3
  exact ⟨rfl, by (exact bl)⟩
set_option maxHeartbeats 400000 in
theorem rreadDesc_un (w : World) : Calls Tryz.prog 63 #[.string ⟨#[48, 48, 48, 48, 48, 48, 48, 48, 48, 48, 48, 48, 48, 48, 48, 48, 0]⟩] w fun e w' => e = .returned (.tuple #[.int .i64 0, .int .i64 0, .int .i64 0]) ∧ Below w.heap.size w w' := by
  have HL : Live w [] := trivial
  go_enter Tryz.func63, Tryz.ntmps63
  go_wp2_with (first | (go_at_call 46; (with_reducible refine (runspec_any _).mono ?_); rintro e w' ⟨rfl, rfl⟩))
  go_ret3
  exact ⟨rfl, by (exact bl)⟩
set_option maxHeartbeats 1000000 in
theorem rreadDesc_bad (s : ByteArray) (hs : s.size = 17) (hu : s ≠ unS) (hd : ¬ DigTo s 16) (w : World) : Calls Tryz.prog 63 #[.string s] w fun e w' => e = .returned (.tuple #[.int .i64 0, .int .i64 0, .int .i64 10]) ∧ Below w.heap.size w w' := by
  have hg := get_bt s
  have hl := un_list hu
  have HD := hide hd
  clear hd hu
  have HL : Live w [] := trivial
  go_enter Tryz.func63, Tryz.ntmps63
  go_wp2_with (first | (go_at_call 46; (with_reducible refine (runspec_any _).mono ?_); rintro e w' ⟨rfl, rfl⟩))
  go_loop [5] (fun c => ∃ i : Nat, i ≤ 16 ∧ c = .int .i64 i ∧ DigTo s i) (fun c => 16 - (intOf c).toNat)
  case atStart => exact ⟨0, by omega, rfl, DigTo.zero s⟩
  case round =>
    obtain ⟨i, hi, rfl, hto⟩ := hrel
    have HT := hide hto
    clear hto
    by_cases hlt : i < 16
    · by_cases g1 : 48 ≤ bt s i
      · by_cases g2 : bt s i ≤ 57
        · go_wp2
          go_round
          case rel => exact ⟨i + 1, by omega, by go_num, HT.out.succ g1 g2⟩
          case measure => simp [intOf]; omega
        · go_wp2
          go_ret3
          exact ⟨rfl, by (exact bl)⟩
      · go_wp2
        go_ret3
        exact ⟨rfl, by (exact bl)⟩
    · obtain rfl : i = 16 := by omega
      exact absurd HT.out HD.out
set_option maxHeartbeats 4000000 in
theorem rreadDesc_yes (s : ByteArray) (hs : s.size = 17) (hu : s ≠ unS) (hd : DigTo s 16) (w : World) : Calls Tryz.prog 63 #[.string s] w (RoP (num4 s 0) (num2 s 4) (num2 s 6) (num2 s 8) (num2 s 10) (num2 s 12) (15 * sg (bt s 16)) (qB (sg (bt s 16))) w) := by
  have hg := get_bt s
  have hl := un_list hu
  have HD := hide hd
  have b6 := bt_nonneg s 16
  have b6' := bt_le s 16
  have sb := sg_bd ⟨b6, b6'⟩
  have N0 := hide (fun W => rnumEx_4 s (by omega) (dto hd 0 (by omega)) (dto hd 1 (by omega)) (dto hd 2 (by omega)) (dto hd 3 (by omega)) W)
  have N4 := hide (fun W => rnumEx_2 s 4 6 rfl (by omega) (dto hd 4 (by omega)) (dto hd 5 (by omega)) W)
  have N6 := hide (fun W => rnumEx_2 s 6 8 rfl (by omega) (dto hd 6 (by omega)) (dto hd 7 (by omega)) W)
  have N8 := hide (fun W => rnumEx_2 s 8 10 rfl (by omega) (dto hd 8 (by omega)) (dto hd 9 (by omega)) W)
  have N10 := hide (fun W => rnumEx_2 s 10 12 rfl (by omega) (dto hd 10 (by omega)) (dto hd 11 (by omega)) W)
  have N12 := hide (fun W => rnumEx_2 s 12 14 rfl (by omega) (dto hd 12 (by omega)) (dto hd 13 (by omega)) W)
  clear hd hu
  have HL : Live w [] := trivial
  go_enter Tryz.func63, Tryz.ntmps63
  go_wp2_with (first | (go_at_call 46; (with_reducible refine (runspec_any _).mono ?_); rintro e w' ⟨rfl, rfl⟩))
  go_loop [5] (fun c => ∃ i : Nat, i ≤ 16 ∧ c = .int .i64 i) (fun c => 16 - (intOf c).toNat)
  case atStart => exact ⟨0, by omega, rfl⟩
  case round =>
    obtain ⟨i, hi, rfl⟩ := hrel
    by_cases hlt : i < 16
    · have g1 := (HD.out i hlt).1
      have g2 := (HD.out i hlt).2
      go_wp2
      go_round
      case rel => exact ⟨i + 1, by omega, by go_num⟩
      case measure => simp [intOf]; omega
    · obtain rfl : i = 16 := by omega
      go_upto_region 10 with fail
      go_cut [6] (fun p wx => p = .pointer (some ⟨w.heap.size, 0, none⟩) ∧ (w.alloc (.cells #[.int .i64 (num4 s 0), .int .i64 (num2 s 4), .int .i64 (num2 s 6), .int .i64 (num2 s 8), .int .i64 (num2 s 10), .int .i64 (num2 s 12)] 110)).drew = wx)
      case first =>
        refine wp_region_noPanic ?_
        refine wp_region_held_drew (S := (fun _ => True ∧ True)) (by kernel_rfl) kp (fun hHeld => ?_)
        refine tkY 0 ⟨some 29, .move (.tmp 0), 9, "ref.go:185", #[], none⟩ ?_ ?_ ?_
        rotate_left
        · intro w hSw; (try dsimp only at hSw); go_simp; (try with_reducible rfl)
        try simp only [PT]
        refine tkY 1 ⟨some 30, .slice 9 (.tmp 29) (some (.const (.int .i64 0))) (some (.const (.int .i64 4))) none, 9, "ref.go:185", #[⟨0, .data⟩], none⟩ ?_ ?_ ?_
        rotate_left
        · intro w hSw; (try dsimp only at hSw); go_simp; (try with_reducible rfl)
        try simp only [PT]
        refine tkY 3 ⟨some 32, .move (.tmp 0), 9, "ref.go:185", #[], none⟩ ?_ ?_ ?_
        rotate_left
        · intro w hSw; (try dsimp only at hSw); go_simp; (try with_reducible rfl)
        try simp only [PT]
        refine tkY 4 ⟨some 33, .slice 9 (.tmp 32) (some (.const (.int .i64 4))) (some (.const (.int .i64 6))) none, 9, "ref.go:185", #[⟨3, .data⟩], none⟩ ?_ ?_ ?_
        rotate_left
        · intro w hSw; (try dsimp only at hSw); go_simp; (try with_reducible rfl)
        try simp only [PT]
        refine tkY 6 ⟨some 35, .move (.tmp 0), 9, "ref.go:185", #[], none⟩ ?_ ?_ ?_
        rotate_left
        · intro w hSw; (try dsimp only at hSw); go_simp; (try with_reducible rfl)
        try simp only [PT]
        refine tkY 7 ⟨some 36, .slice 9 (.tmp 35) (some (.const (.int .i64 6))) (some (.const (.int .i64 8))) none, 9, "ref.go:185", #[⟨6, .data⟩], none⟩ ?_ ?_ ?_
        rotate_left
        · intro w hSw; (try dsimp only at hSw); go_simp; (try with_reducible rfl)
        try simp only [PT]
        refine tkY 9 ⟨some 38, .move (.tmp 0), 9, "ref.go:185", #[], none⟩ ?_ ?_ ?_
        rotate_left
        · intro w hSw; (try dsimp only at hSw); go_simp; (try with_reducible rfl)
        try simp only [PT]
        refine tkY 10 ⟨some 39, .slice 9 (.tmp 38) (some (.const (.int .i64 8))) (some (.const (.int .i64 10))) none, 9, "ref.go:185", #[⟨9, .data⟩], none⟩ ?_ ?_ ?_
        rotate_left
        · intro w hSw; (try dsimp only at hSw); go_simp; (try with_reducible rfl)
        try simp only [PT]
        refine tkY 12 ⟨some 41, .move (.tmp 0), 9, "ref.go:185", #[], none⟩ ?_ ?_ ?_
        rotate_left
        · intro w hSw; (try dsimp only at hSw); go_simp; (try with_reducible rfl)
        try simp only [PT]
        refine tkY 13 ⟨some 42, .slice 9 (.tmp 41) (some (.const (.int .i64 10))) (some (.const (.int .i64 12))) none, 9, "ref.go:185", #[⟨12, .data⟩], none⟩ ?_ ?_ ?_
        rotate_left
        · intro w hSw; (try dsimp only at hSw); go_simp; (try with_reducible rfl)
        try simp only [PT]
        refine tkY 15 ⟨some 44, .move (.tmp 0), 9, "ref.go:185", #[], none⟩ ?_ ?_ ?_
        rotate_left
        · intro w hSw; (try dsimp only at hSw); go_simp; (try with_reducible rfl)
        try simp only [PT]
        refine tkY 16 ⟨some 45, .slice 9 (.tmp 44) (some (.const (.int .i64 12))) (some (.const (.int .i64 14))) none, 9, "ref.go:185", #[⟨15, .data⟩], none⟩ ?_ ?_ ?_
        rotate_left
        · intro w hSw; (try dsimp only at hSw); go_simp; (try with_reducible rfl)
        try simp only [PT]
        refine wpAnyH_ready (rs := [2, 19]) (by kernel_rfl) (by simp) ?_
        refine AllReadyH.cons (o := ⟨some 31, .call ⟨.value (.func 124), #[.tmp 30], #[9]⟩, 3, "ref.go:185", #[⟨1, .data⟩], none⟩) rfl (fun K hK => ?_) (AllReadyH.cons (o := ⟨some 6, .alloc 110, 0, "ref.go:185", #[], none⟩) rfl (fun K hK => ?_) AllReadyH.nil)
        focus
          go_simp
          (first | (go_at_call 124; (with_reducible refine (N0.out _).mono ?_); rintro e w' ⟨rfl, rfl⟩) | (go_at_call 124; (with_reducible refine (N4.out _).mono ?_); rintro e w' ⟨rfl, rfl⟩) | (go_at_call 124; (with_reducible refine (N6.out _).mono ?_); rintro e w' ⟨rfl, rfl⟩) | (go_at_call 124; (with_reducible refine (N8.out _).mono ?_); rintro e w' ⟨rfl, rfl⟩) | (go_at_call 124; (with_reducible refine (N10.out _).mono ?_); rintro e w' ⟨rfl, rfl⟩) | (go_at_call 124; (with_reducible refine (N12.out _).mono ?_); rintro e w' ⟨rfl, rfl⟩))
          go_wp2_with fail
          refine hK.out _ _ kp (fun hHeld => ?_)
          clear hK K
          try simp only [PT]
          refine wpAnyH_ready (rs := [5, 19]) (by kernel_rfl) (by simp) ?_
          refine AllReadyH.cons (o := ⟨some 34, .call ⟨.value (.func 124), #[.tmp 33], #[9]⟩, 3, "ref.go:185", #[⟨4, .data⟩, ⟨2, .chain⟩], none⟩) rfl (fun K hK => ?_) (AllReadyH.cons (o := ⟨some 6, .alloc 110, 0, "ref.go:185", #[], none⟩) rfl (fun K hK => ?_) AllReadyH.nil)
          focus
            go_simp
            (first | (go_at_call 124; (with_reducible refine (N0.out _).mono ?_); rintro e w' ⟨rfl, rfl⟩) | (go_at_call 124; (with_reducible refine (N4.out _).mono ?_); rintro e w' ⟨rfl, rfl⟩) | (go_at_call 124; (with_reducible refine (N6.out _).mono ?_); rintro e w' ⟨rfl, rfl⟩) | (go_at_call 124; (with_reducible refine (N8.out _).mono ?_); rintro e w' ⟨rfl, rfl⟩) | (go_at_call 124; (with_reducible refine (N10.out _).mono ?_); rintro e w' ⟨rfl, rfl⟩) | (go_at_call 124; (with_reducible refine (N12.out _).mono ?_); rintro e w' ⟨rfl, rfl⟩))
            go_wp2_with fail
            refine hK.out _ _ kp (fun hHeld => ?_)
            clear hK K
            try simp only [PT]
            refine wpAnyH_ready (rs := [8, 19]) (by kernel_rfl) (by simp) ?_
            refine AllReadyH.cons (o := ⟨some 37, .call ⟨.value (.func 124), #[.tmp 36], #[9]⟩, 3, "ref.go:185", #[⟨7, .data⟩, ⟨5, .chain⟩], none⟩) rfl (fun K hK => ?_) (AllReadyH.cons (o := ⟨some 6, .alloc 110, 0, "ref.go:185", #[], none⟩) rfl (fun K hK => ?_) AllReadyH.nil)
            focus
              go_simp
              (first | (go_at_call 124; (with_reducible refine (N0.out _).mono ?_); rintro e w' ⟨rfl, rfl⟩) | (go_at_call 124; (with_reducible refine (N4.out _).mono ?_); rintro e w' ⟨rfl, rfl⟩) | (go_at_call 124; (with_reducible refine (N6.out _).mono ?_); rintro e w' ⟨rfl, rfl⟩) | (go_at_call 124; (with_reducible refine (N8.out _).mono ?_); rintro e w' ⟨rfl, rfl⟩) | (go_at_call 124; (with_reducible refine (N10.out _).mono ?_); rintro e w' ⟨rfl, rfl⟩) | (go_at_call 124; (with_reducible refine (N12.out _).mono ?_); rintro e w' ⟨rfl, rfl⟩))
              go_wp2_with fail
              refine hK.out _ _ kp (fun hHeld => ?_)
              clear hK K
              try simp only [PT]
              refine wpAnyH_ready (rs := [11, 19]) (by kernel_rfl) (by simp) ?_
              refine AllReadyH.cons (o := ⟨some 40, .call ⟨.value (.func 124), #[.tmp 39], #[9]⟩, 3, "ref.go:185", #[⟨10, .data⟩, ⟨8, .chain⟩], none⟩) rfl (fun K hK => ?_) (AllReadyH.cons (o := ⟨some 6, .alloc 110, 0, "ref.go:185", #[], none⟩) rfl (fun K hK => ?_) AllReadyH.nil)
              focus
                go_simp
                (first | (go_at_call 124; (with_reducible refine (N0.out _).mono ?_); rintro e w' ⟨rfl, rfl⟩) | (go_at_call 124; (with_reducible refine (N4.out _).mono ?_); rintro e w' ⟨rfl, rfl⟩) | (go_at_call 124; (with_reducible refine (N6.out _).mono ?_); rintro e w' ⟨rfl, rfl⟩) | (go_at_call 124; (with_reducible refine (N8.out _).mono ?_); rintro e w' ⟨rfl, rfl⟩) | (go_at_call 124; (with_reducible refine (N10.out _).mono ?_); rintro e w' ⟨rfl, rfl⟩) | (go_at_call 124; (with_reducible refine (N12.out _).mono ?_); rintro e w' ⟨rfl, rfl⟩))
                go_wp2_with fail
                refine hK.out _ _ kp (fun hHeld => ?_)
                clear hK K
                try simp only [PT]
                refine wpAnyH_ready (rs := [14, 19]) (by kernel_rfl) (by simp) ?_
                refine AllReadyH.cons (o := ⟨some 43, .call ⟨.value (.func 124), #[.tmp 42], #[9]⟩, 3, "ref.go:185", #[⟨13, .data⟩, ⟨11, .chain⟩], none⟩) rfl (fun K hK => ?_) (AllReadyH.cons (o := ⟨some 6, .alloc 110, 0, "ref.go:185", #[], none⟩) rfl (fun K hK => ?_) AllReadyH.nil)
                focus
                  go_simp
                  (first | (go_at_call 124; (with_reducible refine (N0.out _).mono ?_); rintro e w' ⟨rfl, rfl⟩) | (go_at_call 124; (with_reducible refine (N4.out _).mono ?_); rintro e w' ⟨rfl, rfl⟩) | (go_at_call 124; (with_reducible refine (N6.out _).mono ?_); rintro e w' ⟨rfl, rfl⟩) | (go_at_call 124; (with_reducible refine (N8.out _).mono ?_); rintro e w' ⟨rfl, rfl⟩) | (go_at_call 124; (with_reducible refine (N10.out _).mono ?_); rintro e w' ⟨rfl, rfl⟩) | (go_at_call 124; (with_reducible refine (N12.out _).mono ?_); rintro e w' ⟨rfl, rfl⟩))
                  go_wp2_with fail
                  refine hK.out _ _ kp (fun hHeld => ?_)
                  clear hK K
                  try simp only [PT]
                  refine wpAnyH_ready (rs := [17, 19]) (by kernel_rfl) (by simp) ?_
                  refine AllReadyH.cons (o := ⟨some 46, .call ⟨.value (.func 124), #[.tmp 45], #[9]⟩, 3, "ref.go:185", #[⟨16, .data⟩, ⟨14, .chain⟩], none⟩) rfl (fun K hK => ?_) (AllReadyH.cons (o := ⟨some 6, .alloc 110, 0, "ref.go:185", #[], none⟩) rfl (fun K hK => ?_) AllReadyH.nil)
                  focus
                    go_simp
                    (first | (go_at_call 124; (with_reducible refine (N0.out _).mono ?_); rintro e w' ⟨rfl, rfl⟩) | (go_at_call 124; (with_reducible refine (N4.out _).mono ?_); rintro e w' ⟨rfl, rfl⟩) | (go_at_call 124; (with_reducible refine (N6.out _).mono ?_); rintro e w' ⟨rfl, rfl⟩) | (go_at_call 124; (with_reducible refine (N8.out _).mono ?_); rintro e w' ⟨rfl, rfl⟩) | (go_at_call 124; (with_reducible refine (N10.out _).mono ?_); rintro e w' ⟨rfl, rfl⟩) | (go_at_call 124; (with_reducible refine (N12.out _).mono ?_); rintro e w' ⟨rfl, rfl⟩))
                    go_wp2_with fail
                    refine hK.out _ _ kp (fun hHeld => ?_)
                    clear hK K
                    try simp only [PT]
                    refine tkY 18 ⟨some 47, .build 110 #[(0, .tmp 31), (1, .tmp 34), (2, .tmp 37), (3, .tmp 40), (4, .tmp 43), (5, .tmp 46)], 110, "ref.go:185", #[⟨2, .data⟩, ⟨5, .data⟩, ⟨8, .data⟩, ⟨11, .data⟩, ⟨14, .data⟩, ⟨17, .data⟩], none⟩ ?_ ?_ ?_
                    rotate_left
                    · intro w hSw; (try dsimp only at hSw); go_simp; (try with_reducible rfl)
                    try simp only [PT]
                    refine wpAnyH_ready (rs := [19]) (by kernel_rfl) (by simp) ?_
                    refine AllReadyH.cons (o := ⟨some 6, .alloc 110, 0, "ref.go:185", #[], none⟩) rfl (fun K hK => ?_) AllReadyH.nil
                    go_simp
                    refine hK.out _ _ kp (fun hHeld => ?_)
                    clear hK K
                    try simp only [PT]
                    refine wpAnyH_ready (rs := [20]) (by kernel_rfl) (by simp) ?_
                    refine AllReadyH.cons (o := ⟨none, .store 110 (.tmp 6) (.tmp 47), 0, "ref.go:185", #[⟨19, .data⟩, ⟨18, .data⟩, ⟨17, .chain⟩, ⟨0, .phase⟩, ⟨1, .phase⟩, ⟨2, .phase⟩, ⟨3, .phase⟩, ⟨4, .phase⟩, ⟨5, .phase⟩, ⟨6, .phase⟩, ⟨7, .phase⟩, ⟨8, .phase⟩, ⟨9, .phase⟩, ⟨10, .phase⟩, ⟨11, .phase⟩, ⟨12, .phase⟩, ⟨13, .phase⟩, ⟨14, .phase⟩, ⟨15, .phase⟩, ⟨16, .phase⟩, ⟨17, .phase⟩, ⟨18, .phase⟩, ⟨19, .phase⟩], none⟩) rfl (fun K hK => ?_) AllReadyH.nil
                    go_simp
                    refine hK.out _ _ kp (fun hHeld => ?_)
                    clear hK K
                    try simp only [PT]
                    refine wpAnyH_done (by kernel_rfl) ?_ _
                    refine NoPanic.normal ?_
                  rotate_left 1
                  focus
                    go_simp
                    refine hK.out _ _ kp (fun hHeld => ?_)
                    clear hK K
                    try simp only [PT]
                    refine wpAnyH_ready (rs := [17]) (by kernel_rfl) (by simp) ?_
                    refine AllReadyH.cons (o := ⟨some 46, .call ⟨.value (.func 124), #[.tmp 45], #[9]⟩, 3, "ref.go:185", #[⟨16, .data⟩, ⟨14, .chain⟩], none⟩) rfl (fun K hK => ?_) AllReadyH.nil
                    go_simp
                    (first | (go_at_call 124; (with_reducible refine (N0.out _).mono ?_); rintro e w' ⟨rfl, rfl⟩) | (go_at_call 124; (with_reducible refine (N4.out _).mono ?_); rintro e w' ⟨rfl, rfl⟩) | (go_at_call 124; (with_reducible refine (N6.out _).mono ?_); rintro e w' ⟨rfl, rfl⟩) | (go_at_call 124; (with_reducible refine (N8.out _).mono ?_); rintro e w' ⟨rfl, rfl⟩) | (go_at_call 124; (with_reducible refine (N10.out _).mono ?_); rintro e w' ⟨rfl, rfl⟩) | (go_at_call 124; (with_reducible refine (N12.out _).mono ?_); rintro e w' ⟨rfl, rfl⟩))
                    go_wp2_with fail
                    refine hK.out _ _ kp (fun hHeld => ?_)
                    clear hK K
                    try simp only [PT]
                    refine tkY 18 ⟨some 47, .build 110 #[(0, .tmp 31), (1, .tmp 34), (2, .tmp 37), (3, .tmp 40), (4, .tmp 43), (5, .tmp 46)], 110, "ref.go:185", #[⟨2, .data⟩, ⟨5, .data⟩, ⟨8, .data⟩, ⟨11, .data⟩, ⟨14, .data⟩, ⟨17, .data⟩], none⟩ ?_ ?_ ?_
                    rotate_left
                    · intro w hSw; (try dsimp only at hSw); go_simp; (try with_reducible rfl)
                    try simp only [PT]
                    refine wpAnyH_ready (rs := [20]) (by kernel_rfl) (by simp) ?_
                    refine AllReadyH.cons (o := ⟨none, .store 110 (.tmp 6) (.tmp 47), 0, "ref.go:185", #[⟨19, .data⟩, ⟨18, .data⟩, ⟨17, .chain⟩, ⟨0, .phase⟩, ⟨1, .phase⟩, ⟨2, .phase⟩, ⟨3, .phase⟩, ⟨4, .phase⟩, ⟨5, .phase⟩, ⟨6, .phase⟩, ⟨7, .phase⟩, ⟨8, .phase⟩, ⟨9, .phase⟩, ⟨10, .phase⟩, ⟨11, .phase⟩, ⟨12, .phase⟩, ⟨13, .phase⟩, ⟨14, .phase⟩, ⟨15, .phase⟩, ⟨16, .phase⟩, ⟨17, .phase⟩, ⟨18, .phase⟩, ⟨19, .phase⟩], none⟩) rfl (fun K hK => ?_) AllReadyH.nil
                    go_simp
                    refine hK.out _ _ kp (fun hHeld => ?_)
                    clear hK K
                    try simp only [PT]
                    refine wpAnyH_done (by kernel_rfl) ?_ _
                    refine NoPanic.normal ?_
                  rotate_left 1
                rotate_left 2
                focus
                  go_simp
                  refine hK.out _ _ kp (fun hHeld => ?_)
                  clear hK K
                  try simp only [PT]
                  refine wpAnyH_ready (rs := [14]) (by kernel_rfl) (by simp) ?_
                  refine AllReadyH.cons (o := ⟨some 43, .call ⟨.value (.func 124), #[.tmp 42], #[9]⟩, 3, "ref.go:185", #[⟨13, .data⟩, ⟨11, .chain⟩], none⟩) rfl (fun K hK => ?_) AllReadyH.nil
                  go_simp
                  (first | (go_at_call 124; (with_reducible refine (N0.out _).mono ?_); rintro e w' ⟨rfl, rfl⟩) | (go_at_call 124; (with_reducible refine (N4.out _).mono ?_); rintro e w' ⟨rfl, rfl⟩) | (go_at_call 124; (with_reducible refine (N6.out _).mono ?_); rintro e w' ⟨rfl, rfl⟩) | (go_at_call 124; (with_reducible refine (N8.out _).mono ?_); rintro e w' ⟨rfl, rfl⟩) | (go_at_call 124; (with_reducible refine (N10.out _).mono ?_); rintro e w' ⟨rfl, rfl⟩) | (go_at_call 124; (with_reducible refine (N12.out _).mono ?_); rintro e w' ⟨rfl, rfl⟩))
                  go_wp2_with fail
                  refine hK.out _ _ kp (fun hHeld => ?_)
                  clear hK K
                  try simp only [PT]
                  refine wpAnyH_ready (rs := [17]) (by kernel_rfl) (by simp) ?_
                  refine AllReadyH.cons (o := ⟨some 46, .call ⟨.value (.func 124), #[.tmp 45], #[9]⟩, 3, "ref.go:185", #[⟨16, .data⟩, ⟨14, .chain⟩], none⟩) rfl (fun K hK => ?_) AllReadyH.nil
                  go_simp
                  (first | (go_at_call 124; (with_reducible refine (N0.out _).mono ?_); rintro e w' ⟨rfl, rfl⟩) | (go_at_call 124; (with_reducible refine (N4.out _).mono ?_); rintro e w' ⟨rfl, rfl⟩) | (go_at_call 124; (with_reducible refine (N6.out _).mono ?_); rintro e w' ⟨rfl, rfl⟩) | (go_at_call 124; (with_reducible refine (N8.out _).mono ?_); rintro e w' ⟨rfl, rfl⟩) | (go_at_call 124; (with_reducible refine (N10.out _).mono ?_); rintro e w' ⟨rfl, rfl⟩) | (go_at_call 124; (with_reducible refine (N12.out _).mono ?_); rintro e w' ⟨rfl, rfl⟩))
                  go_wp2_with fail
                  refine hK.out _ _ kp (fun hHeld => ?_)
                  clear hK K
                  try simp only [PT]
                  refine tkY 18 ⟨some 47, .build 110 #[(0, .tmp 31), (1, .tmp 34), (2, .tmp 37), (3, .tmp 40), (4, .tmp 43), (5, .tmp 46)], 110, "ref.go:185", #[⟨2, .data⟩, ⟨5, .data⟩, ⟨8, .data⟩, ⟨11, .data⟩, ⟨14, .data⟩, ⟨17, .data⟩], none⟩ ?_ ?_ ?_
                  rotate_left
                  · intro w hSw; (try dsimp only at hSw); go_simp; (try with_reducible rfl)
                  try simp only [PT]
                  refine wpAnyH_ready (rs := [20]) (by kernel_rfl) (by simp) ?_
                  refine AllReadyH.cons (o := ⟨none, .store 110 (.tmp 6) (.tmp 47), 0, "ref.go:185", #[⟨19, .data⟩, ⟨18, .data⟩, ⟨17, .chain⟩, ⟨0, .phase⟩, ⟨1, .phase⟩, ⟨2, .phase⟩, ⟨3, .phase⟩, ⟨4, .phase⟩, ⟨5, .phase⟩, ⟨6, .phase⟩, ⟨7, .phase⟩, ⟨8, .phase⟩, ⟨9, .phase⟩, ⟨10, .phase⟩, ⟨11, .phase⟩, ⟨12, .phase⟩, ⟨13, .phase⟩, ⟨14, .phase⟩, ⟨15, .phase⟩, ⟨16, .phase⟩, ⟨17, .phase⟩, ⟨18, .phase⟩, ⟨19, .phase⟩], none⟩) rfl (fun K hK => ?_) AllReadyH.nil
                  go_simp
                  refine hK.out _ _ kp (fun hHeld => ?_)
                  clear hK K
                  try simp only [PT]
                  refine wpAnyH_done (by kernel_rfl) ?_ _
                  refine NoPanic.normal ?_
                rotate_left 1
              rotate_left 3
              focus
                go_simp
                refine hK.out _ _ kp (fun hHeld => ?_)
                clear hK K
                try simp only [PT]
                refine wpAnyH_ready (rs := [11]) (by kernel_rfl) (by simp) ?_
                refine AllReadyH.cons (o := ⟨some 40, .call ⟨.value (.func 124), #[.tmp 39], #[9]⟩, 3, "ref.go:185", #[⟨10, .data⟩, ⟨8, .chain⟩], none⟩) rfl (fun K hK => ?_) AllReadyH.nil
                go_simp
                (first | (go_at_call 124; (with_reducible refine (N0.out _).mono ?_); rintro e w' ⟨rfl, rfl⟩) | (go_at_call 124; (with_reducible refine (N4.out _).mono ?_); rintro e w' ⟨rfl, rfl⟩) | (go_at_call 124; (with_reducible refine (N6.out _).mono ?_); rintro e w' ⟨rfl, rfl⟩) | (go_at_call 124; (with_reducible refine (N8.out _).mono ?_); rintro e w' ⟨rfl, rfl⟩) | (go_at_call 124; (with_reducible refine (N10.out _).mono ?_); rintro e w' ⟨rfl, rfl⟩) | (go_at_call 124; (with_reducible refine (N12.out _).mono ?_); rintro e w' ⟨rfl, rfl⟩))
                go_wp2_with fail
                refine hK.out _ _ kp (fun hHeld => ?_)
                clear hK K
                try simp only [PT]
                refine wpAnyH_ready (rs := [14]) (by kernel_rfl) (by simp) ?_
                refine AllReadyH.cons (o := ⟨some 43, .call ⟨.value (.func 124), #[.tmp 42], #[9]⟩, 3, "ref.go:185", #[⟨13, .data⟩, ⟨11, .chain⟩], none⟩) rfl (fun K hK => ?_) AllReadyH.nil
                go_simp
                (first | (go_at_call 124; (with_reducible refine (N0.out _).mono ?_); rintro e w' ⟨rfl, rfl⟩) | (go_at_call 124; (with_reducible refine (N4.out _).mono ?_); rintro e w' ⟨rfl, rfl⟩) | (go_at_call 124; (with_reducible refine (N6.out _).mono ?_); rintro e w' ⟨rfl, rfl⟩) | (go_at_call 124; (with_reducible refine (N8.out _).mono ?_); rintro e w' ⟨rfl, rfl⟩) | (go_at_call 124; (with_reducible refine (N10.out _).mono ?_); rintro e w' ⟨rfl, rfl⟩) | (go_at_call 124; (with_reducible refine (N12.out _).mono ?_); rintro e w' ⟨rfl, rfl⟩))
                go_wp2_with fail
                refine hK.out _ _ kp (fun hHeld => ?_)
                clear hK K
                try simp only [PT]
                refine wpAnyH_ready (rs := [17]) (by kernel_rfl) (by simp) ?_
                refine AllReadyH.cons (o := ⟨some 46, .call ⟨.value (.func 124), #[.tmp 45], #[9]⟩, 3, "ref.go:185", #[⟨16, .data⟩, ⟨14, .chain⟩], none⟩) rfl (fun K hK => ?_) AllReadyH.nil
                go_simp
                (first | (go_at_call 124; (with_reducible refine (N0.out _).mono ?_); rintro e w' ⟨rfl, rfl⟩) | (go_at_call 124; (with_reducible refine (N4.out _).mono ?_); rintro e w' ⟨rfl, rfl⟩) | (go_at_call 124; (with_reducible refine (N6.out _).mono ?_); rintro e w' ⟨rfl, rfl⟩) | (go_at_call 124; (with_reducible refine (N8.out _).mono ?_); rintro e w' ⟨rfl, rfl⟩) | (go_at_call 124; (with_reducible refine (N10.out _).mono ?_); rintro e w' ⟨rfl, rfl⟩) | (go_at_call 124; (with_reducible refine (N12.out _).mono ?_); rintro e w' ⟨rfl, rfl⟩))
                go_wp2_with fail
                refine hK.out _ _ kp (fun hHeld => ?_)
                clear hK K
                try simp only [PT]
                refine tkY 18 ⟨some 47, .build 110 #[(0, .tmp 31), (1, .tmp 34), (2, .tmp 37), (3, .tmp 40), (4, .tmp 43), (5, .tmp 46)], 110, "ref.go:185", #[⟨2, .data⟩, ⟨5, .data⟩, ⟨8, .data⟩, ⟨11, .data⟩, ⟨14, .data⟩, ⟨17, .data⟩], none⟩ ?_ ?_ ?_
                rotate_left
                · intro w hSw; (try dsimp only at hSw); go_simp; (try with_reducible rfl)
                try simp only [PT]
                refine wpAnyH_ready (rs := [20]) (by kernel_rfl) (by simp) ?_
                refine AllReadyH.cons (o := ⟨none, .store 110 (.tmp 6) (.tmp 47), 0, "ref.go:185", #[⟨19, .data⟩, ⟨18, .data⟩, ⟨17, .chain⟩, ⟨0, .phase⟩, ⟨1, .phase⟩, ⟨2, .phase⟩, ⟨3, .phase⟩, ⟨4, .phase⟩, ⟨5, .phase⟩, ⟨6, .phase⟩, ⟨7, .phase⟩, ⟨8, .phase⟩, ⟨9, .phase⟩, ⟨10, .phase⟩, ⟨11, .phase⟩, ⟨12, .phase⟩, ⟨13, .phase⟩, ⟨14, .phase⟩, ⟨15, .phase⟩, ⟨16, .phase⟩, ⟨17, .phase⟩, ⟨18, .phase⟩, ⟨19, .phase⟩], none⟩) rfl (fun K hK => ?_) AllReadyH.nil
                go_simp
                refine hK.out _ _ kp (fun hHeld => ?_)
                clear hK K
                try simp only [PT]
                refine wpAnyH_done (by kernel_rfl) ?_ _
                refine NoPanic.normal ?_
              rotate_left 1
            rotate_left 4
            focus
              go_simp
              refine hK.out _ _ kp (fun hHeld => ?_)
              clear hK K
              try simp only [PT]
              refine wpAnyH_ready (rs := [8]) (by kernel_rfl) (by simp) ?_
              refine AllReadyH.cons (o := ⟨some 37, .call ⟨.value (.func 124), #[.tmp 36], #[9]⟩, 3, "ref.go:185", #[⟨7, .data⟩, ⟨5, .chain⟩], none⟩) rfl (fun K hK => ?_) AllReadyH.nil
              go_simp
              (first | (go_at_call 124; (with_reducible refine (N0.out _).mono ?_); rintro e w' ⟨rfl, rfl⟩) | (go_at_call 124; (with_reducible refine (N4.out _).mono ?_); rintro e w' ⟨rfl, rfl⟩) | (go_at_call 124; (with_reducible refine (N6.out _).mono ?_); rintro e w' ⟨rfl, rfl⟩) | (go_at_call 124; (with_reducible refine (N8.out _).mono ?_); rintro e w' ⟨rfl, rfl⟩) | (go_at_call 124; (with_reducible refine (N10.out _).mono ?_); rintro e w' ⟨rfl, rfl⟩) | (go_at_call 124; (with_reducible refine (N12.out _).mono ?_); rintro e w' ⟨rfl, rfl⟩))
              go_wp2_with fail
              refine hK.out _ _ kp (fun hHeld => ?_)
              clear hK K
              try simp only [PT]
              refine wpAnyH_ready (rs := [11]) (by kernel_rfl) (by simp) ?_
              refine AllReadyH.cons (o := ⟨some 40, .call ⟨.value (.func 124), #[.tmp 39], #[9]⟩, 3, "ref.go:185", #[⟨10, .data⟩, ⟨8, .chain⟩], none⟩) rfl (fun K hK => ?_) AllReadyH.nil
              go_simp
              (first | (go_at_call 124; (with_reducible refine (N0.out _).mono ?_); rintro e w' ⟨rfl, rfl⟩) | (go_at_call 124; (with_reducible refine (N4.out _).mono ?_); rintro e w' ⟨rfl, rfl⟩) | (go_at_call 124; (with_reducible refine (N6.out _).mono ?_); rintro e w' ⟨rfl, rfl⟩) | (go_at_call 124; (with_reducible refine (N8.out _).mono ?_); rintro e w' ⟨rfl, rfl⟩) | (go_at_call 124; (with_reducible refine (N10.out _).mono ?_); rintro e w' ⟨rfl, rfl⟩) | (go_at_call 124; (with_reducible refine (N12.out _).mono ?_); rintro e w' ⟨rfl, rfl⟩))
              go_wp2_with fail
              refine hK.out _ _ kp (fun hHeld => ?_)
              clear hK K
              try simp only [PT]
              refine wpAnyH_ready (rs := [14]) (by kernel_rfl) (by simp) ?_
              refine AllReadyH.cons (o := ⟨some 43, .call ⟨.value (.func 124), #[.tmp 42], #[9]⟩, 3, "ref.go:185", #[⟨13, .data⟩, ⟨11, .chain⟩], none⟩) rfl (fun K hK => ?_) AllReadyH.nil
              go_simp
              (first | (go_at_call 124; (with_reducible refine (N0.out _).mono ?_); rintro e w' ⟨rfl, rfl⟩) | (go_at_call 124; (with_reducible refine (N4.out _).mono ?_); rintro e w' ⟨rfl, rfl⟩) | (go_at_call 124; (with_reducible refine (N6.out _).mono ?_); rintro e w' ⟨rfl, rfl⟩) | (go_at_call 124; (with_reducible refine (N8.out _).mono ?_); rintro e w' ⟨rfl, rfl⟩) | (go_at_call 124; (with_reducible refine (N10.out _).mono ?_); rintro e w' ⟨rfl, rfl⟩) | (go_at_call 124; (with_reducible refine (N12.out _).mono ?_); rintro e w' ⟨rfl, rfl⟩))
              go_wp2_with fail
              refine hK.out _ _ kp (fun hHeld => ?_)
              clear hK K
              try simp only [PT]
              refine wpAnyH_ready (rs := [17]) (by kernel_rfl) (by simp) ?_
              refine AllReadyH.cons (o := ⟨some 46, .call ⟨.value (.func 124), #[.tmp 45], #[9]⟩, 3, "ref.go:185", #[⟨16, .data⟩, ⟨14, .chain⟩], none⟩) rfl (fun K hK => ?_) AllReadyH.nil
              go_simp
              (first | (go_at_call 124; (with_reducible refine (N0.out _).mono ?_); rintro e w' ⟨rfl, rfl⟩) | (go_at_call 124; (with_reducible refine (N4.out _).mono ?_); rintro e w' ⟨rfl, rfl⟩) | (go_at_call 124; (with_reducible refine (N6.out _).mono ?_); rintro e w' ⟨rfl, rfl⟩) | (go_at_call 124; (with_reducible refine (N8.out _).mono ?_); rintro e w' ⟨rfl, rfl⟩) | (go_at_call 124; (with_reducible refine (N10.out _).mono ?_); rintro e w' ⟨rfl, rfl⟩) | (go_at_call 124; (with_reducible refine (N12.out _).mono ?_); rintro e w' ⟨rfl, rfl⟩))
              go_wp2_with fail
              refine hK.out _ _ kp (fun hHeld => ?_)
              clear hK K
              try simp only [PT]
              refine tkY 18 ⟨some 47, .build 110 #[(0, .tmp 31), (1, .tmp 34), (2, .tmp 37), (3, .tmp 40), (4, .tmp 43), (5, .tmp 46)], 110, "ref.go:185", #[⟨2, .data⟩, ⟨5, .data⟩, ⟨8, .data⟩, ⟨11, .data⟩, ⟨14, .data⟩, ⟨17, .data⟩], none⟩ ?_ ?_ ?_
              rotate_left
              · intro w hSw; (try dsimp only at hSw); go_simp; (try with_reducible rfl)
              try simp only [PT]
              refine wpAnyH_ready (rs := [20]) (by kernel_rfl) (by simp) ?_
              refine AllReadyH.cons (o := ⟨none, .store 110 (.tmp 6) (.tmp 47), 0, "ref.go:185", #[⟨19, .data⟩, ⟨18, .data⟩, ⟨17, .chain⟩, ⟨0, .phase⟩, ⟨1, .phase⟩, ⟨2, .phase⟩, ⟨3, .phase⟩, ⟨4, .phase⟩, ⟨5, .phase⟩, ⟨6, .phase⟩, ⟨7, .phase⟩, ⟨8, .phase⟩, ⟨9, .phase⟩, ⟨10, .phase⟩, ⟨11, .phase⟩, ⟨12, .phase⟩, ⟨13, .phase⟩, ⟨14, .phase⟩, ⟨15, .phase⟩, ⟨16, .phase⟩, ⟨17, .phase⟩, ⟨18, .phase⟩, ⟨19, .phase⟩], none⟩) rfl (fun K hK => ?_) AllReadyH.nil
              go_simp
              refine hK.out _ _ kp (fun hHeld => ?_)
              clear hK K
              try simp only [PT]
              refine wpAnyH_done (by kernel_rfl) ?_ _
              refine NoPanic.normal ?_
            rotate_left 1
          rotate_left 5
          focus
            go_simp
            refine hK.out _ _ kp (fun hHeld => ?_)
            clear hK K
            try simp only [PT]
            refine wpAnyH_ready (rs := [5]) (by kernel_rfl) (by simp) ?_
            refine AllReadyH.cons (o := ⟨some 34, .call ⟨.value (.func 124), #[.tmp 33], #[9]⟩, 3, "ref.go:185", #[⟨4, .data⟩, ⟨2, .chain⟩], none⟩) rfl (fun K hK => ?_) AllReadyH.nil
            go_simp
            (first | (go_at_call 124; (with_reducible refine (N0.out _).mono ?_); rintro e w' ⟨rfl, rfl⟩) | (go_at_call 124; (with_reducible refine (N4.out _).mono ?_); rintro e w' ⟨rfl, rfl⟩) | (go_at_call 124; (with_reducible refine (N6.out _).mono ?_); rintro e w' ⟨rfl, rfl⟩) | (go_at_call 124; (with_reducible refine (N8.out _).mono ?_); rintro e w' ⟨rfl, rfl⟩) | (go_at_call 124; (with_reducible refine (N10.out _).mono ?_); rintro e w' ⟨rfl, rfl⟩) | (go_at_call 124; (with_reducible refine (N12.out _).mono ?_); rintro e w' ⟨rfl, rfl⟩))
            go_wp2_with fail
            refine hK.out _ _ kp (fun hHeld => ?_)
            clear hK K
            try simp only [PT]
            refine wpAnyH_ready (rs := [8]) (by kernel_rfl) (by simp) ?_
            refine AllReadyH.cons (o := ⟨some 37, .call ⟨.value (.func 124), #[.tmp 36], #[9]⟩, 3, "ref.go:185", #[⟨7, .data⟩, ⟨5, .chain⟩], none⟩) rfl (fun K hK => ?_) AllReadyH.nil
            go_simp
            (first | (go_at_call 124; (with_reducible refine (N0.out _).mono ?_); rintro e w' ⟨rfl, rfl⟩) | (go_at_call 124; (with_reducible refine (N4.out _).mono ?_); rintro e w' ⟨rfl, rfl⟩) | (go_at_call 124; (with_reducible refine (N6.out _).mono ?_); rintro e w' ⟨rfl, rfl⟩) | (go_at_call 124; (with_reducible refine (N8.out _).mono ?_); rintro e w' ⟨rfl, rfl⟩) | (go_at_call 124; (with_reducible refine (N10.out _).mono ?_); rintro e w' ⟨rfl, rfl⟩) | (go_at_call 124; (with_reducible refine (N12.out _).mono ?_); rintro e w' ⟨rfl, rfl⟩))
            go_wp2_with fail
            refine hK.out _ _ kp (fun hHeld => ?_)
            clear hK K
            try simp only [PT]
            refine wpAnyH_ready (rs := [11]) (by kernel_rfl) (by simp) ?_
            refine AllReadyH.cons (o := ⟨some 40, .call ⟨.value (.func 124), #[.tmp 39], #[9]⟩, 3, "ref.go:185", #[⟨10, .data⟩, ⟨8, .chain⟩], none⟩) rfl (fun K hK => ?_) AllReadyH.nil
            go_simp
            (first | (go_at_call 124; (with_reducible refine (N0.out _).mono ?_); rintro e w' ⟨rfl, rfl⟩) | (go_at_call 124; (with_reducible refine (N4.out _).mono ?_); rintro e w' ⟨rfl, rfl⟩) | (go_at_call 124; (with_reducible refine (N6.out _).mono ?_); rintro e w' ⟨rfl, rfl⟩) | (go_at_call 124; (with_reducible refine (N8.out _).mono ?_); rintro e w' ⟨rfl, rfl⟩) | (go_at_call 124; (with_reducible refine (N10.out _).mono ?_); rintro e w' ⟨rfl, rfl⟩) | (go_at_call 124; (with_reducible refine (N12.out _).mono ?_); rintro e w' ⟨rfl, rfl⟩))
            go_wp2_with fail
            refine hK.out _ _ kp (fun hHeld => ?_)
            clear hK K
            try simp only [PT]
            refine wpAnyH_ready (rs := [14]) (by kernel_rfl) (by simp) ?_
            refine AllReadyH.cons (o := ⟨some 43, .call ⟨.value (.func 124), #[.tmp 42], #[9]⟩, 3, "ref.go:185", #[⟨13, .data⟩, ⟨11, .chain⟩], none⟩) rfl (fun K hK => ?_) AllReadyH.nil
            go_simp
            (first | (go_at_call 124; (with_reducible refine (N0.out _).mono ?_); rintro e w' ⟨rfl, rfl⟩) | (go_at_call 124; (with_reducible refine (N4.out _).mono ?_); rintro e w' ⟨rfl, rfl⟩) | (go_at_call 124; (with_reducible refine (N6.out _).mono ?_); rintro e w' ⟨rfl, rfl⟩) | (go_at_call 124; (with_reducible refine (N8.out _).mono ?_); rintro e w' ⟨rfl, rfl⟩) | (go_at_call 124; (with_reducible refine (N10.out _).mono ?_); rintro e w' ⟨rfl, rfl⟩) | (go_at_call 124; (with_reducible refine (N12.out _).mono ?_); rintro e w' ⟨rfl, rfl⟩))
            go_wp2_with fail
            refine hK.out _ _ kp (fun hHeld => ?_)
            clear hK K
            try simp only [PT]
            refine wpAnyH_ready (rs := [17]) (by kernel_rfl) (by simp) ?_
            refine AllReadyH.cons (o := ⟨some 46, .call ⟨.value (.func 124), #[.tmp 45], #[9]⟩, 3, "ref.go:185", #[⟨16, .data⟩, ⟨14, .chain⟩], none⟩) rfl (fun K hK => ?_) AllReadyH.nil
            go_simp
            (first | (go_at_call 124; (with_reducible refine (N0.out _).mono ?_); rintro e w' ⟨rfl, rfl⟩) | (go_at_call 124; (with_reducible refine (N4.out _).mono ?_); rintro e w' ⟨rfl, rfl⟩) | (go_at_call 124; (with_reducible refine (N6.out _).mono ?_); rintro e w' ⟨rfl, rfl⟩) | (go_at_call 124; (with_reducible refine (N8.out _).mono ?_); rintro e w' ⟨rfl, rfl⟩) | (go_at_call 124; (with_reducible refine (N10.out _).mono ?_); rintro e w' ⟨rfl, rfl⟩) | (go_at_call 124; (with_reducible refine (N12.out _).mono ?_); rintro e w' ⟨rfl, rfl⟩))
            go_wp2_with fail
            refine hK.out _ _ kp (fun hHeld => ?_)
            clear hK K
            try simp only [PT]
            refine tkY 18 ⟨some 47, .build 110 #[(0, .tmp 31), (1, .tmp 34), (2, .tmp 37), (3, .tmp 40), (4, .tmp 43), (5, .tmp 46)], 110, "ref.go:185", #[⟨2, .data⟩, ⟨5, .data⟩, ⟨8, .data⟩, ⟨11, .data⟩, ⟨14, .data⟩, ⟨17, .data⟩], none⟩ ?_ ?_ ?_
            rotate_left
            · intro w hSw; (try dsimp only at hSw); go_simp; (try with_reducible rfl)
            try simp only [PT]
            refine wpAnyH_ready (rs := [20]) (by kernel_rfl) (by simp) ?_
            refine AllReadyH.cons (o := ⟨none, .store 110 (.tmp 6) (.tmp 47), 0, "ref.go:185", #[⟨19, .data⟩, ⟨18, .data⟩, ⟨17, .chain⟩, ⟨0, .phase⟩, ⟨1, .phase⟩, ⟨2, .phase⟩, ⟨3, .phase⟩, ⟨4, .phase⟩, ⟨5, .phase⟩, ⟨6, .phase⟩, ⟨7, .phase⟩, ⟨8, .phase⟩, ⟨9, .phase⟩, ⟨10, .phase⟩, ⟨11, .phase⟩, ⟨12, .phase⟩, ⟨13, .phase⟩, ⟨14, .phase⟩, ⟨15, .phase⟩, ⟨16, .phase⟩, ⟨17, .phase⟩, ⟨18, .phase⟩, ⟨19, .phase⟩], none⟩) rfl (fun K hK => ?_) AllReadyH.nil
            go_simp
            refine hK.out _ _ kp (fun hHeld => ?_)
            clear hK K
            try simp only [PT]
            refine wpAnyH_done (by kernel_rfl) ?_ _
            refine NoPanic.normal ?_
          rotate_left 1
        rotate_left 6
        focus
          go_simp
          refine hK.out _ _ kp (fun hHeld => ?_)
          clear hK K
          try simp only [PT]
          refine wpAnyH_ready (rs := [2]) (by kernel_rfl) (by simp) ?_
          refine AllReadyH.cons (o := ⟨some 31, .call ⟨.value (.func 124), #[.tmp 30], #[9]⟩, 3, "ref.go:185", #[⟨1, .data⟩], none⟩) rfl (fun K hK => ?_) AllReadyH.nil
          go_simp
          (first | (go_at_call 124; (with_reducible refine (N0.out _).mono ?_); rintro e w' ⟨rfl, rfl⟩) | (go_at_call 124; (with_reducible refine (N4.out _).mono ?_); rintro e w' ⟨rfl, rfl⟩) | (go_at_call 124; (with_reducible refine (N6.out _).mono ?_); rintro e w' ⟨rfl, rfl⟩) | (go_at_call 124; (with_reducible refine (N8.out _).mono ?_); rintro e w' ⟨rfl, rfl⟩) | (go_at_call 124; (with_reducible refine (N10.out _).mono ?_); rintro e w' ⟨rfl, rfl⟩) | (go_at_call 124; (with_reducible refine (N12.out _).mono ?_); rintro e w' ⟨rfl, rfl⟩))
          go_wp2_with fail
          refine hK.out _ _ kp (fun hHeld => ?_)
          clear hK K
          try simp only [PT]
          refine wpAnyH_ready (rs := [5]) (by kernel_rfl) (by simp) ?_
          refine AllReadyH.cons (o := ⟨some 34, .call ⟨.value (.func 124), #[.tmp 33], #[9]⟩, 3, "ref.go:185", #[⟨4, .data⟩, ⟨2, .chain⟩], none⟩) rfl (fun K hK => ?_) AllReadyH.nil
          go_simp
          (first | (go_at_call 124; (with_reducible refine (N0.out _).mono ?_); rintro e w' ⟨rfl, rfl⟩) | (go_at_call 124; (with_reducible refine (N4.out _).mono ?_); rintro e w' ⟨rfl, rfl⟩) | (go_at_call 124; (with_reducible refine (N6.out _).mono ?_); rintro e w' ⟨rfl, rfl⟩) | (go_at_call 124; (with_reducible refine (N8.out _).mono ?_); rintro e w' ⟨rfl, rfl⟩) | (go_at_call 124; (with_reducible refine (N10.out _).mono ?_); rintro e w' ⟨rfl, rfl⟩) | (go_at_call 124; (with_reducible refine (N12.out _).mono ?_); rintro e w' ⟨rfl, rfl⟩))
          go_wp2_with fail
          refine hK.out _ _ kp (fun hHeld => ?_)
          clear hK K
          try simp only [PT]
          refine wpAnyH_ready (rs := [8]) (by kernel_rfl) (by simp) ?_
          refine AllReadyH.cons (o := ⟨some 37, .call ⟨.value (.func 124), #[.tmp 36], #[9]⟩, 3, "ref.go:185", #[⟨7, .data⟩, ⟨5, .chain⟩], none⟩) rfl (fun K hK => ?_) AllReadyH.nil
          go_simp
          (first | (go_at_call 124; (with_reducible refine (N0.out _).mono ?_); rintro e w' ⟨rfl, rfl⟩) | (go_at_call 124; (with_reducible refine (N4.out _).mono ?_); rintro e w' ⟨rfl, rfl⟩) | (go_at_call 124; (with_reducible refine (N6.out _).mono ?_); rintro e w' ⟨rfl, rfl⟩) | (go_at_call 124; (with_reducible refine (N8.out _).mono ?_); rintro e w' ⟨rfl, rfl⟩) | (go_at_call 124; (with_reducible refine (N10.out _).mono ?_); rintro e w' ⟨rfl, rfl⟩) | (go_at_call 124; (with_reducible refine (N12.out _).mono ?_); rintro e w' ⟨rfl, rfl⟩))
          go_wp2_with fail
          refine hK.out _ _ kp (fun hHeld => ?_)
          clear hK K
          try simp only [PT]
          refine wpAnyH_ready (rs := [11]) (by kernel_rfl) (by simp) ?_
          refine AllReadyH.cons (o := ⟨some 40, .call ⟨.value (.func 124), #[.tmp 39], #[9]⟩, 3, "ref.go:185", #[⟨10, .data⟩, ⟨8, .chain⟩], none⟩) rfl (fun K hK => ?_) AllReadyH.nil
          go_simp
          (first | (go_at_call 124; (with_reducible refine (N0.out _).mono ?_); rintro e w' ⟨rfl, rfl⟩) | (go_at_call 124; (with_reducible refine (N4.out _).mono ?_); rintro e w' ⟨rfl, rfl⟩) | (go_at_call 124; (with_reducible refine (N6.out _).mono ?_); rintro e w' ⟨rfl, rfl⟩) | (go_at_call 124; (with_reducible refine (N8.out _).mono ?_); rintro e w' ⟨rfl, rfl⟩) | (go_at_call 124; (with_reducible refine (N10.out _).mono ?_); rintro e w' ⟨rfl, rfl⟩) | (go_at_call 124; (with_reducible refine (N12.out _).mono ?_); rintro e w' ⟨rfl, rfl⟩))
          go_wp2_with fail
          refine hK.out _ _ kp (fun hHeld => ?_)
          clear hK K
          try simp only [PT]
          refine wpAnyH_ready (rs := [14]) (by kernel_rfl) (by simp) ?_
          refine AllReadyH.cons (o := ⟨some 43, .call ⟨.value (.func 124), #[.tmp 42], #[9]⟩, 3, "ref.go:185", #[⟨13, .data⟩, ⟨11, .chain⟩], none⟩) rfl (fun K hK => ?_) AllReadyH.nil
          go_simp
          (first | (go_at_call 124; (with_reducible refine (N0.out _).mono ?_); rintro e w' ⟨rfl, rfl⟩) | (go_at_call 124; (with_reducible refine (N4.out _).mono ?_); rintro e w' ⟨rfl, rfl⟩) | (go_at_call 124; (with_reducible refine (N6.out _).mono ?_); rintro e w' ⟨rfl, rfl⟩) | (go_at_call 124; (with_reducible refine (N8.out _).mono ?_); rintro e w' ⟨rfl, rfl⟩) | (go_at_call 124; (with_reducible refine (N10.out _).mono ?_); rintro e w' ⟨rfl, rfl⟩) | (go_at_call 124; (with_reducible refine (N12.out _).mono ?_); rintro e w' ⟨rfl, rfl⟩))
          go_wp2_with fail
          refine hK.out _ _ kp (fun hHeld => ?_)
          clear hK K
          try simp only [PT]
          refine wpAnyH_ready (rs := [17]) (by kernel_rfl) (by simp) ?_
          refine AllReadyH.cons (o := ⟨some 46, .call ⟨.value (.func 124), #[.tmp 45], #[9]⟩, 3, "ref.go:185", #[⟨16, .data⟩, ⟨14, .chain⟩], none⟩) rfl (fun K hK => ?_) AllReadyH.nil
          go_simp
          (first | (go_at_call 124; (with_reducible refine (N0.out _).mono ?_); rintro e w' ⟨rfl, rfl⟩) | (go_at_call 124; (with_reducible refine (N4.out _).mono ?_); rintro e w' ⟨rfl, rfl⟩) | (go_at_call 124; (with_reducible refine (N6.out _).mono ?_); rintro e w' ⟨rfl, rfl⟩) | (go_at_call 124; (with_reducible refine (N8.out _).mono ?_); rintro e w' ⟨rfl, rfl⟩) | (go_at_call 124; (with_reducible refine (N10.out _).mono ?_); rintro e w' ⟨rfl, rfl⟩) | (go_at_call 124; (with_reducible refine (N12.out _).mono ?_); rintro e w' ⟨rfl, rfl⟩))
          go_wp2_with fail
          refine hK.out _ _ kp (fun hHeld => ?_)
          clear hK K
          try simp only [PT]
          refine tkY 18 ⟨some 47, .build 110 #[(0, .tmp 31), (1, .tmp 34), (2, .tmp 37), (3, .tmp 40), (4, .tmp 43), (5, .tmp 46)], 110, "ref.go:185", #[⟨2, .data⟩, ⟨5, .data⟩, ⟨8, .data⟩, ⟨11, .data⟩, ⟨14, .data⟩, ⟨17, .data⟩], none⟩ ?_ ?_ ?_
          rotate_left
          · intro w hSw; (try dsimp only at hSw); go_simp; (try with_reducible rfl)
          try simp only [PT]
          refine wpAnyH_ready (rs := [20]) (by kernel_rfl) (by simp) ?_
          refine AllReadyH.cons (o := ⟨none, .store 110 (.tmp 6) (.tmp 47), 0, "ref.go:185", #[⟨19, .data⟩, ⟨18, .data⟩, ⟨17, .chain⟩, ⟨0, .phase⟩, ⟨1, .phase⟩, ⟨2, .phase⟩, ⟨3, .phase⟩, ⟨4, .phase⟩, ⟨5, .phase⟩, ⟨6, .phase⟩, ⟨7, .phase⟩, ⟨8, .phase⟩, ⟨9, .phase⟩, ⟨10, .phase⟩, ⟨11, .phase⟩, ⟨12, .phase⟩, ⟨13, .phase⟩, ⟨14, .phase⟩, ⟨15, .phase⟩, ⟨16, .phase⟩, ⟨17, .phase⟩, ⟨18, .phase⟩, ⟨19, .phase⟩], none⟩) rfl (fun K hK => ?_) AllReadyH.nil
          go_simp
          refine hK.out _ _ kp (fun hHeld => ?_)
          clear hK K
          try simp only [PT]
          refine wpAnyH_done (by kernel_rfl) ?_ _
          refine NoPanic.normal ?_
        rotate_left 1
        all_goals (go_wp2; go_meet; exact ⟨rfl, rfl⟩)
      case rest =>
        obtain ⟨rfl, rfl⟩ := hcut
        clear N0 N4 N6 N8 N10 N12
        cases hv : vClkB (num4 s 0) (num2 s 4) (num2 s 6) (num2 s 8) (num2 s 10) (num2 s 12)
        · have HV := hide hv
          go_wp2_with (first | (go_at_call 125; (with_reducible refine (rzone_any _ (by omega) _).mono ?_); rintro e w' ⟨rfl, rfl⟩) | (go_at_call 126; (with_reducible refine (rvalid_any _ _ _ _ _ _ _).mono ?_); rintro e w' ⟨rfl, hb⟩; have hz := hb.size; (try simp only [SZ, Nat.reduceAdd] at hz); (first | obtain ⟨HL, hk⟩ := HL.callA hb hz | obtain ⟨HL, hk⟩ := HL.call0A hb hz); (try simp only [addN, Nat.add_zero] at HL hk); have hl := HL; simp only [Live] at hl; (try simp only [Kept] at hk)))
          go_ret3
          exact RoP.bad (by rw [HV.out]; simp) rfl (by (exact bl))
        · have hv' := vClkB_true.1 hv
          cases hq : qB (sg (bt s 16))
          · have HQ := hide hq
            go_wp2_with (first | (go_at_call 125; (with_reducible refine (rzone_any _ (by omega) _).mono ?_); rintro e w' ⟨rfl, rfl⟩) | (go_at_call 126; (with_reducible refine (rvalid_any _ _ _ _ _ _ _).mono ?_); rintro e w' ⟨rfl, hb⟩; have hz := hb.size; (try simp only [SZ, Nat.reduceAdd] at hz); (first | obtain ⟨HL, hk⟩ := HL.callA hb hz | obtain ⟨HL, hk⟩ := HL.call0A hb hz); (try simp only [addN, Nat.add_zero] at HL hk); have hl := HL; simp only [Live] at hl; (try simp only [Kept] at hk)))
            go_ret3
            exact RoP.bad (by rw [HQ.out]; simp) rfl (by (exact bl))
          · have FN := hide (fun W => finish_any (num4 s 0) (num2 s 4) (num2 s 6) (num2 s 8) (num2 s 10) (num2 s 12) (15 * sg (bt s 16)) hv' (by omega) W)
            have HQ := hide hq
            clear hv'
            go_wp2_with (first | (go_at_call 125; (with_reducible refine (rzone_any _ (by omega) _).mono ?_); rintro e w' ⟨rfl, rfl⟩) | (go_at_call 126; (with_reducible refine (rvalid_any _ _ _ _ _ _ _).mono ?_); rintro e w' ⟨rfl, hb⟩; have hz := hb.size; (try simp only [SZ, Nat.reduceAdd] at hz); (first | obtain ⟨HL, hk⟩ := HL.callA hb hz | obtain ⟨HL, hk⟩ := HL.call0A hb hz); (try simp only [addN, Nat.add_zero] at HL hk); have hl := HL; simp only [Live] at hl; (try simp only [Kept] at hk)) | (go_at_call 127; (with_reducible refine (FN.out _).mono ?_); rintro e w' ⟨rfl, hb⟩; have hz := hb.size))
            go_ret3
            exact ⟨by rw [HQ.out]; rfl, by (exact bl)⟩
end Go.Proofs.YtjbhokmkmapkoaaGreatDoor.Dt
