/- The statement VolumedescHalves, walked. -/
import Derived.Test.YtjbhokmkmapkoaaGreatDoorCL7
namespace Go.Proofs.YtjbhokmkmapkoaaGreatDoor
set_option linter.unusedSimpArgs false
set_option linter.unusedVariables false
open Go.RowKit
open Go.PlainAid (bt get_bt bt_nonneg bt_le bt_end)

set_option maxRecDepth 100000 in
set_option maxHeartbeats 8000000 in
theorem law_halves (d : DR) (m x : Nat) (hm : m ≤ 255) (hx : x ≤ 255) (w : World) (hT : TabD w) : Calls Tryz.prog 9 #[.agg d.cells, .int .u8 m, .int .u8 x] w fun e w' => e = .returned (.bool true) ∧ Below w.heap.size w w' := by
  have HL : Live w [] := trivial
  go_enter Tryz.func9, Tryz.ntmps9
  go_upto_region 1 with fail
  have HB := hide (show Blk (w.alloc (.cells d.cells 27)) w.heap.size d.cells 27 from Blk.newAt rfl)
  have hbel1 : Below w.heap.size w (w.alloc (.cells d.cells 27)) := by (exact bl)
  have hT1 := hT.below hbel1
  generalize w.alloc (.cells d.cells 27) = W1 at *
  obtain ⟨b, hb⟩ : ∃ b, b = w.heap.size := ⟨_, rfl⟩
  rw [← hb] at HB ⊢
  have lb : w.heap.size ≤ b := by omega
  clear hb
  go_upto_region 3 with (go_at_call 11; refine (awake_any _ hT1).mono ?_; rintro e w2 ⟨rfl, hb2⟩)
  have HB2 := hide (Blk.below hb2 HB.out)
  have hbel2 := hbel1.trans (hb2.mono hbel1.size)
  clear hb2 HB hbel1 hT1
  have SH0 := fun W => rshort_any d W
  cases hsh : shortDB d
  case false =>
    rw [hsh] at SH0
    have SH := hide SH0
    clear hsh SH0
    go_wp2_with (first | (refine wpList_load_row rfl 27 (.tmp 3) rfl b rfl 27 d.cells (0, 0) _ HB2.out Tryz.underlying27 rfl (info27 _) ?_) | (go_at_call 12; refine (SH.out _).mono ?_; rintro e w3 ⟨rfl, hb3⟩))
    go_ret
    exact ⟨rfl, hbel2.trans (hb3.mono hbel2.size)⟩
  case true =>
  have hsd := short_of hsh
  rw [hsh] at SH0
  have SH := hide SH0
  clear hsh SH0
  by_cases h12 : d.typ = 1 ∨ d.typ = 2
  case neg =>
    have q1 : (d.typ != 1) = true := by simp; omega
    have q2 : (d.typ != 2) = true := by simp; omega
    clear h12
    go_wp2_with (first | (refine wpList_load_row rfl 27 (.tmp 3) rfl b rfl 27 d.cells (0, 0) _ HB2.out Tryz.underlying27 rfl (info27 _) ?_) | (go_at_call 12; refine (SH.out _).mono ?_; rintro e w3 ⟨rfl, hb3⟩; have HB3 := hide (Blk.below hb3 HB2.out); have c3 : w3.cell? ⟨b, 0, none⟩ = some (.int .i64 d.typ) := HB3.out.cells 0))
    go_ret
    exact ⟨rfl, hbel2.trans (hb3.mono hbel2.size)⟩
  have H12 := hide h12
  by_cases hx0 : x = 0
  case pos =>
    subst hx0
    rcases h12 with h | h
    · have q1 : (d.typ != 1) = false := by rw [h]; rfl
      clear h
      go_wp2_with (first | (refine wpList_load_row rfl 27 (.tmp 3) rfl b rfl 27 d.cells (0, 0) _ HB2.out Tryz.underlying27 rfl (info27 _) ?_) | (go_at_call 12; refine (SH.out _).mono ?_; rintro e w3 ⟨rfl, hb3⟩; have HB3 := hide (Blk.below hb3 HB2.out); have c3 : w3.cell? ⟨b, 0, none⟩ = some (.int .i64 d.typ) := HB3.out.cells 0))
      go_ret
      exact ⟨rfl, hbel2.trans (hb3.mono hbel2.size)⟩
    · have q1 : (d.typ != 1) = true := by rw [h]; rfl
      have q2 : (d.typ != 2) = false := by rw [h]; rfl
      clear h
      go_wp2_with (first | (refine wpList_load_row rfl 27 (.tmp 3) rfl b rfl 27 d.cells (0, 0) _ HB2.out Tryz.underlying27 rfl (info27 _) ?_) | (go_at_call 12; refine (SH.out _).mono ?_; rintro e w3 ⟨rfl, hb3⟩; have HB3 := hide (Blk.below hb3 HB2.out); have c3 : w3.cell? ⟨b, 0, none⟩ = some (.int .i64 d.typ) := HB3.out.cells 0))
      go_ret
      exact ⟨rfl, hbel2.trans (hb3.mono hbel2.size)⟩
  case neg =>
  have hxq : ((x : Int) == 0) = false := by simp; omega
  go_cut [33] (fun v wx => v = .bool false ∧ Below w2.heap.size w2 wx)
  case first =>
    rcases H12.out with h | h
    · have q1 : (d.typ != 1) = false := by rw [h]; rfl
      clear h h12
      go_wp2_with (first | (refine wpList_load_row rfl 27 (.tmp 3) rfl b rfl 27 d.cells (0, 0) _ HB2.out Tryz.underlying27 rfl (info27 _) ?_) | (go_at_call 12; refine (SH.out _).mono ?_; rintro e w3 ⟨rfl, hb3⟩; have HB3 := hide (Blk.below hb3 HB2.out); have c3 : w3.cell? ⟨b, 0, none⟩ = some (.int .i64 d.typ) := HB3.out.cells 0))
      go_meet
      exact ⟨rfl, hb3⟩
    · have q1 : (d.typ != 1) = true := by rw [h]; rfl
      have q2 : (d.typ != 2) = false := by rw [h]; rfl
      clear h h12
      go_wp2_with (first | (refine wpList_load_row rfl 27 (.tmp 3) rfl b rfl 27 d.cells (0, 0) _ HB2.out Tryz.underlying27 rfl (info27 _) ?_) | (go_at_call 12; refine (SH.out _).mono ?_; rintro e w3 ⟨rfl, hb3⟩; have HB3 := hide (Blk.below hb3 HB2.out); have c3 : w3.cell? ⟨b, 0, none⟩ = some (.int .i64 d.typ) := HB3.out.cells 0))
      go_meet
      exact ⟨rfl, hb3⟩
  case rest =>
  obtain ⟨rfl, hb3⟩ := hcut
  have HB3 := hide (Blk.below hb3 HB2.out)
  have hbel3 := hbel2.trans (hb3.mono hbel2.size)
  have hT3 := hT.below hbel3
  clear hb3 HB2 hbel2 SH
  have EN0 := fun W hW => enc_any d hsd W hW
  by_cases hc : chkD d = 0
  case neg =>
    have hq : (chkD d != 0) = true := by simpa using hc
    have EN := hide EN0
    clear EN0 hc h12
    go_wp2_with (first | (refine wpList_load_row rfl 27 (.tmp 3) rfl b rfl 27 d.cells (0, 0) _ HB3.out Tryz.underlying27 rfl (info27 _) ?_) | (go_at_call 13; refine (EN.out _ hT3).mono ?_; rintro e w4 ⟨rfl, hb4⟩))
    go_ret
    exact ⟨rfl, hbel3.trans (hb4.mono hbel3.size)⟩
  case pos =>
  have hsz := enc_size hc
  have hde := dec_enc hc
  have hsame : ∀ p ∈ pairsD, sameB (encDS d) p = true := by rw [encDS_ok hc]; exact encD_same hc h12
  have hh0 : bt (encDS d) 0 = d.typ := by rw [encDS_ok hc]; exact encD_head hc
  obtain ⟨s, hs⟩ : ∃ s, encDS d = s := ⟨_, rfl⟩
  rw [hs] at hsz hde hsame hh0
  rw [hs, hc] at EN0
  have EN := hide EN0
  have HP := hide (And.intro hsz (And.intro hde (And.intro hsame hh0)))
  have zs : (s.size : Int) = 2048 := by omega
  clear EN0 hs hde hsame hh0 hsz hc h12
  go_upto_region 8 with (first | (refine wpList_load_row rfl 27 (.tmp 3) rfl b rfl 27 d.cells (0, 0) _ HB3.out Tryz.underlying27 rfl (info27 _) ?_) | (go_at_call 13; refine (EN.out _ hT3).mono ?_; rintro e w4 ⟨rfl, hb4⟩))
  have HB4 := hide (Blk.below hb4 HB3.out)
  have hbel4 := hbel3.trans (hb4.mono hbel3.size)
  clear hb4 HB3 hbel3 hT3 EN
  go_upto_region 9 with fail
  obtain ⟨k, hk, hk8⟩ : ∃ k : Nat, (m : Int) % 8 = (k : Int) ∧ k < 8 := ⟨m % 8, by omega, by omega⟩
  rw [hk]
  clear hk
  go_cut [9, 10, 11] (fun v9 v10 v11 wx => v9 = .int .i64 (k : Int) ∧ v10 = .int .i64 (pA k : Int) ∧ v11 = .int .i64 (pN k : Int) ∧ Below w4.heap.size w4 wx)
  case first =>
    clear HP zs HB4 H12 hxq hsd
    rcases eight hk8 with rfl | rfl | rfl | rfl | rfl | rfl | rfl | rfl
    all_goals
      refine wp_region_noPanic ?_
      refine wp_region_held_drew (S := (fun z => True ∧ True)) (by kernel_rfl) kp (fun hHeld => ?_)
      refine tkY 1 ⟨some 52, .move (.tmp 9), 3, "law.go:154", #[], none⟩ ?_ ?_ ?_
      rotate_left
      · intro w hSw; (try dsimp only at hSw); go_simp; (try with_reducible rfl)
      try simp only [PT]
      refine tkY 5 ⟨some 56, .move (.tmp 9), 3, "law.go:154", #[⟨8, .gcOnly .lateStores⟩], none⟩ ?_ ?_ ?_
      rotate_left
      · intro w hSw; (try dsimp only at hSw); go_simp; (try with_reducible rfl)
      try simp only [PT]
      refine wpAnyH_ready (rs := [0, 4]) (by kernel_rfl) (by simp) ?_
      refine AllReadyH.cons (o := ⟨some 51, .buildSlice 37 8 #[(0, .const (.int .i64 80)), (1, .const (.int .i64 120)), (2, .const (.int .i64 124)), (3, .const (.int .i64 128)), (4, .const (.int .i64 132)), (5, .const (.int .i64 158)), (6, .const (.int .i64 166)), (7, .const (.int .i64 184))], 37, "law.go:154", #[], none⟩) rfl (fun K hK => ?_) (AllReadyH.cons (o := ⟨some 55, .buildSlice 37 8 #[(0, .const (.int .i64 4)), (1, .const (.int .i64 2)), (2, .const (.int .i64 2)), (3, .const (.int .i64 2)), (4, .const (.int .i64 4)), (5, .const (.int .i64 4)), (6, .const (.int .i64 4)), (7, .const (.int .i64 2))], 37, "law.go:154", #[⟨8, .gcOnly .lateStores⟩], none⟩) rfl (fun K hK => ?_) AllReadyH.nil)
      focus
        go_simp
        refine hK.out _ _ kp (fun hHeld => ?_)
        clear hK K
        try simp only [PT]
        refine tkY 2 ⟨some 53, .indexAddr 37 (.tmp 51) (.tmp 52), 0, "law.go:154", #[⟨0, .data⟩, ⟨1, .data⟩], none⟩ ?_ ?_ ?_
        rotate_left
        · intro w hSw; (try dsimp only at hSw); go_simp; (try with_reducible rfl)
        try simp only [PT]
        refine wpAnyH_ready (rs := [3, 4]) (by kernel_rfl) (by simp) ?_
        refine AllReadyH.cons (o := ⟨some 54, .load 3 (.tmp 53), 3, "law.go:154", #[⟨2, .data⟩], none⟩) rfl (fun K hK => ?_) (AllReadyH.cons (o := ⟨some 55, .buildSlice 37 8 #[(0, .const (.int .i64 4)), (1, .const (.int .i64 2)), (2, .const (.int .i64 2)), (3, .const (.int .i64 2)), (4, .const (.int .i64 4)), (5, .const (.int .i64 4)), (6, .const (.int .i64 4)), (7, .const (.int .i64 2))], 37, "law.go:154", #[⟨8, .gcOnly .lateStores⟩], none⟩) rfl (fun K hK => ?_) AllReadyH.nil)
        focus
          go_simp
          refine hK.out _ _ kp (fun hHeld => ?_)
          clear hK K
          try simp only [PT]
          refine tkY 8 ⟨some 10, .assign (.tmp 54), 3, "law.go:154", #[⟨3, .data⟩, ⟨0, .phase⟩, ⟨1, .phase⟩, ⟨2, .phase⟩, ⟨3, .phase⟩, ⟨4, .textOnly .lateStores⟩, ⟨5, .textOnly .lateStores⟩, ⟨6, .textOnly .lateStores⟩, ⟨7, .textOnly .lateStores⟩], none⟩ ?_ ?_ ?_
          rotate_left
          · intro w hSw; (try dsimp only at hSw); go_simp; (try with_reducible rfl)
          try simp only [PT]
          refine wpAnyH_ready (rs := [4]) (by kernel_rfl) (by simp) ?_
          refine AllReadyH.cons (o := ⟨some 55, .buildSlice 37 8 #[(0, .const (.int .i64 4)), (1, .const (.int .i64 2)), (2, .const (.int .i64 2)), (3, .const (.int .i64 2)), (4, .const (.int .i64 4)), (5, .const (.int .i64 4)), (6, .const (.int .i64 4)), (7, .const (.int .i64 2))], 37, "law.go:154", #[⟨8, .gcOnly .lateStores⟩], none⟩) rfl (fun K hK => ?_) AllReadyH.nil
          go_simp
          refine hK.out _ _ kp (fun hHeld => ?_)
          clear hK K
          try simp only [PT]
          refine tkY 6 ⟨some 57, .indexAddr 37 (.tmp 55) (.tmp 56), 0, "law.go:154", #[⟨4, .data⟩, ⟨5, .data⟩, ⟨8, .gcOnly .lateStores⟩], none⟩ ?_ ?_ ?_
          rotate_left
          · intro w hSw; (try dsimp only at hSw); go_simp; (try with_reducible rfl)
          try simp only [PT]
          refine wpAnyH_ready (rs := [7]) (by kernel_rfl) (by simp) ?_
          refine AllReadyH.cons (o := ⟨some 58, .load 3 (.tmp 57), 3, "law.go:154", #[⟨6, .data⟩, ⟨8, .gcOnly .lateStores⟩], none⟩) rfl (fun K hK => ?_) AllReadyH.nil
          go_simp
          refine hK.out _ _ kp (fun hHeld => ?_)
          clear hK K
          try simp only [PT]
          refine tkY 9 ⟨some 11, .assign (.tmp 58), 3, "law.go:154", #[⟨7, .data⟩, ⟨8, .chain⟩, ⟨0, .phase⟩, ⟨1, .phase⟩, ⟨2, .phase⟩, ⟨3, .phase⟩, ⟨4, .phase⟩, ⟨5, .phase⟩, ⟨6, .phase⟩, ⟨7, .phase⟩, ⟨8, .phase⟩], none⟩ ?_ ?_ ?_
          rotate_left
          · intro w hSw; (try dsimp only at hSw); go_simp; (try with_reducible rfl)
          try simp only [PT]
          refine wpAnyH_done (by kernel_rfl) ?_ _
          refine NoPanic.normal ?_
        rotate_left 1
        focus
          go_simp
          refine hK.out _ _ kp (fun hHeld => ?_)
          clear hK K
          try simp only [PT]
          refine tkY 6 ⟨some 57, .indexAddr 37 (.tmp 55) (.tmp 56), 0, "law.go:154", #[⟨4, .data⟩, ⟨5, .data⟩, ⟨8, .gcOnly .lateStores⟩], none⟩ ?_ ?_ ?_
          rotate_left
          · intro w hSw; (try dsimp only at hSw); go_simp; (try with_reducible rfl)
          try simp only [PT]
          refine wpAnyH_ready (rs := [3, 7]) (by kernel_rfl) (by simp) ?_
          refine AllReadyH.cons (o := ⟨some 54, .load 3 (.tmp 53), 3, "law.go:154", #[⟨2, .data⟩], none⟩) rfl (fun K hK => ?_) (AllReadyH.cons (o := ⟨some 58, .load 3 (.tmp 57), 3, "law.go:154", #[⟨6, .data⟩, ⟨8, .gcOnly .lateStores⟩], none⟩) rfl (fun K hK => ?_) AllReadyH.nil)
          focus
            go_simp
            refine hK.out _ _ kp (fun hHeld => ?_)
            clear hK K
            try simp only [PT]
            refine tkY 8 ⟨some 10, .assign (.tmp 54), 3, "law.go:154", #[⟨3, .data⟩, ⟨0, .phase⟩, ⟨1, .phase⟩, ⟨2, .phase⟩, ⟨3, .phase⟩, ⟨4, .textOnly .lateStores⟩, ⟨5, .textOnly .lateStores⟩, ⟨6, .textOnly .lateStores⟩, ⟨7, .textOnly .lateStores⟩], none⟩ ?_ ?_ ?_
            rotate_left
            · intro w hSw; (try dsimp only at hSw); go_simp; (try with_reducible rfl)
            try simp only [PT]
            refine wpAnyH_ready (rs := [7]) (by kernel_rfl) (by simp) ?_
            refine AllReadyH.cons (o := ⟨some 58, .load 3 (.tmp 57), 3, "law.go:154", #[⟨6, .data⟩, ⟨8, .gcOnly .lateStores⟩], none⟩) rfl (fun K hK => ?_) AllReadyH.nil
            go_simp
            refine hK.out _ _ kp (fun hHeld => ?_)
            clear hK K
            try simp only [PT]
            refine tkY 9 ⟨some 11, .assign (.tmp 58), 3, "law.go:154", #[⟨7, .data⟩, ⟨8, .chain⟩, ⟨0, .phase⟩, ⟨1, .phase⟩, ⟨2, .phase⟩, ⟨3, .phase⟩, ⟨4, .phase⟩, ⟨5, .phase⟩, ⟨6, .phase⟩, ⟨7, .phase⟩, ⟨8, .phase⟩], none⟩ ?_ ?_ ?_
            rotate_left
            · intro w hSw; (try dsimp only at hSw); go_simp; (try with_reducible rfl)
            try simp only [PT]
            refine wpAnyH_done (by kernel_rfl) ?_ _
            refine NoPanic.normal ?_
          rotate_left 1
          focus
            go_simp
            refine hK.out _ _ kp (fun hHeld => ?_)
            clear hK K
            try simp only [PT]
            refine wpAnyH_ready (rs := [3]) (by kernel_rfl) (by simp) ?_
            refine AllReadyH.cons (o := ⟨some 54, .load 3 (.tmp 53), 3, "law.go:154", #[⟨2, .data⟩], none⟩) rfl (fun K hK => ?_) AllReadyH.nil
            go_simp
            refine hK.out _ _ kp (fun hHeld => ?_)
            clear hK K
            try simp only [PT]
            refine tkY 8 ⟨some 10, .assign (.tmp 54), 3, "law.go:154", #[⟨3, .data⟩, ⟨0, .phase⟩, ⟨1, .phase⟩, ⟨2, .phase⟩, ⟨3, .phase⟩, ⟨4, .textOnly .lateStores⟩, ⟨5, .textOnly .lateStores⟩, ⟨6, .textOnly .lateStores⟩, ⟨7, .textOnly .lateStores⟩], none⟩ ?_ ?_ ?_
            rotate_left
            · intro w hSw; (try dsimp only at hSw); go_simp; (try with_reducible rfl)
            try simp only [PT]
            refine tkY 9 ⟨some 11, .assign (.tmp 58), 3, "law.go:154", #[⟨7, .data⟩, ⟨8, .chain⟩, ⟨0, .phase⟩, ⟨1, .phase⟩, ⟨2, .phase⟩, ⟨3, .phase⟩, ⟨4, .phase⟩, ⟨5, .phase⟩, ⟨6, .phase⟩, ⟨7, .phase⟩, ⟨8, .phase⟩], none⟩ ?_ ?_ ?_
            rotate_left
            · intro w hSw; (try dsimp only at hSw); go_simp; (try with_reducible rfl)
            try simp only [PT]
            refine wpAnyH_done (by kernel_rfl) ?_ _
            refine NoPanic.normal ?_
          rotate_left 1
        rotate_left 2
      rotate_left 3
      focus
        go_simp
        refine hK.out _ _ kp (fun hHeld => ?_)
        clear hK K
        try simp only [PT]
        refine tkY 6 ⟨some 57, .indexAddr 37 (.tmp 55) (.tmp 56), 0, "law.go:154", #[⟨4, .data⟩, ⟨5, .data⟩, ⟨8, .gcOnly .lateStores⟩], none⟩ ?_ ?_ ?_
        rotate_left
        · intro w hSw; (try dsimp only at hSw); go_simp; (try with_reducible rfl)
        try simp only [PT]
        refine wpAnyH_ready (rs := [0, 7]) (by kernel_rfl) (by simp) ?_
        refine AllReadyH.cons (o := ⟨some 51, .buildSlice 37 8 #[(0, .const (.int .i64 80)), (1, .const (.int .i64 120)), (2, .const (.int .i64 124)), (3, .const (.int .i64 128)), (4, .const (.int .i64 132)), (5, .const (.int .i64 158)), (6, .const (.int .i64 166)), (7, .const (.int .i64 184))], 37, "law.go:154", #[], none⟩) rfl (fun K hK => ?_) (AllReadyH.cons (o := ⟨some 58, .load 3 (.tmp 57), 3, "law.go:154", #[⟨6, .data⟩, ⟨8, .gcOnly .lateStores⟩], none⟩) rfl (fun K hK => ?_) AllReadyH.nil)
        focus
          go_simp
          refine hK.out _ _ kp (fun hHeld => ?_)
          clear hK K
          try simp only [PT]
          refine tkY 2 ⟨some 53, .indexAddr 37 (.tmp 51) (.tmp 52), 0, "law.go:154", #[⟨0, .data⟩, ⟨1, .data⟩], none⟩ ?_ ?_ ?_
          rotate_left
          · intro w hSw; (try dsimp only at hSw); go_simp; (try with_reducible rfl)
          try simp only [PT]
          refine wpAnyH_ready (rs := [3, 7]) (by kernel_rfl) (by simp) ?_
          refine AllReadyH.cons (o := ⟨some 54, .load 3 (.tmp 53), 3, "law.go:154", #[⟨2, .data⟩], none⟩) rfl (fun K hK => ?_) (AllReadyH.cons (o := ⟨some 58, .load 3 (.tmp 57), 3, "law.go:154", #[⟨6, .data⟩, ⟨8, .gcOnly .lateStores⟩], none⟩) rfl (fun K hK => ?_) AllReadyH.nil)
          focus
            go_simp
            refine hK.out _ _ kp (fun hHeld => ?_)
            clear hK K
            try simp only [PT]
            refine tkY 8 ⟨some 10, .assign (.tmp 54), 3, "law.go:154", #[⟨3, .data⟩, ⟨0, .phase⟩, ⟨1, .phase⟩, ⟨2, .phase⟩, ⟨3, .phase⟩, ⟨4, .textOnly .lateStores⟩, ⟨5, .textOnly .lateStores⟩, ⟨6, .textOnly .lateStores⟩, ⟨7, .textOnly .lateStores⟩], none⟩ ?_ ?_ ?_
            rotate_left
            · intro w hSw; (try dsimp only at hSw); go_simp; (try with_reducible rfl)
            try simp only [PT]
            refine wpAnyH_ready (rs := [7]) (by kernel_rfl) (by simp) ?_
            refine AllReadyH.cons (o := ⟨some 58, .load 3 (.tmp 57), 3, "law.go:154", #[⟨6, .data⟩, ⟨8, .gcOnly .lateStores⟩], none⟩) rfl (fun K hK => ?_) AllReadyH.nil
            go_simp
            refine hK.out _ _ kp (fun hHeld => ?_)
            clear hK K
            try simp only [PT]
            refine tkY 9 ⟨some 11, .assign (.tmp 58), 3, "law.go:154", #[⟨7, .data⟩, ⟨8, .chain⟩, ⟨0, .phase⟩, ⟨1, .phase⟩, ⟨2, .phase⟩, ⟨3, .phase⟩, ⟨4, .phase⟩, ⟨5, .phase⟩, ⟨6, .phase⟩, ⟨7, .phase⟩, ⟨8, .phase⟩], none⟩ ?_ ?_ ?_
            rotate_left
            · intro w hSw; (try dsimp only at hSw); go_simp; (try with_reducible rfl)
            try simp only [PT]
            refine wpAnyH_done (by kernel_rfl) ?_ _
            refine NoPanic.normal ?_
          rotate_left 1
          focus
            go_simp
            refine hK.out _ _ kp (fun hHeld => ?_)
            clear hK K
            try simp only [PT]
            refine wpAnyH_ready (rs := [3]) (by kernel_rfl) (by simp) ?_
            refine AllReadyH.cons (o := ⟨some 54, .load 3 (.tmp 53), 3, "law.go:154", #[⟨2, .data⟩], none⟩) rfl (fun K hK => ?_) AllReadyH.nil
            go_simp
            refine hK.out _ _ kp (fun hHeld => ?_)
            clear hK K
            try simp only [PT]
            refine tkY 8 ⟨some 10, .assign (.tmp 54), 3, "law.go:154", #[⟨3, .data⟩, ⟨0, .phase⟩, ⟨1, .phase⟩, ⟨2, .phase⟩, ⟨3, .phase⟩, ⟨4, .textOnly .lateStores⟩, ⟨5, .textOnly .lateStores⟩, ⟨6, .textOnly .lateStores⟩, ⟨7, .textOnly .lateStores⟩], none⟩ ?_ ?_ ?_
            rotate_left
            · intro w hSw; (try dsimp only at hSw); go_simp; (try with_reducible rfl)
            try simp only [PT]
            refine tkY 9 ⟨some 11, .assign (.tmp 58), 3, "law.go:154", #[⟨7, .data⟩, ⟨8, .chain⟩, ⟨0, .phase⟩, ⟨1, .phase⟩, ⟨2, .phase⟩, ⟨3, .phase⟩, ⟨4, .phase⟩, ⟨5, .phase⟩, ⟨6, .phase⟩, ⟨7, .phase⟩, ⟨8, .phase⟩], none⟩ ?_ ?_ ?_
            rotate_left
            · intro w hSw; (try dsimp only at hSw); go_simp; (try with_reducible rfl)
            try simp only [PT]
            refine wpAnyH_done (by kernel_rfl) ?_ _
            refine NoPanic.normal ?_
          rotate_left 1
        rotate_left 2
        focus
          go_simp
          refine hK.out _ _ kp (fun hHeld => ?_)
          clear hK K
          try simp only [PT]
          refine wpAnyH_ready (rs := [0]) (by kernel_rfl) (by simp) ?_
          refine AllReadyH.cons (o := ⟨some 51, .buildSlice 37 8 #[(0, .const (.int .i64 80)), (1, .const (.int .i64 120)), (2, .const (.int .i64 124)), (3, .const (.int .i64 128)), (4, .const (.int .i64 132)), (5, .const (.int .i64 158)), (6, .const (.int .i64 166)), (7, .const (.int .i64 184))], 37, "law.go:154", #[], none⟩) rfl (fun K hK => ?_) AllReadyH.nil
          go_simp
          refine hK.out _ _ kp (fun hHeld => ?_)
          clear hK K
          try simp only [PT]
          refine tkY 2 ⟨some 53, .indexAddr 37 (.tmp 51) (.tmp 52), 0, "law.go:154", #[⟨0, .data⟩, ⟨1, .data⟩], none⟩ ?_ ?_ ?_
          rotate_left
          · intro w hSw; (try dsimp only at hSw); go_simp; (try with_reducible rfl)
          try simp only [PT]
          refine wpAnyH_ready (rs := [3]) (by kernel_rfl) (by simp) ?_
          refine AllReadyH.cons (o := ⟨some 54, .load 3 (.tmp 53), 3, "law.go:154", #[⟨2, .data⟩], none⟩) rfl (fun K hK => ?_) AllReadyH.nil
          go_simp
          refine hK.out _ _ kp (fun hHeld => ?_)
          clear hK K
          try simp only [PT]
          refine tkY 8 ⟨some 10, .assign (.tmp 54), 3, "law.go:154", #[⟨3, .data⟩, ⟨0, .phase⟩, ⟨1, .phase⟩, ⟨2, .phase⟩, ⟨3, .phase⟩, ⟨4, .textOnly .lateStores⟩, ⟨5, .textOnly .lateStores⟩, ⟨6, .textOnly .lateStores⟩, ⟨7, .textOnly .lateStores⟩], none⟩ ?_ ?_ ?_
          rotate_left
          · intro w hSw; (try dsimp only at hSw); go_simp; (try with_reducible rfl)
          try simp only [PT]
          refine tkY 9 ⟨some 11, .assign (.tmp 58), 3, "law.go:154", #[⟨7, .data⟩, ⟨8, .chain⟩, ⟨0, .phase⟩, ⟨1, .phase⟩, ⟨2, .phase⟩, ⟨3, .phase⟩, ⟨4, .phase⟩, ⟨5, .phase⟩, ⟨6, .phase⟩, ⟨7, .phase⟩, ⟨8, .phase⟩], none⟩ ?_ ?_ ?_
          rotate_left
          · intro w hSw; (try dsimp only at hSw); go_simp; (try with_reducible rfl)
          try simp only [PT]
          refine wpAnyH_done (by kernel_rfl) ?_ _
          refine NoPanic.normal ?_
        rotate_left 1
      rotate_left 3
      all_goals
        go_wp2_with fail
        go_meet
        exact ⟨rfl, rfl, rfl, by (exact bl)⟩
  case rest =>
  obtain ⟨rfl, rfl, rfl, hb5⟩ := hcut
  have HB5 := hide (Blk.below hb5 HB4.out)
  have hbel5 := hbel4.trans (hb5.mono hbel4.size)
  have hT5 := hT.below hbel5
  clear hb5 HB4 hbel4
  obtain ⟨hsz, hde, hsame, hh0⟩ := HP.out
  obtain ⟨ki1, ki2, ki3⟩ := dif_in k hk8
  have hmem : (pA k, pN k) ∈ pairsD := List.mem_of_getElem? ki3
  have hh1 : bt s 0 = 1 ∨ bt s 0 = 2 := by rw [hh0]; exact H12.out
  have HD := hide (fun x => (dec_half (x := x) hmem hh1).trans hde)
  have HF := hide (fun (x : UInt8) hx => dif_chg (x := x) hmem hsz hh1 hsame hx)
  have kN : 2 ≤ pN k ∧ pN k ≤ 4 := by omega
  have HK := hide ki3
  obtain ⟨i, hi⟩ : ∃ i, i = pA k + pN k := ⟨_, rfl⟩
  have hi8 : i < 2048 := by omega
  have hii : (pA k : Int) + (pN k : Int) = (i : Int) := by omega
  have hsi : i < s.data.toList.length := by rw [len_l]; omega
  rw [← hi] at HD HF
  have HX := hide (bits_x8 (s.data.toList[i]) x hx)
  have HN := hide (show ((s.data.toList[i] ^^^ UInt8.ofNat x).toNat : Int) ≠ bt s i by
    rw [bt_at2 s i hsi]
    intro h
    exact x8_ne (s.data.toList[i]) x hx hx0 (UInt8.toNat_inj.1 (by omega)))
  clear hde hsame hh0 hh1 hmem HP hsz ki1 ki2 ki3 hi HK kN H12
  have ha0 : (0 : Int) ≤ (pA k : Int) ∧ (pA k : Int) ≤ 2048 := by unfold pA; rcases eight hk8 with rfl | rfl | rfl | rfl | rfl | rfl | rfl | rfl <;> decide
  have hn0 : (0 : Int) ≤ (pN k : Int) ∧ (pN k : Int) ≤ 4 := by unfold pN; rcases eight hk8 with rfl | rfl | rfl | rfl | rfl | rfl | rfl | rfl <;> decide
  generalize pA k = a at *
  generalize pN k = n at *
  obtain ⟨ha0, ha1⟩ := ha0
  obtain ⟨hn0, hn1⟩ := hn0
  have CV := cvs s wc
  go_upto_region 11 with fail
  clear CV
  have HG := hide (BB.new wc 5 s)
  have HB6 := hide (Blk.below (below_bytes wc 5 s) HB5.out)
  have lbg : b < wc.heap.size := HB5.out.lt
  have hbel6 := hbel5.trans ((below_bytes wc 5 s).mono hbel5.size)
  have lg : w.heap.size ≤ wc.heap.size := hbel5.size
  clear HB5 hbel5 hT5
  generalize Lib.bytesWorld wc 5 s = W5 at *
  generalize grownCap wc s.size 0 5 = cp at *
  generalize wc.heap.size = g at *
  have ci : W5.cell? ⟨g, i, none⟩ = some (.int .u8 (s.data.toList[i].toNat : Int)) := (HG.out.2 i hsi).1
  have fi : W5.frozen? ⟨g, i, none⟩ = false := (HG.out.2 i hsi).2
  have hlt : i < s.size := by omega
  have hx8 := HX.out
  have hN := HN.out
  generalize s.data.toList[i] = y at ci hx8 hN
  generalize y ^^^ UInt8.ofNat x = z at hx8 hN
  have HN := hide hN
  clear HX hN
  go_upto_region 12 with fail
  clear hx8 ci fi
  have HG6 := hide (BB.set (x := z) HG.out hsi)
  have HB7 := hide (Blk.other (v := .int .u8 (z.toNat : Int)) (j := i) (show b ≠ g by omega) HB6.out)
  have hbel7 := hbel6.setCell (p := ⟨g, i, none⟩) lg (.int .u8 (z.toNat : Int))
  have hT7 := hT.below hbel7
  have lg7 : g < (W5.setCell ⟨g, i, none⟩ (.int .u8 (z.toNat : Int))).heap.size := by rw [World.size_setCell]; exact HG.out.1
  generalize W5.setCell ⟨g, i, none⟩ (.int .u8 (z.toNat : Int)) = W6 at *
  have CV : ∀ W, Hid (BB W g (s.data.toList.set i z)) → (convert 48 9 (.slice (some ⟨g, 0, none⟩) s.size cp)).run Tryz.prog W = .ok (.string (chg s i z)) W := fun W hW => BB.chg (n := s.size) (cap := cp) hW.out rfl
  have DE0 := fun W hW => dec_any (chg s i z) (by rw [chg_size]; omega) W hW
  unfold DecDP at DE0
  rw [HD.out z] at DE0
  dsimp only at DE0
  have DF0 := fun W => difN7 (chg s i z) (by rw [chg_size]; omega) W
  rw [HF.out z HN.out] at DF0
  have DF := hide DF0
  have DE := hide DE0
  have EQ := hide (eqN7 [a] (by simp))
  have CV6 := CV W6 HG6
  have HCV := hide CV
  clear HG HB6 hbel6 DE0 DF0 CV
  go_upto_region 13 with (first | (go_at_call 17; refine (DE.out _ hT7).mono ?_; rintro e w7 ⟨rfl, hb7⟩) | (refine wpList_store_new rfl 27 (.tmp 13) (.tmp 74) rfl d.cells rfl rfl 27 _ (info27 _) (siz27 _) (one27 _) ?_))
  clear CV6
  have HB8 := hide (show Blk (w7.alloc (.cells d.cells 27)) w7.heap.size d.cells 27 from Blk.newAt rfl)
  have HB38 := hide ((Blk.below hb7 HB7.out).alloc (.cells d.cells 27))
  have hbA : Below W6.heap.size W6 (w7.alloc (.cells d.cells 27)) := hb7.alloc hb7.size _
  have HG8 := hide (BB.below HG6.out hbA)
  have hbel8 := hbel7.trans (hbA.mono hbel7.size)
  generalize w7.alloc (.cells d.cells 27) = W8 at *
  generalize w7.heap.size = b7 at *
  have CV8 := HCV.out W8 HG8
  clear hb7 hbA HB7 hbel7 hT7 DE HG6 HCV
  have QE := eqlD7 d
  go_wp2_with (first | (refine wpList_load_rowG 27 (.tmp 13) rfl rfl b7 rfl 27 d.cells (0, 0) _ HB8.out Tryz.underlying27 rfl (info27 _) ?_) | (refine wpList_load_rowG 27 (.tmp 3) rfl rfl b rfl 27 d.cells (0, 0) _ HB38.out Tryz.underlying27 rfl (info27 _) ?_) | (go_at_call 20; refine (DF.out _).mono ?_; rintro e w9 ⟨⟨v9, rfl, hv9⟩, hb9⟩; have HV9 := hide (ReadsN.below hv9 ((Below.refl _ _).alloc (Nat.le_refl _) (.cells #[.int .i64 (a : Int)] 3))); have HV1 := hide (ReadsN.one w9 a); clear hv9) | (go_at_call 19; refine (EQ.out _ _ _ HV9.out HV1.out).mono ?_; rintro e w10 ⟨rfl, hb10⟩))
  go_ret
  have h9 := hbel8.trans (hb9.mono hbel8.size)
  have h10 := h9.alloc h9.size (.cells #[.int .i64 (a : Int)] 3)
  exact ⟨rfl, h10.trans (hb10.mono h10.size)⟩
end Go.Proofs.YtjbhokmkmapkoaaGreatDoor
