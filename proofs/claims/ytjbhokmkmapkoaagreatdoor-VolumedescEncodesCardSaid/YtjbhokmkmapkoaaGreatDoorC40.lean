/- Contracts and plain words for the laws of volume descriptors, part 40: L1. No condition. -/
import Derived.Test.YtjbhokmkmapkoaaGreatDoorC37
import Derived.Test.YtjbhokmkmapkoaaGreatDoorC39
namespace Go.Proofs.YtjbhokmkmapkoaaGreatDoor
set_option linter.unusedSimpArgs false
set_option linter.unusedVariables false
open Go.RowKit
open Go.PlainAid (bt get_bt bt_nonneg bt_le bt_end)
set_option maxRecDepth 100000 in
set_option maxHeartbeats 8000000 in
theorem law_encodes (d : DR) (w : World) (hT : TabD w) : Calls Tryz.prog 3 #[.agg d.cells] w fun e w' => e = .returned (.bool true) ∧ Below w.heap.size w w' := by
  have HL : Live w [] := trivial
  go_enter Tryz.func3, Tryz.ntmps3
  go_upto_region 1 with fail
  have HB := hide (show Blk (w.alloc (.cells d.cells 27)) w.heap.size d.cells 27 from Blk.newAt rfl)
  have hbel1 : Below w.heap.size w (w.alloc (.cells d.cells 27)) := by (exact bl)
  have hT1 := hT.below hbel1
  generalize w.alloc (.cells d.cells 27) = W1 at *
  obtain ⟨b, hb⟩ : ∃ b, b = w.heap.size := ⟨_, rfl⟩
  rw [← hb] at HB ⊢
  have lb : w.heap.size ≤ b := by omega
  clear hb
  go_upto_region 3 with (go_at_call 11; refine (awake_any _ hT1).mono ?_; rintro e w2 ⟨rfl, hb2⟩)
  have HB2 := hide (Blk.below hb2 HB.out)
  have hbel2 := hbel1.trans (hb2.mono hbel1.size)
  have hT2 := hT.below hbel2
  clear hb2 HB hbel1 hT1
  cases hsh : shortDB d
  case false =>
    have SH := hide (fun W => rshort_any d W)
    rw [hsh] at SH
    clear hsh
    go_wp2_with (first | (refine wpList_load_row rfl 27 (.tmp 1) rfl b rfl 27 d.cells (0, 0) _ HB2.out Tryz.underlying27 rfl (info27 _) ?_) | (go_at_call 12; refine (SH.out _).mono ?_; rintro e w3 ⟨rfl, hb3⟩))
    go_ret
    exact ⟨rfl, hbel2.trans (hb3.mono hbel2.size)⟩
  case true =>
  have hsd := short_of hsh
  have SH := hide (fun W => rshort_any d W)
  rw [hsh] at SH
  have EN := hide (fun W hW => enc_any d hsd W hW)
  have RE := hide (fun W => renc_any d hsd W)
  have CHK := hide (fun W hW => check_any d hsd W hW)
  have RCK := hide (fun W => rcheck_any d hsd W)
  clear hsh
  go_upto_region 5 with (first | (refine wpList_load_row rfl 27 (.tmp 1) rfl b rfl 27 d.cells (0, 0) _ HB2.out Tryz.underlying27 rfl (info27 _) ?_) | (go_at_call 12; refine (SH.out _).mono ?_; rintro e w3 ⟨rfl, hb3⟩))
  have HB3 := hide (Blk.below hb3 HB2.out)
  have hbel3 := hbel2.trans (hb3.mono hbel2.size)
  have hT3 := hT.below hbel3
  clear hb3 HB2 hbel2 hT2 SH
  go_upto_region 6 with (first | (refine wpList_load_row rfl 27 (.tmp 1) rfl b rfl 27 d.cells (0, 0) _ HB3.out Tryz.underlying27 rfl (info27 _) ?_) | (go_at_call 13; refine (EN.out _ hT3).mono ?_; rintro e w4 ⟨rfl, hb4⟩))
  have HB4 := hide (Blk.below hb4 HB3.out)
  have hbel4 := hbel3.trans (hb4.mono hbel3.size)
  clear hb4 HB3 hbel3 hT3 EN
  go_upto_region 7 with (first | (refine wpList_load_row rfl 27 (.tmp 1) rfl b rfl 27 d.cells (0, 0) _ HB4.out Tryz.underlying27 rfl (info27 _) ?_) | (go_at_call 14; refine (RE.out _).mono ?_; rintro e w5 ⟨rfl, hb5⟩))
  have hbel5 := hbel4.trans (hb5.mono hbel4.size)
  have hkeep5 : Blk w5 b d.cells 27 ∧ True := ⟨Blk.below hb5 HB4.out, trivial⟩
  have hkeep7 : Blk w5.drew b d.cells 27 ∧ True := ⟨hkeep5.1.drew, trivial⟩
  have hbel7 := hbel5.drew
  have hT7 := hT.below hbel7
  clear hb5 HB4 hbel4 RE
  refine wp_region_noPanic ?_
  refine wp_region_held_drew (S := (fun z => Blk z b d.cells 27 ∧ True)) (by kernel_rfl) kp (fun hHeld => ?_)
  refine tkY 0 ⟨some 22, .load 27 (.tmp 1), 27, "law.go:42", #[], none⟩ ?_ ?_ ?_
  rotate_left
  · intro w hSw; (try dsimp only at hSw); refine (exec_load_row 27 (.tmp 1) (by rfl) b (by rfl) 27 d.cells (0, 0) _ hSw.1 Tryz.underlying27 (by rfl) (info27 _)).trans ?_; with_reducible rfl
  try simp only [PT]
  refine tkY 2 ⟨some 24, .load 27 (.tmp 1), 27, "law.go:42", #[], none⟩ ?_ ?_ ?_
  rotate_left
  · intro w hSw; (try dsimp only at hSw); refine (exec_load_row 27 (.tmp 1) (by rfl) b (by rfl) 27 d.cells (0, 0) _ hSw.1 Tryz.underlying27 (by rfl) (info27 _)).trans ?_; with_reducible rfl
  try simp only [PT]
  refine wpAnyH_ready (rs := [1]) (by kernel_rfl) (by simp) ?_
  refine AllReadyH.cons (o := ⟨some 23, .call ⟨.value (.func 15), #[.tmp 22], #[27]⟩, 30, "law.go:42", #[⟨0, .data⟩], none⟩) rfl (fun K hK => ?_) AllReadyH.nil
  go_simp
  (go_at_call 15; (with_reducible refine Calls.mono (CHK.out _ (by assumption)) ?_); rintro e w8 ⟨rfl, hb8⟩; have hkeep8 : Blk w8 b d.cells 27 ∧ True := ⟨Blk.below hb8 hkeep7.1, trivial⟩; have hbel8 := hbel7.trans (hb8.mono hbel7.size))
  go_wp2_with fail
  refine hK.out _ _ kp (fun hHeld => ?_)
  clear hK K
  try simp only [PT]
  refine wpAnyH_ready (rs := [3]) (by kernel_rfl) (by simp) ?_
  refine AllReadyH.cons (o := ⟨some 25, .call ⟨.value (.func 16), #[.tmp 24], #[27]⟩, 30, "law.go:42", #[⟨2, .data⟩, ⟨1, .chain⟩], none⟩) rfl (fun K hK => ?_) AllReadyH.nil
  go_simp
  (go_at_call 16; (with_reducible refine (RCK.out _).mono ?_); rintro e w9 ⟨rfl, hb9⟩; have hkeep9 : Blk w9 b d.cells 27 ∧ True := ⟨Blk.below hb9 hkeep8.1, trivial⟩; have hbel9 := hbel8.trans (hb9.mono hbel8.size))
  go_wp2_with fail
  refine hK.out _ _ kp (fun hHeld => ?_)
  clear hK K
  try simp only [PT]
  refine tkY 4 ⟨some 26, .binOp .eql 30 (.tmp 23) (.tmp 25) 30, 4, "law.go:42", #[⟨1, .data⟩, ⟨3, .data⟩], none⟩ ?_ ?_ ?_
  rotate_left
  · intro w hSw; (try dsimp only at hSw); go_simp; (try with_reducible rfl)
  try simp only [PT]
  refine tkY 5 ⟨some 27, .move (.tmp 26), 4, "law.go:42", #[⟨4, .data⟩, ⟨3, .chain⟩], none⟩ ?_ ?_ ?_
  rotate_left
  · intro w hSw; (try dsimp only at hSw); go_simp; (try with_reducible rfl)
  try simp only [PT]
  refine tkY 6 ⟨some 28, .move (.tmp 3), 9, "law.go:42", #[⟨5, .guard⟩], some (5, true)⟩ ?_ ?_ ?_
  rotate_left
  · intro w hSw; (try dsimp only at hSw); go_simp; (try with_reducible rfl)
  try simp only [PT]
  refine tkY 7 ⟨some 29, .move (.tmp 5), 9, "law.go:42", #[⟨5, .guard⟩], some (5, true)⟩ ?_ ?_ ?_
  rotate_left
  · intro w hSw; (try dsimp only at hSw); go_simp; (try with_reducible rfl)
  try simp only [PT]
  refine tkY 8 ⟨some 30, .binOp .eql 9 (.tmp 28) (.tmp 29) 9, 4, "law.go:42", #[⟨6, .data⟩, ⟨7, .data⟩, ⟨5, .guard⟩], some (5, true)⟩ ?_ ?_ ?_
  rotate_left
  · intro w hSw; (try dsimp only at hSw); go_simp; (try with_reducible rfl)
  try simp only [PT]
  refine tkY 9 ⟨some 31, .pick (.tmp 27) (.tmp 30) (.const (.bool false)), 4, "law.go:42", #[⟨5, .data⟩, ⟨8, .data⟩], none⟩ ?_ ?_ ?_
  rotate_left
  · intro w hSw; (try dsimp only at hSw); go_simp; (try with_reducible rfl)
  try simp only [PT]
  refine tkY 10 ⟨some 32, .move (.tmp 31), 4, "law.go:42", #[⟨9, .data⟩, ⟨5, .chain⟩], none⟩ ?_ ?_ ?_
  rotate_left
  · intro w hSw; (try dsimp only at hSw); go_simp; (try with_reducible rfl)
  try simp only [PT]
  refine tkY 11 ⟨some 33, .move (.tmp 4), 30, "law.go:42", #[⟨10, .guard⟩], some (10, true)⟩ ?_ ?_ ?_
  rotate_left
  · intro w hSw; (try dsimp only at hSw); go_simp; (try with_reducible rfl)
  try simp only [PT]
  refine tkY 12 ⟨some 34, .move (.tmp 6), 30, "law.go:42", #[⟨10, .guard⟩], some (10, true)⟩ ?_ ?_ ?_
  rotate_left
  · intro w hSw; (try dsimp only at hSw); go_simp; (try with_reducible rfl)
  try simp only [PT]
  refine tkY 13 ⟨some 35, .binOp .eql 30 (.tmp 33) (.tmp 34) 30, 4, "law.go:42", #[⟨11, .data⟩, ⟨12, .data⟩, ⟨10, .guard⟩], some (10, true)⟩ ?_ ?_ ?_
  rotate_left
  · intro w hSw; (try dsimp only at hSw); go_simp; (try with_reducible rfl)
  try simp only [PT]
  refine tkY 14 ⟨some 36, .pick (.tmp 32) (.tmp 35) (.const (.bool false)), 4, "law.go:42", #[⟨10, .data⟩, ⟨13, .data⟩], none⟩ ?_ ?_ ?_
  rotate_left
  · intro w hSw; (try dsimp only at hSw); go_simp; (try with_reducible rfl)
  try simp only [PT]
  refine tkY 15 ⟨some 2, .assign (.tmp 36), 4, "law.go:42", #[⟨14, .data⟩, ⟨10, .chain⟩, ⟨0, .phase⟩, ⟨1, .phase⟩, ⟨2, .phase⟩, ⟨3, .phase⟩, ⟨4, .phase⟩, ⟨5, .phase⟩, ⟨6, .phase⟩, ⟨7, .phase⟩, ⟨8, .phase⟩, ⟨9, .phase⟩, ⟨10, .phase⟩, ⟨11, .phase⟩, ⟨12, .phase⟩, ⟨13, .phase⟩, ⟨14, .phase⟩], none⟩ ?_ ?_ ?_
  rotate_left
  · intro w hSw; (try dsimp only at hSw); go_simp; (try with_reducible rfl)
  try simp only [PT]
  refine wpAnyH_done (by kernel_rfl) ?_ _
  refine NoPanic.normal ?_
  go_wp2_with fail
  go_ret
  exact ⟨rfl, hbel9⟩
end Go.Proofs.YtjbhokmkmapkoaaGreatDoor
