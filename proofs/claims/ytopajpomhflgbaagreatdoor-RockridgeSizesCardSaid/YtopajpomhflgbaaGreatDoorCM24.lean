/- The statement RockridgeSizes, walked. -/
import Derived.Test.YtopajpomhflgbaaGreatDoorCM23
import Derived.Test.YtopajpomhflgbaaGreatDoorCM19
namespace Go.Proofs.YtopajpomhflgbaaGreatDoor
set_option linter.unusedSimpArgs false
set_option linter.unusedVariables false
open Go.RowKit

set_option maxRecDepth 100000 in
set_option maxHeartbeats 8000000 in
theorem law_sizes (r : RR) (w : World) (hT : TabV w) : Calls Tryz.prog 6 #[.agg r.cells] w fun e w' => e = .returned (.bool true) ∧ Below w.heap.size w w' := by
  have hB0 : Blk (w.alloc (.cells r.cells 23)) w.heap.size r.cells 23 := Blk.newAt rfl
  have hbel0 : Below w.heap.size w (w.alloc (.cells r.cells 23)) := by (repeat' (first | (with_reducible exact Below.refl _ _) | (with_reducible refine Below.alloc ?_ ?_ _) | (with_reducible refine Below.setCell ?_ ?_ _) | (with_reducible refine Below.drew ?_) | (with_reducible refine below_drewN' ?_) | (with_reducible refine below_bytesW ?_ ?_) | (with_reducible refine Below.trans ?_ (Below.mono (by assumption) ?_)) | omega | (simp only [World.size_alloc, World.size_setCell, World.size_drew]; omega) | (simp [size_bytesW]; omega) | (simp; omega)))
  obtain ⟨W1, hW1⟩ : ∃ W1, W1 = w.alloc (.cells r.cells 23) := ⟨_, rfl⟩
  rw [← hW1] at hB0 hbel0
  have HL : Live w [] := trivial
  go_enter Tryz.func6, Tryz.ntmps6
  go_upto_region 1 with fail
  rw [← hW1]
  clear hW1
  go_wp2_with fail
  refine (awake_any _ (hT.below hbel0)).mono ?_
  rintro e w1 ⟨rfl, hb1⟩
  have hB1 := hB0.below hb1
  have hbel1 := hbel0.trans (hb1.mono hbel0.size)
  have hrr1 := RRat.of hB1
  unfold RRat at hrr1
  go_wp2_with fail
  rw [cells_lit]
  refine (short_any r _).mono ?_
  rintro e w2 ⟨rfl, hb2⟩
  have hB2 := hB1.below hb2
  have hbel2 := hbel1.trans (hb2.mono hbel1.size)
  have hrr2 := RRat.of hB2
  unfold RRat at hrr2
  cases hs : shortB r
  case false =>
    go_wp2
    go_ret
    exact ⟨rfl, hbel2⟩
  unfold shortB at hs
  have hs := of_decide_eq_true hs
  go_wp2_with fail
  try rw [cells_lit]
  refine (entries_any r (by omega) (by omega) _ (hT.below hbel2)).mono ?_
  intro e w3 hE
  obtain ⟨va, rfl, hra, hb3⟩ := hE.both
  have hbel3 := hbel2.trans (hb3.mono hbel2.size)
  by_cases h0 : chk r = 0
  case neg =>
    have hq : (chk r == 0) = false := by rw [beq_eq_false_iff_ne]; exact h0
    have hq2 : (chk r != 0) = true := by rw [bne_iff_ne]; exact h0
    clear h0
    go_wp2
    go_ret
    exact ⟨rfl, hbel3⟩
  have hG := good_ents r h0
  have hlen := ents_len r
  rw [if_pos h0] at hra
  rw [h0]
  clear h0
  generalize ents r = L at *
  have HR := hide hra
  have HG := hide hG
  obtain ⟨A, c, hva, hA⟩ := hra
  rw [hva]
  rw [hva] at HR
  clear hA hva hG
  go_wp2_with fail
  refine (enc24 L _ (by omega) HG.out _ HR.out).mono ?_
  rintro e w4 ⟨rfl, hb4⟩
  have hbel4 := hbel3.trans (hb4.mono hbel3.size)
  have HR4 := hide (HR.out.below hb4)
  go_wp2_with fail
  refine (dec24 L (by omega) HG.out _).mono ?_
  rintro e w5 ⟨vx, rfl, hrx, hb5⟩
  have hbel5 := hbel4.trans (hb5.mono hbel4.size)
  have HR5 := hide (HR4.out.below hb5)
  have HX := hide hrx
  clear hrx
  go_wp2_with fail
  refine (same_any L _ _ (by omega) _ HX.out HR5.out).mono ?_
  rintro e w6 ⟨rfl, hb6⟩
  have hbel6 := hbel5.trans (hb6.mono hbel5.size)
  go_wp2_with fail
  go_ret
  exact ⟨ret_b (decide_eq_true (by omega)), hbel6⟩
end Go.Proofs.YtopajpomhflgbaaGreatDoor
