/- The statement RockridgeEntries, walked. -/
import Derived.Test.YtopajpomhflgbaaGreatDoorCM17
import Derived.Test.YtopajpomhflgbaaGreatDoorCM5
namespace Go.Proofs.YtopajpomhflgbaaGreatDoor
set_option linter.unusedSimpArgs false
set_option linter.unusedVariables false
open Go.RowKit

/-- The literal form of a node's cells. -/
theorem cells_lit (r : RR) : (Value.agg #[.bool r.att, .int .i64 r.kind, .int .i64 r.mode, .int .i64 r.links, .int .i64 r.uid, .int .i64 r.gid, .bool r.named, .string r.name, .string r.target, .bool r.timed, .int .i64 r.time, .int .i64 r.child, .int .i64 r.parent, .bool r.reloc]) = .agg r.cells := rfl
/-- What both sides' Entries leave: rows that read as the same entries, and the same error. -/
theorem EntP.both {r : RR} {w : World} {e : Ending} {w' : World} (h : EntP r w e w') : ∃ v, e = .returned (.tuple #[v, .int .i64 (chk r)]) ∧ ReadsE w' v (if chk r = 0 then ents r else []) ∧ Below w.heap.size w w' := by
  unfold EntP at h
  obtain ⟨h, hb⟩ := h
  by_cases h0 : chk r = 0
  · rw [if_pos h0] at h ⊢
    obtain ⟨v, he, ho⟩ := h
    exact ⟨v, by rw [he, h0], ReadsE.of ho, hb⟩
  · rw [if_neg h0] at h ⊢
    exact ⟨_, h, ⟨none, 0, rfl, fun h => absurd h (by simp)⟩, hb⟩
set_option maxRecDepth 100000 in
set_option maxHeartbeats 8000000 in
theorem law_entries (r : RR) (w : World) (hT : TabV w) : Calls Tryz.prog 3 #[.agg r.cells] w fun e w' => e = .returned (.bool true) ∧ Below w.heap.size w w' := by
  have hB0 : Blk (w.alloc (.cells r.cells 23)) w.heap.size r.cells 23 := Blk.newAt rfl
  have hbel0 : Below w.heap.size w (w.alloc (.cells r.cells 23)) := by (repeat' (first | (with_reducible exact Below.refl _ _) | (with_reducible refine Below.alloc ?_ ?_ _) | (with_reducible refine Below.setCell ?_ ?_ _) | (with_reducible refine Below.drew ?_) | (with_reducible refine below_drewN' ?_) | (with_reducible refine below_bytesW ?_ ?_) | (with_reducible refine Below.trans ?_ (Below.mono (by assumption) ?_)) | omega | (simp only [World.size_alloc, World.size_setCell, World.size_drew]; omega) | (simp [size_bytesW]; omega) | (simp; omega)))
  obtain ⟨W1, hW1⟩ : ∃ W1, W1 = w.alloc (.cells r.cells 23) := ⟨_, rfl⟩
  rw [← hW1] at hB0 hbel0
  have HL : Live w [] := trivial
  go_enter Tryz.func3, Tryz.ntmps3
  go_upto_region 1 with fail
  rw [← hW1]
  clear hW1
  go_wp2_with fail
  refine (awake_any _ (hT.below hbel0)).mono ?_
  rintro e w1 ⟨rfl, hb1⟩
  have hB1 := hB0.below hb1
  have hbel1 := hbel0.trans (hb1.mono hbel0.size)
  have hrr1 := RRat.of hB1
  unfold RRat at hrr1
  go_wp2_with fail
  rw [cells_lit]
  refine (short_any r _).mono ?_
  rintro e w2 ⟨rfl, hb2⟩
  have hB2 := hB1.below hb2
  have hbel2 := hbel1.trans (hb2.mono hbel1.size)
  have hrr2 := RRat.of hB2
  unfold RRat at hrr2
  cases hs : shortB r
  case false =>
    go_wp2
    go_ret
    exact ⟨rfl, hbel2⟩
  unfold shortB at hs
  have hs := of_decide_eq_true hs
  go_wp2_with fail
  try rw [cells_lit]
  refine (entries_any r (by omega) (by omega) _ (hT.below hbel2)).mono ?_
  intro e w3 hE
  obtain ⟨va, rfl, hra, hb3⟩ := hE.both
  have hB3 := hB2.below hb3
  have hbel3 := hbel2.trans (hb3.mono hbel2.size)
  have hrr3 := RRat.of hB3
  unfold RRat at hrr3
  go_wp2_with fail
  try rw [cells_lit]
  refine (rentries_any r (by omega) (by omega) _).mono ?_
  intro e w4 hE
  obtain ⟨vb, rfl, hrb, hb4⟩ := hE.both
  have hbel4 := hbel3.trans (hb4.mono hbel3.size)
  have hlen : (if chk r = 0 then ents r else []).length ≤ 1000 := by
    have := ents_len r
    split
    · omega
    · simp
  generalize (if chk r = 0 then ents r else []) = L at *
  go_wp2_with fail
  refine (same_any L va vb hlen _ (hra.below hb4) hrb).mono ?_
  rintro e w5 ⟨rfl, hb5⟩
  have hbel5 := hbel4.trans (hb5.mono hbel4.size)
  go_wp2_with fail
  refine (ext_any _).mono ?_
  rintro e w6 ⟨rfl, hb6⟩
  have hbel6 := hbel5.trans (hb6.mono hbel5.size)
  go_wp2_with fail
  refine (rext_any _).mono ?_
  rintro e w7 ⟨rfl, hb7⟩
  have hbel7 := hbel6.trans (hb7.mono hbel6.size)
  go_wp2_with fail
  go_ret
  exact ⟨rfl, hbel7⟩
end Go.Proofs.YtopajpomhflgbaaGreatDoor
