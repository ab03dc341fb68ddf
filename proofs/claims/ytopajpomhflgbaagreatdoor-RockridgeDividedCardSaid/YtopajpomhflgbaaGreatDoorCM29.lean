/- Contract of rockridge.Read where the components go on. -/
import Derived.Test.YtopajpomhflgbaaGreatDoorCM28
namespace Go.Proofs.YtopajpomhflgbaaGreatDoor
set_option linter.unusedSimpArgs false
set_option linter.unusedVariables false
open Go.RowKit

set_option maxRecDepth 100000 in
set_option maxHeartbeats 8000000 in
theorem read_open (L : List En) (nm d : List UInt8) (hlen : L.length ≤ 1000) (hsize : ∀ e ∈ L, e.data.size ≤ 1000000) (hp : firstB L sPX = none) (hn : joinF sNM true L [] false false = (nm, true, true)) (hs : joinF sSL false L [] false false = (d, true, false)) (a : Value) (w : World) (ha : ReadsE w a L) :
    Calls Tryz.prog 20 #[a] w fun e w' => e = .returned (.tuple #[.agg RR.zero.cells, .int .i64 10]) ∧ Below w.heap.size w w' := by
  have F1 := hide (fun W hW => first_any L sPX a W hlen hW)
  rw [hp] at F1
  unfold firstV at F1
  have JN := hide (fun W hW => joined_nm L sNM a W hlen hsize hW)
  rw [hn] at JN
  have JS := hide (fun W hW => joined_sl L sSL a W hlen hsize hW)
  rw [hs] at JS
  unfold joinV at JN JS
  clear hp hn hs hsize
  have HL : Live w [] := trivial
  go_enter Tryz.func20, Tryz.ntmps20
  go_upto_region 2 with fail
  obtain ⟨W0, hW0⟩ : ∃ W0, W0 = (w.alloc (.cells rc0 23)).alloc (.cells rc0 23) := ⟨_, rfl⟩
  obtain ⟨rb, hrb⟩ : ∃ rb, rb = w.heap.size + 1 := ⟨_, rfl⟩
  have hRW0 : RW w rb rc0 W0 := ⟨by rw [hW0]; exact (Blk.newAt rfl).alloc _, by rw [hW0, hrb]; exact Blk.newAt (World.size_alloc _ _), by rw [hW0]; (repeat' (first | (with_reducible exact Below.refl _ _) | (with_reducible refine Below.alloc ?_ ?_ _) | (with_reducible refine Below.setCell ?_ ?_ _) | (with_reducible refine Below.drew ?_) | (with_reducible refine below_drewN' ?_) | (with_reducible refine below_bytesW ?_ ?_) | (with_reducible refine Below.trans ?_ (Below.mono (by assumption) ?_)) | omega | (simp only [World.size_alloc, World.size_setCell, World.size_drew]; omega) | (simp [size_bytesW]; omega) | (simp; omega)))⟩
  unfold rc0 RR.cells RR.zero at hW0
  simp only at hW0
  rw [← hrb, ← hW0]
  have hrw : w.heap.size < rb := by omega
  clear hW0 hrb
  have hsz0 := hRW0.size
  have ha0 := ha.below hRW0.2.2
  go_wp2_with fail
  refine (F1.out _ ha0).mono ?_
  rintro e w1 ⟨rfl, hb1⟩
  have hRW1 := hRW0.below hb1
  have hz1 := hRW1.size
  go_upto_region 11 with fail
  obtain ⟨W2, hW2⟩ : ∃ W2, W2 = w1.alloc (.cells #[.string ⟨#[]⟩] 9) := ⟨_, rfl⟩
  have hRW2 : RW w rb rc0 W2 := by rw [hW2]; exact hRW1.alloc _
  rw [← hW2]
  clear hW2
  have ha2 := ha.below hRW2.2.2
  go_wp2_with fail
  refine (JN.out _ ha2).mono ?_
  rintro e w3 ⟨rfl, hb3⟩
  have ha3 := ha2.below hb3
  go_wp2_with fail
  refine (JS.out _ ha3).mono ?_
  rintro e w4 ⟨rfl, hb4⟩
  have hRW4 := (hRW2.below hb3).below hb4
  have hs4 := hRW4.size
  have hrr4 := RRat.of (r := RR.zero) hRW4.1
  unfold RRat RR.zero at hrr4
  simp only at hrr4
  have hfz4 := hRW4.1.free
  have hbel4 := hRW4.2.2
  go_wp2_with fail
  ((try simp only [Exit.inBlock, Exit.then]); refine bodyPost_ret (by simp only [results, Tryz.results20]; go_simp; try rfl) rfl ?_)
  exact ⟨rfl, by (repeat' (first | (with_reducible exact Below.refl _ _) | (with_reducible refine Below.alloc ?_ ?_ _) | (with_reducible refine Below.setCell ?_ ?_ _) | (with_reducible refine Below.drew ?_) | (with_reducible refine below_drewN' ?_) | (with_reducible refine below_bytesW ?_ ?_) | (with_reducible refine Below.trans ?_ (Below.mono (by assumption) ?_)) | omega | (simp only [World.size_alloc, World.size_setCell, World.size_drew]; omega) | (simp [size_bytesW]; omega) | (simp; omega)))⟩
end Go.Proofs.YtopajpomhflgbaaGreatDoor
