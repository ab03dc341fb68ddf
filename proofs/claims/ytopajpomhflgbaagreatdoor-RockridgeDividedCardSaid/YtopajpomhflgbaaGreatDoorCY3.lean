/- Contract of the reference's Check. -/
import Derived.Test.YtopajpomhflgbaaGreatDoorCY2
namespace Go.Proofs.YtopajpomhflgbaaGreatDoor
set_option linter.unusedSimpArgs false
set_option linter.unusedVariables false
open Go.RowKit

set_option maxRecDepth 100000 in
set_option maxHeartbeats 16000000 in
theorem rcheck_any (r : RR) (hn : r.name.size ≤ 60000) (ht : r.target.size ≤ 60000) (w : World) : Calls Tryz.prog 33 #[.agg r.cells] w fun e w' => e = .returned (.int .i64 (chk r)) ∧ Below w.heap.size w w' := by
  have RNM := hide (fun W => rname_any r.name hn W)
  have RTG := hide (fun W => rtarget_any r.target ht W)
  have HL : Live w [] := trivial
  go_enter Tryz.func33, Tryz.ntmps33
  go_upto_region 1 with fail
  have hB1 : Blk (w.alloc (.cells r.cells 23)) w.heap.size r.cells 23 := Blk.newAt rfl
  have hbel1 : Below w.heap.size w (w.alloc (.cells r.cells 23)) := by (repeat' (first | (with_reducible exact Below.refl _ _) | (with_reducible refine Below.alloc ?_ ?_ _) | (with_reducible refine Below.setCell ?_ ?_ _) | (with_reducible refine Below.drew ?_) | (with_reducible refine below_drewN' ?_) | (with_reducible refine below_bytesW ?_ ?_) | (with_reducible refine Below.trans ?_ (Below.mono (by assumption) ?_)) | omega | (simp only [World.size_alloc, World.size_setCell, World.size_drew]; omega) | (simp [size_bytesW]; omega) | (simp; omega)))
  generalize w.alloc (.cells r.cells 23) = W1 at *
  have hlt1 := hB1.lt
  have hrr := RRat.of hB1
  unfold RRat at hrr
  go_cut [64] (fun v wx => v = .bool (bad1 r || bad2 r || bad3 r) ∧ W1 = wx)
  case first =>
    go_wp2
    all_goals
      go_meet
      exact ⟨vb (by rw [Bool.eq_iff_iff]; simp [bad1, bad2, bad3, bne, *] <;> omega), rfl⟩
  case rest =>
  obtain ⟨rfl, rfl⟩ := hcut
  cases e1 : (bad1 r || bad2 r || bad3 r)
  case true =>
    have E := hide (show chk r = 1 by simp [chk, e1])
    clear e1
    go_wp2
    go_ret
    exact ⟨ret_i E.out.symm, hbel1⟩
  have E1 := hide e1
  clear e1
  go_upto_region 3 with fail
  go_cut [83] (fun v wx => v = .bool (bad4 r) ∧ Below W1.heap.size W1 wx)
  case first =>
    have HL : Live W1 [w.heap.size] := ⟨hlt1, trivial⟩
    cases q2 : nameB r.name
    all_goals
      cases q4 : targetB r.target
      all_goals
        rw [q2] at RNM
        rw [q4] at RTG
        have Q2 := hide q2
        have Q4 := hide q4
        clear q2 q4
        go_wp2_with (first | (go_at_call 18; (with_reducible refine (RNM.out _).mono ?_); rintro e w' ⟨rfl, hb⟩; have hz := hb.size; (try simp only [World.size_alloc, World.size_setCell, World.size_drew, Nat.add_assoc, Nat.reduceAdd] at hz); (first | obtain ⟨HL, hk⟩ := HL.call hb hz (by simp only [World.size_alloc, World.size_setCell, World.size_drew, Nat.add_assoc, Nat.reduceAdd]) | obtain ⟨HL, hk⟩ := HL.call0 hb hz (by first | rfl | simp only [World.size_alloc, World.size_setCell, World.size_drew, Nat.add_assoc, Nat.reduceAdd])); (try simp only [addN, Nat.add_zero] at HL hk); have hl := HL; simp only [Live] at hl; (try simp only [Kept] at hk)) | (go_at_call 16; (with_reducible refine (RTG.out _).mono ?_); rintro e w' ⟨rfl, hb⟩; have hz := hb.size; (try simp only [World.size_alloc, World.size_setCell, World.size_drew, Nat.add_assoc, Nat.reduceAdd] at hz); (first | obtain ⟨HL, hk⟩ := HL.call hb hz (by simp only [World.size_alloc, World.size_setCell, World.size_drew, Nat.add_assoc, Nat.reduceAdd]) | obtain ⟨HL, hk⟩ := HL.call0 hb hz (by first | rfl | simp only [World.size_alloc, World.size_setCell, World.size_drew, Nat.add_assoc, Nat.reduceAdd])); (try simp only [addN, Nat.add_zero] at HL hk); have hl := HL; simp only [Live] at hl; (try simp only [Kept] at hk)))
        all_goals
          go_meet
          exact ⟨vb (by rw [Bool.eq_iff_iff]; simp [bad4, Q2.out, Q4.out, *]), by (repeat' (first | (with_reducible exact Below.refl _ _) | (with_reducible refine Below.alloc ?_ ?_ _) | (with_reducible refine Below.setCell ?_ ?_ _) | (with_reducible refine Below.drew ?_) | (with_reducible refine below_drewN' ?_) | (with_reducible refine below_bytesW ?_ ?_) | (with_reducible refine Below.trans ?_ (Below.mono (by assumption) ?_)) | omega | (simp only [World.size_alloc, World.size_setCell, World.size_drew]; omega) | (simp [size_bytesW]; omega) | (simp; omega)))⟩
  case rest =>
  obtain ⟨rfl, hb2⟩ := hcut
  cases e4 : bad4 r
  case true =>
    have E := hide (show chk r = 4 by simp [chk, e4, E1.out])
    clear e4
    go_wp2
    go_ret
    exact ⟨ret_i E.out.symm, hbel1.trans (hb2.mono hbel1.size)⟩
  have E4 := hide e4
  clear e4
  have hB2 := hB1.below hb2
  have hrr2 := RRat.of hB2
  unfold RRat at hrr2
  have hbel2 := hbel1.trans (hb2.mono hbel1.size)
  clear hrr hB1 hb2
  generalize wc = W2 at *
  go_upto_region 5 with fail
  go_cut [131] (fun v wx => v = .bool (bad5 r || bad6 r) ∧ W2 = wx)
  case first =>
    have HW := hide (p := wordsB r = (wordB r.links && wordB r.uid && wordB r.gid && wordB r.child && wordB r.parent)) rfl
    go_wp2_with (first | (go_at_call 66; (with_reducible refine (rnumber _ _).mono ?_); rintro e w' ⟨rfl, rfl⟩) | (go_at_call 67; (with_reducible refine (rTime_any _ _).mono ?_); rintro e w' ⟨rfl, rfl⟩))
    all_goals
      go_meet
      exact ⟨vb (by rw [Bool.eq_iff_iff]; simp [bad5, bad6, HW.out, *] <;> omega), rfl⟩
  case rest =>
  obtain ⟨rfl, rfl⟩ := hcut
  cases e5 : (bad5 r || bad6 r)
  case true =>
    have E := hide (show chk r = 2 by simp [chk, e5, E1.out, E4.out])
    clear e5
    go_wp2
    go_ret
    exact ⟨ret_i E.out.symm, hbel2⟩
  case false =>
    have E := hide (show chk r = 0 by simp [chk, e5, E1.out, E4.out])
    clear e5
    go_wp2
    go_ret
    exact ⟨ret_i E.out.symm, hbel2⟩
end Go.Proofs.YtopajpomhflgbaaGreatDoor
