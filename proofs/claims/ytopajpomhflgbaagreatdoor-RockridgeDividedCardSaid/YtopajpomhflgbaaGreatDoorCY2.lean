/- Contract of rockridge.check. -/
import Derived.Test.YtopajpomhflgbaaGreatDoorCY
namespace Go.Proofs.YtopajpomhflgbaaGreatDoor
set_option linter.unusedSimpArgs false
set_option linter.unusedVariables false
open Go.RowKit

theorem vb {a b : Bool} (h : a = b) : Value.bool a = .bool b := by rw [h]
theorem five_at (W : World) (T : TypeId) (a b c d f : Int) : ∀ j n, ([a, b, c, d, f] : List Int)[j]? = some n → (W.alloc (.cells #[.int .i64 a, .int .i64 b, .int .i64 c, .int .i64 d, .int .i64 f] T)).cell? ⟨W.heap.size, j, none⟩ = some (.int .i64 n) := by
  intro j n h
  rw [World.cell?_alloc_new]
  match j, h with
  | 0, h => simp at h; subst h; rfl
  | 1, h => simp at h; subst h; rfl
  | 2, h => simp at h; subst h; rfl
  | 3, h => simp at h; subst h; rfl
  | 4, h => simp at h; subst h; rfl
  | k + 5, h => simp at h
set_option maxRecDepth 100000 in
set_option maxHeartbeats 8000000 in
theorem check_any (r : RR) (hn : r.name.size ≤ 60000) (ht : r.target.size ≤ 60000) (w : World) (hT : TabV w) : Calls Tryz.prog 27 #[.agg r.cells] w fun e w' => e = .returned (.int .i64 (chk r)) ∧ Below w.heap.size w w' := by
  have NM := hide (fun W hW => name_any r.name hn W hW)
  have TG := hide (fun W hW => target_any r.target ht W hW)
  have HL : Live w [] := trivial
  go_enter Tryz.func27, Tryz.ntmps27
  go_upto_region 1 with fail
  have hB1 : Blk (w.alloc (.cells r.cells 23)) w.heap.size r.cells 23 := Blk.newAt rfl
  have hbel1 : Below w.heap.size w (w.alloc (.cells r.cells 23)) := by (repeat' (first | (with_reducible exact Below.refl _ _) | (with_reducible refine Below.alloc ?_ ?_ _) | (with_reducible refine Below.setCell ?_ ?_ _) | (with_reducible refine Below.drew ?_) | (with_reducible refine below_drewN' ?_) | (with_reducible refine below_bytesW ?_ ?_) | (with_reducible refine Below.trans ?_ (Below.mono (by assumption) ?_)) | omega | (simp only [World.size_alloc, World.size_setCell, World.size_drew]; omega) | (simp [size_bytesW]; omega) | (simp; omega)))
  generalize w.alloc (.cells r.cells 23) = W1 at *
  have hlt1 := hB1.lt
  have hrr := RRat.of hB1
  unfold RRat at hrr
  go_cut [3] (fun v wx => v = .bool (bad1 r) ∧ W1 = wx)
  case first =>
    go_wp2
    all_goals
      go_meet
      exact ⟨vb (by simp [bad1, bne, *]), rfl⟩
  case rest =>
    obtain ⟨rfl, rfl⟩ := hcut
    cases e1 : bad1 r
    case true =>
      have E := hide (show chk r = 1 by simp [chk, e1])
      clear e1
      go_wp2
      go_ret
      exact ⟨ret_i E.out.symm, hbel1⟩
    have E1 := hide e1
    clear e1
    go_upto_region 3 with fail
    go_cut [32] (fun v wx => v = .bool (bad2 r) ∧ W1 = wx)
    case first =>
      go_wp2
      all_goals
        go_meet
        exact ⟨vb (by simp [bad2, bne, *]), rfl⟩
    case rest =>
    obtain ⟨rfl, rfl⟩ := hcut
    cases e2 : bad2 r
    case true =>
      have E := hide (show chk r = 1 by simp [chk, e2])
      clear e2
      go_wp2
      go_ret
      exact ⟨ret_i E.out.symm, hbel1⟩
    have E2 := hide e2
    clear e2
    go_upto_region 5 with fail
    go_cut [51] (fun v wx => v = .bool (bad3 r) ∧ W1 = wx)
    case first =>
      go_wp2
      all_goals
        go_meet
        exact ⟨vb (by rw [Bool.eq_iff_iff]; simp [bad3, bne, *] <;> omega), rfl⟩
    case rest =>
    obtain ⟨rfl, rfl⟩ := hcut
    cases e3 : bad3 r
    case true =>
      have E := hide (show chk r = 1 by simp [chk, e3])
      clear e3
      go_wp2
      go_ret
      exact ⟨ret_i E.out.symm, hbel1⟩
    have E3 := hide e3
    clear e3
    go_upto_region 7 with fail
    go_cut [64] (fun v wx => v = .bool (bad4 r) ∧ Below W1.heap.size W1 wx)
    case first =>
      have HL : Live W1 [w.heap.size] := ⟨hlt1, trivial⟩
      have hT1 := hT.below hbel1
      have hU1 : TabU W1 := hT1.1
      cases q2 : nameB r.name
      all_goals
        cases q4 : targetB r.target
        all_goals
          rw [q2] at NM
          rw [q4] at TG
          have Q2 := hide q2
          have Q4 := hide q4
          clear q2 q4
          go_wp2_with (first | (go_at_call 55; (with_reducible refine (NM.out _ hU1).mono ?_); rintro e w' ⟨rfl, hb⟩; have hz := hb.size; (try simp only [World.size_alloc, World.size_setCell, World.size_drew, Nat.add_assoc, Nat.reduceAdd] at hz); (first | obtain ⟨HL, hk⟩ := HL.call hb hz (by simp only [World.size_alloc, World.size_setCell, World.size_drew, Nat.add_assoc, Nat.reduceAdd]) | obtain ⟨HL, hk⟩ := HL.call0 hb hz (by first | rfl | simp only [World.size_alloc, World.size_setCell, World.size_drew, Nat.add_assoc, Nat.reduceAdd])); (try simp only [addN, Nat.add_zero] at HL hk); have hl := HL; simp only [Live] at hl; (try simp only [Kept] at hk)) | (go_at_call 39; (with_reducible refine (TG.out _ (by first | exact hT1 | exact hT1.below hb)).mono ?_); rintro e w' ⟨rfl, hb⟩; have hz := hb.size; (try simp only [World.size_alloc, World.size_setCell, World.size_drew, Nat.add_assoc, Nat.reduceAdd] at hz); (first | obtain ⟨HL, hk⟩ := HL.call hb hz (by simp only [World.size_alloc, World.size_setCell, World.size_drew, Nat.add_assoc, Nat.reduceAdd]) | obtain ⟨HL, hk⟩ := HL.call0 hb hz (by first | rfl | simp only [World.size_alloc, World.size_setCell, World.size_drew, Nat.add_assoc, Nat.reduceAdd])); (try simp only [addN, Nat.add_zero] at HL hk); have hl := HL; simp only [Live] at hl; (try simp only [Kept] at hk)))
          all_goals
            go_meet
            exact ⟨vb (by rw [Bool.eq_iff_iff]; simp [bad4, Q2.out, Q4.out, *]), by (repeat' (first | (with_reducible exact Below.refl _ _) | (with_reducible refine Below.alloc ?_ ?_ _) | (with_reducible refine Below.setCell ?_ ?_ _) | (with_reducible refine Below.drew ?_) | (with_reducible refine below_drewN' ?_) | (with_reducible refine below_bytesW ?_ ?_) | (with_reducible refine Below.trans ?_ (Below.mono (by assumption) ?_)) | omega | (simp only [World.size_alloc, World.size_setCell, World.size_drew]; omega) | (simp [size_bytesW]; omega) | (simp; omega)))⟩
    case rest =>
    obtain ⟨rfl, hb2⟩ := hcut
    cases e4 : bad4 r
    case true =>
      have E := hide (show chk r = 4 by simp [chk, e4, E1.out, E2.out, E3.out])
      clear e4
      go_wp2
      go_ret
      exact ⟨ret_i E.out.symm, hbel1.trans (hb2.mono hbel1.size)⟩
    have E4 := hide e4
    clear e4
    have hB2 := hB1.below hb2
    have hrr2 := RRat.of hB2
    unfold RRat at hrr2
    have hbel2 := hbel1.trans (hb2.mono hbel1.size)
    clear hrr hB1 hb2
    generalize wc = W2 at *
    have hlt2 := hB2.lt
    go_upto_region 9 with fail
    go_cut [84] (fun v wx => v = .bool (bad5 r) ∧ Below W2.heap.size W2 wx)
    case first =>
      have HCW := hide (five_at W2 3 r.links r.uid r.gid r.child r.parent)
      have HW := hide (p := wordsB r = (wordB r.links && wordB r.uid && wordB r.gid && wordB r.child && wordB r.parent)) rfl
      go_wp2_with (first | (go_at_call 61; (with_reducible refine (word5 _ _ _ _ _ _ _ HCW.out).mono ?_); rintro e w' ⟨rfl, rfl⟩))
      all_goals
        go_meet
        exact ⟨vb (by rw [Bool.eq_iff_iff]; simp [bad5, HW.out, *] <;> first | done | omega | (have q : ¬ (r.mode < 0 ∨ 4095 < r.mode) := by omega; simp [q])), by (repeat' (first | (with_reducible exact Below.refl _ _) | (with_reducible refine Below.alloc ?_ ?_ _) | (with_reducible refine Below.setCell ?_ ?_ _) | (with_reducible refine Below.drew ?_) | (with_reducible refine below_drewN' ?_) | (with_reducible refine below_bytesW ?_ ?_) | (with_reducible refine Below.trans ?_ (Below.mono (by assumption) ?_)) | omega | (simp only [World.size_alloc, World.size_setCell, World.size_drew]; omega) | (simp [size_bytesW]; omega) | (simp; omega)))⟩
    case rest =>
    obtain ⟨rfl, hb3⟩ := hcut
    cases e5 : bad5 r
    case true =>
      have E := hide (show chk r = 2 by simp [chk, e5, E1.out, E2.out, E3.out, E4.out])
      clear e5
      go_wp2
      go_ret
      exact ⟨ret_i E.out.symm, hbel2.trans (hb3.mono hbel2.size)⟩
    have E5 := hide e5
    clear e5
    have hB3 := hB2.below hb3
    have hrr3 := RRat.of hB3
    unfold RRat at hrr3
    have hbel3 := hbel2.trans (hb3.mono hbel2.size)
    clear hrr2 hB2 hb3
    generalize wc = W3 at *
    go_upto_region 11 with fail
    go_cut [108] (fun v wx => v = .bool (bad6 r) ∧ W3 = wx)
    case first =>
      go_wp2
      all_goals
        go_meet
        exact ⟨vb (by rw [Bool.eq_iff_iff]; simp [bad6, timeB, bne, *] <;> omega), rfl⟩
    case rest =>
    obtain ⟨rfl, rfl⟩ := hcut
    cases e6 : bad6 r
    case true =>
      have E := hide (show chk r = 2 by simp [chk, e6, E1.out, E2.out, E3.out, E4.out])
      clear e6
      go_wp2
      go_ret
      exact ⟨ret_i E.out.symm, hbel3⟩
    case false =>
      have E := hide (show chk r = 0 by simp [chk, e6, E1.out, E2.out, E3.out, E4.out, E5.out])
      clear e6
      go_wp2
      go_ret
      exact ⟨ret_i E.out.symm, hbel3⟩
end Go.Proofs.YtopajpomhflgbaaGreatDoor
