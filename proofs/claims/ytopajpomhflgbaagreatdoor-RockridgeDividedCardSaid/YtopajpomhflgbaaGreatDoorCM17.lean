/- The chapter's example, and that the program is awake (the walk of the latter is not done). -/
import Derived.Test.YtopajpomhflgbaaGreatDoorCM14
import Derived.Test.YtopajpomhflgbaaGreatDoorCM15
import Derived.Test.YtopajpomhflgbaaGreatDoorCM4
import Derived.Test.YtopajpomhflgbaaGreatDoorCM6
namespace Go.Proofs.YtopajpomhflgbaaGreatDoor
set_option linter.unusedSimpArgs false
set_option linter.unusedVariables false
open Go.RowKit

abbrev exT : ByteArray := ⟨#[47, 97, 47, 46, 46, 47, 98, 46, 99]⟩
abbrev exC : ByteArray := ⟨#[8, 0, 0, 1, 97, 4, 0, 0, 3, 98, 46, 99]⟩
def exR : RR := ⟨true, 2, 511, 1, 0, 0, true, ⟨#[108, 105, 110, 107]⟩, exT, true, 315532800, 0, 0, false⟩
set_option maxHeartbeats 1000000 in
theorem ex_any (w : World) : Calls Tryz.prog 26 #[] w fun e w' => e = .returned (.agg exR.cells) ∧ Below w.heap.size w w' := by
  have HL : Live w [] := trivial
  go_enter Tryz.func26, Tryz.ntmps26
  go_wp2
  ((try simp only [Exit.inBlock, Exit.then]); refine bodyPost_ret (by simp only [results, Tryz.results26]; go_simp; try rfl) rfl ?_)
  exact ⟨rfl, by (repeat' (first | (with_reducible exact Below.refl _ _) | (with_reducible refine Below.alloc ?_ ?_ _) | (with_reducible refine Below.setCell ?_ ?_ _) | (with_reducible refine Below.drew ?_) | (with_reducible refine below_drewN' ?_) | (with_reducible refine below_bytesW ?_ ?_) | (with_reducible refine Below.trans ?_ (Below.mono (by assumption) ?_)) | omega | (simp only [World.size_alloc, World.size_setCell, World.size_drew]; omega) | (simp [size_bytesW]; omega) | (simp; omega)))⟩
theorem ex_target : targetB exT = true := by decide +kernel
theorem ex_comps : compsB exT = exC := by decide +kernel
theorem ex_ok : chk exR = 0 := by decide +kernel
theorem ex_px : pxS exR = ⟨#[255, 161, 0, 0, 0, 0, 161, 255, 1, 0, 0, 0, 0, 0, 0, 1, 0, 0, 0, 0, 0, 0, 0, 0, 0, 0, 0, 0, 0, 0, 0, 0]⟩ := by decide +kernel
theorem ex_ents : ents exR = [⟨sPX, 1, pxS exR⟩, ⟨sNM, 1, ⟨#[0, 108, 105, 110, 107]⟩⟩, ⟨sSL, 1, ⟨#[0, 8, 0, 0, 1, 97, 4, 0, 0, 3, 98, 46, 99]⟩⟩, ⟨sTF, 1, cat2 [2] (Dt.recT 315532800)⟩] := by
  have h2 : en2 exR = [⟨sNM, 1, ⟨#[0, 108, 105, 110, 107]⟩⟩] := by decide +kernel
  have h3 : en3 exR = [⟨sSL, 1, ⟨#[0, 8, 0, 0, 1, 97, 4, 0, 0, 3, 98, 46, 99]⟩⟩] := by decide +kernel
  unfold ents
  rw [h2, h3]
  rfl
end Go.Proofs.YtopajpomhflgbaaGreatDoor
/- The program is awake. -/
namespace Go.Proofs.YtopajpomhflgbaaGreatDoor
set_option linter.unusedSimpArgs false
set_option linter.unusedVariables false
open Go.RowKit

set_option maxRecDepth 100000 in
set_option maxHeartbeats 16000000 in
theorem awake_any (w : World) (hT : TabV w) : Calls Tryz.prog 8 #[] w fun e w' => e = .returned (.bool true) ∧ Below w.heap.size w w' := by
  have AC := hide (fun W hW => comps_yes exT ex_target W hW)
  rw [ex_comps] at AC
  have AT := hide (fun W hW => tgt_comps exT ex_target W hW)
  rw [ex_comps] at AT
  have AE := hide (fun W hW => entries_any exR (by decide) (by decide) W hW)
  have AR := hide (fun L a W (hs : Says L exR) hW ha => read_says L exR hs a W hW ha)
  have HL : Live w [] := trivial
  go_enter Tryz.func8, Tryz.ntmps8
  go_wp2_with fail
  refine (AC.out _ hT).mono ?_
  rintro e w1 ⟨rfl, hb1⟩
  have hT1 := hT.below hb1
  go_wp2_with fail
  refine (AT.out _ hT1).mono ?_
  rintro e w2 ⟨rfl, hb2⟩
  have hT2 := hT1.below hb2
  go_wp2_with fail
  refine (ex_any _).mono ?_
  rintro e w3 ⟨rfl, hb3⟩
  have hT3 := hT2.below hb3
  go_wp2_with fail
  refine (AE.out _ hT3).mono ?_
  intro e w4 hE
  unfold EntP at hE
  rw [if_pos ex_ok] at hE
  obtain ⟨⟨v, rfl, hown⟩, hb4⟩ := hE
  have hT4 := hT3.below hb4
  have hbel4 := ((hb1.trans (hb2.mono hb1.size)).trans (hb3.mono (by have := hb1.size; have := hb2.size; omega))).trans (hb4.mono (by have := hb1.size; have := hb2.size; have := hb3.size; omega))
  have hz4 := hbel4.size
  have hrd := ReadsE.of hown
  have hlen : (ents exR).length = 4 := by rw [ex_ents]; rfl
  obtain ⟨g, cap, rfl⟩ := Go.Joins.ownsRow_form hown (by rw [hlen]; omega)
  have hcells : ∀ j u, (entsV (ents exR))[j]? = some u → w4.cell? ⟨g, j, none⟩ = some u := fun j u hu => by
    rw [hown.cellAt j (by have := (List.getElem?_eq_some_iff.1 hu).1; rw [entsV_len] at this; exact this)]
    exact hu
  have hg := (hown.lt g rfl).2
  rw [hlen]
  rw [ex_ents] at hcells
  have c0 : w4.cell? ⟨g, 0, none⟩ = some (.string sPX) := hcells 0 _ rfl
  have c2 : w4.cell? ⟨g, 2, none⟩ = some (.string (pxS exR)) := hcells 2 _ rfl
  have c5 : w4.cell? ⟨g, 5, none⟩ = some (.string ⟨#[0, 108, 105, 110, 107]⟩) := hcells 5 _ rfl
  have c8 : w4.cell? ⟨g, 8, none⟩ = some (.string ⟨#[0, 8, 0, 0, 1, 97, 4, 0, 0, 3, 98, 46, 99]⟩) := hcells 8 _ rfl
  have c9 : w4.cell? ⟨g, 9, none⟩ = some (.string sTF) := hcells 9 _ rfl
  obtain ⟨X, hX⟩ : ∃ X, X = pxS exR := ⟨_, rfl⟩
  have hXs : X.size = 32 := by rw [hX, ex_px]; rfl
  have hXe : X.extract 0 2 = ⟨#[255, 161]⟩ := by rw [hX, ex_px]; decide +kernel
  rw [← hX] at c2
  have RD := hide (AR _ _ w4 (says_ents exR ex_ok) hT4 hrd)
  rw [hlen] at RD
  clear hcells hown hrd hX AC AT AE AR hlen
  go_wp2_with fail
  refine RD.out.mono ?_
  rintro e w5 ⟨rfl, hb5⟩
  have hz5 := hb5.size
  unfold RR.cells exR
  simp only
  go_wp2_with fail
  refine (ext_any _).mono ?_
  rintro e w6 ⟨rfl, hb6⟩
  have hz6 := hb6.size
  go_upto_region 8 with fail
  have hB7 : Blk w6 w5.heap.size #[.bool true, .int .i64 2, .int .i64 511, .int .i64 1, .int .i64 0, .int .i64 0, .bool true, .string ⟨#[108, 105, 110, 107]⟩, .string exT, .bool true, .int .i64 315532800, .int .i64 0, .int .i64 0, .bool false] 23 := (Blk.newAt rfl).below hb6
  have hlt7 := hB7.lt
  have hrr := RRat.of (r := exR) hB7
  unfold RRat exR at hrr
  simp only at hrr
  have HL : Live w6 [w5.heap.size] := ⟨hlt7, trivial⟩
  have hER : sER = ⟨#[69, 82]⟩ := rfl
  have hD1 : extD.size = 34 := rfl
  have hD2 : extD.extract 4 14 = ⟨#[82, 82, 73, 80, 95, 49, 57, 57, 49, 65]⟩ := by decide +kernel
  have heq : ∀ W, (binOp .eql 23 (.agg #[.bool true, .int .i64 2, .int .i64 511, .int .i64 1, .int .i64 0, .int .i64 0, .bool true, .string ⟨#[108, 105, 110, 107]⟩, .string exT, .bool true, .int .i64 315532800, .int .i64 0, .int .i64 0, .bool false]) (.agg #[.bool true, .int .i64 2, .int .i64 511, .int .i64 1, .int .i64 0, .int .i64 0, .bool true, .string ⟨#[108, 105, 110, 107]⟩, .string exT, .bool true, .int .i64 315532800, .int .i64 0, .int .i64 0, .bool false])).run Tryz.prog W = .ok (.bool true) W := fun _ => by kernel_rfl
  have EX := hide (show ∀ W, Calls Tryz.prog 26 #[] W fun e w' => e = .returned (.agg #[.bool true, .int .i64 2, .int .i64 511, .int .i64 1, .int .i64 0, .int .i64 0, .bool true, .string ⟨#[108, 105, 110, 107]⟩, .string exT, .bool true, .int .i64 315532800, .int .i64 0, .int .i64 0, .bool false]) ∧ Below W.heap.size W w' from fun W => ex_any W)
  refine wp_region_noPanic ?_
  refine wp_region_held_drew (S := (fun x => x.cell? ⟨w5.heap.size, 0, none⟩ = some (.bool true) ∧ x.cell? ⟨w5.heap.size, 1, none⟩ = some (.int .i64 2) ∧ x.cell? ⟨w5.heap.size, 2, none⟩ = some (.int .i64 511) ∧ x.cell? ⟨w5.heap.size, 3, none⟩ = some (.int .i64 1) ∧ x.cell? ⟨w5.heap.size, 4, none⟩ = some (.int .i64 0) ∧ x.cell? ⟨w5.heap.size, 5, none⟩ = some (.int .i64 0) ∧ x.cell? ⟨w5.heap.size, 6, none⟩ = some (.bool true) ∧ x.cell? ⟨w5.heap.size, 7, none⟩ = some (.string ⟨#[108, 105, 110, 107]⟩) ∧ x.cell? ⟨w5.heap.size, 8, none⟩ = some (.string exT) ∧ x.cell? ⟨w5.heap.size, 9, none⟩ = some (.bool true) ∧ x.cell? ⟨w5.heap.size, 10, none⟩ = some (.int .i64 315532800) ∧ x.cell? ⟨w5.heap.size, 11, none⟩ = some (.int .i64 0) ∧ x.cell? ⟨w5.heap.size, 12, none⟩ = some (.int .i64 0) ∧ x.cell? ⟨w5.heap.size, 13, none⟩ = some (.bool false) ∧ x.cell? ⟨w6.heap.size, 0, none⟩ = some (.string ⟨#[69, 82]⟩) ∧ x.cell? ⟨w6.heap.size, 1, none⟩ = some (.int .i64 1) ∧ x.cell? ⟨w6.heap.size, 2, none⟩ = some (.string extD))) (by kernel_rfl) (by (try dsimp only); first | assumption | (simp [*, go_sem]; done) | (refine ⟨?_, ?_⟩ <;> simp [*, go_sem])) (fun hHeld => ?_)
  refine wpAnyH_take (i := 0) (oi := { dst := some 96, op := Go.Op.move (Go.Operand.tmp 8), type := 27, pos := "law.go:30", after := #[], guard := none }) (v := ?_) rfl (by kernel_rfl) (by kernel_rfl) (by kernel_rfl) (fun _ _ _ h => h) (Or.inl ⟨by rfl, ?_⟩) (by assumption) ?_
  rotate_left
  · intro w hSw; (try dsimp only at hSw); go_simp; (try with_reducible rfl)
  try simp only [Act.put, List.setIfInBounds_toArray, List.set_cons_zero, List.set_cons_succ]
  refine wpAnyH_take (i := 1) (oi := { dst := some 97, op := Go.Op.binOp Go.BinOp.eql 27 (Go.Operand.tmp 96) (Go.Operand.const (Go.Value.int Go.IntKind.i64 0)) 27, type := 4, pos := "law.go:30", after := #[{ on := 0, ground := Go.Ground.data }], guard := none }) (v := ?_) rfl (by kernel_rfl) (by kernel_rfl) (by kernel_rfl) (fun _ _ _ h => h) (Or.inl ⟨by rfl, ?_⟩) (by assumption) ?_
  rotate_left
  · intro w hSw; (try dsimp only at hSw); go_simp; (try with_reducible rfl)
  try simp only [Act.put, List.setIfInBounds_toArray, List.set_cons_zero, List.set_cons_succ]
  refine wpAnyH_take (i := 2) (oi := { dst := some 98, op := Go.Op.move (Go.Operand.tmp 97), type := 4, pos := "law.go:30", after := #[{ on := 1, ground := Go.Ground.data }], guard := none }) (v := ?_) rfl (by kernel_rfl) (by kernel_rfl) (by kernel_rfl) (fun _ _ _ h => h) (Or.inl ⟨by rfl, ?_⟩) (by assumption) ?_
  rotate_left
  · intro w hSw; (try dsimp only at hSw); go_simp; (try with_reducible rfl)
  try simp only [Act.put, List.setIfInBounds_toArray, List.set_cons_zero, List.set_cons_succ]
  refine wpAnyH_take (i := 3) (oi := { dst := some 99, op := Go.Op.load 23 (Go.Operand.tmp 7), type := 23, pos := "law.go:30", after := #[{ on := 2, ground := Go.Ground.guard }], guard := some (2, true) }) (v := ?_) rfl (by kernel_rfl) (by kernel_rfl) (by kernel_rfl) (fun _ _ _ h => h) (Or.inl ⟨by rfl, ?_⟩) (by assumption) ?_
  rotate_left
  · intro w hSw; (try dsimp only at hSw); go_simp; (try with_reducible rfl)
  try simp only [Act.put, List.setIfInBounds_toArray, List.set_cons_zero, List.set_cons_succ]
  refine wpAnyH_ready (rs := [4]) (by kernel_rfl) (by simp) ?_
  refine AllReadyH.cons (o := { dst := some 100, op := Go.Op.call { callee := Go.Callee.value (Go.Operand.func 26), args := #[], argTypes := #[] }, type := 23, pos := "law.go:30", after := #[{ on := 2, ground := Go.Ground.chain }, { on := 2, ground := Go.Ground.guard }], guard := some (2, true) }) rfl (fun K hK => ?_) AllReadyH.nil
  go_simp
  (first | (go_at_call 26; (with_reducible refine (EX.out _).mono ?_); rintro e w' ⟨rfl, hb⟩; have hz := hb.size; (try simp only [World.size_alloc, World.size_setCell, World.size_drew, Nat.add_assoc, Nat.reduceAdd] at hz); (first | obtain ⟨HL, hk⟩ := HL.call hb hz (by simp only [World.size_alloc, World.size_setCell, World.size_drew, Nat.add_assoc, Nat.reduceAdd]) | obtain ⟨HL, hk⟩ := HL.call0 hb hz (by first | rfl | simp only [World.size_alloc, World.size_setCell, World.size_drew, Nat.add_assoc, Nat.reduceAdd])); (try simp only [addN, Nat.add_zero] at HL hk); have hl := HL; simp only [Live] at hl; (try simp only [Kept] at hk)))
  go_wp2_with fail
  refine hK.out _ _ (by (try dsimp only); first | assumption | (simp [*, go_sem]; done) | (refine ⟨?_, ?_⟩ <;> simp [*, go_sem])) (fun hHeld => ?_)
  clear hK K
  try simp only [Act.put, List.setIfInBounds_toArray, List.set_cons_zero, List.set_cons_succ]
  refine wpAnyH_take (i := 5) (oi := { dst := some 101, op := Go.Op.binOp Go.BinOp.eql 23 (Go.Operand.tmp 99) (Go.Operand.tmp 100) 23, type := 4, pos := "law.go:30", after := #[{ on := 3, ground := Go.Ground.data }, { on := 4, ground := Go.Ground.data }, { on := 2, ground := Go.Ground.guard }], guard := some (2, true) }) (v := ?_) rfl (by kernel_rfl) (by kernel_rfl) (by kernel_rfl) (fun _ _ _ h => h) (Or.inl ⟨by rfl, ?_⟩) (by assumption) ?_
  rotate_left
  · intro w hSw; (try dsimp only at hSw); go_simp; (try with_reducible rfl)
  try simp only [Act.put, List.setIfInBounds_toArray, List.set_cons_zero, List.set_cons_succ]
  refine wpAnyH_take (i := 6) (oi := { dst := some 102, op := Go.Op.pick (Go.Operand.tmp 98) (Go.Operand.tmp 101) (Go.Operand.const (Go.Value.bool false)), type := 4, pos := "law.go:30", after := #[{ on := 2, ground := Go.Ground.data }, { on := 5, ground := Go.Ground.data }], guard := none }) (v := ?_) rfl (by kernel_rfl) (by kernel_rfl) (by kernel_rfl) (fun _ _ _ h => h) (Or.inl ⟨by rfl, ?_⟩) (by assumption) ?_
  rotate_left
  · intro w hSw; (try dsimp only at hSw); go_simp; (try with_reducible rfl)
  try simp only [Act.put, List.setIfInBounds_toArray, List.set_cons_zero, List.set_cons_succ]
  refine wpAnyH_take (i := 7) (oi := { dst := some 103, op := Go.Op.move (Go.Operand.tmp 102), type := 4, pos := "law.go:30", after := #[{ on := 6, ground := Go.Ground.data }, { on := 4, ground := Go.Ground.chain }], guard := none }) (v := ?_) rfl (by kernel_rfl) (by kernel_rfl) (by kernel_rfl) (fun _ _ _ h => h) (Or.inl ⟨by rfl, ?_⟩) (by assumption) ?_
  rotate_left
  · intro w hSw; (try dsimp only at hSw); go_simp; (try with_reducible rfl)
  try simp only [Act.put, List.setIfInBounds_toArray, List.set_cons_zero, List.set_cons_succ]
  refine wpAnyH_take (i := 8) (oi := { dst := some 104, op := Go.Op.fieldAddr 32 (Go.Operand.tmp 9) 0, type := 0, pos := "law.go:30", after := #[{ on := 7, ground := Go.Ground.guard }], guard := some (7, true) }) (v := ?_) rfl (by kernel_rfl) (by kernel_rfl) (by kernel_rfl) (fun _ _ _ h => h) (Or.inl ⟨by rfl, ?_⟩) (by assumption) ?_
  rotate_left
  · intro w hSw; (try dsimp only at hSw); go_simp; (try with_reducible rfl)
  try simp only [Act.put, List.setIfInBounds_toArray, List.set_cons_zero, List.set_cons_succ]
  refine wpAnyH_take (i := 9) (oi := { dst := some 105, op := Go.Op.load 9 (Go.Operand.tmp 104), type := 9, pos := "law.go:30", after := #[{ on := 8, ground := Go.Ground.data }, { on := 7, ground := Go.Ground.guard }], guard := some (7, true) }) (v := ?_) rfl (by kernel_rfl) (by kernel_rfl) (by kernel_rfl) (fun _ _ _ h => h) (Or.inl ⟨by rfl, ?_⟩) (by assumption) ?_
  rotate_left
  · intro w hSw; (try dsimp only at hSw); go_simp; (try with_reducible rfl)
  try simp only [Act.put, List.setIfInBounds_toArray, List.set_cons_zero, List.set_cons_succ]
  refine wpAnyH_take (i := 10) (oi := { dst := some 106, op := Go.Op.binOp Go.BinOp.eql 9 (Go.Operand.tmp 105) (Go.Operand.const (Go.Value.string { data := #[69, 82] })) 9, type := 4, pos := "law.go:30", after := #[{ on := 9, ground := Go.Ground.data }, { on := 7, ground := Go.Ground.guard }], guard := some (7, true) }) (v := ?_) rfl (by kernel_rfl) (by kernel_rfl) (by kernel_rfl) (fun _ _ _ h => h) (Or.inl ⟨by rfl, ?_⟩) (by assumption) ?_
  rotate_left
  · intro w hSw; (try dsimp only at hSw); go_simp; (try with_reducible rfl)
  try simp only [Act.put, List.setIfInBounds_toArray, List.set_cons_zero, List.set_cons_succ]
  refine wpAnyH_take (i := 11) (oi := { dst := some 107, op := Go.Op.pick (Go.Operand.tmp 103) (Go.Operand.tmp 106) (Go.Operand.const (Go.Value.bool false)), type := 4, pos := "law.go:30", after := #[{ on := 7, ground := Go.Ground.data }, { on := 10, ground := Go.Ground.data }], guard := none }) (v := ?_) rfl (by kernel_rfl) (by kernel_rfl) (by kernel_rfl) (fun _ _ _ h => h) (Or.inl ⟨by rfl, ?_⟩) (by assumption) ?_
  rotate_left
  · intro w hSw; (try dsimp only at hSw); go_simp; (try with_reducible rfl)
  try simp only [Act.put, List.setIfInBounds_toArray, List.set_cons_zero, List.set_cons_succ]
  refine wpAnyH_take (i := 12) (oi := { dst := some 108, op := Go.Op.move (Go.Operand.tmp 107), type := 4, pos := "law.go:30", after := #[{ on := 11, ground := Go.Ground.data }, { on := 7, ground := Go.Ground.chain }], guard := none }) (v := ?_) rfl (by kernel_rfl) (by kernel_rfl) (by kernel_rfl) (fun _ _ _ h => h) (Or.inl ⟨by rfl, ?_⟩) (by assumption) ?_
  rotate_left
  · intro w hSw; (try dsimp only at hSw); go_simp; (try with_reducible rfl)
  try simp only [Act.put, List.setIfInBounds_toArray, List.set_cons_zero, List.set_cons_succ]
  refine wpAnyH_take (i := 13) (oi := { dst := some 109, op := Go.Op.fieldAddr 32 (Go.Operand.tmp 9) 2, type := 0, pos := "law.go:30", after := #[{ on := 12, ground := Go.Ground.guard }], guard := some (12, true) }) (v := ?_) rfl (by kernel_rfl) (by kernel_rfl) (by kernel_rfl) (fun _ _ _ h => h) (Or.inl ⟨by rfl, ?_⟩) (by assumption) ?_
  rotate_left
  · intro w hSw; (try dsimp only at hSw); go_simp; (try with_reducible rfl)
  try simp only [Act.put, List.setIfInBounds_toArray, List.set_cons_zero, List.set_cons_succ]
  refine wpAnyH_take (i := 14) (oi := { dst := some 110, op := Go.Op.load 9 (Go.Operand.tmp 109), type := 9, pos := "law.go:30", after := #[{ on := 13, ground := Go.Ground.data }, { on := 12, ground := Go.Ground.guard }], guard := some (12, true) }) (v := ?_) rfl (by kernel_rfl) (by kernel_rfl) (by kernel_rfl) (fun _ _ _ h => h) (Or.inl ⟨by rfl, ?_⟩) (by assumption) ?_
  rotate_left
  · intro w hSw; (try dsimp only at hSw); go_simp; (try with_reducible rfl)
  try simp only [Act.put, List.setIfInBounds_toArray, List.set_cons_zero, List.set_cons_succ]
  refine wpAnyH_ready (rs := [15]) (by kernel_rfl) (by simp) ?_
  refine AllReadyH.cons (o := { dst := some 111, op := Go.Op.call { callee := Go.Callee.builtin Go.Builtin.len, args := #[Go.Operand.tmp 110], argTypes := #[9] }, type := 3, pos := "law.go:30", after := #[{ on := 14, ground := Go.Ground.data }, { on := 12, ground := Go.Ground.guard }], guard := some (12, true) }) rfl (fun K hK => ?_) AllReadyH.nil
  go_simp
  refine hK.out _ _ (by (try dsimp only); first | assumption | (simp [*, go_sem]; done) | (refine ⟨?_, ?_⟩ <;> simp [*, go_sem])) (fun hHeld => ?_)
  clear hK K
  try simp only [Act.put, List.setIfInBounds_toArray, List.set_cons_zero, List.set_cons_succ]
  refine wpAnyH_take (i := 16) (oi := { dst := some 112, op := Go.Op.binOp Go.BinOp.eql 3 (Go.Operand.tmp 111) (Go.Operand.const (Go.Value.int Go.IntKind.i64 34)) 3, type := 4, pos := "law.go:30", after := #[{ on := 15, ground := Go.Ground.data }, { on := 12, ground := Go.Ground.guard }], guard := some (12, true) }) (v := ?_) rfl (by kernel_rfl) (by kernel_rfl) (by kernel_rfl) (fun _ _ _ h => h) (Or.inl ⟨by rfl, ?_⟩) (by assumption) ?_
  rotate_left
  · intro w hSw; (try dsimp only at hSw); go_simp; (try with_reducible rfl)
  try simp only [Act.put, List.setIfInBounds_toArray, List.set_cons_zero, List.set_cons_succ]
  refine wpAnyH_take (i := 17) (oi := { dst := some 113, op := Go.Op.pick (Go.Operand.tmp 108) (Go.Operand.tmp 112) (Go.Operand.const (Go.Value.bool false)), type := 4, pos := "law.go:30", after := #[{ on := 12, ground := Go.Ground.data }, { on := 16, ground := Go.Ground.data }], guard := none }) (v := ?_) rfl (by kernel_rfl) (by kernel_rfl) (by kernel_rfl) (fun _ _ _ h => h) (Or.inl ⟨by rfl, ?_⟩) (by assumption) ?_
  rotate_left
  · intro w hSw; (try dsimp only at hSw); go_simp; (try with_reducible rfl)
  try simp only [Act.put, List.setIfInBounds_toArray, List.set_cons_zero, List.set_cons_succ]
  refine wpAnyH_take (i := 18) (oi := { dst := some 114, op := Go.Op.move (Go.Operand.tmp 113), type := 4, pos := "law.go:30", after := #[{ on := 17, ground := Go.Ground.data }, { on := 12, ground := Go.Ground.chain }], guard := none }) (v := ?_) rfl (by kernel_rfl) (by kernel_rfl) (by kernel_rfl) (fun _ _ _ h => h) (Or.inl ⟨by rfl, ?_⟩) (by assumption) ?_
  rotate_left
  · intro w hSw; (try dsimp only at hSw); go_simp; (try with_reducible rfl)
  try simp only [Act.put, List.setIfInBounds_toArray, List.set_cons_zero, List.set_cons_succ]
  refine wpAnyH_take (i := 19) (oi := { dst := some 115, op := Go.Op.fieldAddr 32 (Go.Operand.tmp 9) 2, type := 0, pos := "law.go:30", after := #[{ on := 18, ground := Go.Ground.guard }], guard := some (18, true) }) (v := ?_) rfl (by kernel_rfl) (by kernel_rfl) (by kernel_rfl) (fun _ _ _ h => h) (Or.inl ⟨by rfl, ?_⟩) (by assumption) ?_
  rotate_left
  · intro w hSw; (try dsimp only at hSw); go_simp; (try with_reducible rfl)
  try simp only [Act.put, List.setIfInBounds_toArray, List.set_cons_zero, List.set_cons_succ]
  refine wpAnyH_take (i := 20) (oi := { dst := some 116, op := Go.Op.load 9 (Go.Operand.tmp 115), type := 9, pos := "law.go:30", after := #[{ on := 19, ground := Go.Ground.data }, { on := 18, ground := Go.Ground.guard }], guard := some (18, true) }) (v := ?_) rfl (by kernel_rfl) (by kernel_rfl) (by kernel_rfl) (fun _ _ _ h => h) (Or.inl ⟨by rfl, ?_⟩) (by assumption) ?_
  rotate_left
  · intro w hSw; (try dsimp only at hSw); go_simp; (try with_reducible rfl)
  try simp only [Act.put, List.setIfInBounds_toArray, List.set_cons_zero, List.set_cons_succ]
  refine wpAnyH_take (i := 21) (oi := { dst := some 117, op := Go.Op.slice 9 (Go.Operand.tmp 116) (some (Go.Operand.const (Go.Value.int Go.IntKind.i64 4))) (some (Go.Operand.const (Go.Value.int Go.IntKind.i64 14))) none, type := 9, pos := "law.go:30", after := #[{ on := 20, ground := Go.Ground.data }, { on := 18, ground := Go.Ground.guard }], guard := some (18, true) }) (v := ?_) rfl (by kernel_rfl) (by kernel_rfl) (by kernel_rfl) (fun _ _ _ h => h) (Or.inl ⟨by rfl, ?_⟩) (by assumption) ?_
  rotate_left
  · intro w hSw; (try dsimp only at hSw); go_simp; (try with_reducible rfl)
  try simp only [Act.put, List.setIfInBounds_toArray, List.set_cons_zero, List.set_cons_succ]
  refine wpAnyH_take (i := 22) (oi := { dst := some 118, op := Go.Op.binOp Go.BinOp.eql 9 (Go.Operand.tmp 117) (Go.Operand.const (Go.Value.string { data := #[82, 82, 73, 80, 95, 49, 57, 57, 49, 65] })) 9, type := 4, pos := "law.go:30", after := #[{ on := 21, ground := Go.Ground.data }, { on := 18, ground := Go.Ground.guard }], guard := some (18, true) }) (v := ?_) rfl (by kernel_rfl) (by kernel_rfl) (by kernel_rfl) (fun _ _ _ h => h) (Or.inl ⟨by rfl, ?_⟩) (by assumption) ?_
  rotate_left
  · intro w hSw; (try dsimp only at hSw); go_simp; (try with_reducible rfl)
  try simp only [Act.put, List.setIfInBounds_toArray, List.set_cons_zero, List.set_cons_succ]
  refine wpAnyH_take (i := 23) (oi := { dst := some 119, op := Go.Op.pick (Go.Operand.tmp 114) (Go.Operand.tmp 118) (Go.Operand.const (Go.Value.bool false)), type := 4, pos := "law.go:30", after := #[{ on := 18, ground := Go.Ground.data }, { on := 22, ground := Go.Ground.data }], guard := none }) (v := ?_) rfl (by kernel_rfl) (by kernel_rfl) (by kernel_rfl) (fun _ _ _ h => h) (Or.inl ⟨by rfl, ?_⟩) (by assumption) ?_
  rotate_left
  · intro w hSw; (try dsimp only at hSw); go_simp; (try with_reducible rfl)
  try simp only [Act.put, List.setIfInBounds_toArray, List.set_cons_zero, List.set_cons_succ]
  refine wpAnyH_take (i := 24) (oi := { dst := some 0, op := Go.Op.assign (Go.Operand.tmp 119), type := 4, pos := "law.go:30", after := #[{ on := 23, ground := Go.Ground.data }, { on := 18, ground := Go.Ground.chain }, { on := 0, ground := Go.Ground.phase }, { on := 1, ground := Go.Ground.phase }, { on := 2, ground := Go.Ground.phase }, { on := 3, ground := Go.Ground.phase }, { on := 4, ground := Go.Ground.phase }, { on := 5, ground := Go.Ground.phase }, { on := 6, ground := Go.Ground.phase }, { on := 7, ground := Go.Ground.phase }, { on := 8, ground := Go.Ground.phase }, { on := 9, ground := Go.Ground.phase }, { on := 10, ground := Go.Ground.phase }, { on := 11, ground := Go.Ground.phase }, { on := 12, ground := Go.Ground.phase }, { on := 13, ground := Go.Ground.phase }, { on := 14, ground := Go.Ground.phase }, { on := 15, ground := Go.Ground.phase }, { on := 16, ground := Go.Ground.phase }, { on := 17, ground := Go.Ground.phase }, { on := 18, ground := Go.Ground.phase }, { on := 19, ground := Go.Ground.phase }, { on := 20, ground := Go.Ground.phase }, { on := 21, ground := Go.Ground.phase }, { on := 22, ground := Go.Ground.phase }, { on := 23, ground := Go.Ground.phase }], guard := none }) (v := ?_) rfl (by kernel_rfl) (by kernel_rfl) (by kernel_rfl) (fun _ _ _ h => h) (Or.inl ⟨by rfl, ?_⟩) (by assumption) ?_
  rotate_left
  · intro w hSw; (try dsimp only at hSw); go_simp; (try with_reducible rfl)
  try simp only [Act.put, List.setIfInBounds_toArray, List.set_cons_zero, List.set_cons_succ]
  refine wpAnyH_done (by kernel_rfl) ?_ _
  refine NoPanic.normal ?_
  all_goals
    go_wp2
    go_ret
    exact ⟨rfl, by (repeat' (first | (with_reducible exact Below.refl _ _) | (with_reducible refine Below.alloc ?_ ?_ _) | (with_reducible refine Below.setCell ?_ ?_ _) | (with_reducible refine Below.drew ?_) | (with_reducible refine below_drewN' ?_) | (with_reducible refine below_bytesW ?_ ?_) | (with_reducible refine Below.trans ?_ (Below.mono (by assumption) ?_)) | omega | (simp only [World.size_alloc, World.size_setCell, World.size_drew]; omega) | (simp [size_bytesW]; omega) | (simp; omega)))⟩
end Go.Proofs.YtopajpomhflgbaaGreatDoor
