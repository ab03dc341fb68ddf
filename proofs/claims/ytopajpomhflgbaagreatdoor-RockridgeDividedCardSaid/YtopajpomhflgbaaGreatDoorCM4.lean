/- Contract of rockridge.Entries: the walk. -/
import Derived.Test.YtopajpomhflgbaaGreatDoorCM1
import Derived.Lib.EndianBits
namespace Go.Proofs.YtopajpomhflgbaaGreatDoor
set_option linter.unusedSimpArgs false
set_option linter.unusedVariables false
open Go.RowKit

theorem or_low (m B : Int) (hm : 0 ≤ m ∧ m ≤ 4095) (h0 : 0 ≤ B) (h1 : B < 9223372036854775808) (h2 : B % 4096 = 0) : bits .or .i64 m B = m + B :=
  bits_join_low .i64 63 (by decide) (fun n h0 h1 => IntWalk.i64_in n (by omega)) 12 m B hm.1 (by omega) (by omega) h0 h2 (by omega)
set_option maxRecDepth 100000 in
set_option maxHeartbeats 16000000 in
theorem entries_any (r : RR) (hn : r.name.size ≤ 60000) (ht : r.target.size ≤ 60000) (w : World) (hT : TabV w) : Calls Tryz.prog 10 #[.agg r.cells] w (EntP r w) := by
  have CK := hide (fun W hW => check_lit r hn ht W hW)
  have hB0 : Blk (w.alloc (.cells r.cells 23)) w.heap.size r.cells 23 := Blk.newAt rfl
  have hbel0 : Below w.heap.size w (w.alloc (.cells r.cells 23)) := by (repeat' (first | (with_reducible exact Below.refl _ _) | (with_reducible refine Below.alloc ?_ ?_ _) | (with_reducible refine Below.setCell ?_ ?_ _) | (with_reducible refine Below.drew ?_) | (with_reducible refine below_drewN' ?_) | (with_reducible refine below_bytesW ?_ ?_) | (with_reducible refine Below.trans ?_ (Below.mono (by assumption) ?_)) | omega | (simp only [World.size_alloc, World.size_setCell, World.size_drew]; omega) | (simp [size_bytesW]; omega) | (simp; omega)))
  obtain ⟨W1, hW1⟩ : ∃ W1, W1 = w.alloc (.cells r.cells 23) := ⟨_, rfl⟩
  rw [← hW1] at hB0 hbel0
  have hlt1 := hB0.lt
  have hrr := RRat.of hB0
  unfold RRat at hrr
  have HL : Live w [] := trivial
  go_enter Tryz.func10, Tryz.ntmps10
  go_upto_region 1 with fail
  rw [← hW1]
  clear hW1
  go_wp2_with fail
  refine (CK.out _ (hT.below hbel0)).mono ?_
  rintro e w1 ⟨rfl, hb1⟩
  have hB1 := hB0.below hb1
  have hbel1 := hbel0.trans (hb1.mono hbel0.size)
  have hrr1 := RRat.of hB1
  unfold RRat at hrr1
  have hlt2 := hB1.lt
  clear hrr hB0 hbel0 hb1
  by_cases h0 : chk r = 0
  case neg =>
    have hq : (chk r == 0) = false := by rw [beq_eq_false_iff_ne]; exact h0
    have hq2 : (chk r != 0) = true := by rw [bne_iff_ne]; exact h0
    have H0 := hide h0
    clear h0
    go_wp2
    go_ret2
    exact EntP.no H0.out rfl hbel1
  have hen := en_lens r
  obtain ⟨z1, z2, z3, z4, z5, z6, z7, z8, z9⟩ := chk_zero h0
  have H0 := hide h0
  rw [h0]
  clear h0
  have hOB : EO w1.heap.size [] (w1.alloc (.cells #[.slice none 0 0] 26)) := ⟨_, Blk.newAt rfl, World.ownsRow_nil _ _ _ _⟩
  have hB2 := hB1.alloc (.cells #[.slice none 0 0] 26)
  have hbel2 := hbel1.alloc hbel1.size (.cells #[.slice none 0 0] 26)
  obtain ⟨ob, hob⟩ : ∃ ob, ob = w1.heap.size := ⟨_, rfl⟩
  obtain ⟨W2, hW2⟩ : ∃ W2, W2 = w1.alloc (.cells #[.slice none 0 0] 26) := ⟨_, rfl⟩
  go_upto_region 6 with fail
  rw [← hW2, ← hob]
  rw [← hob] at hOB hlt2
  rw [← hW2] at hOB hB2 hbel2
  have hobw : w.heap.size ≤ ob := by omega
  clear hob hW2 hrr1 hB1
  have hlt3 := hOB.lt
  have hrr2 := RRat.of hB2
  unfold RRat at hrr2
  go_upto_if 18 with fail
  go_cut [6] (fun f wx => f = .func (.func 28) #[] #[.pointer (some ⟨ob, 0, none⟩)] ∧ EO ob (en1 r) wx ∧ Below w.heap.size w wx ∧ Blk wx w.heap.size r.cells 23)
  case first =>
    cases a1 : r.att
    case false =>
      have E := hide (show en1 r = [] by simp [en1, a1])
      clear a1
      go_wp2
      go_meet
      exact ⟨rfl, by rw [E.out]; exact hOB, hbel2, hB2⟩
    case true =>
      have E := hide (show en1 r = [⟨sPX, 1, pxS r⟩] by simp [en1, a1])
      have hk := z1 a1
      clear a1
      have hps : (pxS r).size ≤ 1000000 := by show (numL _).toArray.size ≤ _; rw [List.size_toArray, numL_len]; simp
      rcases (show r.kind = 0 ∨ r.kind = 1 ∨ r.kind = 2 by omega) with hk0 | hk0 | hk0
      · have KB := hide (show ∀ W, Calls Tryz.prog 31 #[.int .i64 0] W fun e w' => e = .returned (.int .i64 4) ∧ W = w' from fun W => kindBits_any 0 (by omega) W)
        have HP := hide (show (⟨(numL [r.mode + 16384, r.links, r.uid, r.gid]).toArray⟩ : ByteArray) = pxS r by unfold pxS; rw [hk0]; rfl)
        have N4 := hide (show ∀ g W, g < W.heap.size → W.cell? ⟨g, 0, none⟩ = some (.int .i64 (r.mode + 16384)) → W.cell? ⟨g, 1, none⟩ = some (.int .i64 r.links) → W.cell? ⟨g, 2, none⟩ = some (.int .i64 r.uid) → W.cell? ⟨g, 3, none⟩ = some (.int .i64 r.gid) →
          Calls Tryz.prog 30 #[.slice (some ⟨g, 0, none⟩) 4 4] W fun e w' => e = .returned (.string (pxS r)) ∧ Below W.heap.size W w' from fun g W hg h0 h1 h2 h3 => by
            have := num4 g (r.mode + 16384) r.links r.uid r.gid W hg (by omega) z4 z5 z6 h0 h1 h2 h3
            rw [HP.out] at this
            exact this)
        go_upto_region 7 with fail
        have HL : Live W2 [w.heap.size] := ⟨by omega, trivial⟩
        have hw3 : w.heap.size < W2.heap.size := by omega
        have wk : IntKind.i64.wrap 16384 = 16384 := by decide
        have hor : bits .or .i64 r.mode 16384 = r.mode + 16384 := or_low r.mode 16384 z3 (by omega) (by omega) (by decide)
        refine wp_region_noPanic ?_
        refine wp_region_held_drew (S := (fun x => x.cell? ⟨w.heap.size, 1, none⟩ = some (.int .i64 0) ∧ x.cell? ⟨w.heap.size, 2, none⟩ = some (.int .i64 r.mode) ∧ x.cell? ⟨w.heap.size, 3, none⟩ = some (.int .i64 r.links) ∧ x.cell? ⟨w.heap.size, 4, none⟩ = some (.int .i64 r.uid) ∧ x.cell? ⟨w.heap.size, 5, none⟩ = some (.int .i64 r.gid))) (by kernel_rfl) (by (try dsimp only); first | assumption | (simp [*, go_sem]; done) | (refine ⟨?_, ?_⟩ <;> simp [*, go_sem])) (fun hHeld => ?_)
        refine wpAnyH_take (i := 0) (oi := { dst := some 19, op := Go.Op.move (Go.Operand.tmp 6), type := 53, pos := "rockridge.go:72", after := #[], guard := none }) (v := ?_) rfl (by kernel_rfl) (by kernel_rfl) (by kernel_rfl) (fun _ _ _ h => h) (Or.inl ⟨by rfl, ?_⟩) (by assumption) ?_
        rotate_left
        · intro w hSw; (try dsimp only at hSw); go_simp; (try with_reducible rfl)
        try simp only [Act.put, List.setIfInBounds_toArray, List.set_cons_zero, List.set_cons_succ]
        refine wpAnyH_take (i := 1) (oi := { dst := some 20, op := Go.Op.fieldAddr 23 (Go.Operand.tmp 1) 2, type := 0, pos := "rockridge.go:72", after := #[], guard := none }) (v := ?_) rfl (by kernel_rfl) (by kernel_rfl) (by kernel_rfl) (fun _ _ _ h => h) (Or.inl ⟨by rfl, ?_⟩) (by assumption) ?_
        rotate_left
        · intro w hSw; (try dsimp only at hSw); go_simp; (try with_reducible rfl)
        try simp only [Act.put, List.setIfInBounds_toArray, List.set_cons_zero, List.set_cons_succ]
        refine wpAnyH_take (i := 2) (oi := { dst := some 21, op := Go.Op.load 3 (Go.Operand.tmp 20), type := 3, pos := "rockridge.go:72", after := #[{ on := 1, ground := Go.Ground.data }], guard := none }) (v := ?_) rfl (by kernel_rfl) (by kernel_rfl) (by kernel_rfl) (fun _ _ _ h => h) (Or.inl ⟨by rfl, ?_⟩) (by assumption) ?_
        rotate_left
        · intro w hSw; (try dsimp only at hSw); go_simp; (try with_reducible rfl)
        try simp only [Act.put, List.setIfInBounds_toArray, List.set_cons_zero, List.set_cons_succ]
        refine wpAnyH_take (i := 3) (oi := { dst := some 22, op := Go.Op.fieldAddr 23 (Go.Operand.tmp 1) 1, type := 0, pos := "rockridge.go:72", after := #[], guard := none }) (v := ?_) rfl (by kernel_rfl) (by kernel_rfl) (by kernel_rfl) (fun _ _ _ h => h) (Or.inl ⟨by rfl, ?_⟩) (by assumption) ?_
        rotate_left
        · intro w hSw; (try dsimp only at hSw); go_simp; (try with_reducible rfl)
        try simp only [Act.put, List.setIfInBounds_toArray, List.set_cons_zero, List.set_cons_succ]
        refine wpAnyH_take (i := 4) (oi := { dst := some 23, op := Go.Op.load 3 (Go.Operand.tmp 22), type := 3, pos := "rockridge.go:72", after := #[{ on := 3, ground := Go.Ground.data }], guard := none }) (v := ?_) rfl (by kernel_rfl) (by kernel_rfl) (by kernel_rfl) (fun _ _ _ h => h) (Or.inl ⟨by rfl, ?_⟩) (by assumption) ?_
        rotate_left
        · intro w hSw; (try dsimp only at hSw); go_simp; (try with_reducible rfl)
        try simp only [Act.put, List.setIfInBounds_toArray, List.set_cons_zero, List.set_cons_succ]
        refine wpAnyH_take (i := 8) (oi := { dst := some 27, op := Go.Op.fieldAddr 23 (Go.Operand.tmp 1) 3, type := 0, pos := "rockridge.go:72", after := #[], guard := none }) (v := ?_) rfl (by kernel_rfl) (by kernel_rfl) (by kernel_rfl) (fun _ _ _ h => h) (Or.inl ⟨by rfl, ?_⟩) (by assumption) ?_
        rotate_left
        · intro w hSw; (try dsimp only at hSw); go_simp; (try with_reducible rfl)
        try simp only [Act.put, List.setIfInBounds_toArray, List.set_cons_zero, List.set_cons_succ]
        refine wpAnyH_take (i := 9) (oi := { dst := some 28, op := Go.Op.load 3 (Go.Operand.tmp 27), type := 3, pos := "rockridge.go:72", after := #[{ on := 8, ground := Go.Ground.data }], guard := none }) (v := ?_) rfl (by kernel_rfl) (by kernel_rfl) (by kernel_rfl) (fun _ _ _ h => h) (Or.inl ⟨by rfl, ?_⟩) (by assumption) ?_
        rotate_left
        · intro w hSw; (try dsimp only at hSw); go_simp; (try with_reducible rfl)
        try simp only [Act.put, List.setIfInBounds_toArray, List.set_cons_zero, List.set_cons_succ]
        refine wpAnyH_take (i := 10) (oi := { dst := some 29, op := Go.Op.fieldAddr 23 (Go.Operand.tmp 1) 4, type := 0, pos := "rockridge.go:72", after := #[], guard := none }) (v := ?_) rfl (by kernel_rfl) (by kernel_rfl) (by kernel_rfl) (fun _ _ _ h => h) (Or.inl ⟨by rfl, ?_⟩) (by assumption) ?_
        rotate_left
        · intro w hSw; (try dsimp only at hSw); go_simp; (try with_reducible rfl)
        try simp only [Act.put, List.setIfInBounds_toArray, List.set_cons_zero, List.set_cons_succ]
        refine wpAnyH_take (i := 11) (oi := { dst := some 30, op := Go.Op.load 3 (Go.Operand.tmp 29), type := 3, pos := "rockridge.go:72", after := #[{ on := 10, ground := Go.Ground.data }], guard := none }) (v := ?_) rfl (by kernel_rfl) (by kernel_rfl) (by kernel_rfl) (fun _ _ _ h => h) (Or.inl ⟨by rfl, ?_⟩) (by assumption) ?_
        rotate_left
        · intro w hSw; (try dsimp only at hSw); go_simp; (try with_reducible rfl)
        try simp only [Act.put, List.setIfInBounds_toArray, List.set_cons_zero, List.set_cons_succ]
        refine wpAnyH_take (i := 12) (oi := { dst := some 31, op := Go.Op.fieldAddr 23 (Go.Operand.tmp 1) 5, type := 0, pos := "rockridge.go:72", after := #[], guard := none }) (v := ?_) rfl (by kernel_rfl) (by kernel_rfl) (by kernel_rfl) (fun _ _ _ h => h) (Or.inl ⟨by rfl, ?_⟩) (by assumption) ?_
        rotate_left
        · intro w hSw; (try dsimp only at hSw); go_simp; (try with_reducible rfl)
        try simp only [Act.put, List.setIfInBounds_toArray, List.set_cons_zero, List.set_cons_succ]
        refine wpAnyH_take (i := 13) (oi := { dst := some 32, op := Go.Op.load 3 (Go.Operand.tmp 31), type := 3, pos := "rockridge.go:72", after := #[{ on := 12, ground := Go.Ground.data }], guard := none }) (v := ?_) rfl (by kernel_rfl) (by kernel_rfl) (by kernel_rfl) (fun _ _ _ h => h) (Or.inl ⟨by rfl, ?_⟩) (by assumption) ?_
        rotate_left
        · intro w hSw; (try dsimp only at hSw); go_simp; (try with_reducible rfl)
        try simp only [Act.put, List.setIfInBounds_toArray, List.set_cons_zero, List.set_cons_succ]
        refine wpAnyH_ready (rs := [5]) (by kernel_rfl) (by simp) ?_
        refine AllReadyH.cons (o := { dst := some 24, op := Go.Op.call { callee := Go.Callee.value (Go.Operand.func 31), args := #[Go.Operand.tmp 23], argTypes := #[3] }, type := 3, pos := "rockridge.go:72", after := #[{ on := 4, ground := Go.Ground.data }], guard := none }) rfl (fun K hK => ?_) AllReadyH.nil
        go_simp
        (first | (go_at_call 31; (with_reducible refine (KB.out _).mono ?_); rintro e w' ⟨rfl, rfl⟩) | (go_at_call 30; (with_reducible refine (N4.out _ _ (by simp) (by go_simp) (by go_simp) (by go_simp) (by go_simp)).mono ?_); rintro e w' ⟨rfl, hb⟩; have hz := hb.size; (try simp only [World.size_alloc, World.size_setCell, World.size_drew, Nat.add_assoc, Nat.reduceAdd] at hz); (first | obtain ⟨HL, hk⟩ := HL.call hb hz (by simp only [World.size_alloc, World.size_setCell, World.size_drew, Nat.add_assoc, Nat.reduceAdd]) | obtain ⟨HL, hk⟩ := HL.call0 hb hz (by first | rfl | simp only [World.size_alloc, World.size_setCell, World.size_drew, Nat.add_assoc, Nat.reduceAdd])); (try simp only [addN, Nat.add_zero] at HL hk); have hl := HL; simp only [Live] at hl; (try simp only [Kept] at hk)) | (go_at_call 28; (with_reducible refine Calls.mono (eadd1 ob [] sPX (pxS r) _ _ (by simp) (by repeat (first | with_reducible assumption | refine EO.alloc ?_ _ | refine EO.drew ?_ | refine EO.below ?_ (by assumption))) (by simp) (by go_simp) (by first | assumption | decide)) ?_); rintro e w' ⟨rfl, hEO, hbE⟩; have hzE := hbE.size; have hkE := fun o => hbE.cell (p := ⟨w.heap.size, o, none⟩) hlt2))
        go_wp2_with fail
        refine hK.out _ _ (by (try dsimp only); first | assumption | (simp [*, go_sem]; done) | (refine ⟨?_, ?_⟩ <;> simp [*, go_sem])) (fun hHeld => ?_)
        clear hK K
        try simp only [Act.put, List.setIfInBounds_toArray, List.set_cons_zero, List.set_cons_succ]
        refine wpAnyH_take (i := 6) (oi := { dst := some 25, op := Go.Op.binOp Go.BinOp.shl 3 (Go.Operand.tmp 24) (Go.Operand.const (Go.Value.int Go.IntKind.u64 12)) 56, type := 3, pos := "rockridge.go:72", after := #[{ on := 5, ground := Go.Ground.data }], guard := none }) (v := ?_) rfl (by kernel_rfl) (by kernel_rfl) (by kernel_rfl) (fun _ _ _ h => h) (Or.inl ⟨by rfl, ?_⟩) (by assumption) ?_
        rotate_left
        · intro w hSw; (try dsimp only at hSw); go_simp; (try with_reducible rfl)
        try simp only [Act.put, List.setIfInBounds_toArray, List.set_cons_zero, List.set_cons_succ]
        refine wpAnyH_take (i := 7) (oi := { dst := some 26, op := Go.Op.binOp Go.BinOp.or 3 (Go.Operand.tmp 21) (Go.Operand.tmp 25) 3, type := 3, pos := "rockridge.go:72", after := #[{ on := 2, ground := Go.Ground.data }, { on := 6, ground := Go.Ground.data }], guard := none }) (v := ?_) rfl (by kernel_rfl) (by kernel_rfl) (by kernel_rfl) (fun _ _ _ h => h) (Or.inl ⟨by rfl, ?_⟩) (by assumption) ?_
        rotate_left
        · intro w hSw; (try dsimp only at hSw); go_simp; (try with_reducible rfl)
        try simp only [Act.put, List.setIfInBounds_toArray, List.set_cons_zero, List.set_cons_succ]
        refine wpAnyH_ready (rs := [14]) (by kernel_rfl) (by simp) ?_
        refine AllReadyH.cons (o := { dst := some 33, op := Go.Op.buildSlice 38 4 #[(0, Go.Operand.tmp 26), (1, Go.Operand.tmp 28), (2, Go.Operand.tmp 30), (3, Go.Operand.tmp 32)], type := 38, pos := "rockridge.go:72", after := #[{ on := 7, ground := Go.Ground.data }, { on := 9, ground := Go.Ground.data }, { on := 11, ground := Go.Ground.data }, { on := 13, ground := Go.Ground.data }], guard := none }) rfl (fun K hK => ?_) AllReadyH.nil
        go_simp
        refine hK.out _ _ (by (try dsimp only); first | assumption | (simp [*, go_sem]; done) | (refine ⟨?_, ?_⟩ <;> simp [*, go_sem])) (fun hHeld => ?_)
        clear hK K
        try simp only [Act.put, List.setIfInBounds_toArray, List.set_cons_zero, List.set_cons_succ]
        refine wpAnyH_ready (rs := [15]) (by kernel_rfl) (by simp) ?_
        refine AllReadyH.cons (o := { dst := some 34, op := Go.Op.call { callee := Go.Callee.value (Go.Operand.func 30), args := #[Go.Operand.tmp 33], argTypes := #[38] }, type := 9, pos := "rockridge.go:72", after := #[{ on := 14, ground := Go.Ground.data }, { on := 5, ground := Go.Ground.chain }], guard := none }) rfl (fun K hK => ?_) AllReadyH.nil
        go_simp
        (first | (go_at_call 31; (with_reducible refine (KB.out _).mono ?_); rintro e w' ⟨rfl, rfl⟩) | (go_at_call 30; (with_reducible refine (N4.out _ _ (by simp) (by go_simp) (by go_simp) (by go_simp) (by go_simp)).mono ?_); rintro e w' ⟨rfl, hb⟩; have hz := hb.size; (try simp only [World.size_alloc, World.size_setCell, World.size_drew, Nat.add_assoc, Nat.reduceAdd] at hz); (first | obtain ⟨HL, hk⟩ := HL.call hb hz (by simp only [World.size_alloc, World.size_setCell, World.size_drew, Nat.add_assoc, Nat.reduceAdd]) | obtain ⟨HL, hk⟩ := HL.call0 hb hz (by first | rfl | simp only [World.size_alloc, World.size_setCell, World.size_drew, Nat.add_assoc, Nat.reduceAdd])); (try simp only [addN, Nat.add_zero] at HL hk); have hl := HL; simp only [Live] at hl; (try simp only [Kept] at hk)) | (go_at_call 28; (with_reducible refine Calls.mono (eadd1 ob [] sPX (pxS r) _ _ (by simp) (by repeat (first | with_reducible assumption | refine EO.alloc ?_ _ | refine EO.drew ?_ | refine EO.below ?_ (by assumption))) (by simp) (by go_simp) (by first | assumption | decide)) ?_); rintro e w' ⟨rfl, hEO, hbE⟩; have hzE := hbE.size; have hkE := fun o => hbE.cell (p := ⟨w.heap.size, o, none⟩) hlt2))
        go_wp2_with fail
        refine hK.out _ _ (by (try dsimp only); first | assumption | (simp [*, go_sem]; done) | (refine ⟨?_, ?_⟩ <;> simp [*, go_sem])) (fun hHeld => ?_)
        clear hK K
        try simp only [Act.put, List.setIfInBounds_toArray, List.set_cons_zero, List.set_cons_succ]
        refine wpAnyH_ready (rs := [16]) (by kernel_rfl) (by simp) ?_
        refine AllReadyH.cons (o := { dst := some 35, op := Go.Op.buildSlice 46 1 #[(0, Go.Operand.tmp 34)], type := 46, pos := "rockridge.go:72", after := #[{ on := 15, ground := Go.Ground.data }], guard := none }) rfl (fun K hK => ?_) AllReadyH.nil
        go_simp
        refine hK.out _ _ (by (try dsimp only); first | assumption | (simp [*, go_sem]; done) | (refine ⟨?_, ?_⟩ <;> simp [*, go_sem])) (fun hHeld => ?_)
        clear hK K
        try simp only [Act.put, List.setIfInBounds_toArray, List.set_cons_zero, List.set_cons_succ]
        refine wpAnyH_ready (rs := [17]) (by kernel_rfl) (by simp) ?_
        refine AllReadyH.cons (o := { dst := some 36, op := Go.Op.call { callee := Go.Callee.value (Go.Operand.tmp 19), args := #[Go.Operand.const (Go.Value.bool true), Go.Operand.const (Go.Value.string { data := #[80, 88] }), Go.Operand.tmp 35], argTypes := #[4, 9, 46] }, type := 0, pos := "rockridge.go:72", after := #[{ on := 0, ground := Go.Ground.data }, { on := 16, ground := Go.Ground.data }, { on := 15, ground := Go.Ground.chain }], guard := none }) rfl (fun K hK => ?_) AllReadyH.nil
        go_simp
        (first | (go_at_call 31; (with_reducible refine (KB.out _).mono ?_); rintro e w' ⟨rfl, rfl⟩) | (go_at_call 30; (with_reducible refine (N4.out _ _ (by simp) (by go_simp) (by go_simp) (by go_simp) (by go_simp)).mono ?_); rintro e w' ⟨rfl, hb⟩; have hz := hb.size; (try simp only [World.size_alloc, World.size_setCell, World.size_drew, Nat.add_assoc, Nat.reduceAdd] at hz); (first | obtain ⟨HL, hk⟩ := HL.call hb hz (by simp only [World.size_alloc, World.size_setCell, World.size_drew, Nat.add_assoc, Nat.reduceAdd]) | obtain ⟨HL, hk⟩ := HL.call0 hb hz (by first | rfl | simp only [World.size_alloc, World.size_setCell, World.size_drew, Nat.add_assoc, Nat.reduceAdd])); (try simp only [addN, Nat.add_zero] at HL hk); have hl := HL; simp only [Live] at hl; (try simp only [Kept] at hk)) | (go_at_call 28; (with_reducible refine Calls.mono (eadd1 ob [] sPX (pxS r) _ _ (by simp) (by repeat (first | with_reducible assumption | refine EO.alloc ?_ _ | refine EO.drew ?_ | refine EO.below ?_ (by assumption))) (by simp) (by go_simp) (by first | assumption | decide)) ?_); rintro e w' ⟨rfl, hEO, hbE⟩; have hzE := hbE.size; have hkE := fun o => hbE.cell (p := ⟨w.heap.size, o, none⟩) hlt2))
        go_wp2_with fail
        refine hK.out _ _ (by (try dsimp only); first | assumption | (simp [*, go_sem]; done) | (refine ⟨?_, ?_⟩ <;> simp [*, go_sem])) (fun hHeld => ?_)
        clear hK K
        try simp only [Act.put, List.setIfInBounds_toArray, List.set_cons_zero, List.set_cons_succ]
        refine wpAnyH_done (by kernel_rfl) ?_ _
        refine NoPanic.normal ?_
        all_goals
          go_wp2
          go_meet
          exact ⟨rfl, by rw [E.out]; exact hEO, by (repeat' (first | (with_reducible exact Below.refl _ _) | (with_reducible refine Below.alloc ?_ ?_ _) | (with_reducible refine Below.setCell ?_ ?_ _) | (with_reducible refine Below.drew ?_) | (with_reducible refine below_drewN' ?_) | (with_reducible refine below_bytesW ?_ ?_) | (with_reducible refine Below.trans ?_ (Below.mono (by assumption) ?_)) | omega | (simp only [World.size_alloc, World.size_setCell, World.size_drew]; omega) | (simp [size_bytesW]; omega) | (simp; omega))), by (repeat' (first | with_reducible assumption | (with_reducible refine Blk.alloc ?_ _) | (with_reducible refine Blk.drew ?_) | (with_reducible refine Blk.below (by with_reducible assumption) ?_) | (with_reducible refine Blk.under (by with_reducible assumption) (by omega) ?_)))⟩
      · have KB := hide (show ∀ W, Calls Tryz.prog 31 #[.int .i64 1] W fun e w' => e = .returned (.int .i64 8) ∧ W = w' from fun W => kindBits_any 1 (by omega) W)
        have HP := hide (show (⟨(numL [r.mode + 32768, r.links, r.uid, r.gid]).toArray⟩ : ByteArray) = pxS r by unfold pxS; rw [hk0]; rfl)
        have N4 := hide (show ∀ g W, g < W.heap.size → W.cell? ⟨g, 0, none⟩ = some (.int .i64 (r.mode + 32768)) → W.cell? ⟨g, 1, none⟩ = some (.int .i64 r.links) → W.cell? ⟨g, 2, none⟩ = some (.int .i64 r.uid) → W.cell? ⟨g, 3, none⟩ = some (.int .i64 r.gid) →
          Calls Tryz.prog 30 #[.slice (some ⟨g, 0, none⟩) 4 4] W fun e w' => e = .returned (.string (pxS r)) ∧ Below W.heap.size W w' from fun g W hg h0 h1 h2 h3 => by
            have := num4 g (r.mode + 32768) r.links r.uid r.gid W hg (by omega) z4 z5 z6 h0 h1 h2 h3
            rw [HP.out] at this
            exact this)
        go_upto_region 7 with fail
        have HL : Live W2 [w.heap.size] := ⟨by omega, trivial⟩
        have hw3 : w.heap.size < W2.heap.size := by omega
        have wk : IntKind.i64.wrap 32768 = 32768 := by decide
        have hor : bits .or .i64 r.mode 32768 = r.mode + 32768 := or_low r.mode 32768 z3 (by omega) (by omega) (by decide)
        refine wp_region_noPanic ?_
        refine wp_region_held_drew (S := (fun x => x.cell? ⟨w.heap.size, 1, none⟩ = some (.int .i64 1) ∧ x.cell? ⟨w.heap.size, 2, none⟩ = some (.int .i64 r.mode) ∧ x.cell? ⟨w.heap.size, 3, none⟩ = some (.int .i64 r.links) ∧ x.cell? ⟨w.heap.size, 4, none⟩ = some (.int .i64 r.uid) ∧ x.cell? ⟨w.heap.size, 5, none⟩ = some (.int .i64 r.gid))) (by kernel_rfl) (by (try dsimp only); first | assumption | (simp [*, go_sem]; done) | (refine ⟨?_, ?_⟩ <;> simp [*, go_sem])) (fun hHeld => ?_)
        refine wpAnyH_take (i := 0) (oi := { dst := some 19, op := Go.Op.move (Go.Operand.tmp 6), type := 53, pos := "rockridge.go:72", after := #[], guard := none }) (v := ?_) rfl (by kernel_rfl) (by kernel_rfl) (by kernel_rfl) (fun _ _ _ h => h) (Or.inl ⟨by rfl, ?_⟩) (by assumption) ?_
        rotate_left
        · intro w hSw; (try dsimp only at hSw); go_simp; (try with_reducible rfl)
        try simp only [Act.put, List.setIfInBounds_toArray, List.set_cons_zero, List.set_cons_succ]
        refine wpAnyH_take (i := 1) (oi := { dst := some 20, op := Go.Op.fieldAddr 23 (Go.Operand.tmp 1) 2, type := 0, pos := "rockridge.go:72", after := #[], guard := none }) (v := ?_) rfl (by kernel_rfl) (by kernel_rfl) (by kernel_rfl) (fun _ _ _ h => h) (Or.inl ⟨by rfl, ?_⟩) (by assumption) ?_
        rotate_left
        · intro w hSw; (try dsimp only at hSw); go_simp; (try with_reducible rfl)
        try simp only [Act.put, List.setIfInBounds_toArray, List.set_cons_zero, List.set_cons_succ]
        refine wpAnyH_take (i := 2) (oi := { dst := some 21, op := Go.Op.load 3 (Go.Operand.tmp 20), type := 3, pos := "rockridge.go:72", after := #[{ on := 1, ground := Go.Ground.data }], guard := none }) (v := ?_) rfl (by kernel_rfl) (by kernel_rfl) (by kernel_rfl) (fun _ _ _ h => h) (Or.inl ⟨by rfl, ?_⟩) (by assumption) ?_
        rotate_left
        · intro w hSw; (try dsimp only at hSw); go_simp; (try with_reducible rfl)
        try simp only [Act.put, List.setIfInBounds_toArray, List.set_cons_zero, List.set_cons_succ]
        refine wpAnyH_take (i := 3) (oi := { dst := some 22, op := Go.Op.fieldAddr 23 (Go.Operand.tmp 1) 1, type := 0, pos := "rockridge.go:72", after := #[], guard := none }) (v := ?_) rfl (by kernel_rfl) (by kernel_rfl) (by kernel_rfl) (fun _ _ _ h => h) (Or.inl ⟨by rfl, ?_⟩) (by assumption) ?_
        rotate_left
        · intro w hSw; (try dsimp only at hSw); go_simp; (try with_reducible rfl)
        try simp only [Act.put, List.setIfInBounds_toArray, List.set_cons_zero, List.set_cons_succ]
        refine wpAnyH_take (i := 4) (oi := { dst := some 23, op := Go.Op.load 3 (Go.Operand.tmp 22), type := 3, pos := "rockridge.go:72", after := #[{ on := 3, ground := Go.Ground.data }], guard := none }) (v := ?_) rfl (by kernel_rfl) (by kernel_rfl) (by kernel_rfl) (fun _ _ _ h => h) (Or.inl ⟨by rfl, ?_⟩) (by assumption) ?_
        rotate_left
        · intro w hSw; (try dsimp only at hSw); go_simp; (try with_reducible rfl)
        try simp only [Act.put, List.setIfInBounds_toArray, List.set_cons_zero, List.set_cons_succ]
        refine wpAnyH_take (i := 8) (oi := { dst := some 27, op := Go.Op.fieldAddr 23 (Go.Operand.tmp 1) 3, type := 0, pos := "rockridge.go:72", after := #[], guard := none }) (v := ?_) rfl (by kernel_rfl) (by kernel_rfl) (by kernel_rfl) (fun _ _ _ h => h) (Or.inl ⟨by rfl, ?_⟩) (by assumption) ?_
        rotate_left
        · intro w hSw; (try dsimp only at hSw); go_simp; (try with_reducible rfl)
        try simp only [Act.put, List.setIfInBounds_toArray, List.set_cons_zero, List.set_cons_succ]
        refine wpAnyH_take (i := 9) (oi := { dst := some 28, op := Go.Op.load 3 (Go.Operand.tmp 27), type := 3, pos := "rockridge.go:72", after := #[{ on := 8, ground := Go.Ground.data }], guard := none }) (v := ?_) rfl (by kernel_rfl) (by kernel_rfl) (by kernel_rfl) (fun _ _ _ h => h) (Or.inl ⟨by rfl, ?_⟩) (by assumption) ?_
        rotate_left
        · intro w hSw; (try dsimp only at hSw); go_simp; (try with_reducible rfl)
        try simp only [Act.put, List.setIfInBounds_toArray, List.set_cons_zero, List.set_cons_succ]
        refine wpAnyH_take (i := 10) (oi := { dst := some 29, op := Go.Op.fieldAddr 23 (Go.Operand.tmp 1) 4, type := 0, pos := "rockridge.go:72", after := #[], guard := none }) (v := ?_) rfl (by kernel_rfl) (by kernel_rfl) (by kernel_rfl) (fun _ _ _ h => h) (Or.inl ⟨by rfl, ?_⟩) (by assumption) ?_
        rotate_left
        · intro w hSw; (try dsimp only at hSw); go_simp; (try with_reducible rfl)
        try simp only [Act.put, List.setIfInBounds_toArray, List.set_cons_zero, List.set_cons_succ]
        refine wpAnyH_take (i := 11) (oi := { dst := some 30, op := Go.Op.load 3 (Go.Operand.tmp 29), type := 3, pos := "rockridge.go:72", after := #[{ on := 10, ground := Go.Ground.data }], guard := none }) (v := ?_) rfl (by kernel_rfl) (by kernel_rfl) (by kernel_rfl) (fun _ _ _ h => h) (Or.inl ⟨by rfl, ?_⟩) (by assumption) ?_
        rotate_left
        · intro w hSw; (try dsimp only at hSw); go_simp; (try with_reducible rfl)
        try simp only [Act.put, List.setIfInBounds_toArray, List.set_cons_zero, List.set_cons_succ]
        refine wpAnyH_take (i := 12) (oi := { dst := some 31, op := Go.Op.fieldAddr 23 (Go.Operand.tmp 1) 5, type := 0, pos := "rockridge.go:72", after := #[], guard := none }) (v := ?_) rfl (by kernel_rfl) (by kernel_rfl) (by kernel_rfl) (fun _ _ _ h => h) (Or.inl ⟨by rfl, ?_⟩) (by assumption) ?_
        rotate_left
        · intro w hSw; (try dsimp only at hSw); go_simp; (try with_reducible rfl)
        try simp only [Act.put, List.setIfInBounds_toArray, List.set_cons_zero, List.set_cons_succ]
        refine wpAnyH_take (i := 13) (oi := { dst := some 32, op := Go.Op.load 3 (Go.Operand.tmp 31), type := 3, pos := "rockridge.go:72", after := #[{ on := 12, ground := Go.Ground.data }], guard := none }) (v := ?_) rfl (by kernel_rfl) (by kernel_rfl) (by kernel_rfl) (fun _ _ _ h => h) (Or.inl ⟨by rfl, ?_⟩) (by assumption) ?_
        rotate_left
        · intro w hSw; (try dsimp only at hSw); go_simp; (try with_reducible rfl)
        try simp only [Act.put, List.setIfInBounds_toArray, List.set_cons_zero, List.set_cons_succ]
        refine wpAnyH_ready (rs := [5]) (by kernel_rfl) (by simp) ?_
        refine AllReadyH.cons (o := { dst := some 24, op := Go.Op.call { callee := Go.Callee.value (Go.Operand.func 31), args := #[Go.Operand.tmp 23], argTypes := #[3] }, type := 3, pos := "rockridge.go:72", after := #[{ on := 4, ground := Go.Ground.data }], guard := none }) rfl (fun K hK => ?_) AllReadyH.nil
        go_simp
        (first | (go_at_call 31; (with_reducible refine (KB.out _).mono ?_); rintro e w' ⟨rfl, rfl⟩) | (go_at_call 30; (with_reducible refine (N4.out _ _ (by simp) (by go_simp) (by go_simp) (by go_simp) (by go_simp)).mono ?_); rintro e w' ⟨rfl, hb⟩; have hz := hb.size; (try simp only [World.size_alloc, World.size_setCell, World.size_drew, Nat.add_assoc, Nat.reduceAdd] at hz); (first | obtain ⟨HL, hk⟩ := HL.call hb hz (by simp only [World.size_alloc, World.size_setCell, World.size_drew, Nat.add_assoc, Nat.reduceAdd]) | obtain ⟨HL, hk⟩ := HL.call0 hb hz (by first | rfl | simp only [World.size_alloc, World.size_setCell, World.size_drew, Nat.add_assoc, Nat.reduceAdd])); (try simp only [addN, Nat.add_zero] at HL hk); have hl := HL; simp only [Live] at hl; (try simp only [Kept] at hk)) | (go_at_call 28; (with_reducible refine Calls.mono (eadd1 ob [] sPX (pxS r) _ _ (by simp) (by repeat (first | with_reducible assumption | refine EO.alloc ?_ _ | refine EO.drew ?_ | refine EO.below ?_ (by assumption))) (by simp) (by go_simp) (by first | assumption | decide)) ?_); rintro e w' ⟨rfl, hEO, hbE⟩; have hzE := hbE.size; have hkE := fun o => hbE.cell (p := ⟨w.heap.size, o, none⟩) hlt2))
        go_wp2_with fail
        refine hK.out _ _ (by (try dsimp only); first | assumption | (simp [*, go_sem]; done) | (refine ⟨?_, ?_⟩ <;> simp [*, go_sem])) (fun hHeld => ?_)
        clear hK K
        try simp only [Act.put, List.setIfInBounds_toArray, List.set_cons_zero, List.set_cons_succ]
        refine wpAnyH_take (i := 6) (oi := { dst := some 25, op := Go.Op.binOp Go.BinOp.shl 3 (Go.Operand.tmp 24) (Go.Operand.const (Go.Value.int Go.IntKind.u64 12)) 56, type := 3, pos := "rockridge.go:72", after := #[{ on := 5, ground := Go.Ground.data }], guard := none }) (v := ?_) rfl (by kernel_rfl) (by kernel_rfl) (by kernel_rfl) (fun _ _ _ h => h) (Or.inl ⟨by rfl, ?_⟩) (by assumption) ?_
        rotate_left
        · intro w hSw; (try dsimp only at hSw); go_simp; (try with_reducible rfl)
        try simp only [Act.put, List.setIfInBounds_toArray, List.set_cons_zero, List.set_cons_succ]
        refine wpAnyH_take (i := 7) (oi := { dst := some 26, op := Go.Op.binOp Go.BinOp.or 3 (Go.Operand.tmp 21) (Go.Operand.tmp 25) 3, type := 3, pos := "rockridge.go:72", after := #[{ on := 2, ground := Go.Ground.data }, { on := 6, ground := Go.Ground.data }], guard := none }) (v := ?_) rfl (by kernel_rfl) (by kernel_rfl) (by kernel_rfl) (fun _ _ _ h => h) (Or.inl ⟨by rfl, ?_⟩) (by assumption) ?_
        rotate_left
        · intro w hSw; (try dsimp only at hSw); go_simp; (try with_reducible rfl)
        try simp only [Act.put, List.setIfInBounds_toArray, List.set_cons_zero, List.set_cons_succ]
        refine wpAnyH_ready (rs := [14]) (by kernel_rfl) (by simp) ?_
        refine AllReadyH.cons (o := { dst := some 33, op := Go.Op.buildSlice 38 4 #[(0, Go.Operand.tmp 26), (1, Go.Operand.tmp 28), (2, Go.Operand.tmp 30), (3, Go.Operand.tmp 32)], type := 38, pos := "rockridge.go:72", after := #[{ on := 7, ground := Go.Ground.data }, { on := 9, ground := Go.Ground.data }, { on := 11, ground := Go.Ground.data }, { on := 13, ground := Go.Ground.data }], guard := none }) rfl (fun K hK => ?_) AllReadyH.nil
        go_simp
        refine hK.out _ _ (by (try dsimp only); first | assumption | (simp [*, go_sem]; done) | (refine ⟨?_, ?_⟩ <;> simp [*, go_sem])) (fun hHeld => ?_)
        clear hK K
        try simp only [Act.put, List.setIfInBounds_toArray, List.set_cons_zero, List.set_cons_succ]
        refine wpAnyH_ready (rs := [15]) (by kernel_rfl) (by simp) ?_
        refine AllReadyH.cons (o := { dst := some 34, op := Go.Op.call { callee := Go.Callee.value (Go.Operand.func 30), args := #[Go.Operand.tmp 33], argTypes := #[38] }, type := 9, pos := "rockridge.go:72", after := #[{ on := 14, ground := Go.Ground.data }, { on := 5, ground := Go.Ground.chain }], guard := none }) rfl (fun K hK => ?_) AllReadyH.nil
        go_simp
        (first | (go_at_call 31; (with_reducible refine (KB.out _).mono ?_); rintro e w' ⟨rfl, rfl⟩) | (go_at_call 30; (with_reducible refine (N4.out _ _ (by simp) (by go_simp) (by go_simp) (by go_simp) (by go_simp)).mono ?_); rintro e w' ⟨rfl, hb⟩; have hz := hb.size; (try simp only [World.size_alloc, World.size_setCell, World.size_drew, Nat.add_assoc, Nat.reduceAdd] at hz); (first | obtain ⟨HL, hk⟩ := HL.call hb hz (by simp only [World.size_alloc, World.size_setCell, World.size_drew, Nat.add_assoc, Nat.reduceAdd]) | obtain ⟨HL, hk⟩ := HL.call0 hb hz (by first | rfl | simp only [World.size_alloc, World.size_setCell, World.size_drew, Nat.add_assoc, Nat.reduceAdd])); (try simp only [addN, Nat.add_zero] at HL hk); have hl := HL; simp only [Live] at hl; (try simp only [Kept] at hk)) | (go_at_call 28; (with_reducible refine Calls.mono (eadd1 ob [] sPX (pxS r) _ _ (by simp) (by repeat (first | with_reducible assumption | refine EO.alloc ?_ _ | refine EO.drew ?_ | refine EO.below ?_ (by assumption))) (by simp) (by go_simp) (by first | assumption | decide)) ?_); rintro e w' ⟨rfl, hEO, hbE⟩; have hzE := hbE.size; have hkE := fun o => hbE.cell (p := ⟨w.heap.size, o, none⟩) hlt2))
        go_wp2_with fail
        refine hK.out _ _ (by (try dsimp only); first | assumption | (simp [*, go_sem]; done) | (refine ⟨?_, ?_⟩ <;> simp [*, go_sem])) (fun hHeld => ?_)
        clear hK K
        try simp only [Act.put, List.setIfInBounds_toArray, List.set_cons_zero, List.set_cons_succ]
        refine wpAnyH_ready (rs := [16]) (by kernel_rfl) (by simp) ?_
        refine AllReadyH.cons (o := { dst := some 35, op := Go.Op.buildSlice 46 1 #[(0, Go.Operand.tmp 34)], type := 46, pos := "rockridge.go:72", after := #[{ on := 15, ground := Go.Ground.data }], guard := none }) rfl (fun K hK => ?_) AllReadyH.nil
        go_simp
        refine hK.out _ _ (by (try dsimp only); first | assumption | (simp [*, go_sem]; done) | (refine ⟨?_, ?_⟩ <;> simp [*, go_sem])) (fun hHeld => ?_)
        clear hK K
        try simp only [Act.put, List.setIfInBounds_toArray, List.set_cons_zero, List.set_cons_succ]
        refine wpAnyH_ready (rs := [17]) (by kernel_rfl) (by simp) ?_
        refine AllReadyH.cons (o := { dst := some 36, op := Go.Op.call { callee := Go.Callee.value (Go.Operand.tmp 19), args := #[Go.Operand.const (Go.Value.bool true), Go.Operand.const (Go.Value.string { data := #[80, 88] }), Go.Operand.tmp 35], argTypes := #[4, 9, 46] }, type := 0, pos := "rockridge.go:72", after := #[{ on := 0, ground := Go.Ground.data }, { on := 16, ground := Go.Ground.data }, { on := 15, ground := Go.Ground.chain }], guard := none }) rfl (fun K hK => ?_) AllReadyH.nil
        go_simp
        (first | (go_at_call 31; (with_reducible refine (KB.out _).mono ?_); rintro e w' ⟨rfl, rfl⟩) | (go_at_call 30; (with_reducible refine (N4.out _ _ (by simp) (by go_simp) (by go_simp) (by go_simp) (by go_simp)).mono ?_); rintro e w' ⟨rfl, hb⟩; have hz := hb.size; (try simp only [World.size_alloc, World.size_setCell, World.size_drew, Nat.add_assoc, Nat.reduceAdd] at hz); (first | obtain ⟨HL, hk⟩ := HL.call hb hz (by simp only [World.size_alloc, World.size_setCell, World.size_drew, Nat.add_assoc, Nat.reduceAdd]) | obtain ⟨HL, hk⟩ := HL.call0 hb hz (by first | rfl | simp only [World.size_alloc, World.size_setCell, World.size_drew, Nat.add_assoc, Nat.reduceAdd])); (try simp only [addN, Nat.add_zero] at HL hk); have hl := HL; simp only [Live] at hl; (try simp only [Kept] at hk)) | (go_at_call 28; (with_reducible refine Calls.mono (eadd1 ob [] sPX (pxS r) _ _ (by simp) (by repeat (first | with_reducible assumption | refine EO.alloc ?_ _ | refine EO.drew ?_ | refine EO.below ?_ (by assumption))) (by simp) (by go_simp) (by first | assumption | decide)) ?_); rintro e w' ⟨rfl, hEO, hbE⟩; have hzE := hbE.size; have hkE := fun o => hbE.cell (p := ⟨w.heap.size, o, none⟩) hlt2))
        go_wp2_with fail
        refine hK.out _ _ (by (try dsimp only); first | assumption | (simp [*, go_sem]; done) | (refine ⟨?_, ?_⟩ <;> simp [*, go_sem])) (fun hHeld => ?_)
        clear hK K
        try simp only [Act.put, List.setIfInBounds_toArray, List.set_cons_zero, List.set_cons_succ]
        refine wpAnyH_done (by kernel_rfl) ?_ _
        refine NoPanic.normal ?_
        all_goals
          go_wp2
          go_meet
          exact ⟨rfl, by rw [E.out]; exact hEO, by (repeat' (first | (with_reducible exact Below.refl _ _) | (with_reducible refine Below.alloc ?_ ?_ _) | (with_reducible refine Below.setCell ?_ ?_ _) | (with_reducible refine Below.drew ?_) | (with_reducible refine below_drewN' ?_) | (with_reducible refine below_bytesW ?_ ?_) | (with_reducible refine Below.trans ?_ (Below.mono (by assumption) ?_)) | omega | (simp only [World.size_alloc, World.size_setCell, World.size_drew]; omega) | (simp [size_bytesW]; omega) | (simp; omega))), by (repeat' (first | with_reducible assumption | (with_reducible refine Blk.alloc ?_ _) | (with_reducible refine Blk.drew ?_) | (with_reducible refine Blk.below (by with_reducible assumption) ?_) | (with_reducible refine Blk.under (by with_reducible assumption) (by omega) ?_)))⟩
      · have KB := hide (show ∀ W, Calls Tryz.prog 31 #[.int .i64 2] W fun e w' => e = .returned (.int .i64 10) ∧ W = w' from fun W => kindBits_any 2 (by omega) W)
        have HP := hide (show (⟨(numL [r.mode + 40960, r.links, r.uid, r.gid]).toArray⟩ : ByteArray) = pxS r by unfold pxS; rw [hk0]; rfl)
        have N4 := hide (show ∀ g W, g < W.heap.size → W.cell? ⟨g, 0, none⟩ = some (.int .i64 (r.mode + 40960)) → W.cell? ⟨g, 1, none⟩ = some (.int .i64 r.links) → W.cell? ⟨g, 2, none⟩ = some (.int .i64 r.uid) → W.cell? ⟨g, 3, none⟩ = some (.int .i64 r.gid) →
          Calls Tryz.prog 30 #[.slice (some ⟨g, 0, none⟩) 4 4] W fun e w' => e = .returned (.string (pxS r)) ∧ Below W.heap.size W w' from fun g W hg h0 h1 h2 h3 => by
            have := num4 g (r.mode + 40960) r.links r.uid r.gid W hg (by omega) z4 z5 z6 h0 h1 h2 h3
            rw [HP.out] at this
            exact this)
        go_upto_region 7 with fail
        have HL : Live W2 [w.heap.size] := ⟨by omega, trivial⟩
        have hw3 : w.heap.size < W2.heap.size := by omega
        have wk : IntKind.i64.wrap 40960 = 40960 := by decide
        have hor : bits .or .i64 r.mode 40960 = r.mode + 40960 := or_low r.mode 40960 z3 (by omega) (by omega) (by decide)
        refine wp_region_noPanic ?_
        refine wp_region_held_drew (S := (fun x => x.cell? ⟨w.heap.size, 1, none⟩ = some (.int .i64 2) ∧ x.cell? ⟨w.heap.size, 2, none⟩ = some (.int .i64 r.mode) ∧ x.cell? ⟨w.heap.size, 3, none⟩ = some (.int .i64 r.links) ∧ x.cell? ⟨w.heap.size, 4, none⟩ = some (.int .i64 r.uid) ∧ x.cell? ⟨w.heap.size, 5, none⟩ = some (.int .i64 r.gid))) (by kernel_rfl) (by (try dsimp only); first | assumption | (simp [*, go_sem]; done) | (refine ⟨?_, ?_⟩ <;> simp [*, go_sem])) (fun hHeld => ?_)
        refine wpAnyH_take (i := 0) (oi := { dst := some 19, op := Go.Op.move (Go.Operand.tmp 6), type := 53, pos := "rockridge.go:72", after := #[], guard := none }) (v := ?_) rfl (by kernel_rfl) (by kernel_rfl) (by kernel_rfl) (fun _ _ _ h => h) (Or.inl ⟨by rfl, ?_⟩) (by assumption) ?_
        rotate_left
        · intro w hSw; (try dsimp only at hSw); go_simp; (try with_reducible rfl)
        try simp only [Act.put, List.setIfInBounds_toArray, List.set_cons_zero, List.set_cons_succ]
        refine wpAnyH_take (i := 1) (oi := { dst := some 20, op := Go.Op.fieldAddr 23 (Go.Operand.tmp 1) 2, type := 0, pos := "rockridge.go:72", after := #[], guard := none }) (v := ?_) rfl (by kernel_rfl) (by kernel_rfl) (by kernel_rfl) (fun _ _ _ h => h) (Or.inl ⟨by rfl, ?_⟩) (by assumption) ?_
        rotate_left
        · intro w hSw; (try dsimp only at hSw); go_simp; (try with_reducible rfl)
        try simp only [Act.put, List.setIfInBounds_toArray, List.set_cons_zero, List.set_cons_succ]
        refine wpAnyH_take (i := 2) (oi := { dst := some 21, op := Go.Op.load 3 (Go.Operand.tmp 20), type := 3, pos := "rockridge.go:72", after := #[{ on := 1, ground := Go.Ground.data }], guard := none }) (v := ?_) rfl (by kernel_rfl) (by kernel_rfl) (by kernel_rfl) (fun _ _ _ h => h) (Or.inl ⟨by rfl, ?_⟩) (by assumption) ?_
        rotate_left
        · intro w hSw; (try dsimp only at hSw); go_simp; (try with_reducible rfl)
        try simp only [Act.put, List.setIfInBounds_toArray, List.set_cons_zero, List.set_cons_succ]
        refine wpAnyH_take (i := 3) (oi := { dst := some 22, op := Go.Op.fieldAddr 23 (Go.Operand.tmp 1) 1, type := 0, pos := "rockridge.go:72", after := #[], guard := none }) (v := ?_) rfl (by kernel_rfl) (by kernel_rfl) (by kernel_rfl) (fun _ _ _ h => h) (Or.inl ⟨by rfl, ?_⟩) (by assumption) ?_
        rotate_left
        · intro w hSw; (try dsimp only at hSw); go_simp; (try with_reducible rfl)
        try simp only [Act.put, List.setIfInBounds_toArray, List.set_cons_zero, List.set_cons_succ]
        refine wpAnyH_take (i := 4) (oi := { dst := some 23, op := Go.Op.load 3 (Go.Operand.tmp 22), type := 3, pos := "rockridge.go:72", after := #[{ on := 3, ground := Go.Ground.data }], guard := none }) (v := ?_) rfl (by kernel_rfl) (by kernel_rfl) (by kernel_rfl) (fun _ _ _ h => h) (Or.inl ⟨by rfl, ?_⟩) (by assumption) ?_
        rotate_left
        · intro w hSw; (try dsimp only at hSw); go_simp; (try with_reducible rfl)
        try simp only [Act.put, List.setIfInBounds_toArray, List.set_cons_zero, List.set_cons_succ]
        refine wpAnyH_take (i := 8) (oi := { dst := some 27, op := Go.Op.fieldAddr 23 (Go.Operand.tmp 1) 3, type := 0, pos := "rockridge.go:72", after := #[], guard := none }) (v := ?_) rfl (by kernel_rfl) (by kernel_rfl) (by kernel_rfl) (fun _ _ _ h => h) (Or.inl ⟨by rfl, ?_⟩) (by assumption) ?_
        rotate_left
        · intro w hSw; (try dsimp only at hSw); go_simp; (try with_reducible rfl)
        try simp only [Act.put, List.setIfInBounds_toArray, List.set_cons_zero, List.set_cons_succ]
        refine wpAnyH_take (i := 9) (oi := { dst := some 28, op := Go.Op.load 3 (Go.Operand.tmp 27), type := 3, pos := "rockridge.go:72", after := #[{ on := 8, ground := Go.Ground.data }], guard := none }) (v := ?_) rfl (by kernel_rfl) (by kernel_rfl) (by kernel_rfl) (fun _ _ _ h => h) (Or.inl ⟨by rfl, ?_⟩) (by assumption) ?_
        rotate_left
        · intro w hSw; (try dsimp only at hSw); go_simp; (try with_reducible rfl)
        try simp only [Act.put, List.setIfInBounds_toArray, List.set_cons_zero, List.set_cons_succ]
        refine wpAnyH_take (i := 10) (oi := { dst := some 29, op := Go.Op.fieldAddr 23 (Go.Operand.tmp 1) 4, type := 0, pos := "rockridge.go:72", after := #[], guard := none }) (v := ?_) rfl (by kernel_rfl) (by kernel_rfl) (by kernel_rfl) (fun _ _ _ h => h) (Or.inl ⟨by rfl, ?_⟩) (by assumption) ?_
        rotate_left
        · intro w hSw; (try dsimp only at hSw); go_simp; (try with_reducible rfl)
        try simp only [Act.put, List.setIfInBounds_toArray, List.set_cons_zero, List.set_cons_succ]
        refine wpAnyH_take (i := 11) (oi := { dst := some 30, op := Go.Op.load 3 (Go.Operand.tmp 29), type := 3, pos := "rockridge.go:72", after := #[{ on := 10, ground := Go.Ground.data }], guard := none }) (v := ?_) rfl (by kernel_rfl) (by kernel_rfl) (by kernel_rfl) (fun _ _ _ h => h) (Or.inl ⟨by rfl, ?_⟩) (by assumption) ?_
        rotate_left
        · intro w hSw; (try dsimp only at hSw); go_simp; (try with_reducible rfl)
        try simp only [Act.put, List.setIfInBounds_toArray, List.set_cons_zero, List.set_cons_succ]
        refine wpAnyH_take (i := 12) (oi := { dst := some 31, op := Go.Op.fieldAddr 23 (Go.Operand.tmp 1) 5, type := 0, pos := "rockridge.go:72", after := #[], guard := none }) (v := ?_) rfl (by kernel_rfl) (by kernel_rfl) (by kernel_rfl) (fun _ _ _ h => h) (Or.inl ⟨by rfl, ?_⟩) (by assumption) ?_
        rotate_left
        · intro w hSw; (try dsimp only at hSw); go_simp; (try with_reducible rfl)
        try simp only [Act.put, List.setIfInBounds_toArray, List.set_cons_zero, List.set_cons_succ]
        refine wpAnyH_take (i := 13) (oi := { dst := some 32, op := Go.Op.load 3 (Go.Operand.tmp 31), type := 3, pos := "rockridge.go:72", after := #[{ on := 12, ground := Go.Ground.data }], guard := none }) (v := ?_) rfl (by kernel_rfl) (by kernel_rfl) (by kernel_rfl) (fun _ _ _ h => h) (Or.inl ⟨by rfl, ?_⟩) (by assumption) ?_
        rotate_left
        · intro w hSw; (try dsimp only at hSw); go_simp; (try with_reducible rfl)
        try simp only [Act.put, List.setIfInBounds_toArray, List.set_cons_zero, List.set_cons_succ]
        refine wpAnyH_ready (rs := [5]) (by kernel_rfl) (by simp) ?_
        refine AllReadyH.cons (o := { dst := some 24, op := Go.Op.call { callee := Go.Callee.value (Go.Operand.func 31), args := #[Go.Operand.tmp 23], argTypes := #[3] }, type := 3, pos := "rockridge.go:72", after := #[{ on := 4, ground := Go.Ground.data }], guard := none }) rfl (fun K hK => ?_) AllReadyH.nil
        go_simp
        (first | (go_at_call 31; (with_reducible refine (KB.out _).mono ?_); rintro e w' ⟨rfl, rfl⟩) | (go_at_call 30; (with_reducible refine (N4.out _ _ (by simp) (by go_simp) (by go_simp) (by go_simp) (by go_simp)).mono ?_); rintro e w' ⟨rfl, hb⟩; have hz := hb.size; (try simp only [World.size_alloc, World.size_setCell, World.size_drew, Nat.add_assoc, Nat.reduceAdd] at hz); (first | obtain ⟨HL, hk⟩ := HL.call hb hz (by simp only [World.size_alloc, World.size_setCell, World.size_drew, Nat.add_assoc, Nat.reduceAdd]) | obtain ⟨HL, hk⟩ := HL.call0 hb hz (by first | rfl | simp only [World.size_alloc, World.size_setCell, World.size_drew, Nat.add_assoc, Nat.reduceAdd])); (try simp only [addN, Nat.add_zero] at HL hk); have hl := HL; simp only [Live] at hl; (try simp only [Kept] at hk)) | (go_at_call 28; (with_reducible refine Calls.mono (eadd1 ob [] sPX (pxS r) _ _ (by simp) (by repeat (first | with_reducible assumption | refine EO.alloc ?_ _ | refine EO.drew ?_ | refine EO.below ?_ (by assumption))) (by simp) (by go_simp) (by first | assumption | decide)) ?_); rintro e w' ⟨rfl, hEO, hbE⟩; have hzE := hbE.size; have hkE := fun o => hbE.cell (p := ⟨w.heap.size, o, none⟩) hlt2))
        go_wp2_with fail
        refine hK.out _ _ (by (try dsimp only); first | assumption | (simp [*, go_sem]; done) | (refine ⟨?_, ?_⟩ <;> simp [*, go_sem])) (fun hHeld => ?_)
        clear hK K
        try simp only [Act.put, List.setIfInBounds_toArray, List.set_cons_zero, List.set_cons_succ]
        refine wpAnyH_take (i := 6) (oi := { dst := some 25, op := Go.Op.binOp Go.BinOp.shl 3 (Go.Operand.tmp 24) (Go.Operand.const (Go.Value.int Go.IntKind.u64 12)) 56, type := 3, pos := "rockridge.go:72", after := #[{ on := 5, ground := Go.Ground.data }], guard := none }) (v := ?_) rfl (by kernel_rfl) (by kernel_rfl) (by kernel_rfl) (fun _ _ _ h => h) (Or.inl ⟨by rfl, ?_⟩) (by assumption) ?_
        rotate_left
        · intro w hSw; (try dsimp only at hSw); go_simp; (try with_reducible rfl)
        try simp only [Act.put, List.setIfInBounds_toArray, List.set_cons_zero, List.set_cons_succ]
        refine wpAnyH_take (i := 7) (oi := { dst := some 26, op := Go.Op.binOp Go.BinOp.or 3 (Go.Operand.tmp 21) (Go.Operand.tmp 25) 3, type := 3, pos := "rockridge.go:72", after := #[{ on := 2, ground := Go.Ground.data }, { on := 6, ground := Go.Ground.data }], guard := none }) (v := ?_) rfl (by kernel_rfl) (by kernel_rfl) (by kernel_rfl) (fun _ _ _ h => h) (Or.inl ⟨by rfl, ?_⟩) (by assumption) ?_
        rotate_left
        · intro w hSw; (try dsimp only at hSw); go_simp; (try with_reducible rfl)
        try simp only [Act.put, List.setIfInBounds_toArray, List.set_cons_zero, List.set_cons_succ]
        refine wpAnyH_ready (rs := [14]) (by kernel_rfl) (by simp) ?_
        refine AllReadyH.cons (o := { dst := some 33, op := Go.Op.buildSlice 38 4 #[(0, Go.Operand.tmp 26), (1, Go.Operand.tmp 28), (2, Go.Operand.tmp 30), (3, Go.Operand.tmp 32)], type := 38, pos := "rockridge.go:72", after := #[{ on := 7, ground := Go.Ground.data }, { on := 9, ground := Go.Ground.data }, { on := 11, ground := Go.Ground.data }, { on := 13, ground := Go.Ground.data }], guard := none }) rfl (fun K hK => ?_) AllReadyH.nil
        go_simp
        refine hK.out _ _ (by (try dsimp only); first | assumption | (simp [*, go_sem]; done) | (refine ⟨?_, ?_⟩ <;> simp [*, go_sem])) (fun hHeld => ?_)
        clear hK K
        try simp only [Act.put, List.setIfInBounds_toArray, List.set_cons_zero, List.set_cons_succ]
        refine wpAnyH_ready (rs := [15]) (by kernel_rfl) (by simp) ?_
        refine AllReadyH.cons (o := { dst := some 34, op := Go.Op.call { callee := Go.Callee.value (Go.Operand.func 30), args := #[Go.Operand.tmp 33], argTypes := #[38] }, type := 9, pos := "rockridge.go:72", after := #[{ on := 14, ground := Go.Ground.data }, { on := 5, ground := Go.Ground.chain }], guard := none }) rfl (fun K hK => ?_) AllReadyH.nil
        go_simp
        (first | (go_at_call 31; (with_reducible refine (KB.out _).mono ?_); rintro e w' ⟨rfl, rfl⟩) | (go_at_call 30; (with_reducible refine (N4.out _ _ (by simp) (by go_simp) (by go_simp) (by go_simp) (by go_simp)).mono ?_); rintro e w' ⟨rfl, hb⟩; have hz := hb.size; (try simp only [World.size_alloc, World.size_setCell, World.size_drew, Nat.add_assoc, Nat.reduceAdd] at hz); (first | obtain ⟨HL, hk⟩ := HL.call hb hz (by simp only [World.size_alloc, World.size_setCell, World.size_drew, Nat.add_assoc, Nat.reduceAdd]) | obtain ⟨HL, hk⟩ := HL.call0 hb hz (by first | rfl | simp only [World.size_alloc, World.size_setCell, World.size_drew, Nat.add_assoc, Nat.reduceAdd])); (try simp only [addN, Nat.add_zero] at HL hk); have hl := HL; simp only [Live] at hl; (try simp only [Kept] at hk)) | (go_at_call 28; (with_reducible refine Calls.mono (eadd1 ob [] sPX (pxS r) _ _ (by simp) (by repeat (first | with_reducible assumption | refine EO.alloc ?_ _ | refine EO.drew ?_ | refine EO.below ?_ (by assumption))) (by simp) (by go_simp) (by first | assumption | decide)) ?_); rintro e w' ⟨rfl, hEO, hbE⟩; have hzE := hbE.size; have hkE := fun o => hbE.cell (p := ⟨w.heap.size, o, none⟩) hlt2))
        go_wp2_with fail
        refine hK.out _ _ (by (try dsimp only); first | assumption | (simp [*, go_sem]; done) | (refine ⟨?_, ?_⟩ <;> simp [*, go_sem])) (fun hHeld => ?_)
        clear hK K
        try simp only [Act.put, List.setIfInBounds_toArray, List.set_cons_zero, List.set_cons_succ]
        refine wpAnyH_ready (rs := [16]) (by kernel_rfl) (by simp) ?_
        refine AllReadyH.cons (o := { dst := some 35, op := Go.Op.buildSlice 46 1 #[(0, Go.Operand.tmp 34)], type := 46, pos := "rockridge.go:72", after := #[{ on := 15, ground := Go.Ground.data }], guard := none }) rfl (fun K hK => ?_) AllReadyH.nil
        go_simp
        refine hK.out _ _ (by (try dsimp only); first | assumption | (simp [*, go_sem]; done) | (refine ⟨?_, ?_⟩ <;> simp [*, go_sem])) (fun hHeld => ?_)
        clear hK K
        try simp only [Act.put, List.setIfInBounds_toArray, List.set_cons_zero, List.set_cons_succ]
        refine wpAnyH_ready (rs := [17]) (by kernel_rfl) (by simp) ?_
        refine AllReadyH.cons (o := { dst := some 36, op := Go.Op.call { callee := Go.Callee.value (Go.Operand.tmp 19), args := #[Go.Operand.const (Go.Value.bool true), Go.Operand.const (Go.Value.string { data := #[80, 88] }), Go.Operand.tmp 35], argTypes := #[4, 9, 46] }, type := 0, pos := "rockridge.go:72", after := #[{ on := 0, ground := Go.Ground.data }, { on := 16, ground := Go.Ground.data }, { on := 15, ground := Go.Ground.chain }], guard := none }) rfl (fun K hK => ?_) AllReadyH.nil
        go_simp
        (first | (go_at_call 31; (with_reducible refine (KB.out _).mono ?_); rintro e w' ⟨rfl, rfl⟩) | (go_at_call 30; (with_reducible refine (N4.out _ _ (by simp) (by go_simp) (by go_simp) (by go_simp) (by go_simp)).mono ?_); rintro e w' ⟨rfl, hb⟩; have hz := hb.size; (try simp only [World.size_alloc, World.size_setCell, World.size_drew, Nat.add_assoc, Nat.reduceAdd] at hz); (first | obtain ⟨HL, hk⟩ := HL.call hb hz (by simp only [World.size_alloc, World.size_setCell, World.size_drew, Nat.add_assoc, Nat.reduceAdd]) | obtain ⟨HL, hk⟩ := HL.call0 hb hz (by first | rfl | simp only [World.size_alloc, World.size_setCell, World.size_drew, Nat.add_assoc, Nat.reduceAdd])); (try simp only [addN, Nat.add_zero] at HL hk); have hl := HL; simp only [Live] at hl; (try simp only [Kept] at hk)) | (go_at_call 28; (with_reducible refine Calls.mono (eadd1 ob [] sPX (pxS r) _ _ (by simp) (by repeat (first | with_reducible assumption | refine EO.alloc ?_ _ | refine EO.drew ?_ | refine EO.below ?_ (by assumption))) (by simp) (by go_simp) (by first | assumption | decide)) ?_); rintro e w' ⟨rfl, hEO, hbE⟩; have hzE := hbE.size; have hkE := fun o => hbE.cell (p := ⟨w.heap.size, o, none⟩) hlt2))
        go_wp2_with fail
        refine hK.out _ _ (by (try dsimp only); first | assumption | (simp [*, go_sem]; done) | (refine ⟨?_, ?_⟩ <;> simp [*, go_sem])) (fun hHeld => ?_)
        clear hK K
        try simp only [Act.put, List.setIfInBounds_toArray, List.set_cons_zero, List.set_cons_succ]
        refine wpAnyH_done (by kernel_rfl) ?_ _
        refine NoPanic.normal ?_
        all_goals
          go_wp2
          go_meet
          exact ⟨rfl, by rw [E.out]; exact hEO, by (repeat' (first | (with_reducible exact Below.refl _ _) | (with_reducible refine Below.alloc ?_ ?_ _) | (with_reducible refine Below.setCell ?_ ?_ _) | (with_reducible refine Below.drew ?_) | (with_reducible refine below_drewN' ?_) | (with_reducible refine below_bytesW ?_ ?_) | (with_reducible refine Below.trans ?_ (Below.mono (by assumption) ?_)) | omega | (simp only [World.size_alloc, World.size_setCell, World.size_drew]; omega) | (simp [size_bytesW]; omega) | (simp; omega))), by (repeat' (first | with_reducible assumption | (with_reducible refine Blk.alloc ?_ _) | (with_reducible refine Blk.drew ?_) | (with_reducible refine Blk.below (by with_reducible assumption) ?_) | (with_reducible refine Blk.under (by with_reducible assumption) (by omega) ?_)))⟩
  case rest =>
  obtain ⟨rfl, hEO1, hbel2, hB2⟩ := hcut
  have hrr2 := RRat.of hB2
  unfold RRat at hrr2
  have hlo2 := hEO1.lt
  have hwl2 : w.heap.size < wc.heap.size := by omega
  generalize wc = V2 at *
  go_upto_region 8 with fail
  go_cut [6] (fun f wx => f = .func (.func 28) #[] #[.pointer (some ⟨ob, 0, none⟩)] ∧ EO ob (en1 r ++ en2 r) wx ∧ Below w.heap.size w wx ∧ Blk wx w.heap.size r.cells 23)
  case first =>
    have HL : Live V2 [w.heap.size] := ⟨hwl2, trivial⟩
    cases a1 : r.named
    case false =>
      have E := hide (show en2 r = [] by simp [en2, a1])
      rw [a1] at hrr2
      clear a1
      go_wp2_with (first | (go_at_call 28; (with_reducible refine (eadd_no _ _ _ _).mono ?_); rintro e w' ⟨rfl, rfl⟩))
      go_meet
      exact ⟨rfl, by rw [E.out, List.append_nil]; (repeat' (first | with_reducible assumption | (with_reducible refine EO.alloc ?_ _) | (with_reducible refine EO.drew ?_) | (with_reducible refine EO.below ?_ (by with_reducible assumption)))), by (repeat' (first | (with_reducible exact Below.refl _ _) | (with_reducible refine Below.alloc ?_ ?_ _) | (with_reducible refine Below.setCell ?_ ?_ _) | (with_reducible refine Below.drew ?_) | (with_reducible refine below_drewN' ?_) | (with_reducible refine below_bytesW ?_ ?_) | (with_reducible refine Below.trans ?_ (Below.mono (by assumption) ?_)) | omega | (simp only [World.size_alloc, World.size_setCell, World.size_drew]; omega) | (simp [size_bytesW]; omega) | (simp; omega))), by (repeat' (first | with_reducible assumption | (with_reducible refine Blk.alloc ?_ _) | (with_reducible refine Blk.drew ?_) | (with_reducible refine Blk.below (by with_reducible assumption) ?_) | (with_reducible refine Blk.under (by with_reducible assumption) (by omega) ?_)))⟩
    case true =>
      have E := hide (show en2 r = [⟨sNM, 1, cat2 [0] r.name⟩] by simp [en2, a1])
      rw [a1] at hrr2
      clear a1
      go_wp2_with (first | (go_at_call 28; (with_reducible refine Calls.mono (eadd2 ob (en1 r) sNM ⟨#[0]⟩ r.name _ _ (by first | omega | (simp only [List.length_append]; omega)) (by (repeat' (first | with_reducible assumption | (with_reducible refine EO.alloc ?_ _) | (with_reducible refine EO.drew ?_) | (with_reducible refine EO.below ?_ (by with_reducible assumption))))) (by simp) (by go_simp) (by go_simp) (by decide) (by omega)) ?_); rintro e w' ⟨rfl, hEO, hbE⟩; have hzE := hbE.size; have hkE := fun o => hbE.cell (p := ⟨w.heap.size, o, none⟩) hlt2))
      all_goals
        go_meet
        exact ⟨rfl, by rw [E.out]; exact hEO, by (repeat' (first | (with_reducible exact Below.refl _ _) | (with_reducible refine Below.alloc ?_ ?_ _) | (with_reducible refine Below.setCell ?_ ?_ _) | (with_reducible refine Below.drew ?_) | (with_reducible refine below_drewN' ?_) | (with_reducible refine below_bytesW ?_ ?_) | (with_reducible refine Below.trans ?_ (Below.mono (by assumption) ?_)) | omega | (simp only [World.size_alloc, World.size_setCell, World.size_drew]; omega) | (simp [size_bytesW]; omega) | (simp; omega))), by (repeat' (first | with_reducible assumption | (with_reducible refine Blk.alloc ?_ _) | (with_reducible refine Blk.drew ?_) | (with_reducible refine Blk.below (by with_reducible assumption) ?_) | (with_reducible refine Blk.under (by with_reducible assumption) (by omega) ?_)))⟩
  case rest =>
  obtain ⟨rfl, hEO2, hbel3, hB3⟩ := hcut
  have hrr3 := RRat.of hB3
  unfold RRat at hrr3
  have hlo3 := hEO2.lt
  have hwl3 : w.heap.size < wc.heap.size := by omega
  generalize wc = V3 at *
  go_upto_if 46 with fail
  go_cut [6] (fun f wx => f = .func (.func 28) #[] #[.pointer (some ⟨ob, 0, none⟩)] ∧ EO ob (en1 r ++ en2 r ++ en3 r) wx ∧ Below w.heap.size w wx ∧ Blk wx w.heap.size r.cells 23)
  case first =>
    have HL : Live V3 [w.heap.size] := ⟨hwl3, trivial⟩
    cases a1 : r.target.toList.isEmpty
    case true =>
      have E := hide (show en3 r = [] by simp [en3, a1])
      go_wp2
      go_meet
      exact ⟨rfl, by rw [E.out, List.append_nil]; exact hEO2, by (repeat' (first | (with_reducible exact Below.refl _ _) | (with_reducible refine Below.alloc ?_ ?_ _) | (with_reducible refine Below.setCell ?_ ?_ _) | (with_reducible refine Below.drew ?_) | (with_reducible refine below_drewN' ?_) | (with_reducible refine below_bytesW ?_ ?_) | (with_reducible refine Below.trans ?_ (Below.mono (by assumption) ?_)) | omega | (simp only [World.size_alloc, World.size_setCell, World.size_drew]; omega) | (simp [size_bytesW]; omega) | (simp; omega))), by (repeat' (first | with_reducible assumption | (with_reducible refine Blk.alloc ?_ _) | (with_reducible refine Blk.drew ?_) | (with_reducible refine Blk.below (by with_reducible assumption) ?_) | (with_reducible refine Blk.under (by with_reducible assumption) (by omega) ?_)))⟩
    case false =>
      have E := hide (show en3 r = [⟨sSL, 1, cat2 [0] (compsB r.target)⟩] by simp [en3, a1])
      have htg := z2 a1
      have CP := hide (fun W hW => comps_yes r.target htg W hW)
      have hcs := comps_size htg
      have hT3 := hT.below hbel3
      go_wp2_with (first | (go_at_call 15; (with_reducible refine (CP.out _ hT3).mono ?_); rintro e w' ⟨rfl, hb⟩; have hz := hb.size; (try simp only [World.size_alloc, World.size_setCell, World.size_drew, Nat.add_assoc, Nat.reduceAdd] at hz); (first | obtain ⟨HL, hk⟩ := HL.call hb hz (by simp only [World.size_alloc, World.size_setCell, World.size_drew, Nat.add_assoc, Nat.reduceAdd]) | obtain ⟨HL, hk⟩ := HL.call0 hb hz (by first | rfl | simp only [World.size_alloc, World.size_setCell, World.size_drew, Nat.add_assoc, Nat.reduceAdd])); (try simp only [addN, Nat.add_zero] at HL hk); have hl := HL; simp only [Live] at hl; (try simp only [Kept] at hk)) | (go_at_call 28; (with_reducible refine Calls.mono (eadd2 ob (en1 r ++ en2 r) sSL ⟨#[0]⟩ (compsB r.target) _ _ (by first | omega | (simp only [List.length_append]; omega)) (by (repeat' (first | with_reducible assumption | (with_reducible refine EO.alloc ?_ _) | (with_reducible refine EO.drew ?_) | (with_reducible refine EO.below ?_ (by with_reducible assumption))))) (by simp) (by go_simp) (by go_simp) (by decide) (by omega)) ?_); rintro e w' ⟨rfl, hEO, hbE⟩; have hzE := hbE.size; have hkE := fun o => hbE.cell (p := ⟨w.heap.size, o, none⟩) hlt2))
      all_goals
        go_meet
        exact ⟨rfl, by rw [E.out]; exact hEO, by (repeat' (first | (with_reducible exact Below.refl _ _) | (with_reducible refine Below.alloc ?_ ?_ _) | (with_reducible refine Below.setCell ?_ ?_ _) | (with_reducible refine Below.drew ?_) | (with_reducible refine below_drewN' ?_) | (with_reducible refine below_bytesW ?_ ?_) | (with_reducible refine Below.trans ?_ (Below.mono (by assumption) ?_)) | omega | (simp only [World.size_alloc, World.size_setCell, World.size_drew]; omega) | (simp [size_bytesW]; omega) | (simp; omega))), by (repeat' (first | with_reducible assumption | (with_reducible refine Blk.alloc ?_ _) | (with_reducible refine Blk.drew ?_) | (with_reducible refine Blk.below (by with_reducible assumption) ?_) | (with_reducible refine Blk.under (by with_reducible assumption) (by omega) ?_)))⟩
  case rest =>
  obtain ⟨rfl, hEO3, hbel4, hB4⟩ := hcut
  have hrr4 := RRat.of hB4
  unfold RRat at hrr4
  have hlo4 := hEO3.lt
  have hwl4 : w.heap.size < wc.heap.size := by omega
  generalize wc = V4 at *
  go_upto_if 58 with fail
  go_cut [6] (fun f wx => f = .func (.func 28) #[] #[.pointer (some ⟨ob, 0, none⟩)] ∧ EO ob (en1 r ++ en2 r ++ en3 r ++ en4 r) wx ∧ Below w.heap.size w wx ∧ Blk wx w.heap.size r.cells 23)
  case first =>
    have HL : Live V4 [w.heap.size] := ⟨hwl4, trivial⟩
    cases a1 : r.timed
    case false =>
      have E := hide (show en4 r = [] by simp [en4, a1])
      rw [a1] at hrr4
      clear a1
      go_wp2
      go_meet
      exact ⟨rfl, by rw [E.out, List.append_nil]; exact hEO3, by (repeat' (first | (with_reducible exact Below.refl _ _) | (with_reducible refine Below.alloc ?_ ?_ _) | (with_reducible refine Below.setCell ?_ ?_ _) | (with_reducible refine Below.drew ?_) | (with_reducible refine below_drewN' ?_) | (with_reducible refine below_bytesW ?_ ?_) | (with_reducible refine Below.trans ?_ (Below.mono (by assumption) ?_)) | omega | (simp only [World.size_alloc, World.size_setCell, World.size_drew]; omega) | (simp [size_bytesW]; omega) | (simp; omega))), by (repeat' (first | with_reducible assumption | (with_reducible refine Blk.alloc ?_ _) | (with_reducible refine Blk.drew ?_) | (with_reducible refine Blk.below (by with_reducible assumption) ?_) | (with_reducible refine Blk.under (by with_reducible assumption) (by omega) ?_)))⟩
    case true =>
      have E := hide (show en4 r = [⟨sTF, 1, cat2 [2] (Dt.recT r.time)⟩] by simp [en4, a1])
      have htm := z9 a1
      have hrs : (Dt.recT r.time).size ≤ 1000000 := by rw [Dt.recT_size r.time htm]; omega
      have RZ := hide (fun W => Dt.record_zero r.time htm W)
      rw [a1] at hrr4
      clear a1
      go_wp2_with (first | (go_at_call 32; (with_reducible refine (RZ.out _).mono ?_); rintro e w' ⟨rfl, hb⟩; have hz := hb.size; (try simp only [World.size_alloc, World.size_setCell, World.size_drew, Nat.add_assoc, Nat.reduceAdd] at hz); (first | obtain ⟨HL, hk⟩ := HL.call hb hz (by simp only [World.size_alloc, World.size_setCell, World.size_drew, Nat.add_assoc, Nat.reduceAdd]) | obtain ⟨HL, hk⟩ := HL.call0 hb hz (by first | rfl | simp only [World.size_alloc, World.size_setCell, World.size_drew, Nat.add_assoc, Nat.reduceAdd])); (try simp only [addN, Nat.add_zero] at HL hk); have hl := HL; simp only [Live] at hl; (try simp only [Kept] at hk)) | (go_at_call 28; (with_reducible refine Calls.mono (eadd2 ob (en1 r ++ en2 r ++ en3 r) sTF ⟨#[2]⟩ (Dt.recT r.time) _ _ (by first | omega | (simp only [List.length_append]; omega)) (by (repeat' (first | with_reducible assumption | (with_reducible refine EO.alloc ?_ _) | (with_reducible refine EO.drew ?_) | (with_reducible refine EO.below ?_ (by with_reducible assumption))))) (by simp) (by go_simp) (by go_simp) (by decide) (by assumption)) ?_); rintro e w' ⟨rfl, hEO, hbE⟩; have hzE := hbE.size; have hkE := fun o => hbE.cell (p := ⟨w.heap.size, o, none⟩) hlt2))
      all_goals
        go_meet
        exact ⟨rfl, by rw [E.out]; exact hEO, by (repeat' (first | (with_reducible exact Below.refl _ _) | (with_reducible refine Below.alloc ?_ ?_ _) | (with_reducible refine Below.setCell ?_ ?_ _) | (with_reducible refine Below.drew ?_) | (with_reducible refine below_drewN' ?_) | (with_reducible refine below_bytesW ?_ ?_) | (with_reducible refine Below.trans ?_ (Below.mono (by assumption) ?_)) | omega | (simp only [World.size_alloc, World.size_setCell, World.size_drew]; omega) | (simp [size_bytesW]; omega) | (simp; omega))), by (repeat' (first | with_reducible assumption | (with_reducible refine Blk.alloc ?_ _) | (with_reducible refine Blk.drew ?_) | (with_reducible refine Blk.below (by with_reducible assumption) ?_) | (with_reducible refine Blk.under (by with_reducible assumption) (by omega) ?_)))⟩
  case rest =>
  obtain ⟨rfl, hEO4, hbel5, hB5⟩ := hcut
  have hrr5 := RRat.of hB5
  unfold RRat at hrr5
  have hlo5 := hEO4.lt
  have hwl5 : w.heap.size < wc.heap.size := by omega
  generalize wc = V5 at *
  go_upto_region 15 with fail
  go_cut [6] (fun f wx => f = .func (.func 28) #[] #[.pointer (some ⟨ob, 0, none⟩)] ∧ EO ob (en1 r ++ en2 r ++ en3 r ++ en4 r ++ en5 r) wx ∧ Below w.heap.size w wx ∧ Blk wx w.heap.size r.cells 23)
  case first =>
    have HL : Live V5 [w.heap.size] := ⟨hwl5, trivial⟩
    have hbs : (bothS r.child).size ≤ 1000000 := by show 8 ≤ _; omega
    by_cases a1 : r.child = 0
    · have E := hide (show en5 r = [] by simp [en5, a1])
      have a2 : (r.child != 0) = false := by rw [a1]; rfl
      have A1 := hide a1
      clear a1
      refine wp_region_noPanic ?_
      refine wp_region_held_drew (S := (fun x => x.cell? ⟨w.heap.size, 11, none⟩ = some (.int .i64 r.child) ∧ True)) (by kernel_rfl) (by (try dsimp only); first | assumption | (simp [*, go_sem]; done) | (refine ⟨?_, ?_⟩ <;> simp [*, go_sem])) (fun hHeld => ?_)
      refine wpAnyH_take (i := 0) (oi := { dst := some 69, op := Go.Op.move (Go.Operand.tmp 6), type := 53, pos := "rockridge.go:83", after := #[], guard := none }) (v := ?_) rfl (by kernel_rfl) (by kernel_rfl) (by kernel_rfl) (fun _ _ _ h => h) (Or.inl ⟨by rfl, ?_⟩) (by assumption) ?_
      rotate_left
      · intro w hSw; (try dsimp only at hSw); go_simp; (try with_reducible rfl)
      try simp only [Act.put, List.setIfInBounds_toArray, List.set_cons_zero, List.set_cons_succ]
      refine wpAnyH_take (i := 1) (oi := { dst := some 70, op := Go.Op.fieldAddr 23 (Go.Operand.tmp 1) 11, type := 0, pos := "rockridge.go:83", after := #[], guard := none }) (v := ?_) rfl (by kernel_rfl) (by kernel_rfl) (by kernel_rfl) (fun _ _ _ h => h) (Or.inl ⟨by rfl, ?_⟩) (by assumption) ?_
      rotate_left
      · intro w hSw; (try dsimp only at hSw); go_simp; (try with_reducible rfl)
      try simp only [Act.put, List.setIfInBounds_toArray, List.set_cons_zero, List.set_cons_succ]
      refine wpAnyH_take (i := 2) (oi := { dst := some 71, op := Go.Op.load 3 (Go.Operand.tmp 70), type := 3, pos := "rockridge.go:83", after := #[{ on := 1, ground := Go.Ground.data }], guard := none }) (v := ?_) rfl (by kernel_rfl) (by kernel_rfl) (by kernel_rfl) (fun _ _ _ h => h) (Or.inl ⟨by rfl, ?_⟩) (by assumption) ?_
      rotate_left
      · intro w hSw; (try dsimp only at hSw); go_simp; (try with_reducible rfl)
      try simp only [Act.put, List.setIfInBounds_toArray, List.set_cons_zero, List.set_cons_succ]
      refine wpAnyH_take (i := 3) (oi := { dst := some 72, op := Go.Op.binOp Go.BinOp.neq 3 (Go.Operand.tmp 71) (Go.Operand.const (Go.Value.int Go.IntKind.i64 0)) 3, type := 4, pos := "rockridge.go:83", after := #[{ on := 2, ground := Go.Ground.data }], guard := none }) (v := ?_) rfl (by kernel_rfl) (by kernel_rfl) (by kernel_rfl) (fun _ _ _ h => h) (Or.inl ⟨by rfl, ?_⟩) (by assumption) ?_
      rotate_left
      · intro w hSw; (try dsimp only at hSw); go_simp; (try with_reducible rfl)
      try simp only [Act.put, List.setIfInBounds_toArray, List.set_cons_zero, List.set_cons_succ]
      refine wpAnyH_take (i := 4) (oi := { dst := some 73, op := Go.Op.fieldAddr 23 (Go.Operand.tmp 1) 11, type := 0, pos := "rockridge.go:83", after := #[], guard := none }) (v := ?_) rfl (by kernel_rfl) (by kernel_rfl) (by kernel_rfl) (fun _ _ _ h => h) (Or.inl ⟨by rfl, ?_⟩) (by assumption) ?_
      rotate_left
      · intro w hSw; (try dsimp only at hSw); go_simp; (try with_reducible rfl)
      try simp only [Act.put, List.setIfInBounds_toArray, List.set_cons_zero, List.set_cons_succ]
      refine wpAnyH_take (i := 5) (oi := { dst := some 74, op := Go.Op.load 3 (Go.Operand.tmp 73), type := 3, pos := "rockridge.go:83", after := #[{ on := 4, ground := Go.Ground.data }], guard := none }) (v := ?_) rfl (by kernel_rfl) (by kernel_rfl) (by kernel_rfl) (fun _ _ _ h => h) (Or.inl ⟨by rfl, ?_⟩) (by assumption) ?_
      rotate_left
      · intro w hSw; (try dsimp only at hSw); go_simp; (try with_reducible rfl)
      try simp only [Act.put, List.setIfInBounds_toArray, List.set_cons_zero, List.set_cons_succ]
      refine wpAnyH_ready (rs := [6]) (by kernel_rfl) (by simp) ?_
      refine AllReadyH.cons (o := { dst := some 75, op := Go.Op.buildSlice 38 1 #[(0, Go.Operand.tmp 74)], type := 38, pos := "rockridge.go:83", after := #[{ on := 5, ground := Go.Ground.data }], guard := none }) rfl (fun K hK => ?_) AllReadyH.nil
      go_simp
      refine hK.out _ _ (by (try dsimp only); first | assumption | (simp [*, go_sem]; done) | (refine ⟨?_, ?_⟩ <;> simp [*, go_sem])) (fun hHeld => ?_)
      clear hK K
      try simp only [Act.put, List.setIfInBounds_toArray, List.set_cons_zero, List.set_cons_succ]
      refine wpAnyH_ready (rs := [7]) (by kernel_rfl) (by simp) ?_
      refine AllReadyH.cons (o := { dst := some 76, op := Go.Op.call { callee := Go.Callee.value (Go.Operand.func 30), args := #[Go.Operand.tmp 75], argTypes := #[38] }, type := 9, pos := "rockridge.go:83", after := #[{ on := 6, ground := Go.Ground.data }], guard := none }) rfl (fun K hK => ?_) AllReadyH.nil
      go_simp
      (first | (go_at_call 30; (with_reducible refine Calls.mono (num1 _ r.child _ (by simp) z7 (by go_simp)) ?_); rintro e w' ⟨rfl, hb⟩; have hz := hb.size; (try simp only [World.size_alloc, World.size_setCell, World.size_drew, Nat.add_assoc, Nat.reduceAdd] at hz); (first | obtain ⟨HL, hk⟩ := HL.call hb hz (by simp only [World.size_alloc, World.size_setCell, World.size_drew, Nat.add_assoc, Nat.reduceAdd]) | obtain ⟨HL, hk⟩ := HL.call0 hb hz (by first | rfl | simp only [World.size_alloc, World.size_setCell, World.size_drew, Nat.add_assoc, Nat.reduceAdd])); (try simp only [addN, Nat.add_zero] at HL hk); have hl := HL; simp only [Live] at hl; (try simp only [Kept] at hk)) | (go_at_call 28; (with_reducible refine (eadd_no _ _ _ _).mono ?_); rintro e w' ⟨rfl, rfl⟩))
      go_wp2_with fail
      refine hK.out _ _ (by (try dsimp only); first | assumption | (simp [*, go_sem]; done) | (refine ⟨?_, ?_⟩ <;> simp [*, go_sem])) (fun hHeld => ?_)
      clear hK K
      try simp only [Act.put, List.setIfInBounds_toArray, List.set_cons_zero, List.set_cons_succ]
      refine wpAnyH_ready (rs := [8]) (by kernel_rfl) (by simp) ?_
      refine AllReadyH.cons (o := { dst := some 77, op := Go.Op.buildSlice 46 1 #[(0, Go.Operand.tmp 76)], type := 46, pos := "rockridge.go:83", after := #[{ on := 7, ground := Go.Ground.data }], guard := none }) rfl (fun K hK => ?_) AllReadyH.nil
      go_simp
      refine hK.out _ _ (by (try dsimp only); first | assumption | (simp [*, go_sem]; done) | (refine ⟨?_, ?_⟩ <;> simp [*, go_sem])) (fun hHeld => ?_)
      clear hK K
      try simp only [Act.put, List.setIfInBounds_toArray, List.set_cons_zero, List.set_cons_succ]
      refine wpAnyH_ready (rs := [9]) (by kernel_rfl) (by simp) ?_
      refine AllReadyH.cons (o := { dst := some 78, op := Go.Op.call { callee := Go.Callee.value (Go.Operand.tmp 69), args := #[Go.Operand.tmp 72, Go.Operand.const (Go.Value.string { data := #[67, 76] }), Go.Operand.tmp 77], argTypes := #[4, 9, 46] }, type := 0, pos := "rockridge.go:83", after := #[{ on := 0, ground := Go.Ground.data }, { on := 3, ground := Go.Ground.data }, { on := 8, ground := Go.Ground.data }, { on := 7, ground := Go.Ground.chain }], guard := none }) rfl (fun K hK => ?_) AllReadyH.nil
      go_simp
      (first | (go_at_call 30; (with_reducible refine Calls.mono (num1 _ r.child _ (by simp) z7 (by go_simp)) ?_); rintro e w' ⟨rfl, hb⟩; have hz := hb.size; (try simp only [World.size_alloc, World.size_setCell, World.size_drew, Nat.add_assoc, Nat.reduceAdd] at hz); (first | obtain ⟨HL, hk⟩ := HL.call hb hz (by simp only [World.size_alloc, World.size_setCell, World.size_drew, Nat.add_assoc, Nat.reduceAdd]) | obtain ⟨HL, hk⟩ := HL.call0 hb hz (by first | rfl | simp only [World.size_alloc, World.size_setCell, World.size_drew, Nat.add_assoc, Nat.reduceAdd])); (try simp only [addN, Nat.add_zero] at HL hk); have hl := HL; simp only [Live] at hl; (try simp only [Kept] at hk)) | (go_at_call 28; (with_reducible refine (eadd_no _ _ _ _).mono ?_); rintro e w' ⟨rfl, rfl⟩))
      go_wp2_with fail
      refine hK.out _ _ (by (try dsimp only); first | assumption | (simp [*, go_sem]; done) | (refine ⟨?_, ?_⟩ <;> simp [*, go_sem])) (fun hHeld => ?_)
      clear hK K
      try simp only [Act.put, List.setIfInBounds_toArray, List.set_cons_zero, List.set_cons_succ]
      refine wpAnyH_done (by kernel_rfl) ?_ _
      refine NoPanic.normal ?_
      all_goals
        go_wp2
        go_meet
        exact ⟨rfl, by rw [E.out, List.append_nil]; (repeat' (first | with_reducible assumption | (with_reducible refine EO.alloc ?_ _) | (with_reducible refine EO.drew ?_) | (with_reducible refine EO.below ?_ (by with_reducible assumption)))), by (repeat' (first | (with_reducible exact Below.refl _ _) | (with_reducible refine Below.alloc ?_ ?_ _) | (with_reducible refine Below.setCell ?_ ?_ _) | (with_reducible refine Below.drew ?_) | (with_reducible refine below_drewN' ?_) | (with_reducible refine below_bytesW ?_ ?_) | (with_reducible refine Below.trans ?_ (Below.mono (by assumption) ?_)) | omega | (simp only [World.size_alloc, World.size_setCell, World.size_drew]; omega) | (simp [size_bytesW]; omega) | (simp; omega))), by (repeat' (first | with_reducible assumption | (with_reducible refine Blk.alloc ?_ _) | (with_reducible refine Blk.drew ?_) | (with_reducible refine Blk.below (by with_reducible assumption) ?_) | (with_reducible refine Blk.under (by with_reducible assumption) (by omega) ?_)))⟩
    · have E := hide (show en5 r = [⟨sCL, 1, bothS r.child⟩] by simp [en5, a1])
      have a2 : (r.child != 0) = true := by rw [bne_iff_ne]; exact a1
      clear a1
      refine wp_region_noPanic ?_
      refine wp_region_held_drew (S := (fun x => x.cell? ⟨w.heap.size, 11, none⟩ = some (.int .i64 r.child) ∧ True)) (by kernel_rfl) (by (try dsimp only); first | assumption | (simp [*, go_sem]; done) | (refine ⟨?_, ?_⟩ <;> simp [*, go_sem])) (fun hHeld => ?_)
      refine wpAnyH_take (i := 0) (oi := { dst := some 69, op := Go.Op.move (Go.Operand.tmp 6), type := 53, pos := "rockridge.go:83", after := #[], guard := none }) (v := ?_) rfl (by kernel_rfl) (by kernel_rfl) (by kernel_rfl) (fun _ _ _ h => h) (Or.inl ⟨by rfl, ?_⟩) (by assumption) ?_
      rotate_left
      · intro w hSw; (try dsimp only at hSw); go_simp; (try with_reducible rfl)
      try simp only [Act.put, List.setIfInBounds_toArray, List.set_cons_zero, List.set_cons_succ]
      refine wpAnyH_take (i := 1) (oi := { dst := some 70, op := Go.Op.fieldAddr 23 (Go.Operand.tmp 1) 11, type := 0, pos := "rockridge.go:83", after := #[], guard := none }) (v := ?_) rfl (by kernel_rfl) (by kernel_rfl) (by kernel_rfl) (fun _ _ _ h => h) (Or.inl ⟨by rfl, ?_⟩) (by assumption) ?_
      rotate_left
      · intro w hSw; (try dsimp only at hSw); go_simp; (try with_reducible rfl)
      try simp only [Act.put, List.setIfInBounds_toArray, List.set_cons_zero, List.set_cons_succ]
      refine wpAnyH_take (i := 2) (oi := { dst := some 71, op := Go.Op.load 3 (Go.Operand.tmp 70), type := 3, pos := "rockridge.go:83", after := #[{ on := 1, ground := Go.Ground.data }], guard := none }) (v := ?_) rfl (by kernel_rfl) (by kernel_rfl) (by kernel_rfl) (fun _ _ _ h => h) (Or.inl ⟨by rfl, ?_⟩) (by assumption) ?_
      rotate_left
      · intro w hSw; (try dsimp only at hSw); go_simp; (try with_reducible rfl)
      try simp only [Act.put, List.setIfInBounds_toArray, List.set_cons_zero, List.set_cons_succ]
      refine wpAnyH_take (i := 3) (oi := { dst := some 72, op := Go.Op.binOp Go.BinOp.neq 3 (Go.Operand.tmp 71) (Go.Operand.const (Go.Value.int Go.IntKind.i64 0)) 3, type := 4, pos := "rockridge.go:83", after := #[{ on := 2, ground := Go.Ground.data }], guard := none }) (v := ?_) rfl (by kernel_rfl) (by kernel_rfl) (by kernel_rfl) (fun _ _ _ h => h) (Or.inl ⟨by rfl, ?_⟩) (by assumption) ?_
      rotate_left
      · intro w hSw; (try dsimp only at hSw); go_simp; (try with_reducible rfl)
      try simp only [Act.put, List.setIfInBounds_toArray, List.set_cons_zero, List.set_cons_succ]
      refine wpAnyH_take (i := 4) (oi := { dst := some 73, op := Go.Op.fieldAddr 23 (Go.Operand.tmp 1) 11, type := 0, pos := "rockridge.go:83", after := #[], guard := none }) (v := ?_) rfl (by kernel_rfl) (by kernel_rfl) (by kernel_rfl) (fun _ _ _ h => h) (Or.inl ⟨by rfl, ?_⟩) (by assumption) ?_
      rotate_left
      · intro w hSw; (try dsimp only at hSw); go_simp; (try with_reducible rfl)
      try simp only [Act.put, List.setIfInBounds_toArray, List.set_cons_zero, List.set_cons_succ]
      refine wpAnyH_take (i := 5) (oi := { dst := some 74, op := Go.Op.load 3 (Go.Operand.tmp 73), type := 3, pos := "rockridge.go:83", after := #[{ on := 4, ground := Go.Ground.data }], guard := none }) (v := ?_) rfl (by kernel_rfl) (by kernel_rfl) (by kernel_rfl) (fun _ _ _ h => h) (Or.inl ⟨by rfl, ?_⟩) (by assumption) ?_
      rotate_left
      · intro w hSw; (try dsimp only at hSw); go_simp; (try with_reducible rfl)
      try simp only [Act.put, List.setIfInBounds_toArray, List.set_cons_zero, List.set_cons_succ]
      refine wpAnyH_ready (rs := [6]) (by kernel_rfl) (by simp) ?_
      refine AllReadyH.cons (o := { dst := some 75, op := Go.Op.buildSlice 38 1 #[(0, Go.Operand.tmp 74)], type := 38, pos := "rockridge.go:83", after := #[{ on := 5, ground := Go.Ground.data }], guard := none }) rfl (fun K hK => ?_) AllReadyH.nil
      go_simp
      refine hK.out _ _ (by (try dsimp only); first | assumption | (simp [*, go_sem]; done) | (refine ⟨?_, ?_⟩ <;> simp [*, go_sem])) (fun hHeld => ?_)
      clear hK K
      try simp only [Act.put, List.setIfInBounds_toArray, List.set_cons_zero, List.set_cons_succ]
      refine wpAnyH_ready (rs := [7]) (by kernel_rfl) (by simp) ?_
      refine AllReadyH.cons (o := { dst := some 76, op := Go.Op.call { callee := Go.Callee.value (Go.Operand.func 30), args := #[Go.Operand.tmp 75], argTypes := #[38] }, type := 9, pos := "rockridge.go:83", after := #[{ on := 6, ground := Go.Ground.data }], guard := none }) rfl (fun K hK => ?_) AllReadyH.nil
      go_simp
      (first | (go_at_call 30; (with_reducible refine Calls.mono (num1 _ r.child _ (by simp) z7 (by go_simp)) ?_); rintro e w' ⟨rfl, hb⟩; have hz := hb.size; (try simp only [World.size_alloc, World.size_setCell, World.size_drew, Nat.add_assoc, Nat.reduceAdd] at hz); (first | obtain ⟨HL, hk⟩ := HL.call hb hz (by simp only [World.size_alloc, World.size_setCell, World.size_drew, Nat.add_assoc, Nat.reduceAdd]) | obtain ⟨HL, hk⟩ := HL.call0 hb hz (by first | rfl | simp only [World.size_alloc, World.size_setCell, World.size_drew, Nat.add_assoc, Nat.reduceAdd])); (try simp only [addN, Nat.add_zero] at HL hk); have hl := HL; simp only [Live] at hl; (try simp only [Kept] at hk)) | (go_at_call 28; (with_reducible refine Calls.mono (eadd1 ob (en1 r ++ en2 r ++ en3 r ++ en4 r) sCL (bothS r.child) _ _ (by first | omega | (simp only [List.length_append]; omega)) (by (repeat' (first | with_reducible assumption | (with_reducible refine EO.alloc ?_ _) | (with_reducible refine EO.drew ?_) | (with_reducible refine EO.below ?_ (by with_reducible assumption))))) (by simp) (by go_simp) (by assumption)) ?_); rintro e w' ⟨rfl, hEO, hbE⟩; have hzE := hbE.size; have hkE := fun o => hbE.cell (p := ⟨w.heap.size, o, none⟩) hlt2))
      go_wp2_with fail
      refine hK.out _ _ (by (try dsimp only); first | assumption | (simp [*, go_sem]; done) | (refine ⟨?_, ?_⟩ <;> simp [*, go_sem])) (fun hHeld => ?_)
      clear hK K
      try simp only [Act.put, List.setIfInBounds_toArray, List.set_cons_zero, List.set_cons_succ]
      refine wpAnyH_ready (rs := [8]) (by kernel_rfl) (by simp) ?_
      refine AllReadyH.cons (o := { dst := some 77, op := Go.Op.buildSlice 46 1 #[(0, Go.Operand.tmp 76)], type := 46, pos := "rockridge.go:83", after := #[{ on := 7, ground := Go.Ground.data }], guard := none }) rfl (fun K hK => ?_) AllReadyH.nil
      go_simp
      refine hK.out _ _ (by (try dsimp only); first | assumption | (simp [*, go_sem]; done) | (refine ⟨?_, ?_⟩ <;> simp [*, go_sem])) (fun hHeld => ?_)
      clear hK K
      try simp only [Act.put, List.setIfInBounds_toArray, List.set_cons_zero, List.set_cons_succ]
      refine wpAnyH_ready (rs := [9]) (by kernel_rfl) (by simp) ?_
      refine AllReadyH.cons (o := { dst := some 78, op := Go.Op.call { callee := Go.Callee.value (Go.Operand.tmp 69), args := #[Go.Operand.tmp 72, Go.Operand.const (Go.Value.string { data := #[67, 76] }), Go.Operand.tmp 77], argTypes := #[4, 9, 46] }, type := 0, pos := "rockridge.go:83", after := #[{ on := 0, ground := Go.Ground.data }, { on := 3, ground := Go.Ground.data }, { on := 8, ground := Go.Ground.data }, { on := 7, ground := Go.Ground.chain }], guard := none }) rfl (fun K hK => ?_) AllReadyH.nil
      go_simp
      (first | (go_at_call 30; (with_reducible refine Calls.mono (num1 _ r.child _ (by simp) z7 (by go_simp)) ?_); rintro e w' ⟨rfl, hb⟩; have hz := hb.size; (try simp only [World.size_alloc, World.size_setCell, World.size_drew, Nat.add_assoc, Nat.reduceAdd] at hz); (first | obtain ⟨HL, hk⟩ := HL.call hb hz (by simp only [World.size_alloc, World.size_setCell, World.size_drew, Nat.add_assoc, Nat.reduceAdd]) | obtain ⟨HL, hk⟩ := HL.call0 hb hz (by first | rfl | simp only [World.size_alloc, World.size_setCell, World.size_drew, Nat.add_assoc, Nat.reduceAdd])); (try simp only [addN, Nat.add_zero] at HL hk); have hl := HL; simp only [Live] at hl; (try simp only [Kept] at hk)) | (go_at_call 28; (with_reducible refine Calls.mono (eadd1 ob (en1 r ++ en2 r ++ en3 r ++ en4 r) sCL (bothS r.child) _ _ (by first | omega | (simp only [List.length_append]; omega)) (by (repeat' (first | with_reducible assumption | (with_reducible refine EO.alloc ?_ _) | (with_reducible refine EO.drew ?_) | (with_reducible refine EO.below ?_ (by with_reducible assumption))))) (by simp) (by go_simp) (by assumption)) ?_); rintro e w' ⟨rfl, hEO, hbE⟩; have hzE := hbE.size; have hkE := fun o => hbE.cell (p := ⟨w.heap.size, o, none⟩) hlt2))
      go_wp2_with fail
      refine hK.out _ _ (by (try dsimp only); first | assumption | (simp [*, go_sem]; done) | (refine ⟨?_, ?_⟩ <;> simp [*, go_sem])) (fun hHeld => ?_)
      clear hK K
      try simp only [Act.put, List.setIfInBounds_toArray, List.set_cons_zero, List.set_cons_succ]
      refine wpAnyH_done (by kernel_rfl) ?_ _
      refine NoPanic.normal ?_
      all_goals
        go_wp2
        go_meet
        exact ⟨rfl, by rw [E.out]; exact hEO, by (repeat' (first | (with_reducible exact Below.refl _ _) | (with_reducible refine Below.alloc ?_ ?_ _) | (with_reducible refine Below.setCell ?_ ?_ _) | (with_reducible refine Below.drew ?_) | (with_reducible refine below_drewN' ?_) | (with_reducible refine below_bytesW ?_ ?_) | (with_reducible refine Below.trans ?_ (Below.mono (by assumption) ?_)) | omega | (simp only [World.size_alloc, World.size_setCell, World.size_drew]; omega) | (simp [size_bytesW]; omega) | (simp; omega))), by (repeat' (first | with_reducible assumption | (with_reducible refine Blk.alloc ?_ _) | (with_reducible refine Blk.drew ?_) | (with_reducible refine Blk.below (by with_reducible assumption) ?_) | (with_reducible refine Blk.under (by with_reducible assumption) (by omega) ?_)))⟩
  case rest =>
  obtain ⟨rfl, hEO5, hbel6, hB6⟩ := hcut
  have hrr6 := RRat.of hB6
  unfold RRat at hrr6
  have hlo6 := hEO5.lt
  have hwl6 : w.heap.size < wc.heap.size := by omega
  generalize wc = V6 at *
  go_upto_region 16 with fail
  go_cut [6] (fun f wx => f = .func (.func 28) #[] #[.pointer (some ⟨ob, 0, none⟩)] ∧ EO ob (en1 r ++ en2 r ++ en3 r ++ en4 r ++ en5 r ++ en6 r) wx ∧ Below w.heap.size w wx ∧ Blk wx w.heap.size r.cells 23)
  case first =>
    have HL : Live V6 [w.heap.size] := ⟨hwl6, trivial⟩
    have hbs : (bothS r.parent).size ≤ 1000000 := by show 8 ≤ _; omega
    by_cases a1 : r.parent = 0
    · have E := hide (show en6 r = [] by simp [en6, a1])
      have a2 : (r.parent != 0) = false := by rw [a1]; rfl
      have A1 := hide a1
      clear a1
      refine wp_region_noPanic ?_
      refine wp_region_held_drew (S := (fun x => x.cell? ⟨w.heap.size, 12, none⟩ = some (.int .i64 r.parent) ∧ True)) (by kernel_rfl) (by (try dsimp only); first | assumption | (simp [*, go_sem]; done) | (refine ⟨?_, ?_⟩ <;> simp [*, go_sem])) (fun hHeld => ?_)
      refine wpAnyH_take (i := 0) (oi := { dst := some 79, op := Go.Op.move (Go.Operand.tmp 6), type := 53, pos := "rockridge.go:84", after := #[], guard := none }) (v := ?_) rfl (by kernel_rfl) (by kernel_rfl) (by kernel_rfl) (fun _ _ _ h => h) (Or.inl ⟨by rfl, ?_⟩) (by assumption) ?_
      rotate_left
      · intro w hSw; (try dsimp only at hSw); go_simp; (try with_reducible rfl)
      try simp only [Act.put, List.setIfInBounds_toArray, List.set_cons_zero, List.set_cons_succ]
      refine wpAnyH_take (i := 1) (oi := { dst := some 80, op := Go.Op.fieldAddr 23 (Go.Operand.tmp 1) 12, type := 0, pos := "rockridge.go:84", after := #[], guard := none }) (v := ?_) rfl (by kernel_rfl) (by kernel_rfl) (by kernel_rfl) (fun _ _ _ h => h) (Or.inl ⟨by rfl, ?_⟩) (by assumption) ?_
      rotate_left
      · intro w hSw; (try dsimp only at hSw); go_simp; (try with_reducible rfl)
      try simp only [Act.put, List.setIfInBounds_toArray, List.set_cons_zero, List.set_cons_succ]
      refine wpAnyH_take (i := 2) (oi := { dst := some 81, op := Go.Op.load 3 (Go.Operand.tmp 80), type := 3, pos := "rockridge.go:84", after := #[{ on := 1, ground := Go.Ground.data }], guard := none }) (v := ?_) rfl (by kernel_rfl) (by kernel_rfl) (by kernel_rfl) (fun _ _ _ h => h) (Or.inl ⟨by rfl, ?_⟩) (by assumption) ?_
      rotate_left
      · intro w hSw; (try dsimp only at hSw); go_simp; (try with_reducible rfl)
      try simp only [Act.put, List.setIfInBounds_toArray, List.set_cons_zero, List.set_cons_succ]
      refine wpAnyH_take (i := 3) (oi := { dst := some 82, op := Go.Op.binOp Go.BinOp.neq 3 (Go.Operand.tmp 81) (Go.Operand.const (Go.Value.int Go.IntKind.i64 0)) 3, type := 4, pos := "rockridge.go:84", after := #[{ on := 2, ground := Go.Ground.data }], guard := none }) (v := ?_) rfl (by kernel_rfl) (by kernel_rfl) (by kernel_rfl) (fun _ _ _ h => h) (Or.inl ⟨by rfl, ?_⟩) (by assumption) ?_
      rotate_left
      · intro w hSw; (try dsimp only at hSw); go_simp; (try with_reducible rfl)
      try simp only [Act.put, List.setIfInBounds_toArray, List.set_cons_zero, List.set_cons_succ]
      refine wpAnyH_take (i := 4) (oi := { dst := some 83, op := Go.Op.fieldAddr 23 (Go.Operand.tmp 1) 12, type := 0, pos := "rockridge.go:84", after := #[], guard := none }) (v := ?_) rfl (by kernel_rfl) (by kernel_rfl) (by kernel_rfl) (fun _ _ _ h => h) (Or.inl ⟨by rfl, ?_⟩) (by assumption) ?_
      rotate_left
      · intro w hSw; (try dsimp only at hSw); go_simp; (try with_reducible rfl)
      try simp only [Act.put, List.setIfInBounds_toArray, List.set_cons_zero, List.set_cons_succ]
      refine wpAnyH_take (i := 5) (oi := { dst := some 84, op := Go.Op.load 3 (Go.Operand.tmp 83), type := 3, pos := "rockridge.go:84", after := #[{ on := 4, ground := Go.Ground.data }], guard := none }) (v := ?_) rfl (by kernel_rfl) (by kernel_rfl) (by kernel_rfl) (fun _ _ _ h => h) (Or.inl ⟨by rfl, ?_⟩) (by assumption) ?_
      rotate_left
      · intro w hSw; (try dsimp only at hSw); go_simp; (try with_reducible rfl)
      try simp only [Act.put, List.setIfInBounds_toArray, List.set_cons_zero, List.set_cons_succ]
      refine wpAnyH_ready (rs := [6]) (by kernel_rfl) (by simp) ?_
      refine AllReadyH.cons (o := { dst := some 85, op := Go.Op.buildSlice 38 1 #[(0, Go.Operand.tmp 84)], type := 38, pos := "rockridge.go:84", after := #[{ on := 5, ground := Go.Ground.data }], guard := none }) rfl (fun K hK => ?_) AllReadyH.nil
      go_simp
      refine hK.out _ _ (by (try dsimp only); first | assumption | (simp [*, go_sem]; done) | (refine ⟨?_, ?_⟩ <;> simp [*, go_sem])) (fun hHeld => ?_)
      clear hK K
      try simp only [Act.put, List.setIfInBounds_toArray, List.set_cons_zero, List.set_cons_succ]
      refine wpAnyH_ready (rs := [7]) (by kernel_rfl) (by simp) ?_
      refine AllReadyH.cons (o := { dst := some 86, op := Go.Op.call { callee := Go.Callee.value (Go.Operand.func 30), args := #[Go.Operand.tmp 85], argTypes := #[38] }, type := 9, pos := "rockridge.go:84", after := #[{ on := 6, ground := Go.Ground.data }], guard := none }) rfl (fun K hK => ?_) AllReadyH.nil
      go_simp
      (first | (go_at_call 30; (with_reducible refine Calls.mono (num1 _ r.parent _ (by simp) z8 (by go_simp)) ?_); rintro e w' ⟨rfl, hb⟩; have hz := hb.size; (try simp only [World.size_alloc, World.size_setCell, World.size_drew, Nat.add_assoc, Nat.reduceAdd] at hz); (first | obtain ⟨HL, hk⟩ := HL.call hb hz (by simp only [World.size_alloc, World.size_setCell, World.size_drew, Nat.add_assoc, Nat.reduceAdd]) | obtain ⟨HL, hk⟩ := HL.call0 hb hz (by first | rfl | simp only [World.size_alloc, World.size_setCell, World.size_drew, Nat.add_assoc, Nat.reduceAdd])); (try simp only [addN, Nat.add_zero] at HL hk); have hl := HL; simp only [Live] at hl; (try simp only [Kept] at hk)) | (go_at_call 28; (with_reducible refine (eadd_no _ _ _ _).mono ?_); rintro e w' ⟨rfl, rfl⟩))
      go_wp2_with fail
      refine hK.out _ _ (by (try dsimp only); first | assumption | (simp [*, go_sem]; done) | (refine ⟨?_, ?_⟩ <;> simp [*, go_sem])) (fun hHeld => ?_)
      clear hK K
      try simp only [Act.put, List.setIfInBounds_toArray, List.set_cons_zero, List.set_cons_succ]
      refine wpAnyH_ready (rs := [8]) (by kernel_rfl) (by simp) ?_
      refine AllReadyH.cons (o := { dst := some 87, op := Go.Op.buildSlice 46 1 #[(0, Go.Operand.tmp 86)], type := 46, pos := "rockridge.go:84", after := #[{ on := 7, ground := Go.Ground.data }], guard := none }) rfl (fun K hK => ?_) AllReadyH.nil
      go_simp
      refine hK.out _ _ (by (try dsimp only); first | assumption | (simp [*, go_sem]; done) | (refine ⟨?_, ?_⟩ <;> simp [*, go_sem])) (fun hHeld => ?_)
      clear hK K
      try simp only [Act.put, List.setIfInBounds_toArray, List.set_cons_zero, List.set_cons_succ]
      refine wpAnyH_ready (rs := [9]) (by kernel_rfl) (by simp) ?_
      refine AllReadyH.cons (o := { dst := some 88, op := Go.Op.call { callee := Go.Callee.value (Go.Operand.tmp 79), args := #[Go.Operand.tmp 82, Go.Operand.const (Go.Value.string { data := #[80, 76] }), Go.Operand.tmp 87], argTypes := #[4, 9, 46] }, type := 0, pos := "rockridge.go:84", after := #[{ on := 0, ground := Go.Ground.data }, { on := 3, ground := Go.Ground.data }, { on := 8, ground := Go.Ground.data }, { on := 7, ground := Go.Ground.chain }], guard := none }) rfl (fun K hK => ?_) AllReadyH.nil
      go_simp
      (first | (go_at_call 30; (with_reducible refine Calls.mono (num1 _ r.parent _ (by simp) z8 (by go_simp)) ?_); rintro e w' ⟨rfl, hb⟩; have hz := hb.size; (try simp only [World.size_alloc, World.size_setCell, World.size_drew, Nat.add_assoc, Nat.reduceAdd] at hz); (first | obtain ⟨HL, hk⟩ := HL.call hb hz (by simp only [World.size_alloc, World.size_setCell, World.size_drew, Nat.add_assoc, Nat.reduceAdd]) | obtain ⟨HL, hk⟩ := HL.call0 hb hz (by first | rfl | simp only [World.size_alloc, World.size_setCell, World.size_drew, Nat.add_assoc, Nat.reduceAdd])); (try simp only [addN, Nat.add_zero] at HL hk); have hl := HL; simp only [Live] at hl; (try simp only [Kept] at hk)) | (go_at_call 28; (with_reducible refine (eadd_no _ _ _ _).mono ?_); rintro e w' ⟨rfl, rfl⟩))
      go_wp2_with fail
      refine hK.out _ _ (by (try dsimp only); first | assumption | (simp [*, go_sem]; done) | (refine ⟨?_, ?_⟩ <;> simp [*, go_sem])) (fun hHeld => ?_)
      clear hK K
      try simp only [Act.put, List.setIfInBounds_toArray, List.set_cons_zero, List.set_cons_succ]
      refine wpAnyH_done (by kernel_rfl) ?_ _
      refine NoPanic.normal ?_
      all_goals
        go_wp2
        go_meet
        exact ⟨rfl, by rw [E.out, List.append_nil]; (repeat' (first | with_reducible assumption | (with_reducible refine EO.alloc ?_ _) | (with_reducible refine EO.drew ?_) | (with_reducible refine EO.below ?_ (by with_reducible assumption)))), by (repeat' (first | (with_reducible exact Below.refl _ _) | (with_reducible refine Below.alloc ?_ ?_ _) | (with_reducible refine Below.setCell ?_ ?_ _) | (with_reducible refine Below.drew ?_) | (with_reducible refine below_drewN' ?_) | (with_reducible refine below_bytesW ?_ ?_) | (with_reducible refine Below.trans ?_ (Below.mono (by assumption) ?_)) | omega | (simp only [World.size_alloc, World.size_setCell, World.size_drew]; omega) | (simp [size_bytesW]; omega) | (simp; omega))), by (repeat' (first | with_reducible assumption | (with_reducible refine Blk.alloc ?_ _) | (with_reducible refine Blk.drew ?_) | (with_reducible refine Blk.below (by with_reducible assumption) ?_) | (with_reducible refine Blk.under (by with_reducible assumption) (by omega) ?_)))⟩
    · have E := hide (show en6 r = [⟨sPL, 1, bothS r.parent⟩] by simp [en6, a1])
      have a2 : (r.parent != 0) = true := by rw [bne_iff_ne]; exact a1
      clear a1
      refine wp_region_noPanic ?_
      refine wp_region_held_drew (S := (fun x => x.cell? ⟨w.heap.size, 12, none⟩ = some (.int .i64 r.parent) ∧ True)) (by kernel_rfl) (by (try dsimp only); first | assumption | (simp [*, go_sem]; done) | (refine ⟨?_, ?_⟩ <;> simp [*, go_sem])) (fun hHeld => ?_)
      refine wpAnyH_take (i := 0) (oi := { dst := some 79, op := Go.Op.move (Go.Operand.tmp 6), type := 53, pos := "rockridge.go:84", after := #[], guard := none }) (v := ?_) rfl (by kernel_rfl) (by kernel_rfl) (by kernel_rfl) (fun _ _ _ h => h) (Or.inl ⟨by rfl, ?_⟩) (by assumption) ?_
      rotate_left
      · intro w hSw; (try dsimp only at hSw); go_simp; (try with_reducible rfl)
      try simp only [Act.put, List.setIfInBounds_toArray, List.set_cons_zero, List.set_cons_succ]
      refine wpAnyH_take (i := 1) (oi := { dst := some 80, op := Go.Op.fieldAddr 23 (Go.Operand.tmp 1) 12, type := 0, pos := "rockridge.go:84", after := #[], guard := none }) (v := ?_) rfl (by kernel_rfl) (by kernel_rfl) (by kernel_rfl) (fun _ _ _ h => h) (Or.inl ⟨by rfl, ?_⟩) (by assumption) ?_
      rotate_left
      · intro w hSw; (try dsimp only at hSw); go_simp; (try with_reducible rfl)
      try simp only [Act.put, List.setIfInBounds_toArray, List.set_cons_zero, List.set_cons_succ]
      refine wpAnyH_take (i := 2) (oi := { dst := some 81, op := Go.Op.load 3 (Go.Operand.tmp 80), type := 3, pos := "rockridge.go:84", after := #[{ on := 1, ground := Go.Ground.data }], guard := none }) (v := ?_) rfl (by kernel_rfl) (by kernel_rfl) (by kernel_rfl) (fun _ _ _ h => h) (Or.inl ⟨by rfl, ?_⟩) (by assumption) ?_
      rotate_left
      · intro w hSw; (try dsimp only at hSw); go_simp; (try with_reducible rfl)
      try simp only [Act.put, List.setIfInBounds_toArray, List.set_cons_zero, List.set_cons_succ]
      refine wpAnyH_take (i := 3) (oi := { dst := some 82, op := Go.Op.binOp Go.BinOp.neq 3 (Go.Operand.tmp 81) (Go.Operand.const (Go.Value.int Go.IntKind.i64 0)) 3, type := 4, pos := "rockridge.go:84", after := #[{ on := 2, ground := Go.Ground.data }], guard := none }) (v := ?_) rfl (by kernel_rfl) (by kernel_rfl) (by kernel_rfl) (fun _ _ _ h => h) (Or.inl ⟨by rfl, ?_⟩) (by assumption) ?_
      rotate_left
      · intro w hSw; (try dsimp only at hSw); go_simp; (try with_reducible rfl)
      try simp only [Act.put, List.setIfInBounds_toArray, List.set_cons_zero, List.set_cons_succ]
      refine wpAnyH_take (i := 4) (oi := { dst := some 83, op := Go.Op.fieldAddr 23 (Go.Operand.tmp 1) 12, type := 0, pos := "rockridge.go:84", after := #[], guard := none }) (v := ?_) rfl (by kernel_rfl) (by kernel_rfl) (by kernel_rfl) (fun _ _ _ h => h) (Or.inl ⟨by rfl, ?_⟩) (by assumption) ?_
      rotate_left
      · intro w hSw; (try dsimp only at hSw); go_simp; (try with_reducible rfl)
      try simp only [Act.put, List.setIfInBounds_toArray, List.set_cons_zero, List.set_cons_succ]
      refine wpAnyH_take (i := 5) (oi := { dst := some 84, op := Go.Op.load 3 (Go.Operand.tmp 83), type := 3, pos := "rockridge.go:84", after := #[{ on := 4, ground := Go.Ground.data }], guard := none }) (v := ?_) rfl (by kernel_rfl) (by kernel_rfl) (by kernel_rfl) (fun _ _ _ h => h) (Or.inl ⟨by rfl, ?_⟩) (by assumption) ?_
      rotate_left
      · intro w hSw; (try dsimp only at hSw); go_simp; (try with_reducible rfl)
      try simp only [Act.put, List.setIfInBounds_toArray, List.set_cons_zero, List.set_cons_succ]
      refine wpAnyH_ready (rs := [6]) (by kernel_rfl) (by simp) ?_
      refine AllReadyH.cons (o := { dst := some 85, op := Go.Op.buildSlice 38 1 #[(0, Go.Operand.tmp 84)], type := 38, pos := "rockridge.go:84", after := #[{ on := 5, ground := Go.Ground.data }], guard := none }) rfl (fun K hK => ?_) AllReadyH.nil
      go_simp
      refine hK.out _ _ (by (try dsimp only); first | assumption | (simp [*, go_sem]; done) | (refine ⟨?_, ?_⟩ <;> simp [*, go_sem])) (fun hHeld => ?_)
      clear hK K
      try simp only [Act.put, List.setIfInBounds_toArray, List.set_cons_zero, List.set_cons_succ]
      refine wpAnyH_ready (rs := [7]) (by kernel_rfl) (by simp) ?_
      refine AllReadyH.cons (o := { dst := some 86, op := Go.Op.call { callee := Go.Callee.value (Go.Operand.func 30), args := #[Go.Operand.tmp 85], argTypes := #[38] }, type := 9, pos := "rockridge.go:84", after := #[{ on := 6, ground := Go.Ground.data }], guard := none }) rfl (fun K hK => ?_) AllReadyH.nil
      go_simp
      (first | (go_at_call 30; (with_reducible refine Calls.mono (num1 _ r.parent _ (by simp) z8 (by go_simp)) ?_); rintro e w' ⟨rfl, hb⟩; have hz := hb.size; (try simp only [World.size_alloc, World.size_setCell, World.size_drew, Nat.add_assoc, Nat.reduceAdd] at hz); (first | obtain ⟨HL, hk⟩ := HL.call hb hz (by simp only [World.size_alloc, World.size_setCell, World.size_drew, Nat.add_assoc, Nat.reduceAdd]) | obtain ⟨HL, hk⟩ := HL.call0 hb hz (by first | rfl | simp only [World.size_alloc, World.size_setCell, World.size_drew, Nat.add_assoc, Nat.reduceAdd])); (try simp only [addN, Nat.add_zero] at HL hk); have hl := HL; simp only [Live] at hl; (try simp only [Kept] at hk)) | (go_at_call 28; (with_reducible refine Calls.mono (eadd1 ob (en1 r ++ en2 r ++ en3 r ++ en4 r ++ en5 r) sPL (bothS r.parent) _ _ (by first | omega | (simp only [List.length_append]; omega)) (by (repeat' (first | with_reducible assumption | (with_reducible refine EO.alloc ?_ _) | (with_reducible refine EO.drew ?_) | (with_reducible refine EO.below ?_ (by with_reducible assumption))))) (by simp) (by go_simp) (by assumption)) ?_); rintro e w' ⟨rfl, hEO, hbE⟩; have hzE := hbE.size; have hkE := fun o => hbE.cell (p := ⟨w.heap.size, o, none⟩) hlt2))
      go_wp2_with fail
      refine hK.out _ _ (by (try dsimp only); first | assumption | (simp [*, go_sem]; done) | (refine ⟨?_, ?_⟩ <;> simp [*, go_sem])) (fun hHeld => ?_)
      clear hK K
      try simp only [Act.put, List.setIfInBounds_toArray, List.set_cons_zero, List.set_cons_succ]
      refine wpAnyH_ready (rs := [8]) (by kernel_rfl) (by simp) ?_
      refine AllReadyH.cons (o := { dst := some 87, op := Go.Op.buildSlice 46 1 #[(0, Go.Operand.tmp 86)], type := 46, pos := "rockridge.go:84", after := #[{ on := 7, ground := Go.Ground.data }], guard := none }) rfl (fun K hK => ?_) AllReadyH.nil
      go_simp
      refine hK.out _ _ (by (try dsimp only); first | assumption | (simp [*, go_sem]; done) | (refine ⟨?_, ?_⟩ <;> simp [*, go_sem])) (fun hHeld => ?_)
      clear hK K
      try simp only [Act.put, List.setIfInBounds_toArray, List.set_cons_zero, List.set_cons_succ]
      refine wpAnyH_ready (rs := [9]) (by kernel_rfl) (by simp) ?_
      refine AllReadyH.cons (o := { dst := some 88, op := Go.Op.call { callee := Go.Callee.value (Go.Operand.tmp 79), args := #[Go.Operand.tmp 82, Go.Operand.const (Go.Value.string { data := #[80, 76] }), Go.Operand.tmp 87], argTypes := #[4, 9, 46] }, type := 0, pos := "rockridge.go:84", after := #[{ on := 0, ground := Go.Ground.data }, { on := 3, ground := Go.Ground.data }, { on := 8, ground := Go.Ground.data }, { on := 7, ground := Go.Ground.chain }], guard := none }) rfl (fun K hK => ?_) AllReadyH.nil
      go_simp
      (first | (go_at_call 30; (with_reducible refine Calls.mono (num1 _ r.parent _ (by simp) z8 (by go_simp)) ?_); rintro e w' ⟨rfl, hb⟩; have hz := hb.size; (try simp only [World.size_alloc, World.size_setCell, World.size_drew, Nat.add_assoc, Nat.reduceAdd] at hz); (first | obtain ⟨HL, hk⟩ := HL.call hb hz (by simp only [World.size_alloc, World.size_setCell, World.size_drew, Nat.add_assoc, Nat.reduceAdd]) | obtain ⟨HL, hk⟩ := HL.call0 hb hz (by first | rfl | simp only [World.size_alloc, World.size_setCell, World.size_drew, Nat.add_assoc, Nat.reduceAdd])); (try simp only [addN, Nat.add_zero] at HL hk); have hl := HL; simp only [Live] at hl; (try simp only [Kept] at hk)) | (go_at_call 28; (with_reducible refine Calls.mono (eadd1 ob (en1 r ++ en2 r ++ en3 r ++ en4 r ++ en5 r) sPL (bothS r.parent) _ _ (by first | omega | (simp only [List.length_append]; omega)) (by (repeat' (first | with_reducible assumption | (with_reducible refine EO.alloc ?_ _) | (with_reducible refine EO.drew ?_) | (with_reducible refine EO.below ?_ (by with_reducible assumption))))) (by simp) (by go_simp) (by assumption)) ?_); rintro e w' ⟨rfl, hEO, hbE⟩; have hzE := hbE.size; have hkE := fun o => hbE.cell (p := ⟨w.heap.size, o, none⟩) hlt2))
      go_wp2_with fail
      refine hK.out _ _ (by (try dsimp only); first | assumption | (simp [*, go_sem]; done) | (refine ⟨?_, ?_⟩ <;> simp [*, go_sem])) (fun hHeld => ?_)
      clear hK K
      try simp only [Act.put, List.setIfInBounds_toArray, List.set_cons_zero, List.set_cons_succ]
      refine wpAnyH_done (by kernel_rfl) ?_ _
      refine NoPanic.normal ?_
      all_goals
        go_wp2
        go_meet
        exact ⟨rfl, by rw [E.out]; exact hEO, by (repeat' (first | (with_reducible exact Below.refl _ _) | (with_reducible refine Below.alloc ?_ ?_ _) | (with_reducible refine Below.setCell ?_ ?_ _) | (with_reducible refine Below.drew ?_) | (with_reducible refine below_drewN' ?_) | (with_reducible refine below_bytesW ?_ ?_) | (with_reducible refine Below.trans ?_ (Below.mono (by assumption) ?_)) | omega | (simp only [World.size_alloc, World.size_setCell, World.size_drew]; omega) | (simp [size_bytesW]; omega) | (simp; omega))), by (repeat' (first | with_reducible assumption | (with_reducible refine Blk.alloc ?_ _) | (with_reducible refine Blk.drew ?_) | (with_reducible refine Blk.below (by with_reducible assumption) ?_) | (with_reducible refine Blk.under (by with_reducible assumption) (by omega) ?_)))⟩
  case rest =>
  obtain ⟨rfl, hEO6, hbel7, hB7⟩ := hcut
  have hrr7 := RRat.of hB7
  unfold RRat at hrr7
  have hlo7 := hEO6.lt
  have hwl7 : w.heap.size < wc.heap.size := by omega
  generalize wc = V7 at *
  go_upto_region 17 with fail
  go_cut [6] (fun f wx => f = .func (.func 28) #[] #[.pointer (some ⟨ob, 0, none⟩)] ∧ EO ob (ents r) wx ∧ Below w.heap.size w wx ∧ Blk wx w.heap.size r.cells 23)
  case first =>
    have HL : Live V7 [w.heap.size] := ⟨hwl7, trivial⟩
    cases a1 : r.reloc
    case false =>
      have E := hide (show en7 r = [] by simp [en7, a1])
      rw [a1] at hrr7
      clear a1
      go_wp2_with (first | (go_at_call 28; (with_reducible refine (eadd_no _ _ _ _).mono ?_); rintro e w' ⟨rfl, rfl⟩))
      go_meet
      exact ⟨rfl, by unfold ents; rw [E.out, List.append_nil]; exact hEO6, by (repeat' (first | (with_reducible exact Below.refl _ _) | (with_reducible refine Below.alloc ?_ ?_ _) | (with_reducible refine Below.setCell ?_ ?_ _) | (with_reducible refine Below.drew ?_) | (with_reducible refine below_drewN' ?_) | (with_reducible refine below_bytesW ?_ ?_) | (with_reducible refine Below.trans ?_ (Below.mono (by assumption) ?_)) | omega | (simp only [World.size_alloc, World.size_setCell, World.size_drew]; omega) | (simp [size_bytesW]; omega) | (simp; omega))), by (repeat' (first | with_reducible assumption | (with_reducible refine Blk.alloc ?_ _) | (with_reducible refine Blk.drew ?_) | (with_reducible refine Blk.below (by with_reducible assumption) ?_) | (with_reducible refine Blk.under (by with_reducible assumption) (by omega) ?_)))⟩
    case true =>
      have E := hide (show en7 r = [⟨sRE, 1, ⟨#[]⟩⟩] by simp [en7, a1])
      rw [a1] at hrr7
      clear a1
      go_wp2_with (first | (go_at_call 28; (with_reducible refine Calls.mono (eadd0 ob (en1 r ++ en2 r ++ en3 r ++ en4 r ++ en5 r ++ en6 r) sRE _ (by first | omega | (simp only [List.length_append]; omega)) (by (repeat' (first | with_reducible assumption | (with_reducible refine EO.alloc ?_ _) | (with_reducible refine EO.drew ?_) | (with_reducible refine EO.below ?_ (by with_reducible assumption)))))) ?_); rintro e w' ⟨rfl, hEO, hbE⟩; have hzE := hbE.size; have hkE := fun o => hbE.cell (p := ⟨w.heap.size, o, none⟩) hlt2))
      all_goals
        go_meet
        exact ⟨rfl, by unfold ents; rw [E.out]; exact hEO, by (repeat' (first | (with_reducible exact Below.refl _ _) | (with_reducible refine Below.alloc ?_ ?_ _) | (with_reducible refine Below.setCell ?_ ?_ _) | (with_reducible refine Below.drew ?_) | (with_reducible refine below_drewN' ?_) | (with_reducible refine below_bytesW ?_ ?_) | (with_reducible refine Below.trans ?_ (Below.mono (by assumption) ?_)) | omega | (simp only [World.size_alloc, World.size_setCell, World.size_drew]; omega) | (simp [size_bytesW]; omega) | (simp; omega))), by (repeat' (first | with_reducible assumption | (with_reducible refine Blk.alloc ?_ _) | (with_reducible refine Blk.drew ?_) | (with_reducible refine Blk.below (by with_reducible assumption) ?_) | (with_reducible refine Blk.under (by with_reducible assumption) (by omega) ?_)))⟩
  case rest =>
  obtain ⟨rfl, hEO7, hbel8, hB8⟩ := hcut
  obtain ⟨v, hv, ho⟩ := hEO7
  have hvc : wc.cell? ⟨ob, 0, none⟩ = some v := hv.cells 0
  have HO := hide ho
  clear ho
  go_wp2
  go_ret2
  exact EntP.yes H0.out rfl HO.out hobw hbel8
end Go.Proofs.YtopajpomhflgbaaGreatDoor
