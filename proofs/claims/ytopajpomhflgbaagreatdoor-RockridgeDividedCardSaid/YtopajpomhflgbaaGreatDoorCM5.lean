/- Contract of the reference's Entries: the walk. -/
import Derived.Test.YtopajpomhflgbaaGreatDoorCM1
namespace Go.Proofs.YtopajpomhflgbaaGreatDoor
set_option linter.unusedSimpArgs false
set_option linter.unusedVariables false
open Go.RowKit

/-- A value is a row of these entries. -/
def OW (ob : Nat) (L : List En) (v : Value) (w : World) : Prop := w.ownsRow ob 32 3 v L.length (entsV L)
theorem OW.snoc {ob : Nat} {L : List En} {v : Value} {w : World} {s d : ByteArray} (h : w.ownsRow ob 32 3 v (L.length + 1) (entsV L ++ [.string s, .int .i64 1, .string d])) : OW ob (L ++ [⟨s, 1, d⟩]) v w := by
  unfold OW
  rw [List.length_append, entsV_snoc]
  exact h
theorem OW.snoc2 {ob : Nat} {L : List En} {v : Value} {w : World} {s d : ByteArray} (a : List UInt8) (h : w.ownsRow ob 32 3 v (L.length + 1) (entsV L ++ [.string s, .int .i64 1, .string (ByteArray.mk a.toArray ++ d)])) : OW ob (L ++ [⟨s, 1, cat2 a d⟩]) v w := by
  have e : ByteArray.mk a.toArray ++ d = cat2 a d := by
    conv => lhs; rw [arr_of d]
    exact cat_arr a d.data.toList
  rw [e] at h
  exact OW.snoc h
theorem OW.below {ob : Nat} {L : List En} {v : Value} {w w1 : World} (h : OW ob L v w) (hb : Below w.heap.size w w1) : OW ob L v w1 := below_row' h hb
theorem OW.alloc {ob : Nat} {L : List En} {v : Value} {w : World} (h : OW ob L v w) (o : Obj) : OW ob L v (w.alloc o) := h.below ((Below.refl _ _).alloc (Nat.le_refl _) _)
theorem OW.drew {ob : Nat} {L : List En} {v : Value} {w : World} (h : OW ob L v w) : OW ob L v w.drew := h
theorem bothS_size (n : Int) : (bothS n).size = 8 := rfl
theorem px_cat (r : RR) (B : Int) (h : B = kindN r.kind * 4096) : bothS (B + r.mode) ++ bothS r.links ++ bothS r.uid ++ bothS r.gid = pxS r := by
  unfold pxS numL
  rw [h, Int.add_comm]
  apply ByteArray.ext
  simp [ByteArray.data_append]
theorem rcomps_tg (s : ByteArray) (h : targetB s = true) (w : World) : Calls Tryz.prog 35 #[.string s] w fun e w' => e = .returned (.tuple #[.string (compsB s), .int .i64 0]) ∧ Below w.heap.size w w' := by
  have := rcomps_any s (by have := target_len h; omega) w
  unfold CompP at this
  rw [h] at this
  exact this
theorem rcheck_lit (r : RR) (hn : r.name.size ≤ 60000) (ht : r.target.size ≤ 60000) (w : World) : Calls Tryz.prog 33 #[.agg #[.bool r.att, .int .i64 r.kind, .int .i64 r.mode, .int .i64 r.links, .int .i64 r.uid, .int .i64 r.gid, .bool r.named, .string r.name, .string r.target, .bool r.timed, .int .i64 r.time, .int .i64 r.child, .int .i64 r.parent, .bool r.reloc]] w fun e w' => e = .returned (.int .i64 (chk r)) ∧ Below w.heap.size w w' := rcheck_any r hn ht w
set_option maxRecDepth 100000 in
set_option maxHeartbeats 32000000 in
theorem rentries_any (r : RR) (hn : r.name.size ≤ 60000) (ht : r.target.size ≤ 60000) (w : World) : Calls Tryz.prog 11 #[.agg r.cells] w (EntP r w) := by
  have RCK := hide (fun W => rcheck_lit r hn ht W)
  have hB0 : Blk (w.alloc (.cells r.cells 23)) w.heap.size r.cells 23 := Blk.newAt rfl
  have hbel0 : Below w.heap.size w (w.alloc (.cells r.cells 23)) := by (repeat' (first | (with_reducible exact Below.refl _ _) | (with_reducible refine Below.alloc ?_ ?_ _) | (with_reducible refine Below.setCell ?_ ?_ _) | (with_reducible refine Below.drew ?_) | (with_reducible refine below_drewN' ?_) | (with_reducible refine below_bytesW ?_ ?_) | (with_reducible refine Below.trans ?_ (Below.mono (by assumption) ?_)) | omega | (simp only [World.size_alloc, World.size_setCell, World.size_drew]; omega) | (simp [size_bytesW]; omega) | (simp; omega)))
  obtain ⟨W1, hW1⟩ : ∃ W1, W1 = w.alloc (.cells r.cells 23) := ⟨_, rfl⟩
  rw [← hW1] at hB0 hbel0
  have hlt1 := hB0.lt
  have hrr := RRat.of hB0
  unfold RRat at hrr
  have HL : Live w [] := trivial
  go_enter Tryz.func11, Tryz.ntmps11
  go_upto_region 1 with fail
  rw [← hW1]
  clear hW1
  go_wp2_with fail
  refine (RCK.out _).mono ?_
  rintro e w1 ⟨rfl, hb1⟩
  have hB1 := hB0.below hb1
  have hbel1 := hbel0.trans (hb1.mono hbel0.size)
  have hrr1 := RRat.of hB1
  unfold RRat at hrr1
  have hlt2 := hB1.lt
  clear hrr hB0 hbel0 hb1
  by_cases h0 : chk r = 0
  case neg =>
    have hq : (chk r == 0) = false := by rw [beq_eq_false_iff_ne]; exact h0
    have hq2 : (chk r != 0) = true := by rw [bne_iff_ne]; exact h0
    have H0 := hide h0
    clear h0
    go_wp2
    go_ret2
    exact EntP.no H0.out rfl hbel1
  have hen := en_lens r
  obtain ⟨z1, z2, z3, z4, z5, z6, z7, z8, z9⟩ := chk_zero h0
  have H0 := hide h0
  rw [h0]
  clear h0
  have hb8 := bothS_size
  obtain ⟨ob, hob⟩ : ∃ ob, ob = w1.heap.size := ⟨_, rfl⟩
  have hobw : w.heap.size ≤ ob := by omega
  have hlo1 : ob ≤ w1.heap.size := by omega
  have hlt2 : w.heap.size < ob := by omega
  have HL : Live w1 [w.heap.size] := ⟨by omega, trivial⟩
  have hw3 : w.heap.size < w1.heap.size := by omega
  clear hob
  go_upto_if 17 with fail
  go_cut [5] (fun v wx => OW ob (en1 r) v wx ∧ Below w.heap.size w wx ∧ Blk wx w.heap.size r.cells 23 ∧ ob ≤ wx.heap.size)
  case first =>
    cases a1 : r.att
    case false =>
      have E := hide (show en1 r = [] by simp [en1, a1])
      rw [a1] at hrr1
      clear a1
      go_wp2
      go_meet
      exact ⟨by rw [E.out]; exact World.ownsRow_nil _ _ _ _, hbel1, hB1, hlo1⟩
    case true =>
      have E := hide (show en1 r = [⟨sPX, 1, pxS r⟩] by simp [en1, a1])
      have hk := z1 a1
      rw [a1] at hrr1
      clear a1
      rcases (show r.kind = 0 ∨ r.kind = 1 ∨ r.kind = 2 by omega) with hk0 | hk0 | hk0
      · have HP := hide (px_cat r 16384 (by rw [hk0]; rfl))
        go_upto_region 11 with fail
        have wk : IntKind.i64.wrap (16384 + r.mode) = 16384 + r.mode := IntWalk.i64_in _ (by omega)
        refine wp_region_noPanic ?_
        refine wp_region_held_drew (S := (fun x => x.cell? ⟨w.heap.size, 2, none⟩ = some (.int .i64 r.mode) ∧ x.cell? ⟨w.heap.size, 3, none⟩ = some (.int .i64 r.links) ∧ x.cell? ⟨w.heap.size, 4, none⟩ = some (.int .i64 r.uid) ∧ x.cell? ⟨w.heap.size, 5, none⟩ = some (.int .i64 r.gid))) (by kernel_rfl) (by (try dsimp only); first | assumption | (simp [*, go_sem]; done) | (refine ⟨?_, ?_⟩ <;> simp [*, go_sem])) (fun hHeld => ?_)
        refine wpAnyH_take (i := 0) (oi := { dst := some 24, op := Go.Op.move (Go.Operand.tmp 5), type := 26, pos := "ref.go:124", after := #[], guard := none }) (v := ?_) rfl (by kernel_rfl) (by kernel_rfl) (by kernel_rfl) (fun _ _ _ h => h) (Or.inl ⟨by rfl, ?_⟩) (by assumption) ?_
        rotate_left
        · intro w hSw; (try dsimp only at hSw); go_simp; (try with_reducible rfl)
        try simp only [Act.put, List.setIfInBounds_toArray, List.set_cons_zero, List.set_cons_succ]
        refine wpAnyH_take (i := 1) (oi := { dst := some 25, op := Go.Op.move (Go.Operand.tmp 6), type := 3, pos := "ref.go:124", after := #[], guard := none }) (v := ?_) rfl (by kernel_rfl) (by kernel_rfl) (by kernel_rfl) (fun _ _ _ h => h) (Or.inl ⟨by rfl, ?_⟩) (by assumption) ?_
        rotate_left
        · intro w hSw; (try dsimp only at hSw); go_simp; (try with_reducible rfl)
        try simp only [Act.put, List.setIfInBounds_toArray, List.set_cons_zero, List.set_cons_succ]
        refine wpAnyH_take (i := 2) (oi := { dst := some 26, op := Go.Op.fieldAddr 23 (Go.Operand.tmp 1) 2, type := 0, pos := "ref.go:124", after := #[], guard := none }) (v := ?_) rfl (by kernel_rfl) (by kernel_rfl) (by kernel_rfl) (fun _ _ _ h => h) (Or.inl ⟨by rfl, ?_⟩) (by assumption) ?_
        rotate_left
        · intro w hSw; (try dsimp only at hSw); go_simp; (try with_reducible rfl)
        try simp only [Act.put, List.setIfInBounds_toArray, List.set_cons_zero, List.set_cons_succ]
        refine wpAnyH_take (i := 3) (oi := { dst := some 27, op := Go.Op.load 3 (Go.Operand.tmp 26), type := 3, pos := "ref.go:124", after := #[{ on := 2, ground := Go.Ground.data }], guard := none }) (v := ?_) rfl (by kernel_rfl) (by kernel_rfl) (by kernel_rfl) (fun _ _ _ h => h) (Or.inl ⟨by rfl, ?_⟩) (by assumption) ?_
        rotate_left
        · intro w hSw; (try dsimp only at hSw); go_simp; (try with_reducible rfl)
        try simp only [Act.put, List.setIfInBounds_toArray, List.set_cons_zero, List.set_cons_succ]
        refine wpAnyH_take (i := 4) (oi := { dst := some 28, op := Go.Op.binOp Go.BinOp.add 3 (Go.Operand.tmp 25) (Go.Operand.tmp 27) 3, type := 3, pos := "ref.go:124", after := #[{ on := 1, ground := Go.Ground.data }, { on := 3, ground := Go.Ground.data }], guard := none }) (v := ?_) rfl (by kernel_rfl) (by kernel_rfl) (by kernel_rfl) (fun _ _ _ h => h) (Or.inl ⟨by rfl, ?_⟩) (by assumption) ?_
        rotate_left
        · intro w hSw; (try dsimp only at hSw); go_simp; (try with_reducible rfl)
        try simp only [Act.put, List.setIfInBounds_toArray, List.set_cons_zero, List.set_cons_succ]
        refine wpAnyH_take (i := 6) (oi := { dst := some 30, op := Go.Op.fieldAddr 23 (Go.Operand.tmp 1) 3, type := 0, pos := "ref.go:124", after := #[], guard := none }) (v := ?_) rfl (by kernel_rfl) (by kernel_rfl) (by kernel_rfl) (fun _ _ _ h => h) (Or.inl ⟨by rfl, ?_⟩) (by assumption) ?_
        rotate_left
        · intro w hSw; (try dsimp only at hSw); go_simp; (try with_reducible rfl)
        try simp only [Act.put, List.setIfInBounds_toArray, List.set_cons_zero, List.set_cons_succ]
        refine wpAnyH_take (i := 7) (oi := { dst := some 31, op := Go.Op.load 3 (Go.Operand.tmp 30), type := 3, pos := "ref.go:124", after := #[{ on := 6, ground := Go.Ground.data }], guard := none }) (v := ?_) rfl (by kernel_rfl) (by kernel_rfl) (by kernel_rfl) (fun _ _ _ h => h) (Or.inl ⟨by rfl, ?_⟩) (by assumption) ?_
        rotate_left
        · intro w hSw; (try dsimp only at hSw); go_simp; (try with_reducible rfl)
        try simp only [Act.put, List.setIfInBounds_toArray, List.set_cons_zero, List.set_cons_succ]
        refine wpAnyH_take (i := 10) (oi := { dst := some 34, op := Go.Op.fieldAddr 23 (Go.Operand.tmp 1) 4, type := 0, pos := "ref.go:124", after := #[], guard := none }) (v := ?_) rfl (by kernel_rfl) (by kernel_rfl) (by kernel_rfl) (fun _ _ _ h => h) (Or.inl ⟨by rfl, ?_⟩) (by assumption) ?_
        rotate_left
        · intro w hSw; (try dsimp only at hSw); go_simp; (try with_reducible rfl)
        try simp only [Act.put, List.setIfInBounds_toArray, List.set_cons_zero, List.set_cons_succ]
        refine wpAnyH_take (i := 11) (oi := { dst := some 35, op := Go.Op.load 3 (Go.Operand.tmp 34), type := 3, pos := "ref.go:124", after := #[{ on := 10, ground := Go.Ground.data }], guard := none }) (v := ?_) rfl (by kernel_rfl) (by kernel_rfl) (by kernel_rfl) (fun _ _ _ h => h) (Or.inl ⟨by rfl, ?_⟩) (by assumption) ?_
        rotate_left
        · intro w hSw; (try dsimp only at hSw); go_simp; (try with_reducible rfl)
        try simp only [Act.put, List.setIfInBounds_toArray, List.set_cons_zero, List.set_cons_succ]
        refine wpAnyH_take (i := 14) (oi := { dst := some 38, op := Go.Op.fieldAddr 23 (Go.Operand.tmp 1) 5, type := 0, pos := "ref.go:124", after := #[], guard := none }) (v := ?_) rfl (by kernel_rfl) (by kernel_rfl) (by kernel_rfl) (fun _ _ _ h => h) (Or.inl ⟨by rfl, ?_⟩) (by assumption) ?_
        rotate_left
        · intro w hSw; (try dsimp only at hSw); go_simp; (try with_reducible rfl)
        try simp only [Act.put, List.setIfInBounds_toArray, List.set_cons_zero, List.set_cons_succ]
        refine wpAnyH_take (i := 15) (oi := { dst := some 39, op := Go.Op.load 3 (Go.Operand.tmp 38), type := 3, pos := "ref.go:124", after := #[{ on := 14, ground := Go.Ground.data }], guard := none }) (v := ?_) rfl (by kernel_rfl) (by kernel_rfl) (by kernel_rfl) (fun _ _ _ h => h) (Or.inl ⟨by rfl, ?_⟩) (by assumption) ?_
        rotate_left
        · intro w hSw; (try dsimp only at hSw); go_simp; (try with_reducible rfl)
        try simp only [Act.put, List.setIfInBounds_toArray, List.set_cons_zero, List.set_cons_succ]
        refine wpAnyH_ready (rs := [5]) (by kernel_rfl) (by simp) ?_
        refine AllReadyH.cons (o := { dst := some 29, op := Go.Op.call { callee := Go.Callee.value (Go.Operand.func 34), args := #[Go.Operand.tmp 28], argTypes := #[3] }, type := 9, pos := "ref.go:124", after := #[{ on := 4, ground := Go.Ground.data }], guard := none }) rfl (fun K hK => ?_) AllReadyH.nil
        go_simp
        (first | (go_at_call 34; (with_reducible refine Calls.mono (rbothc _ (by omega) _) ?_); rintro e w' ⟨rfl, hb⟩; have hz := hb.size; (try simp only [World.size_alloc, World.size_setCell, World.size_drew, Nat.add_assoc, Nat.reduceAdd] at hz); (first | obtain ⟨HL, hk⟩ := HL.call hb hz (by simp only [World.size_alloc, World.size_setCell, World.size_drew, Nat.add_assoc, Nat.reduceAdd]) | obtain ⟨HL, hk⟩ := HL.call0 hb hz (by first | rfl | simp only [World.size_alloc, World.size_setCell, World.size_drew, Nat.add_assoc, Nat.reduceAdd])); (try simp only [addN, Nat.add_zero] at HL hk); have hl := HL; simp only [Live] at hl; (try simp only [Kept] at hk)))
        go_wp2_with fail
        refine hK.out _ _ (by (try dsimp only); first | assumption | (simp [*, go_sem]; done) | (refine ⟨?_, ?_⟩ <;> simp [*, go_sem])) (fun hHeld => ?_)
        clear hK K
        try simp only [Act.put, List.setIfInBounds_toArray, List.set_cons_zero, List.set_cons_succ]
        refine wpAnyH_ready (rs := [8]) (by kernel_rfl) (by simp) ?_
        refine AllReadyH.cons (o := { dst := some 32, op := Go.Op.call { callee := Go.Callee.value (Go.Operand.func 34), args := #[Go.Operand.tmp 31], argTypes := #[3] }, type := 9, pos := "ref.go:124", after := #[{ on := 7, ground := Go.Ground.data }, { on := 5, ground := Go.Ground.chain }], guard := none }) rfl (fun K hK => ?_) AllReadyH.nil
        go_simp
        (first | (go_at_call 34; (with_reducible refine Calls.mono (rbothc _ (by omega) _) ?_); rintro e w' ⟨rfl, hb⟩; have hz := hb.size; (try simp only [World.size_alloc, World.size_setCell, World.size_drew, Nat.add_assoc, Nat.reduceAdd] at hz); (first | obtain ⟨HL, hk⟩ := HL.call hb hz (by simp only [World.size_alloc, World.size_setCell, World.size_drew, Nat.add_assoc, Nat.reduceAdd]) | obtain ⟨HL, hk⟩ := HL.call0 hb hz (by first | rfl | simp only [World.size_alloc, World.size_setCell, World.size_drew, Nat.add_assoc, Nat.reduceAdd])); (try simp only [addN, Nat.add_zero] at HL hk); have hl := HL; simp only [Live] at hl; (try simp only [Kept] at hk)))
        go_wp2_with fail
        refine hK.out _ _ (by (try dsimp only); first | assumption | (simp [*, go_sem]; done) | (refine ⟨?_, ?_⟩ <;> simp [*, go_sem])) (fun hHeld => ?_)
        clear hK K
        try simp only [Act.put, List.setIfInBounds_toArray, List.set_cons_zero, List.set_cons_succ]
        refine wpAnyH_take (i := 9) (oi := { dst := some 33, op := Go.Op.binOp Go.BinOp.add 9 (Go.Operand.tmp 29) (Go.Operand.tmp 32) 9, type := 9, pos := "ref.go:124", after := #[{ on := 5, ground := Go.Ground.data }, { on := 8, ground := Go.Ground.data }], guard := none }) (v := ?_) rfl (by kernel_rfl) (by kernel_rfl) (by kernel_rfl) (fun _ _ _ h => h) (Or.inl ⟨by rfl, ?_⟩) (by assumption) ?_
        rotate_left
        · intro w hSw; (try dsimp only at hSw); go_simp; (try with_reducible rfl)
        try simp only [Act.put, List.setIfInBounds_toArray, List.set_cons_zero, List.set_cons_succ]
        refine wpAnyH_ready (rs := [12]) (by kernel_rfl) (by simp) ?_
        refine AllReadyH.cons (o := { dst := some 36, op := Go.Op.call { callee := Go.Callee.value (Go.Operand.func 34), args := #[Go.Operand.tmp 35], argTypes := #[3] }, type := 9, pos := "ref.go:124", after := #[{ on := 11, ground := Go.Ground.data }, { on := 8, ground := Go.Ground.chain }], guard := none }) rfl (fun K hK => ?_) AllReadyH.nil
        go_simp
        (first | (go_at_call 34; (with_reducible refine Calls.mono (rbothc _ (by omega) _) ?_); rintro e w' ⟨rfl, hb⟩; have hz := hb.size; (try simp only [World.size_alloc, World.size_setCell, World.size_drew, Nat.add_assoc, Nat.reduceAdd] at hz); (first | obtain ⟨HL, hk⟩ := HL.call hb hz (by simp only [World.size_alloc, World.size_setCell, World.size_drew, Nat.add_assoc, Nat.reduceAdd]) | obtain ⟨HL, hk⟩ := HL.call0 hb hz (by first | rfl | simp only [World.size_alloc, World.size_setCell, World.size_drew, Nat.add_assoc, Nat.reduceAdd])); (try simp only [addN, Nat.add_zero] at HL hk); have hl := HL; simp only [Live] at hl; (try simp only [Kept] at hk)))
        go_wp2_with fail
        refine hK.out _ _ (by (try dsimp only); first | assumption | (simp [*, go_sem]; done) | (refine ⟨?_, ?_⟩ <;> simp [*, go_sem])) (fun hHeld => ?_)
        clear hK K
        try simp only [Act.put, List.setIfInBounds_toArray, List.set_cons_zero, List.set_cons_succ]
        refine wpAnyH_take (i := 13) (oi := { dst := some 37, op := Go.Op.binOp Go.BinOp.add 9 (Go.Operand.tmp 33) (Go.Operand.tmp 36) 9, type := 9, pos := "ref.go:124", after := #[{ on := 9, ground := Go.Ground.data }, { on := 12, ground := Go.Ground.data }], guard := none }) (v := ?_) rfl (by kernel_rfl) (by kernel_rfl) (by kernel_rfl) (fun _ _ _ h => h) (Or.inl ⟨by rfl, ?_⟩) (by assumption) ?_
        rotate_left
        · intro w hSw; (try dsimp only at hSw); go_simp; (try with_reducible rfl)
        try simp only [Act.put, List.setIfInBounds_toArray, List.set_cons_zero, List.set_cons_succ]
        refine wpAnyH_ready (rs := [16]) (by kernel_rfl) (by simp) ?_
        refine AllReadyH.cons (o := { dst := some 40, op := Go.Op.call { callee := Go.Callee.value (Go.Operand.func 34), args := #[Go.Operand.tmp 39], argTypes := #[3] }, type := 9, pos := "ref.go:124", after := #[{ on := 15, ground := Go.Ground.data }, { on := 12, ground := Go.Ground.chain }], guard := none }) rfl (fun K hK => ?_) AllReadyH.nil
        go_simp
        (first | (go_at_call 34; (with_reducible refine Calls.mono (rbothc _ (by omega) _) ?_); rintro e w' ⟨rfl, hb⟩; have hz := hb.size; (try simp only [World.size_alloc, World.size_setCell, World.size_drew, Nat.add_assoc, Nat.reduceAdd] at hz); (first | obtain ⟨HL, hk⟩ := HL.call hb hz (by simp only [World.size_alloc, World.size_setCell, World.size_drew, Nat.add_assoc, Nat.reduceAdd]) | obtain ⟨HL, hk⟩ := HL.call0 hb hz (by first | rfl | simp only [World.size_alloc, World.size_setCell, World.size_drew, Nat.add_assoc, Nat.reduceAdd])); (try simp only [addN, Nat.add_zero] at HL hk); have hl := HL; simp only [Live] at hl; (try simp only [Kept] at hk)))
        go_wp2_with fail
        refine hK.out _ _ (by (try dsimp only); first | assumption | (simp [*, go_sem]; done) | (refine ⟨?_, ?_⟩ <;> simp [*, go_sem])) (fun hHeld => ?_)
        clear hK K
        try simp only [Act.put, List.setIfInBounds_toArray, List.set_cons_zero, List.set_cons_succ]
        refine wpAnyH_take (i := 17) (oi := { dst := some 41, op := Go.Op.binOp Go.BinOp.add 9 (Go.Operand.tmp 37) (Go.Operand.tmp 40) 9, type := 9, pos := "ref.go:124", after := #[{ on := 13, ground := Go.Ground.data }, { on := 16, ground := Go.Ground.data }], guard := none }) (v := ?_) rfl (by kernel_rfl) (by kernel_rfl) (by kernel_rfl) (fun _ _ _ h => h) (Or.inl ⟨by rfl, ?_⟩) (by assumption) ?_
        rotate_left
        · intro w hSw; (try dsimp only at hSw); go_simp; (try with_reducible rfl)
        try simp only [Act.put, List.setIfInBounds_toArray, List.set_cons_zero, List.set_cons_succ]
        refine wpAnyH_take (i := 18) (oi := { dst := some 42, op := Go.Op.build 32 #[(0, Go.Operand.const (Go.Value.string { data := #[80, 88] })), (1, Go.Operand.const (Go.Value.int Go.IntKind.i64 1)), (2, Go.Operand.tmp 41)], type := 32, pos := "ref.go:124", after := #[{ on := 17, ground := Go.Ground.data }], guard := none }) (v := ?_) rfl (by kernel_rfl) (by kernel_rfl) (by kernel_rfl) (fun _ _ _ h => h) (Or.inl ⟨by rfl, ?_⟩) (by assumption) ?_
        rotate_left
        · intro w hSw; (try dsimp only at hSw); go_simp; (try with_reducible rfl)
        try simp only [Act.put, List.setIfInBounds_toArray, List.set_cons_zero, List.set_cons_succ]
        refine wpAnyH_ready (rs := [19]) (by kernel_rfl) (by simp) ?_
        refine AllReadyH.cons (o := { dst := some 43, op := Go.Op.buildSlice 26 1 #[(0, Go.Operand.tmp 42)], type := 26, pos := "ref.go:124", after := #[{ on := 18, ground := Go.Ground.data }], guard := none }) rfl (fun K hK => ?_) AllReadyH.nil
        go_simp
        refine hK.out _ _ (by (try dsimp only); first | assumption | (simp [*, go_sem]; done) | (refine ⟨?_, ?_⟩ <;> simp [*, go_sem])) (fun hHeld => ?_)
        clear hK K
        try simp only [Act.put, List.setIfInBounds_toArray, List.set_cons_zero, List.set_cons_succ]
        refine wpAnyH_ready (rs := [20]) (by kernel_rfl) (by simp) ?_
        refine AllReadyH.cons (o := { dst := some 44, op := Go.Op.call { callee := Go.Callee.builtin Go.Builtin.append, args := #[Go.Operand.tmp 24, Go.Operand.tmp 43], argTypes := #[26, 26] }, type := 26, pos := "ref.go:124", after := #[{ on := 0, ground := Go.Ground.data }, { on := 19, ground := Go.Ground.data }, { on := 16, ground := Go.Ground.chain }], guard := none }) rfl (fun K hK => ?_) AllReadyH.nil
        refine step_append_blk _ (by rfl) _ _ _ (by rfl) ob 32 entInfo Tryz.underlying26 (by rfl) (by decide) (.slice none 0 0) 0 [] (World.ownsRow_nil _ _ _ _) _ #[.string sPX, .int .i64 1, .string (bothS (16384 + r.mode) ++ bothS r.links ++ bothS r.uid ++ bothS r.gid)] (Blk.newAt rfl) (by rfl) (by rfl) rfl (by simp [Value.oneCell']) (by unfold maxLen; omega) (by omega) (by simp; omega) ?_; intro v2 w2 hown2 hb2 hot2 hz2; have hkE := fun o => hb2.cell (p := ⟨w.heap.size, o, none⟩) hlt2
        refine hK.out _ _ (by (try dsimp only); first | assumption | (simp [*, go_sem]; done) | (refine ⟨?_, ?_⟩ <;> simp [*, go_sem])) (fun hHeld => ?_)
        clear hK K
        try simp only [Act.put, List.setIfInBounds_toArray, List.set_cons_zero, List.set_cons_succ]
        refine wpAnyH_take (i := 21) (oi := { dst := some 5, op := Go.Op.assign (Go.Operand.tmp 44), type := 26, pos := "ref.go:124", after := #[{ on := 20, ground := Go.Ground.data }, { on := 20, ground := Go.Ground.chain }, { on := 0, ground := Go.Ground.phase }, { on := 1, ground := Go.Ground.phase }, { on := 2, ground := Go.Ground.phase }, { on := 3, ground := Go.Ground.phase }, { on := 4, ground := Go.Ground.phase }, { on := 5, ground := Go.Ground.phase }, { on := 6, ground := Go.Ground.phase }, { on := 7, ground := Go.Ground.phase }, { on := 8, ground := Go.Ground.phase }, { on := 9, ground := Go.Ground.phase }, { on := 10, ground := Go.Ground.phase }, { on := 11, ground := Go.Ground.phase }, { on := 12, ground := Go.Ground.phase }, { on := 13, ground := Go.Ground.phase }, { on := 14, ground := Go.Ground.phase }, { on := 15, ground := Go.Ground.phase }, { on := 16, ground := Go.Ground.phase }, { on := 17, ground := Go.Ground.phase }, { on := 18, ground := Go.Ground.phase }, { on := 19, ground := Go.Ground.phase }, { on := 20, ground := Go.Ground.phase }], guard := none }) (v := ?_) rfl (by kernel_rfl) (by kernel_rfl) (by kernel_rfl) (fun _ _ _ h => h) (Or.inl ⟨by rfl, ?_⟩) (by assumption) ?_
        rotate_left
        · intro w hSw; (try dsimp only at hSw); go_simp; (try with_reducible rfl)
        try simp only [Act.put, List.setIfInBounds_toArray, List.set_cons_zero, List.set_cons_succ]
        refine wpAnyH_done (by kernel_rfl) ?_ _
        refine NoPanic.normal ?_
        all_goals
          go_wp2
          go_meet
          exact ⟨by rw [E.out]; rw [HP.out] at hown2; exact OW.snoc (L := []) hown2, by (repeat' (first | (with_reducible exact Below.refl _ _) | (with_reducible refine Below.alloc ?_ ?_ _) | (with_reducible refine Below.setCell ?_ ?_ _) | (with_reducible refine Below.drew ?_) | (with_reducible refine below_drewN' ?_) | (with_reducible refine below_bytesW ?_ ?_) | (with_reducible refine Below.trans ?_ (Below.mono (by assumption) ?_)) | omega | (simp only [World.size_alloc, World.size_setCell, World.size_drew]; omega) | (simp [size_bytesW]; omega) | (simp; omega))), by (repeat' (first | with_reducible assumption | (with_reducible refine Blk.alloc ?_ _) | (with_reducible refine Blk.drew ?_) | (with_reducible refine Blk.below (by with_reducible assumption) ?_) | (with_reducible refine Blk.under (by with_reducible assumption) (by omega) ?_))), by (try simp only [World.size_alloc, World.size_drew] at hz2); omega⟩
      · have HP := hide (px_cat r 32768 (by rw [hk0]; rfl))
        go_upto_region 11 with fail
        have wk : IntKind.i64.wrap (32768 + r.mode) = 32768 + r.mode := IntWalk.i64_in _ (by omega)
        refine wp_region_noPanic ?_
        refine wp_region_held_drew (S := (fun x => x.cell? ⟨w.heap.size, 2, none⟩ = some (.int .i64 r.mode) ∧ x.cell? ⟨w.heap.size, 3, none⟩ = some (.int .i64 r.links) ∧ x.cell? ⟨w.heap.size, 4, none⟩ = some (.int .i64 r.uid) ∧ x.cell? ⟨w.heap.size, 5, none⟩ = some (.int .i64 r.gid))) (by kernel_rfl) (by (try dsimp only); first | assumption | (simp [*, go_sem]; done) | (refine ⟨?_, ?_⟩ <;> simp [*, go_sem])) (fun hHeld => ?_)
        refine wpAnyH_take (i := 0) (oi := { dst := some 24, op := Go.Op.move (Go.Operand.tmp 5), type := 26, pos := "ref.go:124", after := #[], guard := none }) (v := ?_) rfl (by kernel_rfl) (by kernel_rfl) (by kernel_rfl) (fun _ _ _ h => h) (Or.inl ⟨by rfl, ?_⟩) (by assumption) ?_
        rotate_left
        · intro w hSw; (try dsimp only at hSw); go_simp; (try with_reducible rfl)
        try simp only [Act.put, List.setIfInBounds_toArray, List.set_cons_zero, List.set_cons_succ]
        refine wpAnyH_take (i := 1) (oi := { dst := some 25, op := Go.Op.move (Go.Operand.tmp 6), type := 3, pos := "ref.go:124", after := #[], guard := none }) (v := ?_) rfl (by kernel_rfl) (by kernel_rfl) (by kernel_rfl) (fun _ _ _ h => h) (Or.inl ⟨by rfl, ?_⟩) (by assumption) ?_
        rotate_left
        · intro w hSw; (try dsimp only at hSw); go_simp; (try with_reducible rfl)
        try simp only [Act.put, List.setIfInBounds_toArray, List.set_cons_zero, List.set_cons_succ]
        refine wpAnyH_take (i := 2) (oi := { dst := some 26, op := Go.Op.fieldAddr 23 (Go.Operand.tmp 1) 2, type := 0, pos := "ref.go:124", after := #[], guard := none }) (v := ?_) rfl (by kernel_rfl) (by kernel_rfl) (by kernel_rfl) (fun _ _ _ h => h) (Or.inl ⟨by rfl, ?_⟩) (by assumption) ?_
        rotate_left
        · intro w hSw; (try dsimp only at hSw); go_simp; (try with_reducible rfl)
        try simp only [Act.put, List.setIfInBounds_toArray, List.set_cons_zero, List.set_cons_succ]
        refine wpAnyH_take (i := 3) (oi := { dst := some 27, op := Go.Op.load 3 (Go.Operand.tmp 26), type := 3, pos := "ref.go:124", after := #[{ on := 2, ground := Go.Ground.data }], guard := none }) (v := ?_) rfl (by kernel_rfl) (by kernel_rfl) (by kernel_rfl) (fun _ _ _ h => h) (Or.inl ⟨by rfl, ?_⟩) (by assumption) ?_
        rotate_left
        · intro w hSw; (try dsimp only at hSw); go_simp; (try with_reducible rfl)
        try simp only [Act.put, List.setIfInBounds_toArray, List.set_cons_zero, List.set_cons_succ]
        refine wpAnyH_take (i := 4) (oi := { dst := some 28, op := Go.Op.binOp Go.BinOp.add 3 (Go.Operand.tmp 25) (Go.Operand.tmp 27) 3, type := 3, pos := "ref.go:124", after := #[{ on := 1, ground := Go.Ground.data }, { on := 3, ground := Go.Ground.data }], guard := none }) (v := ?_) rfl (by kernel_rfl) (by kernel_rfl) (by kernel_rfl) (fun _ _ _ h => h) (Or.inl ⟨by rfl, ?_⟩) (by assumption) ?_
        rotate_left
        · intro w hSw; (try dsimp only at hSw); go_simp; (try with_reducible rfl)
        try simp only [Act.put, List.setIfInBounds_toArray, List.set_cons_zero, List.set_cons_succ]
        refine wpAnyH_take (i := 6) (oi := { dst := some 30, op := Go.Op.fieldAddr 23 (Go.Operand.tmp 1) 3, type := 0, pos := "ref.go:124", after := #[], guard := none }) (v := ?_) rfl (by kernel_rfl) (by kernel_rfl) (by kernel_rfl) (fun _ _ _ h => h) (Or.inl ⟨by rfl, ?_⟩) (by assumption) ?_
        rotate_left
        · intro w hSw; (try dsimp only at hSw); go_simp; (try with_reducible rfl)
        try simp only [Act.put, List.setIfInBounds_toArray, List.set_cons_zero, List.set_cons_succ]
        refine wpAnyH_take (i := 7) (oi := { dst := some 31, op := Go.Op.load 3 (Go.Operand.tmp 30), type := 3, pos := "ref.go:124", after := #[{ on := 6, ground := Go.Ground.data }], guard := none }) (v := ?_) rfl (by kernel_rfl) (by kernel_rfl) (by kernel_rfl) (fun _ _ _ h => h) (Or.inl ⟨by rfl, ?_⟩) (by assumption) ?_
        rotate_left
        · intro w hSw; (try dsimp only at hSw); go_simp; (try with_reducible rfl)
        try simp only [Act.put, List.setIfInBounds_toArray, List.set_cons_zero, List.set_cons_succ]
        refine wpAnyH_take (i := 10) (oi := { dst := some 34, op := Go.Op.fieldAddr 23 (Go.Operand.tmp 1) 4, type := 0, pos := "ref.go:124", after := #[], guard := none }) (v := ?_) rfl (by kernel_rfl) (by kernel_rfl) (by kernel_rfl) (fun _ _ _ h => h) (Or.inl ⟨by rfl, ?_⟩) (by assumption) ?_
        rotate_left
        · intro w hSw; (try dsimp only at hSw); go_simp; (try with_reducible rfl)
        try simp only [Act.put, List.setIfInBounds_toArray, List.set_cons_zero, List.set_cons_succ]
        refine wpAnyH_take (i := 11) (oi := { dst := some 35, op := Go.Op.load 3 (Go.Operand.tmp 34), type := 3, pos := "ref.go:124", after := #[{ on := 10, ground := Go.Ground.data }], guard := none }) (v := ?_) rfl (by kernel_rfl) (by kernel_rfl) (by kernel_rfl) (fun _ _ _ h => h) (Or.inl ⟨by rfl, ?_⟩) (by assumption) ?_
        rotate_left
        · intro w hSw; (try dsimp only at hSw); go_simp; (try with_reducible rfl)
        try simp only [Act.put, List.setIfInBounds_toArray, List.set_cons_zero, List.set_cons_succ]
        refine wpAnyH_take (i := 14) (oi := { dst := some 38, op := Go.Op.fieldAddr 23 (Go.Operand.tmp 1) 5, type := 0, pos := "ref.go:124", after := #[], guard := none }) (v := ?_) rfl (by kernel_rfl) (by kernel_rfl) (by kernel_rfl) (fun _ _ _ h => h) (Or.inl ⟨by rfl, ?_⟩) (by assumption) ?_
        rotate_left
        · intro w hSw; (try dsimp only at hSw); go_simp; (try with_reducible rfl)
        try simp only [Act.put, List.setIfInBounds_toArray, List.set_cons_zero, List.set_cons_succ]
        refine wpAnyH_take (i := 15) (oi := { dst := some 39, op := Go.Op.load 3 (Go.Operand.tmp 38), type := 3, pos := "ref.go:124", after := #[{ on := 14, ground := Go.Ground.data }], guard := none }) (v := ?_) rfl (by kernel_rfl) (by kernel_rfl) (by kernel_rfl) (fun _ _ _ h => h) (Or.inl ⟨by rfl, ?_⟩) (by assumption) ?_
        rotate_left
        · intro w hSw; (try dsimp only at hSw); go_simp; (try with_reducible rfl)
        try simp only [Act.put, List.setIfInBounds_toArray, List.set_cons_zero, List.set_cons_succ]
        refine wpAnyH_ready (rs := [5]) (by kernel_rfl) (by simp) ?_
        refine AllReadyH.cons (o := { dst := some 29, op := Go.Op.call { callee := Go.Callee.value (Go.Operand.func 34), args := #[Go.Operand.tmp 28], argTypes := #[3] }, type := 9, pos := "ref.go:124", after := #[{ on := 4, ground := Go.Ground.data }], guard := none }) rfl (fun K hK => ?_) AllReadyH.nil
        go_simp
        (first | (go_at_call 34; (with_reducible refine Calls.mono (rbothc _ (by omega) _) ?_); rintro e w' ⟨rfl, hb⟩; have hz := hb.size; (try simp only [World.size_alloc, World.size_setCell, World.size_drew, Nat.add_assoc, Nat.reduceAdd] at hz); (first | obtain ⟨HL, hk⟩ := HL.call hb hz (by simp only [World.size_alloc, World.size_setCell, World.size_drew, Nat.add_assoc, Nat.reduceAdd]) | obtain ⟨HL, hk⟩ := HL.call0 hb hz (by first | rfl | simp only [World.size_alloc, World.size_setCell, World.size_drew, Nat.add_assoc, Nat.reduceAdd])); (try simp only [addN, Nat.add_zero] at HL hk); have hl := HL; simp only [Live] at hl; (try simp only [Kept] at hk)))
        go_wp2_with fail
        refine hK.out _ _ (by (try dsimp only); first | assumption | (simp [*, go_sem]; done) | (refine ⟨?_, ?_⟩ <;> simp [*, go_sem])) (fun hHeld => ?_)
        clear hK K
        try simp only [Act.put, List.setIfInBounds_toArray, List.set_cons_zero, List.set_cons_succ]
        refine wpAnyH_ready (rs := [8]) (by kernel_rfl) (by simp) ?_
        refine AllReadyH.cons (o := { dst := some 32, op := Go.Op.call { callee := Go.Callee.value (Go.Operand.func 34), args := #[Go.Operand.tmp 31], argTypes := #[3] }, type := 9, pos := "ref.go:124", after := #[{ on := 7, ground := Go.Ground.data }, { on := 5, ground := Go.Ground.chain }], guard := none }) rfl (fun K hK => ?_) AllReadyH.nil
        go_simp
        (first | (go_at_call 34; (with_reducible refine Calls.mono (rbothc _ (by omega) _) ?_); rintro e w' ⟨rfl, hb⟩; have hz := hb.size; (try simp only [World.size_alloc, World.size_setCell, World.size_drew, Nat.add_assoc, Nat.reduceAdd] at hz); (first | obtain ⟨HL, hk⟩ := HL.call hb hz (by simp only [World.size_alloc, World.size_setCell, World.size_drew, Nat.add_assoc, Nat.reduceAdd]) | obtain ⟨HL, hk⟩ := HL.call0 hb hz (by first | rfl | simp only [World.size_alloc, World.size_setCell, World.size_drew, Nat.add_assoc, Nat.reduceAdd])); (try simp only [addN, Nat.add_zero] at HL hk); have hl := HL; simp only [Live] at hl; (try simp only [Kept] at hk)))
        go_wp2_with fail
        refine hK.out _ _ (by (try dsimp only); first | assumption | (simp [*, go_sem]; done) | (refine ⟨?_, ?_⟩ <;> simp [*, go_sem])) (fun hHeld => ?_)
        clear hK K
        try simp only [Act.put, List.setIfInBounds_toArray, List.set_cons_zero, List.set_cons_succ]
        refine wpAnyH_take (i := 9) (oi := { dst := some 33, op := Go.Op.binOp Go.BinOp.add 9 (Go.Operand.tmp 29) (Go.Operand.tmp 32) 9, type := 9, pos := "ref.go:124", after := #[{ on := 5, ground := Go.Ground.data }, { on := 8, ground := Go.Ground.data }], guard := none }) (v := ?_) rfl (by kernel_rfl) (by kernel_rfl) (by kernel_rfl) (fun _ _ _ h => h) (Or.inl ⟨by rfl, ?_⟩) (by assumption) ?_
        rotate_left
        · intro w hSw; (try dsimp only at hSw); go_simp; (try with_reducible rfl)
        try simp only [Act.put, List.setIfInBounds_toArray, List.set_cons_zero, List.set_cons_succ]
        refine wpAnyH_ready (rs := [12]) (by kernel_rfl) (by simp) ?_
        refine AllReadyH.cons (o := { dst := some 36, op := Go.Op.call { callee := Go.Callee.value (Go.Operand.func 34), args := #[Go.Operand.tmp 35], argTypes := #[3] }, type := 9, pos := "ref.go:124", after := #[{ on := 11, ground := Go.Ground.data }, { on := 8, ground := Go.Ground.chain }], guard := none }) rfl (fun K hK => ?_) AllReadyH.nil
        go_simp
        (first | (go_at_call 34; (with_reducible refine Calls.mono (rbothc _ (by omega) _) ?_); rintro e w' ⟨rfl, hb⟩; have hz := hb.size; (try simp only [World.size_alloc, World.size_setCell, World.size_drew, Nat.add_assoc, Nat.reduceAdd] at hz); (first | obtain ⟨HL, hk⟩ := HL.call hb hz (by simp only [World.size_alloc, World.size_setCell, World.size_drew, Nat.add_assoc, Nat.reduceAdd]) | obtain ⟨HL, hk⟩ := HL.call0 hb hz (by first | rfl | simp only [World.size_alloc, World.size_setCell, World.size_drew, Nat.add_assoc, Nat.reduceAdd])); (try simp only [addN, Nat.add_zero] at HL hk); have hl := HL; simp only [Live] at hl; (try simp only [Kept] at hk)))
        go_wp2_with fail
        refine hK.out _ _ (by (try dsimp only); first | assumption | (simp [*, go_sem]; done) | (refine ⟨?_, ?_⟩ <;> simp [*, go_sem])) (fun hHeld => ?_)
        clear hK K
        try simp only [Act.put, List.setIfInBounds_toArray, List.set_cons_zero, List.set_cons_succ]
        refine wpAnyH_take (i := 13) (oi := { dst := some 37, op := Go.Op.binOp Go.BinOp.add 9 (Go.Operand.tmp 33) (Go.Operand.tmp 36) 9, type := 9, pos := "ref.go:124", after := #[{ on := 9, ground := Go.Ground.data }, { on := 12, ground := Go.Ground.data }], guard := none }) (v := ?_) rfl (by kernel_rfl) (by kernel_rfl) (by kernel_rfl) (fun _ _ _ h => h) (Or.inl ⟨by rfl, ?_⟩) (by assumption) ?_
        rotate_left
        · intro w hSw; (try dsimp only at hSw); go_simp; (try with_reducible rfl)
        try simp only [Act.put, List.setIfInBounds_toArray, List.set_cons_zero, List.set_cons_succ]
        refine wpAnyH_ready (rs := [16]) (by kernel_rfl) (by simp) ?_
        refine AllReadyH.cons (o := { dst := some 40, op := Go.Op.call { callee := Go.Callee.value (Go.Operand.func 34), args := #[Go.Operand.tmp 39], argTypes := #[3] }, type := 9, pos := "ref.go:124", after := #[{ on := 15, ground := Go.Ground.data }, { on := 12, ground := Go.Ground.chain }], guard := none }) rfl (fun K hK => ?_) AllReadyH.nil
        go_simp
        (first | (go_at_call 34; (with_reducible refine Calls.mono (rbothc _ (by omega) _) ?_); rintro e w' ⟨rfl, hb⟩; have hz := hb.size; (try simp only [World.size_alloc, World.size_setCell, World.size_drew, Nat.add_assoc, Nat.reduceAdd] at hz); (first | obtain ⟨HL, hk⟩ := HL.call hb hz (by simp only [World.size_alloc, World.size_setCell, World.size_drew, Nat.add_assoc, Nat.reduceAdd]) | obtain ⟨HL, hk⟩ := HL.call0 hb hz (by first | rfl | simp only [World.size_alloc, World.size_setCell, World.size_drew, Nat.add_assoc, Nat.reduceAdd])); (try simp only [addN, Nat.add_zero] at HL hk); have hl := HL; simp only [Live] at hl; (try simp only [Kept] at hk)))
        go_wp2_with fail
        refine hK.out _ _ (by (try dsimp only); first | assumption | (simp [*, go_sem]; done) | (refine ⟨?_, ?_⟩ <;> simp [*, go_sem])) (fun hHeld => ?_)
        clear hK K
        try simp only [Act.put, List.setIfInBounds_toArray, List.set_cons_zero, List.set_cons_succ]
        refine wpAnyH_take (i := 17) (oi := { dst := some 41, op := Go.Op.binOp Go.BinOp.add 9 (Go.Operand.tmp 37) (Go.Operand.tmp 40) 9, type := 9, pos := "ref.go:124", after := #[{ on := 13, ground := Go.Ground.data }, { on := 16, ground := Go.Ground.data }], guard := none }) (v := ?_) rfl (by kernel_rfl) (by kernel_rfl) (by kernel_rfl) (fun _ _ _ h => h) (Or.inl ⟨by rfl, ?_⟩) (by assumption) ?_
        rotate_left
        · intro w hSw; (try dsimp only at hSw); go_simp; (try with_reducible rfl)
        try simp only [Act.put, List.setIfInBounds_toArray, List.set_cons_zero, List.set_cons_succ]
        refine wpAnyH_take (i := 18) (oi := { dst := some 42, op := Go.Op.build 32 #[(0, Go.Operand.const (Go.Value.string { data := #[80, 88] })), (1, Go.Operand.const (Go.Value.int Go.IntKind.i64 1)), (2, Go.Operand.tmp 41)], type := 32, pos := "ref.go:124", after := #[{ on := 17, ground := Go.Ground.data }], guard := none }) (v := ?_) rfl (by kernel_rfl) (by kernel_rfl) (by kernel_rfl) (fun _ _ _ h => h) (Or.inl ⟨by rfl, ?_⟩) (by assumption) ?_
        rotate_left
        · intro w hSw; (try dsimp only at hSw); go_simp; (try with_reducible rfl)
        try simp only [Act.put, List.setIfInBounds_toArray, List.set_cons_zero, List.set_cons_succ]
        refine wpAnyH_ready (rs := [19]) (by kernel_rfl) (by simp) ?_
        refine AllReadyH.cons (o := { dst := some 43, op := Go.Op.buildSlice 26 1 #[(0, Go.Operand.tmp 42)], type := 26, pos := "ref.go:124", after := #[{ on := 18, ground := Go.Ground.data }], guard := none }) rfl (fun K hK => ?_) AllReadyH.nil
        go_simp
        refine hK.out _ _ (by (try dsimp only); first | assumption | (simp [*, go_sem]; done) | (refine ⟨?_, ?_⟩ <;> simp [*, go_sem])) (fun hHeld => ?_)
        clear hK K
        try simp only [Act.put, List.setIfInBounds_toArray, List.set_cons_zero, List.set_cons_succ]
        refine wpAnyH_ready (rs := [20]) (by kernel_rfl) (by simp) ?_
        refine AllReadyH.cons (o := { dst := some 44, op := Go.Op.call { callee := Go.Callee.builtin Go.Builtin.append, args := #[Go.Operand.tmp 24, Go.Operand.tmp 43], argTypes := #[26, 26] }, type := 26, pos := "ref.go:124", after := #[{ on := 0, ground := Go.Ground.data }, { on := 19, ground := Go.Ground.data }, { on := 16, ground := Go.Ground.chain }], guard := none }) rfl (fun K hK => ?_) AllReadyH.nil
        refine step_append_blk _ (by rfl) _ _ _ (by rfl) ob 32 entInfo Tryz.underlying26 (by rfl) (by decide) (.slice none 0 0) 0 [] (World.ownsRow_nil _ _ _ _) _ #[.string sPX, .int .i64 1, .string (bothS (32768 + r.mode) ++ bothS r.links ++ bothS r.uid ++ bothS r.gid)] (Blk.newAt rfl) (by rfl) (by rfl) rfl (by simp [Value.oneCell']) (by unfold maxLen; omega) (by omega) (by simp; omega) ?_; intro v2 w2 hown2 hb2 hot2 hz2; have hkE := fun o => hb2.cell (p := ⟨w.heap.size, o, none⟩) hlt2
        refine hK.out _ _ (by (try dsimp only); first | assumption | (simp [*, go_sem]; done) | (refine ⟨?_, ?_⟩ <;> simp [*, go_sem])) (fun hHeld => ?_)
        clear hK K
        try simp only [Act.put, List.setIfInBounds_toArray, List.set_cons_zero, List.set_cons_succ]
        refine wpAnyH_take (i := 21) (oi := { dst := some 5, op := Go.Op.assign (Go.Operand.tmp 44), type := 26, pos := "ref.go:124", after := #[{ on := 20, ground := Go.Ground.data }, { on := 20, ground := Go.Ground.chain }, { on := 0, ground := Go.Ground.phase }, { on := 1, ground := Go.Ground.phase }, { on := 2, ground := Go.Ground.phase }, { on := 3, ground := Go.Ground.phase }, { on := 4, ground := Go.Ground.phase }, { on := 5, ground := Go.Ground.phase }, { on := 6, ground := Go.Ground.phase }, { on := 7, ground := Go.Ground.phase }, { on := 8, ground := Go.Ground.phase }, { on := 9, ground := Go.Ground.phase }, { on := 10, ground := Go.Ground.phase }, { on := 11, ground := Go.Ground.phase }, { on := 12, ground := Go.Ground.phase }, { on := 13, ground := Go.Ground.phase }, { on := 14, ground := Go.Ground.phase }, { on := 15, ground := Go.Ground.phase }, { on := 16, ground := Go.Ground.phase }, { on := 17, ground := Go.Ground.phase }, { on := 18, ground := Go.Ground.phase }, { on := 19, ground := Go.Ground.phase }, { on := 20, ground := Go.Ground.phase }], guard := none }) (v := ?_) rfl (by kernel_rfl) (by kernel_rfl) (by kernel_rfl) (fun _ _ _ h => h) (Or.inl ⟨by rfl, ?_⟩) (by assumption) ?_
        rotate_left
        · intro w hSw; (try dsimp only at hSw); go_simp; (try with_reducible rfl)
        try simp only [Act.put, List.setIfInBounds_toArray, List.set_cons_zero, List.set_cons_succ]
        refine wpAnyH_done (by kernel_rfl) ?_ _
        refine NoPanic.normal ?_
        all_goals
          go_wp2
          go_meet
          exact ⟨by rw [E.out]; rw [HP.out] at hown2; exact OW.snoc (L := []) hown2, by (repeat' (first | (with_reducible exact Below.refl _ _) | (with_reducible refine Below.alloc ?_ ?_ _) | (with_reducible refine Below.setCell ?_ ?_ _) | (with_reducible refine Below.drew ?_) | (with_reducible refine below_drewN' ?_) | (with_reducible refine below_bytesW ?_ ?_) | (with_reducible refine Below.trans ?_ (Below.mono (by assumption) ?_)) | omega | (simp only [World.size_alloc, World.size_setCell, World.size_drew]; omega) | (simp [size_bytesW]; omega) | (simp; omega))), by (repeat' (first | with_reducible assumption | (with_reducible refine Blk.alloc ?_ _) | (with_reducible refine Blk.drew ?_) | (with_reducible refine Blk.below (by with_reducible assumption) ?_) | (with_reducible refine Blk.under (by with_reducible assumption) (by omega) ?_))), by (try simp only [World.size_alloc, World.size_drew] at hz2); omega⟩
      · have HP := hide (px_cat r 40960 (by rw [hk0]; rfl))
        go_upto_region 11 with fail
        have wk : IntKind.i64.wrap (40960 + r.mode) = 40960 + r.mode := IntWalk.i64_in _ (by omega)
        refine wp_region_noPanic ?_
        refine wp_region_held_drew (S := (fun x => x.cell? ⟨w.heap.size, 2, none⟩ = some (.int .i64 r.mode) ∧ x.cell? ⟨w.heap.size, 3, none⟩ = some (.int .i64 r.links) ∧ x.cell? ⟨w.heap.size, 4, none⟩ = some (.int .i64 r.uid) ∧ x.cell? ⟨w.heap.size, 5, none⟩ = some (.int .i64 r.gid))) (by kernel_rfl) (by (try dsimp only); first | assumption | (simp [*, go_sem]; done) | (refine ⟨?_, ?_⟩ <;> simp [*, go_sem])) (fun hHeld => ?_)
        refine wpAnyH_take (i := 0) (oi := { dst := some 24, op := Go.Op.move (Go.Operand.tmp 5), type := 26, pos := "ref.go:124", after := #[], guard := none }) (v := ?_) rfl (by kernel_rfl) (by kernel_rfl) (by kernel_rfl) (fun _ _ _ h => h) (Or.inl ⟨by rfl, ?_⟩) (by assumption) ?_
        rotate_left
        · intro w hSw; (try dsimp only at hSw); go_simp; (try with_reducible rfl)
        try simp only [Act.put, List.setIfInBounds_toArray, List.set_cons_zero, List.set_cons_succ]
        refine wpAnyH_take (i := 1) (oi := { dst := some 25, op := Go.Op.move (Go.Operand.tmp 6), type := 3, pos := "ref.go:124", after := #[], guard := none }) (v := ?_) rfl (by kernel_rfl) (by kernel_rfl) (by kernel_rfl) (fun _ _ _ h => h) (Or.inl ⟨by rfl, ?_⟩) (by assumption) ?_
        rotate_left
        · intro w hSw; (try dsimp only at hSw); go_simp; (try with_reducible rfl)
        try simp only [Act.put, List.setIfInBounds_toArray, List.set_cons_zero, List.set_cons_succ]
        refine wpAnyH_take (i := 2) (oi := { dst := some 26, op := Go.Op.fieldAddr 23 (Go.Operand.tmp 1) 2, type := 0, pos := "ref.go:124", after := #[], guard := none }) (v := ?_) rfl (by kernel_rfl) (by kernel_rfl) (by kernel_rfl) (fun _ _ _ h => h) (Or.inl ⟨by rfl, ?_⟩) (by assumption) ?_
        rotate_left
        · intro w hSw; (try dsimp only at hSw); go_simp; (try with_reducible rfl)
        try simp only [Act.put, List.setIfInBounds_toArray, List.set_cons_zero, List.set_cons_succ]
        refine wpAnyH_take (i := 3) (oi := { dst := some 27, op := Go.Op.load 3 (Go.Operand.tmp 26), type := 3, pos := "ref.go:124", after := #[{ on := 2, ground := Go.Ground.data }], guard := none }) (v := ?_) rfl (by kernel_rfl) (by kernel_rfl) (by kernel_rfl) (fun _ _ _ h => h) (Or.inl ⟨by rfl, ?_⟩) (by assumption) ?_
        rotate_left
        · intro w hSw; (try dsimp only at hSw); go_simp; (try with_reducible rfl)
        try simp only [Act.put, List.setIfInBounds_toArray, List.set_cons_zero, List.set_cons_succ]
        refine wpAnyH_take (i := 4) (oi := { dst := some 28, op := Go.Op.binOp Go.BinOp.add 3 (Go.Operand.tmp 25) (Go.Operand.tmp 27) 3, type := 3, pos := "ref.go:124", after := #[{ on := 1, ground := Go.Ground.data }, { on := 3, ground := Go.Ground.data }], guard := none }) (v := ?_) rfl (by kernel_rfl) (by kernel_rfl) (by kernel_rfl) (fun _ _ _ h => h) (Or.inl ⟨by rfl, ?_⟩) (by assumption) ?_
        rotate_left
        · intro w hSw; (try dsimp only at hSw); go_simp; (try with_reducible rfl)
        try simp only [Act.put, List.setIfInBounds_toArray, List.set_cons_zero, List.set_cons_succ]
        refine wpAnyH_take (i := 6) (oi := { dst := some 30, op := Go.Op.fieldAddr 23 (Go.Operand.tmp 1) 3, type := 0, pos := "ref.go:124", after := #[], guard := none }) (v := ?_) rfl (by kernel_rfl) (by kernel_rfl) (by kernel_rfl) (fun _ _ _ h => h) (Or.inl ⟨by rfl, ?_⟩) (by assumption) ?_
        rotate_left
        · intro w hSw; (try dsimp only at hSw); go_simp; (try with_reducible rfl)
        try simp only [Act.put, List.setIfInBounds_toArray, List.set_cons_zero, List.set_cons_succ]
        refine wpAnyH_take (i := 7) (oi := { dst := some 31, op := Go.Op.load 3 (Go.Operand.tmp 30), type := 3, pos := "ref.go:124", after := #[{ on := 6, ground := Go.Ground.data }], guard := none }) (v := ?_) rfl (by kernel_rfl) (by kernel_rfl) (by kernel_rfl) (fun _ _ _ h => h) (Or.inl ⟨by rfl, ?_⟩) (by assumption) ?_
        rotate_left
        · intro w hSw; (try dsimp only at hSw); go_simp; (try with_reducible rfl)
        try simp only [Act.put, List.setIfInBounds_toArray, List.set_cons_zero, List.set_cons_succ]
        refine wpAnyH_take (i := 10) (oi := { dst := some 34, op := Go.Op.fieldAddr 23 (Go.Operand.tmp 1) 4, type := 0, pos := "ref.go:124", after := #[], guard := none }) (v := ?_) rfl (by kernel_rfl) (by kernel_rfl) (by kernel_rfl) (fun _ _ _ h => h) (Or.inl ⟨by rfl, ?_⟩) (by assumption) ?_
        rotate_left
        · intro w hSw; (try dsimp only at hSw); go_simp; (try with_reducible rfl)
        try simp only [Act.put, List.setIfInBounds_toArray, List.set_cons_zero, List.set_cons_succ]
        refine wpAnyH_take (i := 11) (oi := { dst := some 35, op := Go.Op.load 3 (Go.Operand.tmp 34), type := 3, pos := "ref.go:124", after := #[{ on := 10, ground := Go.Ground.data }], guard := none }) (v := ?_) rfl (by kernel_rfl) (by kernel_rfl) (by kernel_rfl) (fun _ _ _ h => h) (Or.inl ⟨by rfl, ?_⟩) (by assumption) ?_
        rotate_left
        · intro w hSw; (try dsimp only at hSw); go_simp; (try with_reducible rfl)
        try simp only [Act.put, List.setIfInBounds_toArray, List.set_cons_zero, List.set_cons_succ]
        refine wpAnyH_take (i := 14) (oi := { dst := some 38, op := Go.Op.fieldAddr 23 (Go.Operand.tmp 1) 5, type := 0, pos := "ref.go:124", after := #[], guard := none }) (v := ?_) rfl (by kernel_rfl) (by kernel_rfl) (by kernel_rfl) (fun _ _ _ h => h) (Or.inl ⟨by rfl, ?_⟩) (by assumption) ?_
        rotate_left
        · intro w hSw; (try dsimp only at hSw); go_simp; (try with_reducible rfl)
        try simp only [Act.put, List.setIfInBounds_toArray, List.set_cons_zero, List.set_cons_succ]
        refine wpAnyH_take (i := 15) (oi := { dst := some 39, op := Go.Op.load 3 (Go.Operand.tmp 38), type := 3, pos := "ref.go:124", after := #[{ on := 14, ground := Go.Ground.data }], guard := none }) (v := ?_) rfl (by kernel_rfl) (by kernel_rfl) (by kernel_rfl) (fun _ _ _ h => h) (Or.inl ⟨by rfl, ?_⟩) (by assumption) ?_
        rotate_left
        · intro w hSw; (try dsimp only at hSw); go_simp; (try with_reducible rfl)
        try simp only [Act.put, List.setIfInBounds_toArray, List.set_cons_zero, List.set_cons_succ]
        refine wpAnyH_ready (rs := [5]) (by kernel_rfl) (by simp) ?_
        refine AllReadyH.cons (o := { dst := some 29, op := Go.Op.call { callee := Go.Callee.value (Go.Operand.func 34), args := #[Go.Operand.tmp 28], argTypes := #[3] }, type := 9, pos := "ref.go:124", after := #[{ on := 4, ground := Go.Ground.data }], guard := none }) rfl (fun K hK => ?_) AllReadyH.nil
        go_simp
        (first | (go_at_call 34; (with_reducible refine Calls.mono (rbothc _ (by omega) _) ?_); rintro e w' ⟨rfl, hb⟩; have hz := hb.size; (try simp only [World.size_alloc, World.size_setCell, World.size_drew, Nat.add_assoc, Nat.reduceAdd] at hz); (first | obtain ⟨HL, hk⟩ := HL.call hb hz (by simp only [World.size_alloc, World.size_setCell, World.size_drew, Nat.add_assoc, Nat.reduceAdd]) | obtain ⟨HL, hk⟩ := HL.call0 hb hz (by first | rfl | simp only [World.size_alloc, World.size_setCell, World.size_drew, Nat.add_assoc, Nat.reduceAdd])); (try simp only [addN, Nat.add_zero] at HL hk); have hl := HL; simp only [Live] at hl; (try simp only [Kept] at hk)))
        go_wp2_with fail
        refine hK.out _ _ (by (try dsimp only); first | assumption | (simp [*, go_sem]; done) | (refine ⟨?_, ?_⟩ <;> simp [*, go_sem])) (fun hHeld => ?_)
        clear hK K
        try simp only [Act.put, List.setIfInBounds_toArray, List.set_cons_zero, List.set_cons_succ]
        refine wpAnyH_ready (rs := [8]) (by kernel_rfl) (by simp) ?_
        refine AllReadyH.cons (o := { dst := some 32, op := Go.Op.call { callee := Go.Callee.value (Go.Operand.func 34), args := #[Go.Operand.tmp 31], argTypes := #[3] }, type := 9, pos := "ref.go:124", after := #[{ on := 7, ground := Go.Ground.data }, { on := 5, ground := Go.Ground.chain }], guard := none }) rfl (fun K hK => ?_) AllReadyH.nil
        go_simp
        (first | (go_at_call 34; (with_reducible refine Calls.mono (rbothc _ (by omega) _) ?_); rintro e w' ⟨rfl, hb⟩; have hz := hb.size; (try simp only [World.size_alloc, World.size_setCell, World.size_drew, Nat.add_assoc, Nat.reduceAdd] at hz); (first | obtain ⟨HL, hk⟩ := HL.call hb hz (by simp only [World.size_alloc, World.size_setCell, World.size_drew, Nat.add_assoc, Nat.reduceAdd]) | obtain ⟨HL, hk⟩ := HL.call0 hb hz (by first | rfl | simp only [World.size_alloc, World.size_setCell, World.size_drew, Nat.add_assoc, Nat.reduceAdd])); (try simp only [addN, Nat.add_zero] at HL hk); have hl := HL; simp only [Live] at hl; (try simp only [Kept] at hk)))
        go_wp2_with fail
        refine hK.out _ _ (by (try dsimp only); first | assumption | (simp [*, go_sem]; done) | (refine ⟨?_, ?_⟩ <;> simp [*, go_sem])) (fun hHeld => ?_)
        clear hK K
        try simp only [Act.put, List.setIfInBounds_toArray, List.set_cons_zero, List.set_cons_succ]
        refine wpAnyH_take (i := 9) (oi := { dst := some 33, op := Go.Op.binOp Go.BinOp.add 9 (Go.Operand.tmp 29) (Go.Operand.tmp 32) 9, type := 9, pos := "ref.go:124", after := #[{ on := 5, ground := Go.Ground.data }, { on := 8, ground := Go.Ground.data }], guard := none }) (v := ?_) rfl (by kernel_rfl) (by kernel_rfl) (by kernel_rfl) (fun _ _ _ h => h) (Or.inl ⟨by rfl, ?_⟩) (by assumption) ?_
        rotate_left
        · intro w hSw; (try dsimp only at hSw); go_simp; (try with_reducible rfl)
        try simp only [Act.put, List.setIfInBounds_toArray, List.set_cons_zero, List.set_cons_succ]
        refine wpAnyH_ready (rs := [12]) (by kernel_rfl) (by simp) ?_
        refine AllReadyH.cons (o := { dst := some 36, op := Go.Op.call { callee := Go.Callee.value (Go.Operand.func 34), args := #[Go.Operand.tmp 35], argTypes := #[3] }, type := 9, pos := "ref.go:124", after := #[{ on := 11, ground := Go.Ground.data }, { on := 8, ground := Go.Ground.chain }], guard := none }) rfl (fun K hK => ?_) AllReadyH.nil
        go_simp
        (first | (go_at_call 34; (with_reducible refine Calls.mono (rbothc _ (by omega) _) ?_); rintro e w' ⟨rfl, hb⟩; have hz := hb.size; (try simp only [World.size_alloc, World.size_setCell, World.size_drew, Nat.add_assoc, Nat.reduceAdd] at hz); (first | obtain ⟨HL, hk⟩ := HL.call hb hz (by simp only [World.size_alloc, World.size_setCell, World.size_drew, Nat.add_assoc, Nat.reduceAdd]) | obtain ⟨HL, hk⟩ := HL.call0 hb hz (by first | rfl | simp only [World.size_alloc, World.size_setCell, World.size_drew, Nat.add_assoc, Nat.reduceAdd])); (try simp only [addN, Nat.add_zero] at HL hk); have hl := HL; simp only [Live] at hl; (try simp only [Kept] at hk)))
        go_wp2_with fail
        refine hK.out _ _ (by (try dsimp only); first | assumption | (simp [*, go_sem]; done) | (refine ⟨?_, ?_⟩ <;> simp [*, go_sem])) (fun hHeld => ?_)
        clear hK K
        try simp only [Act.put, List.setIfInBounds_toArray, List.set_cons_zero, List.set_cons_succ]
        refine wpAnyH_take (i := 13) (oi := { dst := some 37, op := Go.Op.binOp Go.BinOp.add 9 (Go.Operand.tmp 33) (Go.Operand.tmp 36) 9, type := 9, pos := "ref.go:124", after := #[{ on := 9, ground := Go.Ground.data }, { on := 12, ground := Go.Ground.data }], guard := none }) (v := ?_) rfl (by kernel_rfl) (by kernel_rfl) (by kernel_rfl) (fun _ _ _ h => h) (Or.inl ⟨by rfl, ?_⟩) (by assumption) ?_
        rotate_left
        · intro w hSw; (try dsimp only at hSw); go_simp; (try with_reducible rfl)
        try simp only [Act.put, List.setIfInBounds_toArray, List.set_cons_zero, List.set_cons_succ]
        refine wpAnyH_ready (rs := [16]) (by kernel_rfl) (by simp) ?_
        refine AllReadyH.cons (o := { dst := some 40, op := Go.Op.call { callee := Go.Callee.value (Go.Operand.func 34), args := #[Go.Operand.tmp 39], argTypes := #[3] }, type := 9, pos := "ref.go:124", after := #[{ on := 15, ground := Go.Ground.data }, { on := 12, ground := Go.Ground.chain }], guard := none }) rfl (fun K hK => ?_) AllReadyH.nil
        go_simp
        (first | (go_at_call 34; (with_reducible refine Calls.mono (rbothc _ (by omega) _) ?_); rintro e w' ⟨rfl, hb⟩; have hz := hb.size; (try simp only [World.size_alloc, World.size_setCell, World.size_drew, Nat.add_assoc, Nat.reduceAdd] at hz); (first | obtain ⟨HL, hk⟩ := HL.call hb hz (by simp only [World.size_alloc, World.size_setCell, World.size_drew, Nat.add_assoc, Nat.reduceAdd]) | obtain ⟨HL, hk⟩ := HL.call0 hb hz (by first | rfl | simp only [World.size_alloc, World.size_setCell, World.size_drew, Nat.add_assoc, Nat.reduceAdd])); (try simp only [addN, Nat.add_zero] at HL hk); have hl := HL; simp only [Live] at hl; (try simp only [Kept] at hk)))
        go_wp2_with fail
        refine hK.out _ _ (by (try dsimp only); first | assumption | (simp [*, go_sem]; done) | (refine ⟨?_, ?_⟩ <;> simp [*, go_sem])) (fun hHeld => ?_)
        clear hK K
        try simp only [Act.put, List.setIfInBounds_toArray, List.set_cons_zero, List.set_cons_succ]
        refine wpAnyH_take (i := 17) (oi := { dst := some 41, op := Go.Op.binOp Go.BinOp.add 9 (Go.Operand.tmp 37) (Go.Operand.tmp 40) 9, type := 9, pos := "ref.go:124", after := #[{ on := 13, ground := Go.Ground.data }, { on := 16, ground := Go.Ground.data }], guard := none }) (v := ?_) rfl (by kernel_rfl) (by kernel_rfl) (by kernel_rfl) (fun _ _ _ h => h) (Or.inl ⟨by rfl, ?_⟩) (by assumption) ?_
        rotate_left
        · intro w hSw; (try dsimp only at hSw); go_simp; (try with_reducible rfl)
        try simp only [Act.put, List.setIfInBounds_toArray, List.set_cons_zero, List.set_cons_succ]
        refine wpAnyH_take (i := 18) (oi := { dst := some 42, op := Go.Op.build 32 #[(0, Go.Operand.const (Go.Value.string { data := #[80, 88] })), (1, Go.Operand.const (Go.Value.int Go.IntKind.i64 1)), (2, Go.Operand.tmp 41)], type := 32, pos := "ref.go:124", after := #[{ on := 17, ground := Go.Ground.data }], guard := none }) (v := ?_) rfl (by kernel_rfl) (by kernel_rfl) (by kernel_rfl) (fun _ _ _ h => h) (Or.inl ⟨by rfl, ?_⟩) (by assumption) ?_
        rotate_left
        · intro w hSw; (try dsimp only at hSw); go_simp; (try with_reducible rfl)
        try simp only [Act.put, List.setIfInBounds_toArray, List.set_cons_zero, List.set_cons_succ]
        refine wpAnyH_ready (rs := [19]) (by kernel_rfl) (by simp) ?_
        refine AllReadyH.cons (o := { dst := some 43, op := Go.Op.buildSlice 26 1 #[(0, Go.Operand.tmp 42)], type := 26, pos := "ref.go:124", after := #[{ on := 18, ground := Go.Ground.data }], guard := none }) rfl (fun K hK => ?_) AllReadyH.nil
        go_simp
        refine hK.out _ _ (by (try dsimp only); first | assumption | (simp [*, go_sem]; done) | (refine ⟨?_, ?_⟩ <;> simp [*, go_sem])) (fun hHeld => ?_)
        clear hK K
        try simp only [Act.put, List.setIfInBounds_toArray, List.set_cons_zero, List.set_cons_succ]
        refine wpAnyH_ready (rs := [20]) (by kernel_rfl) (by simp) ?_
        refine AllReadyH.cons (o := { dst := some 44, op := Go.Op.call { callee := Go.Callee.builtin Go.Builtin.append, args := #[Go.Operand.tmp 24, Go.Operand.tmp 43], argTypes := #[26, 26] }, type := 26, pos := "ref.go:124", after := #[{ on := 0, ground := Go.Ground.data }, { on := 19, ground := Go.Ground.data }, { on := 16, ground := Go.Ground.chain }], guard := none }) rfl (fun K hK => ?_) AllReadyH.nil
        refine step_append_blk _ (by rfl) _ _ _ (by rfl) ob 32 entInfo Tryz.underlying26 (by rfl) (by decide) (.slice none 0 0) 0 [] (World.ownsRow_nil _ _ _ _) _ #[.string sPX, .int .i64 1, .string (bothS (40960 + r.mode) ++ bothS r.links ++ bothS r.uid ++ bothS r.gid)] (Blk.newAt rfl) (by rfl) (by rfl) rfl (by simp [Value.oneCell']) (by unfold maxLen; omega) (by omega) (by simp; omega) ?_; intro v2 w2 hown2 hb2 hot2 hz2; have hkE := fun o => hb2.cell (p := ⟨w.heap.size, o, none⟩) hlt2
        refine hK.out _ _ (by (try dsimp only); first | assumption | (simp [*, go_sem]; done) | (refine ⟨?_, ?_⟩ <;> simp [*, go_sem])) (fun hHeld => ?_)
        clear hK K
        try simp only [Act.put, List.setIfInBounds_toArray, List.set_cons_zero, List.set_cons_succ]
        refine wpAnyH_take (i := 21) (oi := { dst := some 5, op := Go.Op.assign (Go.Operand.tmp 44), type := 26, pos := "ref.go:124", after := #[{ on := 20, ground := Go.Ground.data }, { on := 20, ground := Go.Ground.chain }, { on := 0, ground := Go.Ground.phase }, { on := 1, ground := Go.Ground.phase }, { on := 2, ground := Go.Ground.phase }, { on := 3, ground := Go.Ground.phase }, { on := 4, ground := Go.Ground.phase }, { on := 5, ground := Go.Ground.phase }, { on := 6, ground := Go.Ground.phase }, { on := 7, ground := Go.Ground.phase }, { on := 8, ground := Go.Ground.phase }, { on := 9, ground := Go.Ground.phase }, { on := 10, ground := Go.Ground.phase }, { on := 11, ground := Go.Ground.phase }, { on := 12, ground := Go.Ground.phase }, { on := 13, ground := Go.Ground.phase }, { on := 14, ground := Go.Ground.phase }, { on := 15, ground := Go.Ground.phase }, { on := 16, ground := Go.Ground.phase }, { on := 17, ground := Go.Ground.phase }, { on := 18, ground := Go.Ground.phase }, { on := 19, ground := Go.Ground.phase }, { on := 20, ground := Go.Ground.phase }], guard := none }) (v := ?_) rfl (by kernel_rfl) (by kernel_rfl) (by kernel_rfl) (fun _ _ _ h => h) (Or.inl ⟨by rfl, ?_⟩) (by assumption) ?_
        rotate_left
        · intro w hSw; (try dsimp only at hSw); go_simp; (try with_reducible rfl)
        try simp only [Act.put, List.setIfInBounds_toArray, List.set_cons_zero, List.set_cons_succ]
        refine wpAnyH_done (by kernel_rfl) ?_ _
        refine NoPanic.normal ?_
        all_goals
          go_wp2
          go_meet
          exact ⟨by rw [E.out]; rw [HP.out] at hown2; exact OW.snoc (L := []) hown2, by (repeat' (first | (with_reducible exact Below.refl _ _) | (with_reducible refine Below.alloc ?_ ?_ _) | (with_reducible refine Below.setCell ?_ ?_ _) | (with_reducible refine Below.drew ?_) | (with_reducible refine below_drewN' ?_) | (with_reducible refine below_bytesW ?_ ?_) | (with_reducible refine Below.trans ?_ (Below.mono (by assumption) ?_)) | omega | (simp only [World.size_alloc, World.size_setCell, World.size_drew]; omega) | (simp [size_bytesW]; omega) | (simp; omega))), by (repeat' (first | with_reducible assumption | (with_reducible refine Blk.alloc ?_ _) | (with_reducible refine Blk.drew ?_) | (with_reducible refine Blk.below (by with_reducible assumption) ?_) | (with_reducible refine Blk.under (by with_reducible assumption) (by omega) ?_))), by (try simp only [World.size_alloc, World.size_drew] at hz2); omega⟩
  case rest =>
  obtain ⟨hOW1, hbel2, hB2, hlo2⟩ := hcut
  have HO := hide hOW1
  clear hOW1
  have hrr2 := RRat.of hB2
  unfold RRat at hrr2
  have hwl2 : w.heap.size < wc.heap.size := by omega
  generalize wc = V2 at *
  go_upto_if 46 with fail
  go_cut [5] (fun v wx => OW ob (en1 r ++ en2 r) v wx ∧ Below w.heap.size w wx ∧ Blk wx w.heap.size r.cells 23 ∧ ob ≤ wx.heap.size)
  case first =>
    have HL : Live V2 [w.heap.size] := ⟨hwl2, trivial⟩
    cases a1 : r.named
    case false =>
      have E := hide (show en2 r = [] by simp [en2, a1])
      rw [a1] at hrr2
      clear a1
      go_wp2
      go_meet
      exact ⟨by rw [E.out, List.append_nil]; exact HO.out, by (repeat' (first | (with_reducible exact Below.refl _ _) | (with_reducible refine Below.alloc ?_ ?_ _) | (with_reducible refine Below.setCell ?_ ?_ _) | (with_reducible refine Below.drew ?_) | (with_reducible refine below_drewN' ?_) | (with_reducible refine below_bytesW ?_ ?_) | (with_reducible refine Below.trans ?_ (Below.mono (by assumption) ?_)) | omega | (simp only [World.size_alloc, World.size_setCell, World.size_drew]; omega) | (simp [size_bytesW]; omega) | (simp; omega))), by (repeat' (first | with_reducible assumption | (with_reducible refine Blk.alloc ?_ _) | (with_reducible refine Blk.drew ?_) | (with_reducible refine Blk.below (by with_reducible assumption) ?_) | (with_reducible refine Blk.under (by with_reducible assumption) (by omega) ?_))), by omega⟩
    case true =>
      have E := hide (show en2 r = [⟨sNM, 1, cat2 [0] r.name⟩] by simp [en2, a1])
      rw [a1] at hrr2
      clear a1
      go_wp2_with (at_builtin; refine wpList_append_one _ rfl _ _ 26 rfl ob 32 entInfo Tryz.underlying26 (by rfl) (by decide) _ (en1 r).length (entsV (en1 r)) HO.out #[.string sNM, .int .i64 1, .string (ByteArray.mk #[0] ++ r.name)] rfl rfl rfl (by simp [Value.oneCell']) (by unfold maxLen; first | omega | (simp only [List.length_append]; omega)) (by first | omega | (simp only [List.length_append]; omega)) (by omega) ?_; intro v2 w2 hown2 hb2 hot2 hz2)
      all_goals
        go_meet
        exact ⟨by rw [E.out]; exact OW.snoc2 [0] hown2, by (repeat' (first | (with_reducible exact Below.refl _ _) | (with_reducible refine Below.alloc ?_ ?_ _) | (with_reducible refine Below.setCell ?_ ?_ _) | (with_reducible refine Below.drew ?_) | (with_reducible refine below_drewN' ?_) | (with_reducible refine below_bytesW ?_ ?_) | (with_reducible refine Below.trans ?_ (Below.mono (by assumption) ?_)) | omega | (simp only [World.size_alloc, World.size_setCell, World.size_drew]; omega) | (simp [size_bytesW]; omega) | (simp; omega))), by (repeat' (first | with_reducible assumption | (with_reducible refine Blk.alloc ?_ _) | (with_reducible refine Blk.drew ?_) | (with_reducible refine Blk.below (by with_reducible assumption) ?_) | (with_reducible refine Blk.under (by with_reducible assumption) (by omega) ?_))), by (try simp only [World.size_alloc, World.size_drew] at hz2); omega⟩
  case rest =>
  obtain ⟨hOW2, hbel3, hB3, hlo3⟩ := hcut
  have HO := hide hOW2
  clear hOW2
  have hrr3 := RRat.of hB3
  unfold RRat at hrr3
  have hwl3 : w.heap.size < wc.heap.size := by omega
  generalize wc = V3 at *
  go_upto_if 56 with fail
  go_cut [5] (fun v wx => OW ob (en1 r ++ en2 r ++ en3 r) v wx ∧ Below w.heap.size w wx ∧ Blk wx w.heap.size r.cells 23 ∧ ob ≤ wx.heap.size)
  case first =>
    have HL : Live V3 [w.heap.size] := ⟨hwl3, trivial⟩
    cases a1 : r.target.toList.isEmpty
    case true =>
      have E := hide (show en3 r = [] by simp [en3, a1])
      go_wp2
      go_meet
      exact ⟨by rw [E.out, List.append_nil]; exact HO.out, by (repeat' (first | (with_reducible exact Below.refl _ _) | (with_reducible refine Below.alloc ?_ ?_ _) | (with_reducible refine Below.setCell ?_ ?_ _) | (with_reducible refine Below.drew ?_) | (with_reducible refine below_drewN' ?_) | (with_reducible refine below_bytesW ?_ ?_) | (with_reducible refine Below.trans ?_ (Below.mono (by assumption) ?_)) | omega | (simp only [World.size_alloc, World.size_setCell, World.size_drew]; omega) | (simp [size_bytesW]; omega) | (simp; omega))), by (repeat' (first | with_reducible assumption | (with_reducible refine Blk.alloc ?_ _) | (with_reducible refine Blk.drew ?_) | (with_reducible refine Blk.below (by with_reducible assumption) ?_) | (with_reducible refine Blk.under (by with_reducible assumption) (by omega) ?_))), by omega⟩
    case false =>
      have E := hide (show en3 r = [⟨sSL, 1, cat2 [0] (compsB r.target)⟩] by simp [en3, a1])
      have htg := z2 a1
      have RCP := hide (fun W => rcomps_tg r.target htg W)
      have hcs := comps_size htg
      go_wp2_with (first | (go_at_call 35; (with_reducible refine (RCP.out _).mono ?_); rintro e w' ⟨rfl, hb⟩; have hz := hb.size; (try simp only [World.size_alloc, World.size_setCell, World.size_drew, Nat.add_assoc, Nat.reduceAdd] at hz); (first | obtain ⟨HL, hk⟩ := HL.call hb hz (by simp only [World.size_alloc, World.size_setCell, World.size_drew, Nat.add_assoc, Nat.reduceAdd]) | obtain ⟨HL, hk⟩ := HL.call0 hb hz (by first | rfl | simp only [World.size_alloc, World.size_setCell, World.size_drew, Nat.add_assoc, Nat.reduceAdd])); (try simp only [addN, Nat.add_zero] at HL hk); have hl := HL; simp only [Live] at hl; (try simp only [Kept] at hk)) | (at_builtin; refine wpList_append_one _ rfl _ _ 26 rfl ob 32 entInfo Tryz.underlying26 (by rfl) (by decide) _ (en1 r ++ en2 r).length (entsV (en1 r ++ en2 r)) (OW.below HO.out hb) #[.string sSL, .int .i64 1, .string (ByteArray.mk #[0] ++ compsB r.target)] rfl rfl rfl (by simp [Value.oneCell']) (by unfold maxLen; first | omega | (simp only [List.length_append]; omega)) (by first | omega | (simp only [List.length_append]; omega)) (by omega) ?_; intro v2 w2 hown2 hb2 hot2 hz2))
      all_goals
        go_meet
        exact ⟨by rw [E.out]; exact OW.snoc2 [0] hown2, by (repeat' (first | (with_reducible exact Below.refl _ _) | (with_reducible refine Below.alloc ?_ ?_ _) | (with_reducible refine Below.setCell ?_ ?_ _) | (with_reducible refine Below.drew ?_) | (with_reducible refine below_drewN' ?_) | (with_reducible refine below_bytesW ?_ ?_) | (with_reducible refine Below.trans ?_ (Below.mono (by assumption) ?_)) | omega | (simp only [World.size_alloc, World.size_setCell, World.size_drew]; omega) | (simp [size_bytesW]; omega) | (simp; omega))), by (repeat' (first | with_reducible assumption | (with_reducible refine Blk.alloc ?_ _) | (with_reducible refine Blk.drew ?_) | (with_reducible refine Blk.below (by with_reducible assumption) ?_) | (with_reducible refine Blk.under (by with_reducible assumption) (by omega) ?_))), by (try simp only [World.size_alloc, World.size_drew] at hz2); omega⟩
  case rest =>
  obtain ⟨hOW3, hbel4, hB4, hlo4⟩ := hcut
  have HO := hide hOW3
  clear hOW3
  have hrr4 := RRat.of hB4
  unfold RRat at hrr4
  have hwl4 : w.heap.size < wc.heap.size := by omega
  generalize wc = V4 at *
  go_upto_if 70 with fail
  go_cut [5] (fun v wx => OW ob (en1 r ++ en2 r ++ en3 r ++ en4 r) v wx ∧ Below w.heap.size w wx ∧ Blk wx w.heap.size r.cells 23 ∧ ob ≤ wx.heap.size)
  case first =>
    have HL : Live V4 [w.heap.size] := ⟨hwl4, trivial⟩
    cases a1 : r.timed
    case false =>
      have E := hide (show en4 r = [] by simp [en4, a1])
      rw [a1] at hrr4
      clear a1
      go_wp2
      go_meet
      exact ⟨by rw [E.out, List.append_nil]; exact HO.out, by (repeat' (first | (with_reducible exact Below.refl _ _) | (with_reducible refine Below.alloc ?_ ?_ _) | (with_reducible refine Below.setCell ?_ ?_ _) | (with_reducible refine Below.drew ?_) | (with_reducible refine below_drewN' ?_) | (with_reducible refine below_bytesW ?_ ?_) | (with_reducible refine Below.trans ?_ (Below.mono (by assumption) ?_)) | omega | (simp only [World.size_alloc, World.size_setCell, World.size_drew]; omega) | (simp [size_bytesW]; omega) | (simp; omega))), by (repeat' (first | with_reducible assumption | (with_reducible refine Blk.alloc ?_ _) | (with_reducible refine Blk.drew ?_) | (with_reducible refine Blk.below (by with_reducible assumption) ?_) | (with_reducible refine Blk.under (by with_reducible assumption) (by omega) ?_))), by omega⟩
    case true =>
      have E := hide (show en4 r = [⟨sTF, 1, cat2 [2] (Dt.recT r.time)⟩] by simp [en4, a1])
      have htm := z9 a1
      have hrs : (Dt.recT r.time).size ≤ 1000000 := by rw [Dt.recT_size r.time htm]; omega
      have RRZ := hide (fun W => Dt.rrecord_zero r.time htm W)
      rw [a1] at hrr4
      clear a1
      go_wp2_with (first | (go_at_call 36; (with_reducible refine (RRZ.out _).mono ?_); rintro e w' ⟨rfl, hb⟩; have hz := hb.size; (try simp only [World.size_alloc, World.size_setCell, World.size_drew, Nat.add_assoc, Nat.reduceAdd] at hz); (first | obtain ⟨HL, hk⟩ := HL.call hb hz (by simp only [World.size_alloc, World.size_setCell, World.size_drew, Nat.add_assoc, Nat.reduceAdd]) | obtain ⟨HL, hk⟩ := HL.call0 hb hz (by first | rfl | simp only [World.size_alloc, World.size_setCell, World.size_drew, Nat.add_assoc, Nat.reduceAdd])); (try simp only [addN, Nat.add_zero] at HL hk); have hl := HL; simp only [Live] at hl; (try simp only [Kept] at hk)) | (at_builtin; refine wpList_append_one _ rfl _ _ 26 rfl ob 32 entInfo Tryz.underlying26 (by rfl) (by decide) _ (en1 r ++ en2 r ++ en3 r).length (entsV (en1 r ++ en2 r ++ en3 r)) (OW.below HO.out hb) #[.string sTF, .int .i64 1, .string (ByteArray.mk #[2] ++ Dt.recT r.time)] rfl rfl rfl (by simp [Value.oneCell']) (by unfold maxLen; first | omega | (simp only [List.length_append]; omega)) (by first | omega | (simp only [List.length_append]; omega)) (by omega) ?_; intro v2 w2 hown2 hb2 hot2 hz2))
      all_goals
        go_meet
        exact ⟨by rw [E.out]; exact OW.snoc2 [2] hown2, by (repeat' (first | (with_reducible exact Below.refl _ _) | (with_reducible refine Below.alloc ?_ ?_ _) | (with_reducible refine Below.setCell ?_ ?_ _) | (with_reducible refine Below.drew ?_) | (with_reducible refine below_drewN' ?_) | (with_reducible refine below_bytesW ?_ ?_) | (with_reducible refine Below.trans ?_ (Below.mono (by assumption) ?_)) | omega | (simp only [World.size_alloc, World.size_setCell, World.size_drew]; omega) | (simp [size_bytesW]; omega) | (simp; omega))), by (repeat' (first | with_reducible assumption | (with_reducible refine Blk.alloc ?_ _) | (with_reducible refine Blk.drew ?_) | (with_reducible refine Blk.below (by with_reducible assumption) ?_) | (with_reducible refine Blk.under (by with_reducible assumption) (by omega) ?_))), by (try simp only [World.size_alloc, World.size_drew] at hz2); omega⟩
  case rest =>
  obtain ⟨hOW4, hbel5, hB5, hlo5⟩ := hcut
  have HO := hide hOW4
  clear hOW4
  have hrr5 := RRat.of hB5
  unfold RRat at hrr5
  have hwl5 : w.heap.size < wc.heap.size := by omega
  generalize wc = V5 at *
  go_upto_if 85 with fail
  go_cut [5] (fun v wx => OW ob (en1 r ++ en2 r ++ en3 r ++ en4 r ++ en5 r) v wx ∧ Below w.heap.size w wx ∧ Blk wx w.heap.size r.cells 23 ∧ ob ≤ wx.heap.size)
  case first =>
    have HL : Live V5 [w.heap.size] := ⟨hwl5, trivial⟩
    by_cases a1 : r.child = 0
    · have E := hide (show en5 r = [] by simp [en5, a1])
      have a2 : (r.child != 0) = false := by rw [a1]; rfl
      go_wp2
      go_meet
      exact ⟨by rw [E.out, List.append_nil]; exact HO.out, by (repeat' (first | (with_reducible exact Below.refl _ _) | (with_reducible refine Below.alloc ?_ ?_ _) | (with_reducible refine Below.setCell ?_ ?_ _) | (with_reducible refine Below.drew ?_) | (with_reducible refine below_drewN' ?_) | (with_reducible refine below_bytesW ?_ ?_) | (with_reducible refine Below.trans ?_ (Below.mono (by assumption) ?_)) | omega | (simp only [World.size_alloc, World.size_setCell, World.size_drew]; omega) | (simp [size_bytesW]; omega) | (simp; omega))), by (repeat' (first | with_reducible assumption | (with_reducible refine Blk.alloc ?_ _) | (with_reducible refine Blk.drew ?_) | (with_reducible refine Blk.below (by with_reducible assumption) ?_) | (with_reducible refine Blk.under (by with_reducible assumption) (by omega) ?_))), by omega⟩
    · have E := hide (show en5 r = [⟨sCL, 1, bothS r.child⟩] by simp [en5, a1])
      have a2 : (r.child != 0) = true := by rw [bne_iff_ne]; exact a1
      go_wp2_with (first | (go_at_call 34; (with_reducible refine Calls.mono (rbothc r.child z7 _) ?_); rintro e w' ⟨rfl, hb⟩; have hz := hb.size; (try simp only [World.size_alloc, World.size_setCell, World.size_drew, Nat.add_assoc, Nat.reduceAdd] at hz); (first | obtain ⟨HL, hk⟩ := HL.call hb hz (by simp only [World.size_alloc, World.size_setCell, World.size_drew, Nat.add_assoc, Nat.reduceAdd]) | obtain ⟨HL, hk⟩ := HL.call0 hb hz (by first | rfl | simp only [World.size_alloc, World.size_setCell, World.size_drew, Nat.add_assoc, Nat.reduceAdd])); (try simp only [addN, Nat.add_zero] at HL hk); have hl := HL; simp only [Live] at hl; (try simp only [Kept] at hk)) | (at_builtin; refine wpList_append_one _ rfl _ _ 26 rfl ob 32 entInfo Tryz.underlying26 (by rfl) (by decide) _ (en1 r ++ en2 r ++ en3 r ++ en4 r).length (entsV (en1 r ++ en2 r ++ en3 r ++ en4 r)) (OW.below HO.out hb) #[.string sCL, .int .i64 1, .string (bothS r.child)] rfl rfl rfl (by simp [Value.oneCell']) (by unfold maxLen; first | omega | (simp only [List.length_append]; omega)) (by first | omega | (simp only [List.length_append]; omega)) (by omega) ?_; intro v2 w2 hown2 hb2 hot2 hz2))
      all_goals
        go_meet
        exact ⟨by rw [E.out]; exact OW.snoc hown2, by (repeat' (first | (with_reducible exact Below.refl _ _) | (with_reducible refine Below.alloc ?_ ?_ _) | (with_reducible refine Below.setCell ?_ ?_ _) | (with_reducible refine Below.drew ?_) | (with_reducible refine below_drewN' ?_) | (with_reducible refine below_bytesW ?_ ?_) | (with_reducible refine Below.trans ?_ (Below.mono (by assumption) ?_)) | omega | (simp only [World.size_alloc, World.size_setCell, World.size_drew]; omega) | (simp [size_bytesW]; omega) | (simp; omega))), by (repeat' (first | with_reducible assumption | (with_reducible refine Blk.alloc ?_ _) | (with_reducible refine Blk.drew ?_) | (with_reducible refine Blk.below (by with_reducible assumption) ?_) | (with_reducible refine Blk.under (by with_reducible assumption) (by omega) ?_))), by (try simp only [World.size_alloc, World.size_drew] at hz2); omega⟩
  case rest =>
  obtain ⟨hOW5, hbel6, hB6, hlo6⟩ := hcut
  have HO := hide hOW5
  clear hOW5
  have hrr6 := RRat.of hB6
  unfold RRat at hrr6
  have hwl6 : w.heap.size < wc.heap.size := by omega
  generalize wc = V6 at *
  go_upto_if 95 with fail
  go_cut [5] (fun v wx => OW ob (en1 r ++ en2 r ++ en3 r ++ en4 r ++ en5 r ++ en6 r) v wx ∧ Below w.heap.size w wx ∧ Blk wx w.heap.size r.cells 23 ∧ ob ≤ wx.heap.size)
  case first =>
    have HL : Live V6 [w.heap.size] := ⟨hwl6, trivial⟩
    by_cases a1 : r.parent = 0
    · have E := hide (show en6 r = [] by simp [en6, a1])
      have a2 : (r.parent != 0) = false := by rw [a1]; rfl
      go_wp2
      go_meet
      exact ⟨by rw [E.out, List.append_nil]; exact HO.out, by (repeat' (first | (with_reducible exact Below.refl _ _) | (with_reducible refine Below.alloc ?_ ?_ _) | (with_reducible refine Below.setCell ?_ ?_ _) | (with_reducible refine Below.drew ?_) | (with_reducible refine below_drewN' ?_) | (with_reducible refine below_bytesW ?_ ?_) | (with_reducible refine Below.trans ?_ (Below.mono (by assumption) ?_)) | omega | (simp only [World.size_alloc, World.size_setCell, World.size_drew]; omega) | (simp [size_bytesW]; omega) | (simp; omega))), by (repeat' (first | with_reducible assumption | (with_reducible refine Blk.alloc ?_ _) | (with_reducible refine Blk.drew ?_) | (with_reducible refine Blk.below (by with_reducible assumption) ?_) | (with_reducible refine Blk.under (by with_reducible assumption) (by omega) ?_))), by omega⟩
    · have E := hide (show en6 r = [⟨sPL, 1, bothS r.parent⟩] by simp [en6, a1])
      have a2 : (r.parent != 0) = true := by rw [bne_iff_ne]; exact a1
      go_wp2_with (first | (go_at_call 34; (with_reducible refine Calls.mono (rbothc r.parent z8 _) ?_); rintro e w' ⟨rfl, hb⟩; have hz := hb.size; (try simp only [World.size_alloc, World.size_setCell, World.size_drew, Nat.add_assoc, Nat.reduceAdd] at hz); (first | obtain ⟨HL, hk⟩ := HL.call hb hz (by simp only [World.size_alloc, World.size_setCell, World.size_drew, Nat.add_assoc, Nat.reduceAdd]) | obtain ⟨HL, hk⟩ := HL.call0 hb hz (by first | rfl | simp only [World.size_alloc, World.size_setCell, World.size_drew, Nat.add_assoc, Nat.reduceAdd])); (try simp only [addN, Nat.add_zero] at HL hk); have hl := HL; simp only [Live] at hl; (try simp only [Kept] at hk)) | (at_builtin; refine wpList_append_one _ rfl _ _ 26 rfl ob 32 entInfo Tryz.underlying26 (by rfl) (by decide) _ (en1 r ++ en2 r ++ en3 r ++ en4 r ++ en5 r).length (entsV (en1 r ++ en2 r ++ en3 r ++ en4 r ++ en5 r)) (OW.below HO.out hb) #[.string sPL, .int .i64 1, .string (bothS r.parent)] rfl rfl rfl (by simp [Value.oneCell']) (by unfold maxLen; first | omega | (simp only [List.length_append]; omega)) (by first | omega | (simp only [List.length_append]; omega)) (by omega) ?_; intro v2 w2 hown2 hb2 hot2 hz2))
      all_goals
        go_meet
        exact ⟨by rw [E.out]; exact OW.snoc hown2, by (repeat' (first | (with_reducible exact Below.refl _ _) | (with_reducible refine Below.alloc ?_ ?_ _) | (with_reducible refine Below.setCell ?_ ?_ _) | (with_reducible refine Below.drew ?_) | (with_reducible refine below_drewN' ?_) | (with_reducible refine below_bytesW ?_ ?_) | (with_reducible refine Below.trans ?_ (Below.mono (by assumption) ?_)) | omega | (simp only [World.size_alloc, World.size_setCell, World.size_drew]; omega) | (simp [size_bytesW]; omega) | (simp; omega))), by (repeat' (first | with_reducible assumption | (with_reducible refine Blk.alloc ?_ _) | (with_reducible refine Blk.drew ?_) | (with_reducible refine Blk.below (by with_reducible assumption) ?_) | (with_reducible refine Blk.under (by with_reducible assumption) (by omega) ?_))), by (try simp only [World.size_alloc, World.size_drew] at hz2); omega⟩
  case rest =>
  obtain ⟨hOW6, hbel7, hB7, hlo7⟩ := hcut
  have HO := hide hOW6
  clear hOW6
  have hrr7 := RRat.of hB7
  unfold RRat at hrr7
  have hwl7 : w.heap.size < wc.heap.size := by omega
  generalize wc = V7 at *
  go_upto_if 104 with fail
  go_cut [5] (fun v wx => OW ob (ents r) v wx ∧ Below w.heap.size w wx ∧ Blk wx w.heap.size r.cells 23 ∧ ob ≤ wx.heap.size)
  case first =>
    have HL : Live V7 [w.heap.size] := ⟨hwl7, trivial⟩
    cases a1 : r.reloc
    case false =>
      have E := hide (show en7 r = [] by simp [en7, a1])
      rw [a1] at hrr7
      clear a1
      go_wp2
      go_meet
      exact ⟨by unfold ents; rw [E.out, List.append_nil]; exact HO.out, by (repeat' (first | (with_reducible exact Below.refl _ _) | (with_reducible refine Below.alloc ?_ ?_ _) | (with_reducible refine Below.setCell ?_ ?_ _) | (with_reducible refine Below.drew ?_) | (with_reducible refine below_drewN' ?_) | (with_reducible refine below_bytesW ?_ ?_) | (with_reducible refine Below.trans ?_ (Below.mono (by assumption) ?_)) | omega | (simp only [World.size_alloc, World.size_setCell, World.size_drew]; omega) | (simp [size_bytesW]; omega) | (simp; omega))), by (repeat' (first | with_reducible assumption | (with_reducible refine Blk.alloc ?_ _) | (with_reducible refine Blk.drew ?_) | (with_reducible refine Blk.below (by with_reducible assumption) ?_) | (with_reducible refine Blk.under (by with_reducible assumption) (by omega) ?_))), by omega⟩
    case true =>
      have E := hide (show en7 r = [⟨sRE, 1, ⟨#[]⟩⟩] by simp [en7, a1])
      rw [a1] at hrr7
      clear a1
      go_wp2_with (at_builtin; refine wpList_append_one _ rfl _ _ 26 rfl ob 32 entInfo Tryz.underlying26 (by rfl) (by decide) _ (en1 r ++ en2 r ++ en3 r ++ en4 r ++ en5 r ++ en6 r).length (entsV (en1 r ++ en2 r ++ en3 r ++ en4 r ++ en5 r ++ en6 r)) HO.out #[.string sRE, .int .i64 1, .string ⟨#[]⟩] rfl rfl rfl (by simp [Value.oneCell']) (by unfold maxLen; first | omega | (simp only [List.length_append]; omega)) (by first | omega | (simp only [List.length_append]; omega)) (by omega) ?_; intro v2 w2 hown2 hb2 hot2 hz2)
      all_goals
        go_meet
        exact ⟨by unfold ents; rw [E.out]; exact OW.snoc hown2, by (repeat' (first | (with_reducible exact Below.refl _ _) | (with_reducible refine Below.alloc ?_ ?_ _) | (with_reducible refine Below.setCell ?_ ?_ _) | (with_reducible refine Below.drew ?_) | (with_reducible refine below_drewN' ?_) | (with_reducible refine below_bytesW ?_ ?_) | (with_reducible refine Below.trans ?_ (Below.mono (by assumption) ?_)) | omega | (simp only [World.size_alloc, World.size_setCell, World.size_drew]; omega) | (simp [size_bytesW]; omega) | (simp; omega))), by (repeat' (first | with_reducible assumption | (with_reducible refine Blk.alloc ?_ _) | (with_reducible refine Blk.drew ?_) | (with_reducible refine Blk.below (by with_reducible assumption) ?_) | (with_reducible refine Blk.under (by with_reducible assumption) (by omega) ?_))), by (try simp only [World.size_alloc, World.size_drew] at hz2); omega⟩
  case rest =>
  obtain ⟨hOW7, hbel8, hB8, hlo8⟩ := hcut
  have HO := hide hOW7
  clear hOW7
  go_wp2
  go_ret2
  exact EntP.yes H0.out rfl HO.out hobw hbel8
end Go.Proofs.YtopajpomhflgbaaGreatDoor
