/- Contracts of the reference of ReadStamp, for every string. -/
import Derived.Test.YtkkkfbhpphngmaaDoorH
namespace Go.Proofs.YtkkkfbhpphngmaaDoor
set_option linter.unusedSimpArgs false
set_option linter.unusedVariables false
open Go.RowKit
open Go.PlainAid (bt get_bt bt_nonneg bt_le)

theorem ival {a b : Int} (h : a = b) : Value.int .i64 a = Value.int .i64 b := by rw [h]
def rz (k : Int) : Int := if k < 4096 ∨ z1 k = -2047 then 0 else z1 k
def r33 (k : Int) : Bool := decide (k < 4096 ∨ z1 k = -2047)
theorem rz_bd (k : Int) : -2048 ≤ rz k ∧ rz k ≤ 2047 := by have := z1_bd k; unfold rz; split <;> omega
theorem rs_rz {k : Int} (h : k < 8192) : rsZ k = rz k ∧ rsR k = zoneB (rz k) := by
  unfold rsZ rsR rz zoneB
  by_cases a : k < 4096
  · simp [a]
  · by_cases b : z1 k = -2047
    · simp [a, b, h]
    · simp [a, b, h]
theorem rs_far {k : Int} (h : 8192 ≤ k) : rsR k = false := by unfold rsR; simp; omega
theorem bad_far {k : Int} (h : 8192 ≤ k) (b c : Bool) : ((rsR k && b) && c) = false := by rw [rs_far h]; simp
theorem bad_zone {k : Int} (h : k < 8192) (hz : zoneB (rz k) = false) (b c : Bool) : ((rsR k && b) && c) = false := by rw [(rs_rz h).2, hz]; simp
theorem bad_tail {s : ByteArray} (h : ¬ (bt s 9 ≤ 99 ∧ bt s 10 ≤ 99 ∧ bt s 11 ≤ 99)) (b c : Bool) : ((b && tailB s) && c) = false := by
  have : tailB s = false := decide_eq_false h
  rw [this]; simp

set_option maxHeartbeats 400000 in
theorem rreadStamp_no (s : ByteArray) (hs : ¬ s.size = 12) (w : World) : Calls Tryd.prog 26 #[.string s] w fun e w' => e = .returned (.tuple #[.int .i64 0, .int .i64 0, .int .i64 1]) ∧ Below w.heap.size w w' := by
  obtain ⟨h1, h2⟩ := size_ne hs
  have HL : Live w [] := trivial
  go_enter Tryd.func26, Tryd.ntmps26
  go_wp2
  go_ret3
  exact ⟨rfl, by (repeat' (first | (with_reducible exact Below.refl _ _) | (with_reducible refine Below.alloc ?_ ?_ _) | (with_reducible refine Below.setCell ?_ ?_ _) | (with_reducible refine Below.drew ?_) | (with_reducible refine below_drewN' ?_) | (with_reducible refine below_bytesW ?_ ?_) | (with_reducible refine Below.trans ?_ (Below.mono (by assumption) ?_)) | omega | (simp only [World.size_alloc, World.size_setCell, World.size_drew]; omega) | (simp [size_bytesW]; omega) | (simp; omega)))⟩
set_option maxRecDepth 100000 in
set_option maxHeartbeats 4000000 in
theorem rreadStamp_yes (s : ByteArray) (hs : s.size = 12) (w : World) : Calls Tryd.prog 26 #[.string s] w (RoP (bt s 2 + 256 * bt s 3) (bt s 4) (bt s 5) (bt s 6) (bt s 7) (bt s 8) (rsZ (bt s 0 + 256 * bt s 1)) (rsR (bt s 0 + 256 * bt s 1) && tailB s) w) := by
  have hg := get_bt s
  have b0 := bt_nonneg s 0
  have b0' := bt_le s 0
  have b1 := bt_nonneg s 1
  have b1' := bt_le s 1
  have b2 := bt_nonneg s 2
  have b2' := bt_le s 2
  have b3 := bt_nonneg s 3
  have b3' := bt_le s 3
  have HL : Live w [] := trivial
  go_enter Tryd.func26, Tryd.ntmps26
  go_upto_region 3 with fail
  have wb : ∀ j, IntKind.i64.wrap (bt s j) = bt s j := fun j => IntWalk.i64_in _ ⟨by have := bt_nonneg s j; omega, by have := bt_le s j; omega⟩
  have ws : IntKind.i64.wrap (256 * bt s 1) = 256 * bt s 1 := IntWalk.i64_in _ (by omega)
  have ws2 : IntKind.i64.wrap (bt s 0 + 256 * bt s 1) = bt s 0 + 256 * bt s 1 := IntWalk.i64_in _ (by omega)
  refine wp_region_noPanic ?_
  refine wp_region_held_drew (S := (fun _ => True ∧ True)) (by kernel_rfl) (by (try dsimp only); first | assumption | (simp [*, go_sem]; done) | (refine ⟨?_, ?_⟩ <;> simp [*, go_sem])) (fun hHeld => ?_)
  refine wpAnyH_take (i := 0) (oi := { dst := some 12, op := Go.Op.move (Go.Operand.tmp 0), type := 9, pos := "ref.go:208", after := #[], guard := none }) (v := ?_) rfl (by kernel_rfl) (by kernel_rfl) (by kernel_rfl) (fun _ _ _ h => h) (Or.inl ⟨by rfl, ?_⟩) (by assumption) ?_
  rotate_left
  · intro w hSw; (try dsimp only at hSw); go_simp; (try with_reducible rfl)
  try simp only [Act.put, List.setIfInBounds_toArray, List.set_cons_zero, List.set_cons_succ]
  refine wpAnyH_take (i := 1) (oi := { dst := some 13, op := Go.Op.index 9 (Go.Operand.tmp 12) (Go.Operand.const (Go.Value.int Go.IntKind.i64 0)), type := 5, pos := "ref.go:208", after := #[{ on := 0, ground := Go.Ground.data }], guard := none }) (v := ?_) rfl (by kernel_rfl) (by kernel_rfl) (by kernel_rfl) (fun _ _ _ h => h) (Or.inl ⟨by rfl, ?_⟩) (by assumption) ?_
  rotate_left
  · intro w hSw; (try dsimp only at hSw); go_simp; (try with_reducible rfl)
  try simp only [Act.put, List.setIfInBounds_toArray, List.set_cons_zero, List.set_cons_succ]
  refine wpAnyH_take (i := 2) (oi := { dst := some 14, op := Go.Op.convert 5 3 (Go.Operand.tmp 13), type := 3, pos := "ref.go:208", after := #[{ on := 1, ground := Go.Ground.data }], guard := none }) (v := ?_) rfl (by kernel_rfl) (by kernel_rfl) (by kernel_rfl) (fun _ _ _ h => h) (Or.inl ⟨by rfl, ?_⟩) (by assumption) ?_
  rotate_left
  · intro w hSw; (try dsimp only at hSw); go_simp; (try with_reducible rfl)
  try simp only [Act.put, List.setIfInBounds_toArray, List.set_cons_zero, List.set_cons_succ]
  refine wpAnyH_take (i := 3) (oi := { dst := some 15, op := Go.Op.move (Go.Operand.tmp 0), type := 9, pos := "ref.go:208", after := #[], guard := none }) (v := ?_) rfl (by kernel_rfl) (by kernel_rfl) (by kernel_rfl) (fun _ _ _ h => h) (Or.inl ⟨by rfl, ?_⟩) (by assumption) ?_
  rotate_left
  · intro w hSw; (try dsimp only at hSw); go_simp; (try with_reducible rfl)
  try simp only [Act.put, List.setIfInBounds_toArray, List.set_cons_zero, List.set_cons_succ]
  refine wpAnyH_take (i := 4) (oi := { dst := some 16, op := Go.Op.index 9 (Go.Operand.tmp 15) (Go.Operand.const (Go.Value.int Go.IntKind.i64 1)), type := 5, pos := "ref.go:208", after := #[{ on := 3, ground := Go.Ground.data }], guard := none }) (v := ?_) rfl (by kernel_rfl) (by kernel_rfl) (by kernel_rfl) (fun _ _ _ h => h) (Or.inl ⟨by rfl, ?_⟩) (by assumption) ?_
  rotate_left
  · intro w hSw; (try dsimp only at hSw); go_simp; (try with_reducible rfl)
  try simp only [Act.put, List.setIfInBounds_toArray, List.set_cons_zero, List.set_cons_succ]
  refine wpAnyH_take (i := 5) (oi := { dst := some 17, op := Go.Op.convert 5 3 (Go.Operand.tmp 16), type := 3, pos := "ref.go:208", after := #[{ on := 4, ground := Go.Ground.data }], guard := none }) (v := ?_) rfl (by kernel_rfl) (by kernel_rfl) (by kernel_rfl) (fun _ _ _ h => h) (Or.inl ⟨by rfl, ?_⟩) (by assumption) ?_
  rotate_left
  · intro w hSw; (try dsimp only at hSw); go_simp; (try with_reducible rfl)
  try simp only [Act.put, List.setIfInBounds_toArray, List.set_cons_zero, List.set_cons_succ]
  refine wpAnyH_take (i := 6) (oi := { dst := some 18, op := Go.Op.binOp Go.BinOp.mul 3 (Go.Operand.const (Go.Value.int Go.IntKind.i64 256)) (Go.Operand.tmp 17) 3, type := 3, pos := "ref.go:208", after := #[{ on := 5, ground := Go.Ground.data }], guard := none }) (v := ?_) rfl (by kernel_rfl) (by kernel_rfl) (by kernel_rfl) (fun _ _ _ h => h) (Or.inl ⟨by rfl, ?_⟩) (by assumption) ?_
  rotate_left
  · intro w hSw; (try dsimp only at hSw); go_simp; (try with_reducible rfl)
  try simp only [Act.put, List.setIfInBounds_toArray, List.set_cons_zero, List.set_cons_succ]
  refine wpAnyH_take (i := 7) (oi := { dst := some 19, op := Go.Op.binOp Go.BinOp.add 3 (Go.Operand.tmp 14) (Go.Operand.tmp 18) 3, type := 3, pos := "ref.go:208", after := #[{ on := 2, ground := Go.Ground.data }, { on := 6, ground := Go.Ground.data }], guard := none }) (v := ?_) rfl (by kernel_rfl) (by kernel_rfl) (by kernel_rfl) (fun _ _ _ h => h) (Or.inl ⟨by rfl, ?_⟩) (by assumption) ?_
  rotate_left
  · intro w hSw; (try dsimp only at hSw); go_simp; (try with_reducible rfl)
  try simp only [Act.put, List.setIfInBounds_toArray, List.set_cons_zero, List.set_cons_succ]
  refine wpAnyH_take (i := 8) (oi := { dst := some 5, op := Go.Op.assign (Go.Operand.tmp 19), type := 3, pos := "ref.go:208", after := #[{ on := 7, ground := Go.Ground.data }, { on := 0, ground := Go.Ground.phase }, { on := 1, ground := Go.Ground.phase }, { on := 2, ground := Go.Ground.phase }, { on := 3, ground := Go.Ground.phase }, { on := 4, ground := Go.Ground.phase }, { on := 5, ground := Go.Ground.phase }, { on := 6, ground := Go.Ground.phase }, { on := 7, ground := Go.Ground.phase }], guard := none }) (v := ?_) rfl (by kernel_rfl) (by kernel_rfl) (by kernel_rfl) (fun _ _ _ h => h) (Or.inl ⟨by rfl, ?_⟩) (by assumption) ?_
  rotate_left
  · intro w hSw; (try dsimp only at hSw); go_simp; (try with_reducible rfl)
  try simp only [Act.put, List.setIfInBounds_toArray, List.set_cons_zero, List.set_cons_succ]
  refine wpAnyH_done (by kernel_rfl) ?_ _
  refine NoPanic.normal ?_
  clear wb ws ws2
  generalize hk : bt s 0 + 256 * bt s 1 = k at *
  have hk0 : 0 ≤ k ∧ k ≤ 65535 := by omega
  clear hk
  go_upto_if 25 with fail
  go_cut [7] (fun z wx => z = .int .i64 (z1 k) ∧ w.drew = wx)
  case first =>
    by_cases h2 : k % 4096 < 2048
    · have e := hide (show z1 k = k % 4096 by unfold z1; rw [if_pos h2])
      go_wp2
      go_meet
      exact ⟨by rw [e.out], rfl⟩
    · have e := hide (show z1 k = k % 4096 - 4096 by unfold z1; rw [if_neg h2])
      go_wp2
      go_meet
      exact ⟨by rw [e.out], rfl⟩
  case rest =>
    obtain ⟨rfl, rfl⟩ := hcut
    have zb := z1_bd k
    go_upto_region 7 with fail
    go_cut [6, 33] (fun v c wx => v = .int .i64 (k / 4096) ∧ c = .bool (r33 k) ∧ w.drew = wx)
    case first =>
      by_cases c1 : k < 4096
      · have e := hide (show r33 k = true by unfold r33; simp [c1])
        go_wp2
        go_meet
        exact ⟨ival (by omega), by rw [e.out], rfl⟩
      · have b0 : (k / 4096 == 0) = false := by simp; omega
        by_cases c3 : z1 k = -2047
        · have e := hide (show r33 k = true by unfold r33; simp [c3])
          have b3 : (z1 k == -2047) = true := by simp [c3]
          clear c3
          go_wp2
          go_meet
          exact ⟨ival (by omega), by rw [e.out], rfl⟩
        · have e := hide (show r33 k = false by unfold r33; simp [c1, c3])
          have b3 : (z1 k == -2047) = false := by simp [c3]
          go_wp2
          go_meet
          exact ⟨ival (by omega), by rw [e.out], rfl⟩
    case rest =>
      obtain ⟨rfl, rfl, rfl⟩ := hcut
      go_upto_if 33 with fail
      go_cut [7] (fun z wx => z = .int .i64 (rz k) ∧ w.drew = wx)
      case first =>
        cases hr : r33 k
        · have e := hide (show rz k = z1 k by unfold r33 at hr; unfold rz; rw [if_neg (of_decide_eq_false hr)])
          go_wp2
          go_meet
          exact ⟨by rw [e.out], rfl⟩
        · have e := hide (show rz k = 0 by unfold r33 at hr; unfold rz; rw [if_pos (of_decide_eq_true hr)])
          go_wp2
          go_meet
          exact ⟨by rw [e.out], rfl⟩
      case rest =>
        obtain ⟨rfl, rfl⟩ := hcut
        have rb := rz_bd k
        go_upto_region 9 with fail
        have wb : ∀ j, IntKind.i64.wrap (bt s j) = bt s j := fun j => IntWalk.i64_in _ ⟨by have := bt_nonneg s j; omega, by have := bt_le s j; omega⟩
        have ws : IntKind.i64.wrap (256 * bt s 3) = 256 * bt s 3 := IntWalk.i64_in _ (by omega)
        have ws2 : IntKind.i64.wrap (bt s 2 + 256 * bt s 3) = bt s 2 + 256 * bt s 3 := IntWalk.i64_in _ (by omega)
        refine wp_region_noPanic ?_
        refine wp_region_held_drew (S := (fun _ => True ∧ True)) (by kernel_rfl) (by (try dsimp only); first | assumption | (simp [*, go_sem]; done) | (refine ⟨?_, ?_⟩ <;> simp [*, go_sem])) (fun hHeld => ?_)
        refine wpAnyH_take (i := 0) (oi := { dst := some 34, op := Go.Op.move (Go.Operand.tmp 0), type := 9, pos := "ref.go:216", after := #[], guard := none }) (v := ?_) rfl (by kernel_rfl) (by kernel_rfl) (by kernel_rfl) (fun _ _ _ h => h) (Or.inl ⟨by rfl, ?_⟩) (by assumption) ?_
        rotate_left
        · intro w hSw; (try dsimp only at hSw); go_simp; (try with_reducible rfl)
        try simp only [Act.put, List.setIfInBounds_toArray, List.set_cons_zero, List.set_cons_succ]
        refine wpAnyH_take (i := 1) (oi := { dst := some 35, op := Go.Op.index 9 (Go.Operand.tmp 34) (Go.Operand.const (Go.Value.int Go.IntKind.i64 2)), type := 5, pos := "ref.go:216", after := #[{ on := 0, ground := Go.Ground.data }], guard := none }) (v := ?_) rfl (by kernel_rfl) (by kernel_rfl) (by kernel_rfl) (fun _ _ _ h => h) (Or.inl ⟨by rfl, ?_⟩) (by assumption) ?_
        rotate_left
        · intro w hSw; (try dsimp only at hSw); go_simp; (try with_reducible rfl)
        try simp only [Act.put, List.setIfInBounds_toArray, List.set_cons_zero, List.set_cons_succ]
        refine wpAnyH_take (i := 2) (oi := { dst := some 36, op := Go.Op.convert 5 3 (Go.Operand.tmp 35), type := 3, pos := "ref.go:216", after := #[{ on := 1, ground := Go.Ground.data }], guard := none }) (v := ?_) rfl (by kernel_rfl) (by kernel_rfl) (by kernel_rfl) (fun _ _ _ h => h) (Or.inl ⟨by rfl, ?_⟩) (by assumption) ?_
        rotate_left
        · intro w hSw; (try dsimp only at hSw); go_simp; (try with_reducible rfl)
        try simp only [Act.put, List.setIfInBounds_toArray, List.set_cons_zero, List.set_cons_succ]
        refine wpAnyH_take (i := 3) (oi := { dst := some 37, op := Go.Op.move (Go.Operand.tmp 0), type := 9, pos := "ref.go:216", after := #[], guard := none }) (v := ?_) rfl (by kernel_rfl) (by kernel_rfl) (by kernel_rfl) (fun _ _ _ h => h) (Or.inl ⟨by rfl, ?_⟩) (by assumption) ?_
        rotate_left
        · intro w hSw; (try dsimp only at hSw); go_simp; (try with_reducible rfl)
        try simp only [Act.put, List.setIfInBounds_toArray, List.set_cons_zero, List.set_cons_succ]
        refine wpAnyH_take (i := 4) (oi := { dst := some 38, op := Go.Op.index 9 (Go.Operand.tmp 37) (Go.Operand.const (Go.Value.int Go.IntKind.i64 3)), type := 5, pos := "ref.go:216", after := #[{ on := 3, ground := Go.Ground.data }], guard := none }) (v := ?_) rfl (by kernel_rfl) (by kernel_rfl) (by kernel_rfl) (fun _ _ _ h => h) (Or.inl ⟨by rfl, ?_⟩) (by assumption) ?_
        rotate_left
        · intro w hSw; (try dsimp only at hSw); go_simp; (try with_reducible rfl)
        try simp only [Act.put, List.setIfInBounds_toArray, List.set_cons_zero, List.set_cons_succ]
        refine wpAnyH_take (i := 5) (oi := { dst := some 39, op := Go.Op.convert 5 3 (Go.Operand.tmp 38), type := 3, pos := "ref.go:216", after := #[{ on := 4, ground := Go.Ground.data }], guard := none }) (v := ?_) rfl (by kernel_rfl) (by kernel_rfl) (by kernel_rfl) (fun _ _ _ h => h) (Or.inl ⟨by rfl, ?_⟩) (by assumption) ?_
        rotate_left
        · intro w hSw; (try dsimp only at hSw); go_simp; (try with_reducible rfl)
        try simp only [Act.put, List.setIfInBounds_toArray, List.set_cons_zero, List.set_cons_succ]
        refine wpAnyH_take (i := 6) (oi := { dst := some 40, op := Go.Op.binOp Go.BinOp.mul 3 (Go.Operand.const (Go.Value.int Go.IntKind.i64 256)) (Go.Operand.tmp 39) 3, type := 3, pos := "ref.go:216", after := #[{ on := 5, ground := Go.Ground.data }], guard := none }) (v := ?_) rfl (by kernel_rfl) (by kernel_rfl) (by kernel_rfl) (fun _ _ _ h => h) (Or.inl ⟨by rfl, ?_⟩) (by assumption) ?_
        rotate_left
        · intro w hSw; (try dsimp only at hSw); go_simp; (try with_reducible rfl)
        try simp only [Act.put, List.setIfInBounds_toArray, List.set_cons_zero, List.set_cons_succ]
        refine wpAnyH_take (i := 7) (oi := { dst := some 41, op := Go.Op.binOp Go.BinOp.add 3 (Go.Operand.tmp 36) (Go.Operand.tmp 40) 3, type := 3, pos := "ref.go:216", after := #[{ on := 2, ground := Go.Ground.data }, { on := 6, ground := Go.Ground.data }], guard := none }) (v := ?_) rfl (by kernel_rfl) (by kernel_rfl) (by kernel_rfl) (fun _ _ _ h => h) (Or.inl ⟨by rfl, ?_⟩) (by assumption) ?_
        rotate_left
        · intro w hSw; (try dsimp only at hSw); go_simp; (try with_reducible rfl)
        try simp only [Act.put, List.setIfInBounds_toArray, List.set_cons_zero, List.set_cons_succ]
        refine wpAnyH_take (i := 8) (oi := { dst := some 42, op := Go.Op.move (Go.Operand.tmp 0), type := 9, pos := "ref.go:216", after := #[], guard := none }) (v := ?_) rfl (by kernel_rfl) (by kernel_rfl) (by kernel_rfl) (fun _ _ _ h => h) (Or.inl ⟨by rfl, ?_⟩) (by assumption) ?_
        rotate_left
        · intro w hSw; (try dsimp only at hSw); go_simp; (try with_reducible rfl)
        try simp only [Act.put, List.setIfInBounds_toArray, List.set_cons_zero, List.set_cons_succ]
        refine wpAnyH_take (i := 9) (oi := { dst := some 43, op := Go.Op.index 9 (Go.Operand.tmp 42) (Go.Operand.const (Go.Value.int Go.IntKind.i64 4)), type := 5, pos := "ref.go:216", after := #[{ on := 8, ground := Go.Ground.data }], guard := none }) (v := ?_) rfl (by kernel_rfl) (by kernel_rfl) (by kernel_rfl) (fun _ _ _ h => h) (Or.inl ⟨by rfl, ?_⟩) (by assumption) ?_
        rotate_left
        · intro w hSw; (try dsimp only at hSw); go_simp; (try with_reducible rfl)
        try simp only [Act.put, List.setIfInBounds_toArray, List.set_cons_zero, List.set_cons_succ]
        refine wpAnyH_take (i := 10) (oi := { dst := some 44, op := Go.Op.convert 5 3 (Go.Operand.tmp 43), type := 3, pos := "ref.go:216", after := #[{ on := 9, ground := Go.Ground.data }], guard := none }) (v := ?_) rfl (by kernel_rfl) (by kernel_rfl) (by kernel_rfl) (fun _ _ _ h => h) (Or.inl ⟨by rfl, ?_⟩) (by assumption) ?_
        rotate_left
        · intro w hSw; (try dsimp only at hSw); go_simp; (try with_reducible rfl)
        try simp only [Act.put, List.setIfInBounds_toArray, List.set_cons_zero, List.set_cons_succ]
        refine wpAnyH_take (i := 11) (oi := { dst := some 45, op := Go.Op.move (Go.Operand.tmp 0), type := 9, pos := "ref.go:216", after := #[], guard := none }) (v := ?_) rfl (by kernel_rfl) (by kernel_rfl) (by kernel_rfl) (fun _ _ _ h => h) (Or.inl ⟨by rfl, ?_⟩) (by assumption) ?_
        rotate_left
        · intro w hSw; (try dsimp only at hSw); go_simp; (try with_reducible rfl)
        try simp only [Act.put, List.setIfInBounds_toArray, List.set_cons_zero, List.set_cons_succ]
        refine wpAnyH_take (i := 12) (oi := { dst := some 46, op := Go.Op.index 9 (Go.Operand.tmp 45) (Go.Operand.const (Go.Value.int Go.IntKind.i64 5)), type := 5, pos := "ref.go:216", after := #[{ on := 11, ground := Go.Ground.data }], guard := none }) (v := ?_) rfl (by kernel_rfl) (by kernel_rfl) (by kernel_rfl) (fun _ _ _ h => h) (Or.inl ⟨by rfl, ?_⟩) (by assumption) ?_
        rotate_left
        · intro w hSw; (try dsimp only at hSw); go_simp; (try with_reducible rfl)
        try simp only [Act.put, List.setIfInBounds_toArray, List.set_cons_zero, List.set_cons_succ]
        refine wpAnyH_take (i := 13) (oi := { dst := some 47, op := Go.Op.convert 5 3 (Go.Operand.tmp 46), type := 3, pos := "ref.go:216", after := #[{ on := 12, ground := Go.Ground.data }], guard := none }) (v := ?_) rfl (by kernel_rfl) (by kernel_rfl) (by kernel_rfl) (fun _ _ _ h => h) (Or.inl ⟨by rfl, ?_⟩) (by assumption) ?_
        rotate_left
        · intro w hSw; (try dsimp only at hSw); go_simp; (try with_reducible rfl)
        try simp only [Act.put, List.setIfInBounds_toArray, List.set_cons_zero, List.set_cons_succ]
        refine wpAnyH_take (i := 14) (oi := { dst := some 48, op := Go.Op.move (Go.Operand.tmp 0), type := 9, pos := "ref.go:216", after := #[], guard := none }) (v := ?_) rfl (by kernel_rfl) (by kernel_rfl) (by kernel_rfl) (fun _ _ _ h => h) (Or.inl ⟨by rfl, ?_⟩) (by assumption) ?_
        rotate_left
        · intro w hSw; (try dsimp only at hSw); go_simp; (try with_reducible rfl)
        try simp only [Act.put, List.setIfInBounds_toArray, List.set_cons_zero, List.set_cons_succ]
        refine wpAnyH_take (i := 15) (oi := { dst := some 49, op := Go.Op.index 9 (Go.Operand.tmp 48) (Go.Operand.const (Go.Value.int Go.IntKind.i64 6)), type := 5, pos := "ref.go:216", after := #[{ on := 14, ground := Go.Ground.data }], guard := none }) (v := ?_) rfl (by kernel_rfl) (by kernel_rfl) (by kernel_rfl) (fun _ _ _ h => h) (Or.inl ⟨by rfl, ?_⟩) (by assumption) ?_
        rotate_left
        · intro w hSw; (try dsimp only at hSw); go_simp; (try with_reducible rfl)
        try simp only [Act.put, List.setIfInBounds_toArray, List.set_cons_zero, List.set_cons_succ]
        refine wpAnyH_take (i := 16) (oi := { dst := some 50, op := Go.Op.convert 5 3 (Go.Operand.tmp 49), type := 3, pos := "ref.go:216", after := #[{ on := 15, ground := Go.Ground.data }], guard := none }) (v := ?_) rfl (by kernel_rfl) (by kernel_rfl) (by kernel_rfl) (fun _ _ _ h => h) (Or.inl ⟨by rfl, ?_⟩) (by assumption) ?_
        rotate_left
        · intro w hSw; (try dsimp only at hSw); go_simp; (try with_reducible rfl)
        try simp only [Act.put, List.setIfInBounds_toArray, List.set_cons_zero, List.set_cons_succ]
        refine wpAnyH_take (i := 17) (oi := { dst := some 51, op := Go.Op.move (Go.Operand.tmp 0), type := 9, pos := "ref.go:216", after := #[], guard := none }) (v := ?_) rfl (by kernel_rfl) (by kernel_rfl) (by kernel_rfl) (fun _ _ _ h => h) (Or.inl ⟨by rfl, ?_⟩) (by assumption) ?_
        rotate_left
        · intro w hSw; (try dsimp only at hSw); go_simp; (try with_reducible rfl)
        try simp only [Act.put, List.setIfInBounds_toArray, List.set_cons_zero, List.set_cons_succ]
        refine wpAnyH_take (i := 18) (oi := { dst := some 52, op := Go.Op.index 9 (Go.Operand.tmp 51) (Go.Operand.const (Go.Value.int Go.IntKind.i64 7)), type := 5, pos := "ref.go:216", after := #[{ on := 17, ground := Go.Ground.data }], guard := none }) (v := ?_) rfl (by kernel_rfl) (by kernel_rfl) (by kernel_rfl) (fun _ _ _ h => h) (Or.inl ⟨by rfl, ?_⟩) (by assumption) ?_
        rotate_left
        · intro w hSw; (try dsimp only at hSw); go_simp; (try with_reducible rfl)
        try simp only [Act.put, List.setIfInBounds_toArray, List.set_cons_zero, List.set_cons_succ]
        refine wpAnyH_take (i := 19) (oi := { dst := some 53, op := Go.Op.convert 5 3 (Go.Operand.tmp 52), type := 3, pos := "ref.go:216", after := #[{ on := 18, ground := Go.Ground.data }], guard := none }) (v := ?_) rfl (by kernel_rfl) (by kernel_rfl) (by kernel_rfl) (fun _ _ _ h => h) (Or.inl ⟨by rfl, ?_⟩) (by assumption) ?_
        rotate_left
        · intro w hSw; (try dsimp only at hSw); go_simp; (try with_reducible rfl)
        try simp only [Act.put, List.setIfInBounds_toArray, List.set_cons_zero, List.set_cons_succ]
        refine wpAnyH_take (i := 20) (oi := { dst := some 54, op := Go.Op.move (Go.Operand.tmp 0), type := 9, pos := "ref.go:216", after := #[], guard := none }) (v := ?_) rfl (by kernel_rfl) (by kernel_rfl) (by kernel_rfl) (fun _ _ _ h => h) (Or.inl ⟨by rfl, ?_⟩) (by assumption) ?_
        rotate_left
        · intro w hSw; (try dsimp only at hSw); go_simp; (try with_reducible rfl)
        try simp only [Act.put, List.setIfInBounds_toArray, List.set_cons_zero, List.set_cons_succ]
        refine wpAnyH_take (i := 21) (oi := { dst := some 55, op := Go.Op.index 9 (Go.Operand.tmp 54) (Go.Operand.const (Go.Value.int Go.IntKind.i64 8)), type := 5, pos := "ref.go:216", after := #[{ on := 20, ground := Go.Ground.data }], guard := none }) (v := ?_) rfl (by kernel_rfl) (by kernel_rfl) (by kernel_rfl) (fun _ _ _ h => h) (Or.inl ⟨by rfl, ?_⟩) (by assumption) ?_
        rotate_left
        · intro w hSw; (try dsimp only at hSw); go_simp; (try with_reducible rfl)
        try simp only [Act.put, List.setIfInBounds_toArray, List.set_cons_zero, List.set_cons_succ]
        refine wpAnyH_take (i := 22) (oi := { dst := some 56, op := Go.Op.convert 5 3 (Go.Operand.tmp 55), type := 3, pos := "ref.go:216", after := #[{ on := 21, ground := Go.Ground.data }], guard := none }) (v := ?_) rfl (by kernel_rfl) (by kernel_rfl) (by kernel_rfl) (fun _ _ _ h => h) (Or.inl ⟨by rfl, ?_⟩) (by assumption) ?_
        rotate_left
        · intro w hSw; (try dsimp only at hSw); go_simp; (try with_reducible rfl)
        try simp only [Act.put, List.setIfInBounds_toArray, List.set_cons_zero, List.set_cons_succ]
        refine wpAnyH_take (i := 23) (oi := { dst := some 57, op := Go.Op.build 23 #[(0, Go.Operand.tmp 41), (1, Go.Operand.tmp 44), (2, Go.Operand.tmp 47), (3, Go.Operand.tmp 50), (4, Go.Operand.tmp 53), (5, Go.Operand.tmp 56)], type := 23, pos := "ref.go:216", after := #[{ on := 7, ground := Go.Ground.data }, { on := 10, ground := Go.Ground.data }, { on := 13, ground := Go.Ground.data }, { on := 16, ground := Go.Ground.data }, { on := 19, ground := Go.Ground.data }, { on := 22, ground := Go.Ground.data }], guard := none }) (v := ?_) rfl (by kernel_rfl) (by kernel_rfl) (by kernel_rfl) (fun _ _ _ h => h) (Or.inl ⟨by rfl, ?_⟩) (by assumption) ?_
        rotate_left
        · intro w hSw; (try dsimp only at hSw); go_simp; (try with_reducible rfl)
        try simp only [Act.put, List.setIfInBounds_toArray, List.set_cons_zero, List.set_cons_succ]
        refine wpAnyH_ready (rs := [24]) (by kernel_rfl) (by simp) ?_
        refine AllReadyH.cons (o := { dst := some 8, op := Go.Op.alloc 23, type := 0, pos := "ref.go:216", after := #[], guard := none }) rfl (fun K hK => ?_) AllReadyH.nil
        go_simp
        refine hK.out _ _ (by (try dsimp only); first | assumption | (simp [*, go_sem]; done) | (refine ⟨?_, ?_⟩ <;> simp [*, go_sem])) (fun hHeld => ?_)
        clear hK K
        try simp only [Act.put, List.setIfInBounds_toArray, List.set_cons_zero, List.set_cons_succ]
        refine wpAnyH_ready (rs := [25]) (by kernel_rfl) (by simp) ?_
        refine AllReadyH.cons (o := { dst := none, op := Go.Op.store 23 (Go.Operand.tmp 8) (Go.Operand.tmp 57), type := 0, pos := "ref.go:216", after := #[{ on := 24, ground := Go.Ground.data }, { on := 23, ground := Go.Ground.data }, { on := 0, ground := Go.Ground.phase }, { on := 1, ground := Go.Ground.phase }, { on := 2, ground := Go.Ground.phase }, { on := 3, ground := Go.Ground.phase }, { on := 4, ground := Go.Ground.phase }, { on := 5, ground := Go.Ground.phase }, { on := 6, ground := Go.Ground.phase }, { on := 7, ground := Go.Ground.phase }, { on := 8, ground := Go.Ground.phase }, { on := 9, ground := Go.Ground.phase }, { on := 10, ground := Go.Ground.phase }, { on := 11, ground := Go.Ground.phase }, { on := 12, ground := Go.Ground.phase }, { on := 13, ground := Go.Ground.phase }, { on := 14, ground := Go.Ground.phase }, { on := 15, ground := Go.Ground.phase }, { on := 16, ground := Go.Ground.phase }, { on := 17, ground := Go.Ground.phase }, { on := 18, ground := Go.Ground.phase }, { on := 19, ground := Go.Ground.phase }, { on := 20, ground := Go.Ground.phase }, { on := 21, ground := Go.Ground.phase }, { on := 22, ground := Go.Ground.phase }, { on := 23, ground := Go.Ground.phase }, { on := 24, ground := Go.Ground.phase }], guard := none }) rfl (fun K hK => ?_) AllReadyH.nil
        go_simp
        refine hK.out _ _ (by (try dsimp only); first | assumption | (simp [*, go_sem]; done) | (refine ⟨?_, ?_⟩ <;> simp [*, go_sem])) (fun hHeld => ?_)
        clear hK K
        try simp only [Act.put, List.setIfInBounds_toArray, List.set_cons_zero, List.set_cons_succ]
        refine wpAnyH_done (by kernel_rfl) ?_ _
        refine NoPanic.normal ?_
        clear wb ws ws2
        go_upto_region 10 with fail
        by_cases k8 : k < 8192
        case neg =>
          have f1 : decide (1 < k / 4096) = true := by simp; omega
          have BD := hide (bad_far (k := k) (by omega) (tailB s) (vClkB (bt s 2 + 256 * bt s 3) (bt s 4) (bt s 5) (bt s 6) (bt s 7) (bt s 8)))
          go_wp2_with (first | (go_at_call 17; (with_reducible refine (rZone_any _ _).mono ?_); rintro e w' ⟨rfl, rfl⟩) | (go_at_call 40; (with_reducible refine (rvalid_any _ _ _ _ _ _ _).mono ?_); rintro e w' ⟨rfl, hb⟩; have hz := hb.size; (try simp only [World.size_alloc, World.size_setCell, World.size_drew, Nat.add_assoc, Nat.reduceAdd] at hz); (first | obtain ⟨HL, hk⟩ := HL.call hb hz (by simp only [World.size_alloc, World.size_setCell, World.size_drew, Nat.add_assoc, Nat.reduceAdd]) | obtain ⟨HL, hk⟩ := HL.call0 hb hz (by first | rfl | simp only [World.size_alloc, World.size_setCell, World.size_drew, Nat.add_assoc, Nat.reduceAdd])); (try simp only [addN, Nat.add_zero] at HL hk); have hl := HL; simp only [Live] at hl; (try simp only [Kept] at hk)))
          go_ret3
          exact RoP.bad (BD.out) rfl (by (repeat' (first | (with_reducible exact Below.refl _ _) | (with_reducible refine Below.alloc ?_ ?_ _) | (with_reducible refine Below.setCell ?_ ?_ _) | (with_reducible refine Below.drew ?_) | (with_reducible refine below_drewN' ?_) | (with_reducible refine below_bytesW ?_ ?_) | (with_reducible refine Below.trans ?_ (Below.mono (by assumption) ?_)) | omega | (simp only [World.size_alloc, World.size_setCell, World.size_drew]; omega) | (simp [size_bytesW]; omega) | (simp; omega))))
        have f1 : decide (1 < k / 4096) = false := by simp; omega
        cases hzb : zoneB (rz k)
        case false =>
          have BD := hide (bad_zone (k := k) k8 hzb (tailB s) (vClkB (bt s 2 + 256 * bt s 3) (bt s 4) (bt s 5) (bt s 6) (bt s 7) (bt s 8)))
          go_wp2_with (first | (go_at_call 17; (with_reducible refine (rZone_any _ _).mono ?_); rintro e w' ⟨rfl, rfl⟩) | (go_at_call 40; (with_reducible refine (rvalid_any _ _ _ _ _ _ _).mono ?_); rintro e w' ⟨rfl, hb⟩; have hz := hb.size; (try simp only [World.size_alloc, World.size_setCell, World.size_drew, Nat.add_assoc, Nat.reduceAdd] at hz); (first | obtain ⟨HL, hk⟩ := HL.call hb hz (by simp only [World.size_alloc, World.size_setCell, World.size_drew, Nat.add_assoc, Nat.reduceAdd]) | obtain ⟨HL, hk⟩ := HL.call0 hb hz (by first | rfl | simp only [World.size_alloc, World.size_setCell, World.size_drew, Nat.add_assoc, Nat.reduceAdd])); (try simp only [addN, Nat.add_zero] at HL hk); have hl := HL; simp only [Live] at hl; (try simp only [Kept] at hk)))
          go_ret3
          exact RoP.bad (BD.out) rfl (by (repeat' (first | (with_reducible exact Below.refl _ _) | (with_reducible refine Below.alloc ?_ ?_ _) | (with_reducible refine Below.setCell ?_ ?_ _) | (with_reducible refine Below.drew ?_) | (with_reducible refine below_drewN' ?_) | (with_reducible refine below_bytesW ?_ ?_) | (with_reducible refine Below.trans ?_ (Below.mono (by assumption) ?_)) | omega | (simp only [World.size_alloc, World.size_setCell, World.size_drew]; omega) | (simp [size_bytesW]; omega) | (simp; omega))))
        cases hv : vClkB (bt s 2 + 256 * bt s 3) (bt s 4) (bt s 5) (bt s 6) (bt s 7) (bt s 8)
        case false =>
          have BD := hide (show ((rsR k && tailB s) && vClkB (bt s 2 + 256 * bt s 3) (bt s 4) (bt s 5) (bt s 6) (bt s 7) (bt s 8)) = false by rw [hv]; simp)
          go_wp2_with (first | (go_at_call 17; (with_reducible refine (rZone_any _ _).mono ?_); rintro e w' ⟨rfl, rfl⟩) | (go_at_call 40; (with_reducible refine (rvalid_any _ _ _ _ _ _ _).mono ?_); rintro e w' ⟨rfl, hb⟩; have hz := hb.size; (try simp only [World.size_alloc, World.size_setCell, World.size_drew, Nat.add_assoc, Nat.reduceAdd] at hz); (first | obtain ⟨HL, hk⟩ := HL.call hb hz (by simp only [World.size_alloc, World.size_setCell, World.size_drew, Nat.add_assoc, Nat.reduceAdd]) | obtain ⟨HL, hk⟩ := HL.call0 hb hz (by first | rfl | simp only [World.size_alloc, World.size_setCell, World.size_drew, Nat.add_assoc, Nat.reduceAdd])); (try simp only [addN, Nat.add_zero] at HL hk); have hl := HL; simp only [Live] at hl; (try simp only [Kept] at hk)))
          go_ret3
          exact RoP.bad (BD.out) rfl (by (repeat' (first | (with_reducible exact Below.refl _ _) | (with_reducible refine Below.alloc ?_ ?_ _) | (with_reducible refine Below.setCell ?_ ?_ _) | (with_reducible refine Below.drew ?_) | (with_reducible refine below_drewN' ?_) | (with_reducible refine below_bytesW ?_ ?_) | (with_reducible refine Below.trans ?_ (Below.mono (by assumption) ?_)) | omega | (simp only [World.size_alloc, World.size_setCell, World.size_drew]; omega) | (simp [size_bytesW]; omega) | (simp; omega))))
        by_cases t9 : bt s 9 ≤ 99
        case neg =>
          have g9 : decide (99 < bt s 9) = true := by simp; omega
          have BD := hide (bad_tail (s := s) (by omega) (rsR k) (vClkB (bt s 2 + 256 * bt s 3) (bt s 4) (bt s 5) (bt s 6) (bt s 7) (bt s 8)))
          go_wp2_with (first | (go_at_call 17; (with_reducible refine (rZone_any _ _).mono ?_); rintro e w' ⟨rfl, rfl⟩) | (go_at_call 40; (with_reducible refine (rvalid_any _ _ _ _ _ _ _).mono ?_); rintro e w' ⟨rfl, hb⟩; have hz := hb.size; (try simp only [World.size_alloc, World.size_setCell, World.size_drew, Nat.add_assoc, Nat.reduceAdd] at hz); (first | obtain ⟨HL, hk⟩ := HL.call hb hz (by simp only [World.size_alloc, World.size_setCell, World.size_drew, Nat.add_assoc, Nat.reduceAdd]) | obtain ⟨HL, hk⟩ := HL.call0 hb hz (by first | rfl | simp only [World.size_alloc, World.size_setCell, World.size_drew, Nat.add_assoc, Nat.reduceAdd])); (try simp only [addN, Nat.add_zero] at HL hk); have hl := HL; simp only [Live] at hl; (try simp only [Kept] at hk)))
          go_ret3
          exact RoP.bad (BD.out) rfl (by (repeat' (first | (with_reducible exact Below.refl _ _) | (with_reducible refine Below.alloc ?_ ?_ _) | (with_reducible refine Below.setCell ?_ ?_ _) | (with_reducible refine Below.drew ?_) | (with_reducible refine below_drewN' ?_) | (with_reducible refine below_bytesW ?_ ?_) | (with_reducible refine Below.trans ?_ (Below.mono (by assumption) ?_)) | omega | (simp only [World.size_alloc, World.size_setCell, World.size_drew]; omega) | (simp [size_bytesW]; omega) | (simp; omega))))
        have g9 : decide (99 < bt s 9) = false := by simp; omega
        by_cases t10 : bt s 10 ≤ 99
        case neg =>
          have g10 : decide (99 < bt s 10) = true := by simp; omega
          have BD := hide (bad_tail (s := s) (by omega) (rsR k) (vClkB (bt s 2 + 256 * bt s 3) (bt s 4) (bt s 5) (bt s 6) (bt s 7) (bt s 8)))
          go_wp2_with (first | (go_at_call 17; (with_reducible refine (rZone_any _ _).mono ?_); rintro e w' ⟨rfl, rfl⟩) | (go_at_call 40; (with_reducible refine (rvalid_any _ _ _ _ _ _ _).mono ?_); rintro e w' ⟨rfl, hb⟩; have hz := hb.size; (try simp only [World.size_alloc, World.size_setCell, World.size_drew, Nat.add_assoc, Nat.reduceAdd] at hz); (first | obtain ⟨HL, hk⟩ := HL.call hb hz (by simp only [World.size_alloc, World.size_setCell, World.size_drew, Nat.add_assoc, Nat.reduceAdd]) | obtain ⟨HL, hk⟩ := HL.call0 hb hz (by first | rfl | simp only [World.size_alloc, World.size_setCell, World.size_drew, Nat.add_assoc, Nat.reduceAdd])); (try simp only [addN, Nat.add_zero] at HL hk); have hl := HL; simp only [Live] at hl; (try simp only [Kept] at hk)))
          go_ret3
          exact RoP.bad (BD.out) rfl (by (repeat' (first | (with_reducible exact Below.refl _ _) | (with_reducible refine Below.alloc ?_ ?_ _) | (with_reducible refine Below.setCell ?_ ?_ _) | (with_reducible refine Below.drew ?_) | (with_reducible refine below_drewN' ?_) | (with_reducible refine below_bytesW ?_ ?_) | (with_reducible refine Below.trans ?_ (Below.mono (by assumption) ?_)) | omega | (simp only [World.size_alloc, World.size_setCell, World.size_drew]; omega) | (simp [size_bytesW]; omega) | (simp; omega))))
        have g10 : decide (99 < bt s 10) = false := by simp; omega
        by_cases t11 : bt s 11 ≤ 99
        case neg =>
          have g11 : decide (99 < bt s 11) = true := by simp; omega
          have BD := hide (bad_tail (s := s) (by omega) (rsR k) (vClkB (bt s 2 + 256 * bt s 3) (bt s 4) (bt s 5) (bt s 6) (bt s 7) (bt s 8)))
          go_wp2_with (first | (go_at_call 17; (with_reducible refine (rZone_any _ _).mono ?_); rintro e w' ⟨rfl, rfl⟩) | (go_at_call 40; (with_reducible refine (rvalid_any _ _ _ _ _ _ _).mono ?_); rintro e w' ⟨rfl, hb⟩; have hz := hb.size; (try simp only [World.size_alloc, World.size_setCell, World.size_drew, Nat.add_assoc, Nat.reduceAdd] at hz); (first | obtain ⟨HL, hk⟩ := HL.call hb hz (by simp only [World.size_alloc, World.size_setCell, World.size_drew, Nat.add_assoc, Nat.reduceAdd]) | obtain ⟨HL, hk⟩ := HL.call0 hb hz (by first | rfl | simp only [World.size_alloc, World.size_setCell, World.size_drew, Nat.add_assoc, Nat.reduceAdd])); (try simp only [addN, Nat.add_zero] at HL hk); have hl := HL; simp only [Live] at hl; (try simp only [Kept] at hk)))
          go_ret3
          exact RoP.bad (BD.out) rfl (by (repeat' (first | (with_reducible exact Below.refl _ _) | (with_reducible refine Below.alloc ?_ ?_ _) | (with_reducible refine Below.setCell ?_ ?_ _) | (with_reducible refine Below.drew ?_) | (with_reducible refine below_drewN' ?_) | (with_reducible refine below_bytesW ?_ ?_) | (with_reducible refine Below.trans ?_ (Below.mono (by assumption) ?_)) | omega | (simp only [World.size_alloc, World.size_setCell, World.size_drew]; omega) | (simp [size_bytesW]; omega) | (simp; omega))))
        have g11 : decide (99 < bt s 11) = false := by simp; omega
        have hv' := vClkB_true.1 hv
        have hR := hide (show rsZ k = rz k ∧ (rsR k && tailB s) = true by rw [(rs_rz k8).1, (rs_rz k8).2, hzb]; exact ⟨rfl, decide_eq_true ⟨t9, t10, t11⟩⟩)
        have FN := hide (fun W => finish_any (bt s 2 + 256 * bt s 3) (bt s 4) (bt s 5) (bt s 6) (bt s 7) (bt s 8) (rz k) hv' (by omega) W)
        clear hv'
        go_wp2_with (first | (go_at_call 17; (with_reducible refine (rZone_any _ _).mono ?_); rintro e w' ⟨rfl, rfl⟩) | (go_at_call 40; (with_reducible refine (rvalid_any _ _ _ _ _ _ _).mono ?_); rintro e w' ⟨rfl, hb⟩; have hz := hb.size; (try simp only [World.size_alloc, World.size_setCell, World.size_drew, Nat.add_assoc, Nat.reduceAdd] at hz); (first | obtain ⟨HL, hk⟩ := HL.call hb hz (by simp only [World.size_alloc, World.size_setCell, World.size_drew, Nat.add_assoc, Nat.reduceAdd]) | obtain ⟨HL, hk⟩ := HL.call0 hb hz (by first | rfl | simp only [World.size_alloc, World.size_setCell, World.size_drew, Nat.add_assoc, Nat.reduceAdd])); (try simp only [addN, Nat.add_zero] at HL hk); have hl := HL; simp only [Live] at hl; (try simp only [Kept] at hk)) | (go_at_call 47; (with_reducible refine (FN.out _).mono ?_); rintro e w' ⟨rfl, hb⟩; have hz := hb.size))
        go_ret3
        exact ⟨by rw [hR.out.1, hR.out.2]; rfl, by (repeat' (first | (with_reducible exact Below.refl _ _) | (with_reducible refine Below.alloc ?_ ?_ _) | (with_reducible refine Below.setCell ?_ ?_ _) | (with_reducible refine Below.drew ?_) | (with_reducible refine below_drewN' ?_) | (with_reducible refine below_bytesW ?_ ?_) | (with_reducible refine Below.trans ?_ (Below.mono (by assumption) ?_)) | omega | (simp only [World.size_alloc, World.size_setCell, World.size_drew]; omega) | (simp [size_bytesW]; omega) | (simp; omega)))⟩
end Go.Proofs.YtkkkfbhpphngmaaDoor
