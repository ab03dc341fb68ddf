/- Contracts and plain words for the laws of volume descriptors, part 4: KQ, KH1, KR. No condition. -/
import Derived.WalkKit
import Derived.PlainAid
import Derived.Test.YtjbhokmkmapkoaaGreatDoorC3
namespace Go.Proofs.YtjbhokmkmapkoaaGreatDoor.Dt
set_option linter.unusedSimpArgs false
set_option linter.unusedVariables false
theorem ofInt64 (a : Nat) (ha : a < 9223372036854775808) : (BitVec.ofInt 64 (a : Int)).toNat = a := by
  rw [BitVec.ofInt_natCast, BitVec.toNat_ofNat]; exact Nat.mod_eq_of_lt (by omega)
theorem i64_or_nat (a b : Nat) (ha : a < 9223372036854775808) (hb : b < 9223372036854775808) : bits .or .i64 (a : Int) (b : Int) = ((a ||| b : Nat) : Int) := by
  have hx : a ||| b < 2 ^ 63 := Nat.or_lt_two_pow (by omega) (by omega)
  show IntKind.i64.wrap ((BitVec.ofInt 64 (a : Int) ||| BitVec.ofInt 64 (b : Int)).toNat : Int) = _
  rw [BitVec.toNat_or, ofInt64 a ha, ofInt64 b hb]
  exact IntWalk.i64_in _ (by omega)
end Go.Proofs.YtjbhokmkmapkoaaGreatDoor.Dt
namespace Go.Proofs.YtjbhokmkmapkoaaGreatDoor.Dt
set_option linter.unusedSimpArgs false
set_option linter.unusedVariables false
open Go.RowKit
def ro1 (Y M D h m s z : Int) (r : Bool) : Int := if (r && vClkB Y M D h m s && timeB (secs Y M D h m s - 60 * z)) = true then secs Y M D h m s - 60 * z else 0
def ro2 (Y M D h m s z : Int) (r : Bool) : Int := if (r && vClkB Y M D h m s && timeB (secs Y M D h m s - 60 * z)) = true then z else 0
def ro3 (Y M D h m s z : Int) (r : Bool) : Int := if (r && vClkB Y M D h m s) = true then (if timeB (secs Y M D h m s - 60 * z) = true then 0 else 2) else 10
/-- The answer of a reader. -/
def RoP (Y M D h m s z : Int) (r : Bool) (w : World) (e : Ending) (w' : World) : Prop :=
  e = .returned (.tuple #[.int .i64 (ro1 Y M D h m s z r), .int .i64 (ro2 Y M D h m s z r), .int .i64 (ro3 Y M D h m s z r)]) ∧ Below w.heap.size w w'
theorem RoP.bad {Y M D h m s z : Int} {r : Bool} (hb : (r && vClkB Y M D h m s) = false) {w : World} {e : Ending} {w' : World} (he : e = .returned (.tuple #[.int .i64 0, .int .i64 0, .int .i64 10])) (hw : Below w.heap.size w w') : RoP Y M D h m s z r w e w' := by
  refine ⟨?_, hw⟩
  rw [he]; unfold ro1 ro2 ro3; simp [hb]
theorem RoP.range {Y M D h m s z : Int} {r : Bool} (hr : r = true) (hv : vClk Y M D h m s) (ht : timeB (secs Y M D h m s - 60 * z) = false) {w : World} {e : Ending} {w' : World} (he : e = .returned (.tuple #[.int .i64 0, .int .i64 0, .int .i64 2])) (hw : Below w.heap.size w w') : RoP Y M D h m s z r w e w' := by
  refine ⟨?_, hw⟩
  have hv' := vClkB_true.2 hv
  rw [he]; unfold ro1 ro2 ro3; simp [hr, hv', ht]
theorem RoP.yes {Y M D h m s z : Int} {r : Bool} (hr : r = true) (hv : vClk Y M D h m s) (ht : timeB (secs Y M D h m s - 60 * z) = true) {w : World} {e : Ending} {w' : World} (he : e = .returned (.tuple #[.int .i64 (secs Y M D h m s - 60 * z), .int .i64 z, .int .i64 0])) (hw : Below w.heap.size w w') : RoP Y M D h m s z r w e w' := by
  refine ⟨?_, hw⟩
  have hv' := vClkB_true.2 hv
  rw [he]; unfold ro1 ro2 ro3; simp [hr, hv', ht]
theorem read_any (Y M D h m s z : Int) (r : Bool) (hz : r = true → zoneB z = true) (w : World) :
    Calls Tryz.prog 118 #[.agg #[.int .i64 Y, .int .i64 M, .int .i64 D, .int .i64 h, .int .i64 m, .int .i64 s], .int .i64 z, .bool r] w (RoP Y M D h m s z r w) := by
  cases hb : (r && vClkB Y M D h m s)
  · exact (read_bad Y M D h m s z r hb w).mono fun e w' h => RoP.bad hb h.1 h.2
  · simp only [Bool.and_eq_true] at hb
    obtain ⟨rfl, hv⟩ := hb
    have hv := vClkB_true.1 hv
    cases ht : timeB (secs Y M D h m s - 60 * z)
    · exact (read_range Y M D h m s z hv (by rw [ht]; simp) w).mono fun e w' h => RoP.range rfl hv ht h.1 h.2
    · exact (read_yes Y M D h m s z hv (hz rfl) ht w).mono fun e w' h => RoP.yes rfl hv ht h.1 h.2
end Go.Proofs.YtjbhokmkmapkoaaGreatDoor.Dt
namespace Go.Proofs.YtjbhokmkmapkoaaGreatDoor.Dt
set_option linter.unusedSimpArgs false
set_option linter.unusedVariables false
open Go.RowKit
open Go.PlainAid (bt get_bt bt_nonneg bt_le)
theorem size_ne {s : ByteArray} {n : Nat} (h : ¬ s.size = n) : ((s.size : Int) == (n : Int)) = false ∧ ((s.size : Int) != (n : Int)) = true := by
  have : ¬ (s.size : Int) = (n : Int) := by omega
  simp [this]
theorem qB_zone {v : Int} (h : qB (sg v) = true) : zoneB (15 * sg v) = true := by
  unfold qB at h
  have h := of_decide_eq_true h
  exact zoneB_true.2 (by omega)
set_option maxHeartbeats 400000 in
theorem readRecord_no (s : ByteArray) (hs : ¬ s.size = 7) (w : World) : Calls Tryz.prog 113 #[.string s] w fun e w' => e = .returned (.tuple #[.int .i64 0, .int .i64 0, .int .i64 1]) ∧ Below w.heap.size w w' := by
  obtain ⟨h1, h2⟩ := size_ne hs
  have HL : Live w [] := trivial
  go_enter Tryz.func113, Tryz.ntmps113
  go_wp2
  go_ret3
  exact ⟨rfl, by (repeat' (first | (with_reducible exact Below.refl _ _) | (with_reducible refine Below.alloc ?_ ?_ _) | (with_reducible refine Below.setCell ?_ ?_ _) | (with_reducible refine Below.drew ?_) | (with_reducible refine below_drewN' ?_) | (with_reducible refine below_bytesW ?_ ?_) | (with_reducible refine Below.trans ?_ (Below.mono (by assumption) ?_)) | omega | (simp only [World.size_alloc, World.size_setCell, World.size_drew]; omega) | (simp [size_bytesW]; omega) | (simp; omega)))⟩
set_option maxHeartbeats 1000000 in
theorem readRecord_yes (s : ByteArray) (hs : s.size = 7) (w : World) : Calls Tryz.prog 113 #[.string s] w (RoP (1900 + bt s 0) (bt s 1) (bt s 2) (bt s 3) (bt s 4) (bt s 5) (15 * sg (bt s 6)) (qB (sg (bt s 6))) w) := by
  have hg := get_bt s
  have b0 := bt_nonneg s 0
  have b0' := bt_le s 0
  have b6 := bt_nonneg s 6
  have b6' := bt_le s 6
  have RD := hide (fun W => read_any (1900 + bt s 0) (bt s 1) (bt s 2) (bt s 3) (bt s 4) (bt s 5) (15 * sg (bt s 6)) (qB (sg (bt s 6))) qB_zone W)
  have HL : Live w [] := trivial
  go_enter Tryz.func113, Tryz.ntmps113
  go_wp2_with (first | (go_at_call 117; (with_reducible refine (quarter_any _ (by omega) _).mono ?_); rintro e w' ⟨rfl, rfl⟩))
  have wb : ∀ j, IntKind.i64.wrap (bt s j) = bt s j := fun j => IntWalk.i64_in _ ⟨by have := bt_nonneg s j; omega, by have := bt_le s j; omega⟩
  have ws : IntKind.i64.wrap (1900 + bt s 0) = 1900 + bt s 0 := IntWalk.i64_in _ (by omega)
  refine wp_region_noPanic ?_
  refine wp_region_held_drew (S := (fun _ => True ∧ True)) (by kernel_rfl) (by (try dsimp only); first | with_reducible assumption | (simp [*, go_sem]; done) | (refine ⟨?_, ?_⟩ <;> simp [*, go_sem])) (fun hHeld => ?_)
  refine wpAnyH_take (i := 0) (oi := { dst := some 16, op := Go.Op.move (Go.Operand.tmp 0), type := 9, pos := "datetime.go:134", after := #[], guard := none }) (v := ?_) rfl (by kernel_rfl) (by kernel_rfl) (by kernel_rfl) (fun _ _ _ h => h) (Or.inl ⟨by rfl, ?_⟩) (by assumption) ?_
  rotate_left
  · intro w hSw; (try dsimp only at hSw); go_simp; (try with_reducible rfl)
  try simp only [Act.put, List.setIfInBounds_toArray, List.set_cons_zero, List.set_cons_succ]
  refine wpAnyH_take (i := 1) (oi := { dst := some 17, op := Go.Op.index 9 (Go.Operand.tmp 16) (Go.Operand.const (Go.Value.int Go.IntKind.i64 0)), type := 5, pos := "datetime.go:134", after := #[{ on := 0, ground := Go.Ground.data }], guard := none }) (v := ?_) rfl (by kernel_rfl) (by kernel_rfl) (by kernel_rfl) (fun _ _ _ h => h) (Or.inl ⟨by rfl, ?_⟩) (by assumption) ?_
  rotate_left
  · intro w hSw; (try dsimp only at hSw); go_simp; (try with_reducible rfl)
  try simp only [Act.put, List.setIfInBounds_toArray, List.set_cons_zero, List.set_cons_succ]
  refine wpAnyH_take (i := 2) (oi := { dst := some 18, op := Go.Op.convert 5 3 (Go.Operand.tmp 17), type := 3, pos := "datetime.go:134", after := #[{ on := 1, ground := Go.Ground.data }], guard := none }) (v := ?_) rfl (by kernel_rfl) (by kernel_rfl) (by kernel_rfl) (fun _ _ _ h => h) (Or.inl ⟨by rfl, ?_⟩) (by assumption) ?_
  rotate_left
  · intro w hSw; (try dsimp only at hSw); go_simp; (try with_reducible rfl)
  try simp only [Act.put, List.setIfInBounds_toArray, List.set_cons_zero, List.set_cons_succ]
  refine wpAnyH_take (i := 3) (oi := { dst := some 19, op := Go.Op.binOp Go.BinOp.add 3 (Go.Operand.const (Go.Value.int Go.IntKind.i64 1900)) (Go.Operand.tmp 18) 3, type := 3, pos := "datetime.go:134", after := #[{ on := 2, ground := Go.Ground.data }], guard := none }) (v := ?_) rfl (by kernel_rfl) (by kernel_rfl) (by kernel_rfl) (fun _ _ _ h => h) (Or.inl ⟨by rfl, ?_⟩) (by assumption) ?_
  rotate_left
  · intro w hSw; (try dsimp only at hSw); go_simp; (try with_reducible rfl)
  try simp only [Act.put, List.setIfInBounds_toArray, List.set_cons_zero, List.set_cons_succ]
  refine wpAnyH_take (i := 4) (oi := { dst := some 20, op := Go.Op.move (Go.Operand.tmp 0), type := 9, pos := "datetime.go:134", after := #[], guard := none }) (v := ?_) rfl (by kernel_rfl) (by kernel_rfl) (by kernel_rfl) (fun _ _ _ h => h) (Or.inl ⟨by rfl, ?_⟩) (by assumption) ?_
  rotate_left
  · intro w hSw; (try dsimp only at hSw); go_simp; (try with_reducible rfl)
  try simp only [Act.put, List.setIfInBounds_toArray, List.set_cons_zero, List.set_cons_succ]
  refine wpAnyH_take (i := 5) (oi := { dst := some 21, op := Go.Op.index 9 (Go.Operand.tmp 20) (Go.Operand.const (Go.Value.int Go.IntKind.i64 1)), type := 5, pos := "datetime.go:134", after := #[{ on := 4, ground := Go.Ground.data }], guard := none }) (v := ?_) rfl (by kernel_rfl) (by kernel_rfl) (by kernel_rfl) (fun _ _ _ h => h) (Or.inl ⟨by rfl, ?_⟩) (by assumption) ?_
  rotate_left
  · intro w hSw; (try dsimp only at hSw); go_simp; (try with_reducible rfl)
  try simp only [Act.put, List.setIfInBounds_toArray, List.set_cons_zero, List.set_cons_succ]
  refine wpAnyH_take (i := 6) (oi := { dst := some 22, op := Go.Op.convert 5 3 (Go.Operand.tmp 21), type := 3, pos := "datetime.go:134", after := #[{ on := 5, ground := Go.Ground.data }], guard := none }) (v := ?_) rfl (by kernel_rfl) (by kernel_rfl) (by kernel_rfl) (fun _ _ _ h => h) (Or.inl ⟨by rfl, ?_⟩) (by assumption) ?_
  rotate_left
  · intro w hSw; (try dsimp only at hSw); go_simp; (try with_reducible rfl)
  try simp only [Act.put, List.setIfInBounds_toArray, List.set_cons_zero, List.set_cons_succ]
  refine wpAnyH_take (i := 7) (oi := { dst := some 23, op := Go.Op.move (Go.Operand.tmp 0), type := 9, pos := "datetime.go:134", after := #[], guard := none }) (v := ?_) rfl (by kernel_rfl) (by kernel_rfl) (by kernel_rfl) (fun _ _ _ h => h) (Or.inl ⟨by rfl, ?_⟩) (by assumption) ?_
  rotate_left
  · intro w hSw; (try dsimp only at hSw); go_simp; (try with_reducible rfl)
  try simp only [Act.put, List.setIfInBounds_toArray, List.set_cons_zero, List.set_cons_succ]
  refine wpAnyH_take (i := 8) (oi := { dst := some 24, op := Go.Op.index 9 (Go.Operand.tmp 23) (Go.Operand.const (Go.Value.int Go.IntKind.i64 2)), type := 5, pos := "datetime.go:134", after := #[{ on := 7, ground := Go.Ground.data }], guard := none }) (v := ?_) rfl (by kernel_rfl) (by kernel_rfl) (by kernel_rfl) (fun _ _ _ h => h) (Or.inl ⟨by rfl, ?_⟩) (by assumption) ?_
  rotate_left
  · intro w hSw; (try dsimp only at hSw); go_simp; (try with_reducible rfl)
  try simp only [Act.put, List.setIfInBounds_toArray, List.set_cons_zero, List.set_cons_succ]
  refine wpAnyH_take (i := 9) (oi := { dst := some 25, op := Go.Op.convert 5 3 (Go.Operand.tmp 24), type := 3, pos := "datetime.go:134", after := #[{ on := 8, ground := Go.Ground.data }], guard := none }) (v := ?_) rfl (by kernel_rfl) (by kernel_rfl) (by kernel_rfl) (fun _ _ _ h => h) (Or.inl ⟨by rfl, ?_⟩) (by assumption) ?_
  rotate_left
  · intro w hSw; (try dsimp only at hSw); go_simp; (try with_reducible rfl)
  try simp only [Act.put, List.setIfInBounds_toArray, List.set_cons_zero, List.set_cons_succ]
  refine wpAnyH_take (i := 10) (oi := { dst := some 26, op := Go.Op.move (Go.Operand.tmp 0), type := 9, pos := "datetime.go:134", after := #[], guard := none }) (v := ?_) rfl (by kernel_rfl) (by kernel_rfl) (by kernel_rfl) (fun _ _ _ h => h) (Or.inl ⟨by rfl, ?_⟩) (by assumption) ?_
  rotate_left
  · intro w hSw; (try dsimp only at hSw); go_simp; (try with_reducible rfl)
  try simp only [Act.put, List.setIfInBounds_toArray, List.set_cons_zero, List.set_cons_succ]
  refine wpAnyH_take (i := 11) (oi := { dst := some 27, op := Go.Op.index 9 (Go.Operand.tmp 26) (Go.Operand.const (Go.Value.int Go.IntKind.i64 3)), type := 5, pos := "datetime.go:134", after := #[{ on := 10, ground := Go.Ground.data }], guard := none }) (v := ?_) rfl (by kernel_rfl) (by kernel_rfl) (by kernel_rfl) (fun _ _ _ h => h) (Or.inl ⟨by rfl, ?_⟩) (by assumption) ?_
  rotate_left
  · intro w hSw; (try dsimp only at hSw); go_simp; (try with_reducible rfl)
  try simp only [Act.put, List.setIfInBounds_toArray, List.set_cons_zero, List.set_cons_succ]
  refine wpAnyH_take (i := 12) (oi := { dst := some 28, op := Go.Op.convert 5 3 (Go.Operand.tmp 27), type := 3, pos := "datetime.go:134", after := #[{ on := 11, ground := Go.Ground.data }], guard := none }) (v := ?_) rfl (by kernel_rfl) (by kernel_rfl) (by kernel_rfl) (fun _ _ _ h => h) (Or.inl ⟨by rfl, ?_⟩) (by assumption) ?_
  rotate_left
  · intro w hSw; (try dsimp only at hSw); go_simp; (try with_reducible rfl)
  try simp only [Act.put, List.setIfInBounds_toArray, List.set_cons_zero, List.set_cons_succ]
  refine wpAnyH_take (i := 13) (oi := { dst := some 29, op := Go.Op.move (Go.Operand.tmp 0), type := 9, pos := "datetime.go:134", after := #[], guard := none }) (v := ?_) rfl (by kernel_rfl) (by kernel_rfl) (by kernel_rfl) (fun _ _ _ h => h) (Or.inl ⟨by rfl, ?_⟩) (by assumption) ?_
  rotate_left
  · intro w hSw; (try dsimp only at hSw); go_simp; (try with_reducible rfl)
  try simp only [Act.put, List.setIfInBounds_toArray, List.set_cons_zero, List.set_cons_succ]
  refine wpAnyH_take (i := 14) (oi := { dst := some 30, op := Go.Op.index 9 (Go.Operand.tmp 29) (Go.Operand.const (Go.Value.int Go.IntKind.i64 4)), type := 5, pos := "datetime.go:134", after := #[{ on := 13, ground := Go.Ground.data }], guard := none }) (v := ?_) rfl (by kernel_rfl) (by kernel_rfl) (by kernel_rfl) (fun _ _ _ h => h) (Or.inl ⟨by rfl, ?_⟩) (by assumption) ?_
  rotate_left
  · intro w hSw; (try dsimp only at hSw); go_simp; (try with_reducible rfl)
  try simp only [Act.put, List.setIfInBounds_toArray, List.set_cons_zero, List.set_cons_succ]
  refine wpAnyH_take (i := 15) (oi := { dst := some 31, op := Go.Op.convert 5 3 (Go.Operand.tmp 30), type := 3, pos := "datetime.go:134", after := #[{ on := 14, ground := Go.Ground.data }], guard := none }) (v := ?_) rfl (by kernel_rfl) (by kernel_rfl) (by kernel_rfl) (fun _ _ _ h => h) (Or.inl ⟨by rfl, ?_⟩) (by assumption) ?_
  rotate_left
  · intro w hSw; (try dsimp only at hSw); go_simp; (try with_reducible rfl)
  try simp only [Act.put, List.setIfInBounds_toArray, List.set_cons_zero, List.set_cons_succ]
  refine wpAnyH_take (i := 16) (oi := { dst := some 32, op := Go.Op.move (Go.Operand.tmp 0), type := 9, pos := "datetime.go:134", after := #[], guard := none }) (v := ?_) rfl (by kernel_rfl) (by kernel_rfl) (by kernel_rfl) (fun _ _ _ h => h) (Or.inl ⟨by rfl, ?_⟩) (by assumption) ?_
  rotate_left
  · intro w hSw; (try dsimp only at hSw); go_simp; (try with_reducible rfl)
  try simp only [Act.put, List.setIfInBounds_toArray, List.set_cons_zero, List.set_cons_succ]
  refine wpAnyH_take (i := 17) (oi := { dst := some 33, op := Go.Op.index 9 (Go.Operand.tmp 32) (Go.Operand.const (Go.Value.int Go.IntKind.i64 5)), type := 5, pos := "datetime.go:134", after := #[{ on := 16, ground := Go.Ground.data }], guard := none }) (v := ?_) rfl (by kernel_rfl) (by kernel_rfl) (by kernel_rfl) (fun _ _ _ h => h) (Or.inl ⟨by rfl, ?_⟩) (by assumption) ?_
  rotate_left
  · intro w hSw; (try dsimp only at hSw); go_simp; (try with_reducible rfl)
  try simp only [Act.put, List.setIfInBounds_toArray, List.set_cons_zero, List.set_cons_succ]
  refine wpAnyH_take (i := 18) (oi := { dst := some 34, op := Go.Op.convert 5 3 (Go.Operand.tmp 33), type := 3, pos := "datetime.go:134", after := #[{ on := 17, ground := Go.Ground.data }], guard := none }) (v := ?_) rfl (by kernel_rfl) (by kernel_rfl) (by kernel_rfl) (fun _ _ _ h => h) (Or.inl ⟨by rfl, ?_⟩) (by assumption) ?_
  rotate_left
  · intro w hSw; (try dsimp only at hSw); go_simp; (try with_reducible rfl)
  try simp only [Act.put, List.setIfInBounds_toArray, List.set_cons_zero, List.set_cons_succ]
  refine wpAnyH_take (i := 19) (oi := { dst := some 35, op := Go.Op.build 110 #[(0, Go.Operand.tmp 19), (1, Go.Operand.tmp 22), (2, Go.Operand.tmp 25), (3, Go.Operand.tmp 28), (4, Go.Operand.tmp 31), (5, Go.Operand.tmp 34)], type := 110, pos := "datetime.go:134", after := #[{ on := 3, ground := Go.Ground.data }, { on := 6, ground := Go.Ground.data }, { on := 9, ground := Go.Ground.data }, { on := 12, ground := Go.Ground.data }, { on := 15, ground := Go.Ground.data }, { on := 18, ground := Go.Ground.data }], guard := none }) (v := ?_) rfl (by kernel_rfl) (by kernel_rfl) (by kernel_rfl) (fun _ _ _ h => h) (Or.inl ⟨by rfl, ?_⟩) (by assumption) ?_
  rotate_left
  · intro w hSw; (try dsimp only at hSw); go_simp; (try with_reducible rfl)
  try simp only [Act.put, List.setIfInBounds_toArray, List.set_cons_zero, List.set_cons_succ]
  refine wpAnyH_take (i := 20) (oi := { dst := some 36, op := Go.Op.move (Go.Operand.tmp 5), type := 3, pos := "datetime.go:134", after := #[], guard := none }) (v := ?_) rfl (by kernel_rfl) (by kernel_rfl) (by kernel_rfl) (fun _ _ _ h => h) (Or.inl ⟨by rfl, ?_⟩) (by assumption) ?_
  rotate_left
  · intro w hSw; (try dsimp only at hSw); go_simp; (try with_reducible rfl)
  try simp only [Act.put, List.setIfInBounds_toArray, List.set_cons_zero, List.set_cons_succ]
  refine wpAnyH_take (i := 21) (oi := { dst := some 37, op := Go.Op.move (Go.Operand.tmp 6), type := 4, pos := "datetime.go:134", after := #[], guard := none }) (v := ?_) rfl (by kernel_rfl) (by kernel_rfl) (by kernel_rfl) (fun _ _ _ h => h) (Or.inl ⟨by rfl, ?_⟩) (by assumption) ?_
  rotate_left
  · intro w hSw; (try dsimp only at hSw); go_simp; (try with_reducible rfl)
  try simp only [Act.put, List.setIfInBounds_toArray, List.set_cons_zero, List.set_cons_succ]
  refine wpAnyH_ready (rs := [22]) (by kernel_rfl) (by simp) ?_
  refine AllReadyH.cons (o := { dst := some 38, op := Go.Op.call { callee := Go.Callee.value (Go.Operand.func 118), args := #[Go.Operand.tmp 35, Go.Operand.tmp 36, Go.Operand.tmp 37], argTypes := #[110, 3, 4] }, type := 83, pos := "datetime.go:134", after := #[{ on := 19, ground := Go.Ground.data }, { on := 20, ground := Go.Ground.data }, { on := 21, ground := Go.Ground.data }], guard := none }) rfl (fun K hK => ?_) AllReadyH.nil
  go_simp
  (first | (go_at_call 118; (with_reducible refine (RD.out _).mono ?_); rintro e w' ⟨rfl, hb⟩; have hz := hb.size))
  go_wp2_with fail
  refine hK.out _ _ (by (try dsimp only); first | with_reducible assumption | (simp [*, go_sem]; done) | (refine ⟨?_, ?_⟩ <;> simp [*, go_sem])) (fun hHeld => ?_)
  clear hK K
  try simp only [Act.put, List.setIfInBounds_toArray, List.set_cons_zero, List.set_cons_succ]
  refine wpAnyH_take (i := 23) (oi := { dst := some 39, op := Go.Op.extract (Go.Operand.tmp 38) 0, type := 3, pos := "datetime.go:134", after := #[{ on := 22, ground := Go.Ground.data }], guard := none }) (v := ?_) rfl (by kernel_rfl) (by kernel_rfl) (by kernel_rfl) (fun _ _ _ h => h) (Or.inl ⟨by rfl, ?_⟩) (by assumption) ?_
  rotate_left
  · intro w hSw; (try dsimp only at hSw); go_simp; (try with_reducible rfl)
  try simp only [Act.put, List.setIfInBounds_toArray, List.set_cons_zero, List.set_cons_succ]
  refine wpAnyH_take (i := 24) (oi := { dst := some 40, op := Go.Op.extract (Go.Operand.tmp 38) 1, type := 3, pos := "datetime.go:134", after := #[{ on := 22, ground := Go.Ground.data }], guard := none }) (v := ?_) rfl (by kernel_rfl) (by kernel_rfl) (by kernel_rfl) (fun _ _ _ h => h) (Or.inl ⟨by rfl, ?_⟩) (by assumption) ?_
  rotate_left
  · intro w hSw; (try dsimp only at hSw); go_simp; (try with_reducible rfl)
  try simp only [Act.put, List.setIfInBounds_toArray, List.set_cons_zero, List.set_cons_succ]
  refine wpAnyH_take (i := 25) (oi := { dst := some 41, op := Go.Op.extract (Go.Operand.tmp 38) 2, type := 30, pos := "datetime.go:134", after := #[{ on := 22, ground := Go.Ground.data }], guard := none }) (v := ?_) rfl (by kernel_rfl) (by kernel_rfl) (by kernel_rfl) (fun _ _ _ h => h) (Or.inl ⟨by rfl, ?_⟩) (by assumption) ?_
  rotate_left
  · intro w hSw; (try dsimp only at hSw); go_simp; (try with_reducible rfl)
  try simp only [Act.put, List.setIfInBounds_toArray, List.set_cons_zero, List.set_cons_succ]
  refine wpAnyH_take (i := 26) (oi := { dst := some 2, op := Go.Op.assign (Go.Operand.tmp 39), type := 3, pos := "datetime.go:134", after := #[{ on := 23, ground := Go.Ground.data }, { on := 22, ground := Go.Ground.chain }, { on := 0, ground := Go.Ground.phase }, { on := 1, ground := Go.Ground.phase }, { on := 2, ground := Go.Ground.phase }, { on := 3, ground := Go.Ground.phase }, { on := 4, ground := Go.Ground.phase }, { on := 5, ground := Go.Ground.phase }, { on := 6, ground := Go.Ground.phase }, { on := 7, ground := Go.Ground.phase }, { on := 8, ground := Go.Ground.phase }, { on := 9, ground := Go.Ground.phase }, { on := 10, ground := Go.Ground.phase }, { on := 11, ground := Go.Ground.phase }, { on := 12, ground := Go.Ground.phase }, { on := 13, ground := Go.Ground.phase }, { on := 14, ground := Go.Ground.phase }, { on := 15, ground := Go.Ground.phase }, { on := 16, ground := Go.Ground.phase }, { on := 17, ground := Go.Ground.phase }, { on := 18, ground := Go.Ground.phase }, { on := 19, ground := Go.Ground.phase }, { on := 20, ground := Go.Ground.phase }, { on := 21, ground := Go.Ground.phase }, { on := 22, ground := Go.Ground.phase }, { on := 23, ground := Go.Ground.phase }, { on := 24, ground := Go.Ground.phase }, { on := 25, ground := Go.Ground.phase }], guard := none }) (v := ?_) rfl (by kernel_rfl) (by kernel_rfl) (by kernel_rfl) (fun _ _ _ h => h) (Or.inl ⟨by rfl, ?_⟩) (by assumption) ?_
  rotate_left
  · intro w hSw; (try dsimp only at hSw); go_simp; (try with_reducible rfl)
  try simp only [Act.put, List.setIfInBounds_toArray, List.set_cons_zero, List.set_cons_succ]
  refine wpAnyH_take (i := 27) (oi := { dst := some 3, op := Go.Op.assign (Go.Operand.tmp 40), type := 3, pos := "datetime.go:134", after := #[{ on := 24, ground := Go.Ground.data }, { on := 26, ground := Go.Ground.chain }, { on := 0, ground := Go.Ground.phase }, { on := 1, ground := Go.Ground.phase }, { on := 2, ground := Go.Ground.phase }, { on := 3, ground := Go.Ground.phase }, { on := 4, ground := Go.Ground.phase }, { on := 5, ground := Go.Ground.phase }, { on := 6, ground := Go.Ground.phase }, { on := 7, ground := Go.Ground.phase }, { on := 8, ground := Go.Ground.phase }, { on := 9, ground := Go.Ground.phase }, { on := 10, ground := Go.Ground.phase }, { on := 11, ground := Go.Ground.phase }, { on := 12, ground := Go.Ground.phase }, { on := 13, ground := Go.Ground.phase }, { on := 14, ground := Go.Ground.phase }, { on := 15, ground := Go.Ground.phase }, { on := 16, ground := Go.Ground.phase }, { on := 17, ground := Go.Ground.phase }, { on := 18, ground := Go.Ground.phase }, { on := 19, ground := Go.Ground.phase }, { on := 20, ground := Go.Ground.phase }, { on := 21, ground := Go.Ground.phase }, { on := 22, ground := Go.Ground.phase }, { on := 23, ground := Go.Ground.phase }, { on := 24, ground := Go.Ground.phase }, { on := 25, ground := Go.Ground.phase }, { on := 26, ground := Go.Ground.phase }], guard := none }) (v := ?_) rfl (by kernel_rfl) (by kernel_rfl) (by kernel_rfl) (fun _ _ _ h => h) (Or.inl ⟨by rfl, ?_⟩) (by assumption) ?_
  rotate_left
  · intro w hSw; (try dsimp only at hSw); go_simp; (try with_reducible rfl)
  try simp only [Act.put, List.setIfInBounds_toArray, List.set_cons_zero, List.set_cons_succ]
  refine wpAnyH_take (i := 28) (oi := { dst := some 4, op := Go.Op.assign (Go.Operand.tmp 41), type := 30, pos := "datetime.go:134", after := #[{ on := 25, ground := Go.Ground.data }, { on := 27, ground := Go.Ground.chain }, { on := 0, ground := Go.Ground.phase }, { on := 1, ground := Go.Ground.phase }, { on := 2, ground := Go.Ground.phase }, { on := 3, ground := Go.Ground.phase }, { on := 4, ground := Go.Ground.phase }, { on := 5, ground := Go.Ground.phase }, { on := 6, ground := Go.Ground.phase }, { on := 7, ground := Go.Ground.phase }, { on := 8, ground := Go.Ground.phase }, { on := 9, ground := Go.Ground.phase }, { on := 10, ground := Go.Ground.phase }, { on := 11, ground := Go.Ground.phase }, { on := 12, ground := Go.Ground.phase }, { on := 13, ground := Go.Ground.phase }, { on := 14, ground := Go.Ground.phase }, { on := 15, ground := Go.Ground.phase }, { on := 16, ground := Go.Ground.phase }, { on := 17, ground := Go.Ground.phase }, { on := 18, ground := Go.Ground.phase }, { on := 19, ground := Go.Ground.phase }, { on := 20, ground := Go.Ground.phase }, { on := 21, ground := Go.Ground.phase }, { on := 22, ground := Go.Ground.phase }, { on := 23, ground := Go.Ground.phase }, { on := 24, ground := Go.Ground.phase }, { on := 25, ground := Go.Ground.phase }, { on := 26, ground := Go.Ground.phase }, { on := 27, ground := Go.Ground.phase }], guard := none }) (v := ?_) rfl (by kernel_rfl) (by kernel_rfl) (by kernel_rfl) (fun _ _ _ h => h) (Or.inl ⟨by rfl, ?_⟩) (by assumption) ?_
  rotate_left
  · intro w hSw; (try dsimp only at hSw); go_simp; (try with_reducible rfl)
  try simp only [Act.put, List.setIfInBounds_toArray, List.set_cons_zero, List.set_cons_succ]
  refine wpAnyH_done (by kernel_rfl) ?_ _
  refine NoPanic.normal ?_
  clear wb ws
  all_goals (go_wp2; go_ret3; exact ⟨rfl, by (repeat' (first | (with_reducible exact Below.refl _ _) | (with_reducible refine Below.alloc ?_ ?_ _) | (with_reducible refine Below.setCell ?_ ?_ _) | (with_reducible refine Below.drew ?_) | (with_reducible refine below_drewN' ?_) | (with_reducible refine below_bytesW ?_ ?_) | (with_reducible refine Below.trans ?_ (Below.mono (by assumption) ?_)) | omega | (simp only [World.size_alloc, World.size_setCell, World.size_drew]; omega) | (simp [size_bytesW]; omega) | (simp; omega)))⟩)
end Go.Proofs.YtjbhokmkmapkoaaGreatDoor.Dt
