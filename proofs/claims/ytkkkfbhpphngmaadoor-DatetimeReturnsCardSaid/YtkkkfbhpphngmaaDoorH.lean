/- Contracts of ReadStamp of package datetime, for every string. -/
import Derived.Test.YtkkkfbhpphngmaaDoorR
import Derived.Deep.DeepCutAuto
import Derived.Deep.CutBlock
namespace Go.Proofs.YtkkkfbhpphngmaaDoor
set_option linter.unusedSimpArgs false
set_option linter.unusedVariables false
open Go.RowKit

/-- The world behind a string's conversion to bytes. -/
def bytesW (w : World) (e : TypeId) (s : ByteArray) : World :=
  w.drew.alloc (.cells (bytesRow s (grownCap w s.size 0 e)) e ((bytesRow s (grownCap w s.size 0 e)).size, (bytesRow s (grownCap w s.size 0 e)).size + 1))
theorem size_bytesW (w : World) (e : TypeId) (s : ByteArray) : (bytesW w e s).heap.size = w.heap.size + 1 := World.size_alloc _ _
theorem conv_bytesW {P : Program} (src dst e : TypeId) (hs : P.underlying src = some .string) (hd : P.underlying dst = some (.slice e)) (he : P.underlying e = some (.int .u8)) (w : World) (s : ByteArray) :
    (convert src dst (.string s)).run P w = .ok (.slice (some ⟨w.heap.size, 0, none⟩) s.size (grownCap w s.size 0 e)) (bytesW w e s) := run_bytes_of_string w src dst e s hs hd he
theorem cell_bytesW (w : World) (e : TypeId) (s : ByteArray) (n j : Nat) (hn : n = w.heap.size) (hj : j < s.size) : (bytesW w e s).cell? ⟨n, j, none⟩ = some (.int .u8 (s[j].toNat : Int)) := by
  subst hn
  have h := World.cell?_alloc_mark w.drew (bytesRow s (grownCap w s.size 0 e)) e ((bytesRow s (grownCap w s.size 0 e)).size, (bytesRow s (grownCap w s.size 0 e)).size + 1) j
  exact h.trans (bytesRow_at s _ j hj)
theorem below_bytesW {B : Nat} {a w : World} {e : TypeId} {s : ByteArray} (h : Below B a w) (hB : B ≤ w.heap.size) : Below B a (bytesW w e s) := Below.alloc (Below.drew h) hB _

open Go.PlainAid (bt get_bt bt_nonneg bt_le)
theorem size_dN (w : World) (n : Nat) : w.heap.size ≤ (w.drewN n).heap.size := Nat.le_refl _
theorem size_bd (w : World) (n : Nat) (e : TypeId) (s : ByteArray) : w.heap.size ≤ (bytesW (w.drewN n) e s).drew.heap.size := by
  rw [World.size_drew, size_bytesW]; exact Nat.le_succ _
def z1 (k : Int) : Int := if k % 4096 < 2048 then k % 4096 else k % 4096 - 4096
def rsZ (k : Int) : Int := if k < 4096 ∨ (k < 8192 ∧ z1 k = -2047) then 0 else z1 k
def rsR (k : Int) : Bool := decide (k < 4096 ∨ (k < 8192 ∧ (z1 k = -2047 ∨ (-1440 ≤ z1 k ∧ z1 k ≤ 1440))))
def tailB (s : ByteArray) : Bool := decide (bt s 9 ≤ 99 ∧ bt s 10 ≤ 99 ∧ bt s 11 ≤ 99)

theorem ex_cell (s : ByteArray) (hs : s.size = 12) (e : TypeId) (W : World) (n j : Nat) (hn : n = W.heap.size) (hj : j < 3) : (bytesW W e (s.extract 9 12)).cell? ⟨n, j, none⟩ = some (.int .u8 (bt s (9 + j))) := by
  have hx : (s.extract 9 12).size = 3 := by simp [hs]
  rw [cell_bytesW W e _ n j hn (by omega), ← get_bt s (9 + j) (by omega), ByteArray.getElem_extract]


def rT (s : ByteArray) (k : Int) (i : Nat) : Bool := rsR k && decide (∀ m : Nat, m < i → bt s (9 + m) ≤ 99)
theorem rT_zero (s : ByteArray) (k : Int) : rT s k 0 = rsR k := by unfold rT; simp
theorem rT_no {s : ByteArray} {k : Int} {i : Nat} (h : rT s k i = false) : rT s k (i + 1) = false := by
  unfold rT at *
  cases hr : rsR k
  · simp
  · rw [hr] at h
    simp only [Bool.true_and, decide_eq_false_iff_not] at h ⊢
    exact fun hh => h (fun m hm => hh m (by omega))
theorem rT_step {s : ByteArray} {k : Int} {i : Nat} (h : rT s k i = true) : rT s k (i + 1) = decide (bt s (9 + i) ≤ 99) := by
  unfold rT at *
  simp only [Bool.and_eq_true, decide_eq_true_eq] at h
  rw [h.1, Bool.true_and]
  apply dec_eq
  constructor
  · exact fun hh => hh i (by omega)
  · intro hh m hm
    rcases Nat.lt_or_ge m i with h' | h'
    · exact h.2 m h'
    · obtain rfl : m = i := by omega
      exact hh
theorem rT_end (s : ByteArray) (k : Int) : rT s k 3 = (rsR k && tailB s) := by
  unfold rT tailB
  congr 1
  apply dec_eq
  constructor
  · exact fun h => ⟨h 0 (by omega), h 1 (by omega), h 2 (by omega)⟩
  · rintro ⟨h0, h1, h2⟩ m hm
    rcases (show m = 0 ∨ m = 1 ∨ m = 2 by omega) with rfl | rfl | rfl
    · exact h0
    · exact h1
    · exact h2
theorem rsR_zone {k : Int} {b : Bool} (h : (rsR k && b) = true) : zoneB (rsZ k) = true := by
  simp only [Bool.and_eq_true] at h
  have h := h.1
  unfold rsR at h
  have h := of_decide_eq_true h
  unfold rsZ
  rw [zoneB_true]
  split <;> omega
theorem z1_bd (k : Int) : -2048 ≤ z1 k ∧ z1 k ≤ 2047 := by unfold z1; split <;> omega
/-- The switch: the zone and the flag. -/
theorem rs_cases (k : Int) (h0 : 0 ≤ k) : (k < 4096 ∧ rsZ k = 0 ∧ rsR k = true) ∨ (4096 ≤ k ∧ k < 8192 ∧ z1 k = -2047 ∧ rsZ k = 0 ∧ rsR k = true) ∨ (8192 ≤ k ∧ rsZ k = z1 k ∧ rsR k = false) ∨
    (4096 ≤ k ∧ k < 8192 ∧ z1 k ≠ -2047 ∧ zoneB (z1 k) = true ∧ rsZ k = z1 k ∧ rsR k = true) ∨ (4096 ≤ k ∧ k < 8192 ∧ z1 k ≠ -2047 ∧ zoneB (z1 k) = false ∧ rsZ k = z1 k ∧ rsR k = false) := by
  unfold rsZ rsR
  by_cases a : k < 4096
  · left; simp [a]
  · right
    by_cases b : k < 8192
    · by_cases c : z1 k = -2047
      · left; simp [a, b, c]; omega
      · right; right
        have hr : (zoneB (z1 k) = true ∧ (-1440 ≤ z1 k ∧ z1 k ≤ 1440)) ∨ (zoneB (z1 k) = false ∧ ¬ (-1440 ≤ z1 k ∧ z1 k ≤ 1440)) := by
          cases hz : zoneB (z1 k)
          · exact Or.inr ⟨rfl, zoneB_false.1 hz⟩
          · exact Or.inl ⟨rfl, zoneB_true.1 hz⟩
        rcases hr with ⟨hz, hy⟩ | ⟨hz, hy⟩
        · left; simp [a, b, c, hz, hy]; omega
        · right; simp [a, b, c, hz, hy]; omega
    · right; left; simp [a, b]; omega

set_option maxHeartbeats 400000 in
theorem readStamp_no (s : ByteArray) (hs : ¬ s.size = 12) (w : World) : Calls Tryd.prog 25 #[.string s] w fun e w' => e = .returned (.tuple #[.int .i64 0, .int .i64 0, .int .i64 1]) ∧ Below w.heap.size w w' := by
  obtain ⟨h1, h2⟩ := size_ne hs
  have HL : Live w [] := trivial
  go_enter Tryd.func25, Tryd.ntmps25
  go_wp2
  go_ret3
  exact ⟨rfl, by (repeat' (first | (with_reducible exact Below.refl _ _) | (with_reducible refine Below.alloc ?_ ?_ _) | (with_reducible refine Below.setCell ?_ ?_ _) | (with_reducible refine Below.drew ?_) | (with_reducible refine below_drewN' ?_) | (with_reducible refine below_bytesW ?_ ?_) | (with_reducible refine Below.trans ?_ (Below.mono (by assumption) ?_)) | omega | (simp only [World.size_alloc, World.size_setCell, World.size_drew]; omega) | (simp [size_bytesW]; omega) | (simp; omega)))⟩
set_option maxRecDepth 100000 in
set_option maxHeartbeats 2000000 in
theorem readStamp_yes (s : ByteArray) (hs : s.size = 12) (w : World) : Calls Tryd.prog 25 #[.string s] w (RoP (bt s 2 + 256 * bt s 3) (bt s 4) (bt s 5) (bt s 6) (bt s 7) (bt s 8) (rsZ (bt s 0 + 256 * bt s 1)) (rsR (bt s 0 + 256 * bt s 1) && tailB s) w) := by
  have hg := get_bt s
  have b0 := bt_nonneg s 0
  have b0' := bt_le s 0
  have b1 := bt_nonneg s 1
  have b1' := bt_le s 1
  have b2 := bt_nonneg s 2
  have b2' := bt_le s 2
  have b3 := bt_nonneg s 3
  have b3' := bt_le s 3
  have o1 := or256 (bt s 0) (bt s 1) b0 b0' b1 b1'
  have o2 := and4095 (bt s 0 + 256 * bt s 1) (by omega) (by omega)
  have o3 := or256 (bt s 2) (bt s 3) b2 b2' b3 b3'
  have RD := hide (fun W => read_any (bt s 2 + 256 * bt s 3) (bt s 4) (bt s 5) (bt s 6) (bt s 7) (bt s 8) (rsZ (bt s 0 + 256 * bt s 1)) (rsR (bt s 0 + 256 * bt s 1) && tailB s) rsR_zone W)
  have kc := fun (W : World) => conv_bytesW (P := Tryd.prog) 9 47 5 Tryd.underlying9 Tryd.underlying47 Tryd.underlying5 W (s.extract 9 12)
  have hx : (s.extract 9 12).size = 3 := by simp [hs]
  have RE := hide (rT_end s (bt s 0 + 256 * bt s 1))
  have R0 := hide (rT_zero s (bt s 0 + 256 * bt s 1))
  have HL : Live w [] := trivial
  go_enter Tryd.func25, Tryd.ntmps25
  go_upto_region 3 with fail
  go_quiet (fail)
  generalize hk : bt s 0 + 256 * bt s 1 = k at *
  have hk0 : 0 ≤ k ∧ k ≤ 65535 := by omega
  clear hk
  go_upto_if 24 with fail
  go_cut [6] (fun z wx => z = .int .i64 (z1 k) ∧ w.drewN nq = wx)
  case first =>
    by_cases h2 : k % 4096 < 2048
    · have e := hide (show z1 k = k % 4096 by unfold z1; rw [if_pos h2])
      go_wp2
      go_meet
      exact ⟨by rw [e.out], rfl⟩
    · have e := hide (show z1 k = k % 4096 - 4096 by unfold z1; rw [if_neg h2])
      go_wp2
      go_meet
      exact ⟨by rw [e.out], rfl⟩
  case rest =>
    obtain ⟨rfl, rfl⟩ := hcut
    have zb := z1_bd k
    go_upto_block 0 with fail
    go_cut [6, 7] (fun z r wx => z = .int .i64 (rsZ k) ∧ r = .bool (rsR k) ∧ w.drewN nq = wx)
    case first =>
      rcases rs_cases k hk0.1 with ⟨c1, e1, e2⟩ | ⟨c1, c2, c3, e1, e2⟩ | ⟨c1, e1, e2⟩ | ⟨c1, c2, c3, c4, e1, e2⟩ | ⟨c1, c2, c3, c4, e1, e2⟩
      · have E1 := hide e1
        have E2 := hide e2
        clear e1 e2
        go_wp2
        go_meet
        exact ⟨by rw [E1.out], by rw [E2.out], rfl⟩
      · have E1 := hide e1
        have E2 := hide e2
        clear e1 e2
        have b3 : (z1 k == -2047) = true := by simp [c3]
        clear c3
        go_wp2
        go_meet
        exact ⟨by rw [E1.out], by rw [E2.out], rfl⟩
      · have E1 := hide e1
        have E2 := hide e2
        clear e1 e2
        go_wp2
        go_meet
        exact ⟨by rw [E1.out], by rw [E2.out], rfl⟩
      · have E1 := hide e1
        have E2 := hide e2
        clear e1 e2
        have b3 : (z1 k == -2047) = false := by simp [c3]
        go_wp2_with (first | (go_at_call 34; (with_reducible refine (isZone_any _ _).mono ?_); rintro e w' ⟨rfl, rfl⟩))
        go_meet
        exact ⟨by rw [E1.out], by rw [E2.out], rfl⟩
      · have E1 := hide e1
        have E2 := hide e2
        clear e1 e2
        have b3 : (z1 k == -2047) = false := by simp [c3]
        go_wp2_with (first | (go_at_call 34; (with_reducible refine (isZone_any _ _).mono ?_); rintro e w' ⟨rfl, rfl⟩))
        go_meet
        exact ⟨by rw [E1.out], by rw [E2.out], rfl⟩
    case rest =>
      obtain ⟨rfl, rfl, rfl⟩ := hcut
      go_wp2
      go_loop [7, 53] (fun r j => ∃ i : Nat, i ≤ 3 ∧ j = .int .i64 i ∧ r = .bool (rT s k i)) (fun _ j => 3 - (intOf j).toNat)
      case atStart => exact ⟨0, by omega, rfl, by rw [R0.out]⟩
      case round =>
        obtain ⟨i, hi, rfl, rfl⟩ := hrel
        by_cases hlt : i < 3
        · have hcell := ex_cell s hs 5 (w.drewN nq) w.heap.size i rfl hlt
          have g1 := bt_nonneg s (9 + i)
          have g2 := bt_le s (9 + i)
          cases hT : rT s k i
          · have e := hide (rT_no hT)
            go_wp2
            all_goals
              go_round
              case rel => exact ⟨i + 1, by omega, by go_num, by rw [e.out]⟩
              case measure => simp [intOf]; omega
          · have e := hide (rT_step hT)
            go_wp2
            all_goals
              go_round
              case rel => exact ⟨i + 1, by omega, by go_num, by rw [e.out]⟩
              case measure => simp [intOf]; omega
        · obtain rfl : i = 3 := by omega
          rw [RE.out]
          have wb : ∀ j, IntKind.i64.wrap (bt s j) = bt s j := fun j => IntWalk.i64_in _ ⟨by have := bt_nonneg s j; omega, by have := bt_le s j; omega⟩
          have ws : IntKind.i64.wrap (bt s 3 * 256) = bt s 3 * 256 := IntWalk.i64_in _ (by omega)
          go_wp2_with fail
          refine wp_region_noPanic ?_
          refine wp_region_held_drew (S := (fun _ => True ∧ True)) (by kernel_rfl) (by (try dsimp only); first | assumption | (simp [*, go_sem]; done) | (refine ⟨?_, ?_⟩ <;> simp [*, go_sem])) (fun hHeld => ?_)
          refine wpAnyH_take (i := 0) (oi := { dst := some 63, op := Go.Op.move (Go.Operand.tmp 0), type := 9, pos := "datetime.go:212", after := #[], guard := none }) (v := ?_) rfl (by kernel_rfl) (by kernel_rfl) (by kernel_rfl) (fun _ _ _ h => h) (Or.inl ⟨by rfl, ?_⟩) (by assumption) ?_
          rotate_left
          · intro w hSw; (try dsimp only at hSw); go_simp; (try with_reducible rfl)
          try simp only [Act.put, List.setIfInBounds_toArray, List.set_cons_zero, List.set_cons_succ]
          refine wpAnyH_take (i := 1) (oi := { dst := some 64, op := Go.Op.index 9 (Go.Operand.tmp 63) (Go.Operand.const (Go.Value.int Go.IntKind.i64 2)), type := 5, pos := "datetime.go:212", after := #[{ on := 0, ground := Go.Ground.data }], guard := none }) (v := ?_) rfl (by kernel_rfl) (by kernel_rfl) (by kernel_rfl) (fun _ _ _ h => h) (Or.inl ⟨by rfl, ?_⟩) (by assumption) ?_
          rotate_left
          · intro w hSw; (try dsimp only at hSw); go_simp; (try with_reducible rfl)
          try simp only [Act.put, List.setIfInBounds_toArray, List.set_cons_zero, List.set_cons_succ]
          refine wpAnyH_take (i := 2) (oi := { dst := some 65, op := Go.Op.convert 5 3 (Go.Operand.tmp 64), type := 3, pos := "datetime.go:212", after := #[{ on := 1, ground := Go.Ground.data }], guard := none }) (v := ?_) rfl (by kernel_rfl) (by kernel_rfl) (by kernel_rfl) (fun _ _ _ h => h) (Or.inl ⟨by rfl, ?_⟩) (by assumption) ?_
          rotate_left
          · intro w hSw; (try dsimp only at hSw); go_simp; (try with_reducible rfl)
          try simp only [Act.put, List.setIfInBounds_toArray, List.set_cons_zero, List.set_cons_succ]
          refine wpAnyH_take (i := 3) (oi := { dst := some 66, op := Go.Op.move (Go.Operand.tmp 0), type := 9, pos := "datetime.go:212", after := #[], guard := none }) (v := ?_) rfl (by kernel_rfl) (by kernel_rfl) (by kernel_rfl) (fun _ _ _ h => h) (Or.inl ⟨by rfl, ?_⟩) (by assumption) ?_
          rotate_left
          · intro w hSw; (try dsimp only at hSw); go_simp; (try with_reducible rfl)
          try simp only [Act.put, List.setIfInBounds_toArray, List.set_cons_zero, List.set_cons_succ]
          refine wpAnyH_take (i := 4) (oi := { dst := some 67, op := Go.Op.index 9 (Go.Operand.tmp 66) (Go.Operand.const (Go.Value.int Go.IntKind.i64 3)), type := 5, pos := "datetime.go:212", after := #[{ on := 3, ground := Go.Ground.data }], guard := none }) (v := ?_) rfl (by kernel_rfl) (by kernel_rfl) (by kernel_rfl) (fun _ _ _ h => h) (Or.inl ⟨by rfl, ?_⟩) (by assumption) ?_
          rotate_left
          · intro w hSw; (try dsimp only at hSw); go_simp; (try with_reducible rfl)
          try simp only [Act.put, List.setIfInBounds_toArray, List.set_cons_zero, List.set_cons_succ]
          refine wpAnyH_take (i := 5) (oi := { dst := some 68, op := Go.Op.convert 5 3 (Go.Operand.tmp 67), type := 3, pos := "datetime.go:212", after := #[{ on := 4, ground := Go.Ground.data }], guard := none }) (v := ?_) rfl (by kernel_rfl) (by kernel_rfl) (by kernel_rfl) (fun _ _ _ h => h) (Or.inl ⟨by rfl, ?_⟩) (by assumption) ?_
          rotate_left
          · intro w hSw; (try dsimp only at hSw); go_simp; (try with_reducible rfl)
          try simp only [Act.put, List.setIfInBounds_toArray, List.set_cons_zero, List.set_cons_succ]
          refine wpAnyH_take (i := 6) (oi := { dst := some 69, op := Go.Op.binOp Go.BinOp.shl 3 (Go.Operand.tmp 68) (Go.Operand.const (Go.Value.int Go.IntKind.u64 8)) 53, type := 3, pos := "datetime.go:212", after := #[{ on := 5, ground := Go.Ground.data }], guard := none }) (v := ?_) rfl (by kernel_rfl) (by kernel_rfl) (by kernel_rfl) (fun _ _ _ h => h) (Or.inl ⟨by rfl, ?_⟩) (by assumption) ?_
          rotate_left
          · intro w hSw; (try dsimp only at hSw); go_simp; (try with_reducible rfl)
          try simp only [Act.put, List.setIfInBounds_toArray, List.set_cons_zero, List.set_cons_succ]
          refine wpAnyH_take (i := 7) (oi := { dst := some 70, op := Go.Op.binOp Go.BinOp.or 3 (Go.Operand.tmp 65) (Go.Operand.tmp 69) 3, type := 3, pos := "datetime.go:212", after := #[{ on := 2, ground := Go.Ground.data }, { on := 6, ground := Go.Ground.data }], guard := none }) (v := ?_) rfl (by kernel_rfl) (by kernel_rfl) (by kernel_rfl) (fun _ _ _ h => h) (Or.inl ⟨by rfl, ?_⟩) (by assumption) ?_
          rotate_left
          · intro w hSw; (try dsimp only at hSw); go_simp; (try with_reducible rfl)
          try simp only [Act.put, List.setIfInBounds_toArray, List.set_cons_zero, List.set_cons_succ]
          refine wpAnyH_take (i := 8) (oi := { dst := some 71, op := Go.Op.move (Go.Operand.tmp 0), type := 9, pos := "datetime.go:212", after := #[], guard := none }) (v := ?_) rfl (by kernel_rfl) (by kernel_rfl) (by kernel_rfl) (fun _ _ _ h => h) (Or.inl ⟨by rfl, ?_⟩) (by assumption) ?_
          rotate_left
          · intro w hSw; (try dsimp only at hSw); go_simp; (try with_reducible rfl)
          try simp only [Act.put, List.setIfInBounds_toArray, List.set_cons_zero, List.set_cons_succ]
          refine wpAnyH_take (i := 9) (oi := { dst := some 72, op := Go.Op.index 9 (Go.Operand.tmp 71) (Go.Operand.const (Go.Value.int Go.IntKind.i64 4)), type := 5, pos := "datetime.go:212", after := #[{ on := 8, ground := Go.Ground.data }], guard := none }) (v := ?_) rfl (by kernel_rfl) (by kernel_rfl) (by kernel_rfl) (fun _ _ _ h => h) (Or.inl ⟨by rfl, ?_⟩) (by assumption) ?_
          rotate_left
          · intro w hSw; (try dsimp only at hSw); go_simp; (try with_reducible rfl)
          try simp only [Act.put, List.setIfInBounds_toArray, List.set_cons_zero, List.set_cons_succ]
          refine wpAnyH_take (i := 10) (oi := { dst := some 73, op := Go.Op.convert 5 3 (Go.Operand.tmp 72), type := 3, pos := "datetime.go:212", after := #[{ on := 9, ground := Go.Ground.data }], guard := none }) (v := ?_) rfl (by kernel_rfl) (by kernel_rfl) (by kernel_rfl) (fun _ _ _ h => h) (Or.inl ⟨by rfl, ?_⟩) (by assumption) ?_
          rotate_left
          · intro w hSw; (try dsimp only at hSw); go_simp; (try with_reducible rfl)
          try simp only [Act.put, List.setIfInBounds_toArray, List.set_cons_zero, List.set_cons_succ]
          refine wpAnyH_take (i := 11) (oi := { dst := some 74, op := Go.Op.move (Go.Operand.tmp 0), type := 9, pos := "datetime.go:212", after := #[], guard := none }) (v := ?_) rfl (by kernel_rfl) (by kernel_rfl) (by kernel_rfl) (fun _ _ _ h => h) (Or.inl ⟨by rfl, ?_⟩) (by assumption) ?_
          rotate_left
          · intro w hSw; (try dsimp only at hSw); go_simp; (try with_reducible rfl)
          try simp only [Act.put, List.setIfInBounds_toArray, List.set_cons_zero, List.set_cons_succ]
          refine wpAnyH_take (i := 12) (oi := { dst := some 75, op := Go.Op.index 9 (Go.Operand.tmp 74) (Go.Operand.const (Go.Value.int Go.IntKind.i64 5)), type := 5, pos := "datetime.go:212", after := #[{ on := 11, ground := Go.Ground.data }], guard := none }) (v := ?_) rfl (by kernel_rfl) (by kernel_rfl) (by kernel_rfl) (fun _ _ _ h => h) (Or.inl ⟨by rfl, ?_⟩) (by assumption) ?_
          rotate_left
          · intro w hSw; (try dsimp only at hSw); go_simp; (try with_reducible rfl)
          try simp only [Act.put, List.setIfInBounds_toArray, List.set_cons_zero, List.set_cons_succ]
          refine wpAnyH_take (i := 13) (oi := { dst := some 76, op := Go.Op.convert 5 3 (Go.Operand.tmp 75), type := 3, pos := "datetime.go:212", after := #[{ on := 12, ground := Go.Ground.data }], guard := none }) (v := ?_) rfl (by kernel_rfl) (by kernel_rfl) (by kernel_rfl) (fun _ _ _ h => h) (Or.inl ⟨by rfl, ?_⟩) (by assumption) ?_
          rotate_left
          · intro w hSw; (try dsimp only at hSw); go_simp; (try with_reducible rfl)
          try simp only [Act.put, List.setIfInBounds_toArray, List.set_cons_zero, List.set_cons_succ]
          refine wpAnyH_take (i := 14) (oi := { dst := some 77, op := Go.Op.move (Go.Operand.tmp 0), type := 9, pos := "datetime.go:212", after := #[], guard := none }) (v := ?_) rfl (by kernel_rfl) (by kernel_rfl) (by kernel_rfl) (fun _ _ _ h => h) (Or.inl ⟨by rfl, ?_⟩) (by assumption) ?_
          rotate_left
          · intro w hSw; (try dsimp only at hSw); go_simp; (try with_reducible rfl)
          try simp only [Act.put, List.setIfInBounds_toArray, List.set_cons_zero, List.set_cons_succ]
          refine wpAnyH_take (i := 15) (oi := { dst := some 78, op := Go.Op.index 9 (Go.Operand.tmp 77) (Go.Operand.const (Go.Value.int Go.IntKind.i64 6)), type := 5, pos := "datetime.go:212", after := #[{ on := 14, ground := Go.Ground.data }], guard := none }) (v := ?_) rfl (by kernel_rfl) (by kernel_rfl) (by kernel_rfl) (fun _ _ _ h => h) (Or.inl ⟨by rfl, ?_⟩) (by assumption) ?_
          rotate_left
          · intro w hSw; (try dsimp only at hSw); go_simp; (try with_reducible rfl)
          try simp only [Act.put, List.setIfInBounds_toArray, List.set_cons_zero, List.set_cons_succ]
          refine wpAnyH_take (i := 16) (oi := { dst := some 79, op := Go.Op.convert 5 3 (Go.Operand.tmp 78), type := 3, pos := "datetime.go:212", after := #[{ on := 15, ground := Go.Ground.data }], guard := none }) (v := ?_) rfl (by kernel_rfl) (by kernel_rfl) (by kernel_rfl) (fun _ _ _ h => h) (Or.inl ⟨by rfl, ?_⟩) (by assumption) ?_
          rotate_left
          · intro w hSw; (try dsimp only at hSw); go_simp; (try with_reducible rfl)
          try simp only [Act.put, List.setIfInBounds_toArray, List.set_cons_zero, List.set_cons_succ]
          refine wpAnyH_take (i := 17) (oi := { dst := some 80, op := Go.Op.move (Go.Operand.tmp 0), type := 9, pos := "datetime.go:212", after := #[], guard := none }) (v := ?_) rfl (by kernel_rfl) (by kernel_rfl) (by kernel_rfl) (fun _ _ _ h => h) (Or.inl ⟨by rfl, ?_⟩) (by assumption) ?_
          rotate_left
          · intro w hSw; (try dsimp only at hSw); go_simp; (try with_reducible rfl)
          try simp only [Act.put, List.setIfInBounds_toArray, List.set_cons_zero, List.set_cons_succ]
          refine wpAnyH_take (i := 18) (oi := { dst := some 81, op := Go.Op.index 9 (Go.Operand.tmp 80) (Go.Operand.const (Go.Value.int Go.IntKind.i64 7)), type := 5, pos := "datetime.go:212", after := #[{ on := 17, ground := Go.Ground.data }], guard := none }) (v := ?_) rfl (by kernel_rfl) (by kernel_rfl) (by kernel_rfl) (fun _ _ _ h => h) (Or.inl ⟨by rfl, ?_⟩) (by assumption) ?_
          rotate_left
          · intro w hSw; (try dsimp only at hSw); go_simp; (try with_reducible rfl)
          try simp only [Act.put, List.setIfInBounds_toArray, List.set_cons_zero, List.set_cons_succ]
          refine wpAnyH_take (i := 19) (oi := { dst := some 82, op := Go.Op.convert 5 3 (Go.Operand.tmp 81), type := 3, pos := "datetime.go:212", after := #[{ on := 18, ground := Go.Ground.data }], guard := none }) (v := ?_) rfl (by kernel_rfl) (by kernel_rfl) (by kernel_rfl) (fun _ _ _ h => h) (Or.inl ⟨by rfl, ?_⟩) (by assumption) ?_
          rotate_left
          · intro w hSw; (try dsimp only at hSw); go_simp; (try with_reducible rfl)
          try simp only [Act.put, List.setIfInBounds_toArray, List.set_cons_zero, List.set_cons_succ]
          refine wpAnyH_take (i := 20) (oi := { dst := some 83, op := Go.Op.move (Go.Operand.tmp 0), type := 9, pos := "datetime.go:212", after := #[], guard := none }) (v := ?_) rfl (by kernel_rfl) (by kernel_rfl) (by kernel_rfl) (fun _ _ _ h => h) (Or.inl ⟨by rfl, ?_⟩) (by assumption) ?_
          rotate_left
          · intro w hSw; (try dsimp only at hSw); go_simp; (try with_reducible rfl)
          try simp only [Act.put, List.setIfInBounds_toArray, List.set_cons_zero, List.set_cons_succ]
          refine wpAnyH_take (i := 21) (oi := { dst := some 84, op := Go.Op.index 9 (Go.Operand.tmp 83) (Go.Operand.const (Go.Value.int Go.IntKind.i64 8)), type := 5, pos := "datetime.go:212", after := #[{ on := 20, ground := Go.Ground.data }], guard := none }) (v := ?_) rfl (by kernel_rfl) (by kernel_rfl) (by kernel_rfl) (fun _ _ _ h => h) (Or.inl ⟨by rfl, ?_⟩) (by assumption) ?_
          rotate_left
          · intro w hSw; (try dsimp only at hSw); go_simp; (try with_reducible rfl)
          try simp only [Act.put, List.setIfInBounds_toArray, List.set_cons_zero, List.set_cons_succ]
          refine wpAnyH_take (i := 22) (oi := { dst := some 85, op := Go.Op.convert 5 3 (Go.Operand.tmp 84), type := 3, pos := "datetime.go:212", after := #[{ on := 21, ground := Go.Ground.data }], guard := none }) (v := ?_) rfl (by kernel_rfl) (by kernel_rfl) (by kernel_rfl) (fun _ _ _ h => h) (Or.inl ⟨by rfl, ?_⟩) (by assumption) ?_
          rotate_left
          · intro w hSw; (try dsimp only at hSw); go_simp; (try with_reducible rfl)
          try simp only [Act.put, List.setIfInBounds_toArray, List.set_cons_zero, List.set_cons_succ]
          refine wpAnyH_take (i := 23) (oi := { dst := some 86, op := Go.Op.build 23 #[(0, Go.Operand.tmp 70), (1, Go.Operand.tmp 73), (2, Go.Operand.tmp 76), (3, Go.Operand.tmp 79), (4, Go.Operand.tmp 82), (5, Go.Operand.tmp 85)], type := 23, pos := "datetime.go:212", after := #[{ on := 7, ground := Go.Ground.data }, { on := 10, ground := Go.Ground.data }, { on := 13, ground := Go.Ground.data }, { on := 16, ground := Go.Ground.data }, { on := 19, ground := Go.Ground.data }, { on := 22, ground := Go.Ground.data }], guard := none }) (v := ?_) rfl (by kernel_rfl) (by kernel_rfl) (by kernel_rfl) (fun _ _ _ h => h) (Or.inl ⟨by rfl, ?_⟩) (by assumption) ?_
          rotate_left
          · intro w hSw; (try dsimp only at hSw); go_simp; (try with_reducible rfl)
          try simp only [Act.put, List.setIfInBounds_toArray, List.set_cons_zero, List.set_cons_succ]
          refine wpAnyH_take (i := 24) (oi := { dst := some 87, op := Go.Op.move (Go.Operand.tmp 6), type := 3, pos := "datetime.go:212", after := #[], guard := none }) (v := ?_) rfl (by kernel_rfl) (by kernel_rfl) (by kernel_rfl) (fun _ _ _ h => h) (Or.inl ⟨by rfl, ?_⟩) (by assumption) ?_
          rotate_left
          · intro w hSw; (try dsimp only at hSw); go_simp; (try with_reducible rfl)
          try simp only [Act.put, List.setIfInBounds_toArray, List.set_cons_zero, List.set_cons_succ]
          refine wpAnyH_take (i := 25) (oi := { dst := some 88, op := Go.Op.move (Go.Operand.tmp 7), type := 4, pos := "datetime.go:212", after := #[], guard := none }) (v := ?_) rfl (by kernel_rfl) (by kernel_rfl) (by kernel_rfl) (fun _ _ _ h => h) (Or.inl ⟨by rfl, ?_⟩) (by assumption) ?_
          rotate_left
          · intro w hSw; (try dsimp only at hSw); go_simp; (try with_reducible rfl)
          try simp only [Act.put, List.setIfInBounds_toArray, List.set_cons_zero, List.set_cons_succ]
          refine wpAnyH_ready (rs := [26]) (by kernel_rfl) (by simp) ?_
          refine AllReadyH.cons (o := { dst := some 89, op := Go.Op.call { callee := Go.Callee.value (Go.Operand.func 45), args := #[Go.Operand.tmp 86, Go.Operand.tmp 87, Go.Operand.tmp 88], argTypes := #[23, 3, 4] }, type := 36, pos := "datetime.go:212", after := #[{ on := 23, ground := Go.Ground.data }, { on := 24, ground := Go.Ground.data }, { on := 25, ground := Go.Ground.data }], guard := none }) rfl (fun K hK => ?_) AllReadyH.nil
          go_simp
          (first | (go_at_call 45; (with_reducible refine (RD.out _).mono ?_); rintro e w' ⟨rfl, hb⟩; have hz := hb.size))
          go_wp2_with fail
          refine hK.out _ _ (by (try dsimp only); first | assumption | (simp [*, go_sem]; done) | (refine ⟨?_, ?_⟩ <;> simp [*, go_sem])) (fun hHeld => ?_)
          clear hK K
          try simp only [Act.put, List.setIfInBounds_toArray, List.set_cons_zero, List.set_cons_succ]
          refine wpAnyH_take (i := 27) (oi := { dst := some 90, op := Go.Op.extract (Go.Operand.tmp 89) 0, type := 3, pos := "datetime.go:212", after := #[{ on := 26, ground := Go.Ground.data }], guard := none }) (v := ?_) rfl (by kernel_rfl) (by kernel_rfl) (by kernel_rfl) (fun _ _ _ h => h) (Or.inl ⟨by rfl, ?_⟩) (by assumption) ?_
          rotate_left
          · intro w hSw; (try dsimp only at hSw); go_simp; (try with_reducible rfl)
          try simp only [Act.put, List.setIfInBounds_toArray, List.set_cons_zero, List.set_cons_succ]
          refine wpAnyH_take (i := 28) (oi := { dst := some 91, op := Go.Op.extract (Go.Operand.tmp 89) 1, type := 3, pos := "datetime.go:212", after := #[{ on := 26, ground := Go.Ground.data }], guard := none }) (v := ?_) rfl (by kernel_rfl) (by kernel_rfl) (by kernel_rfl) (fun _ _ _ h => h) (Or.inl ⟨by rfl, ?_⟩) (by assumption) ?_
          rotate_left
          · intro w hSw; (try dsimp only at hSw); go_simp; (try with_reducible rfl)
          try simp only [Act.put, List.setIfInBounds_toArray, List.set_cons_zero, List.set_cons_succ]
          refine wpAnyH_take (i := 29) (oi := { dst := some 92, op := Go.Op.extract (Go.Operand.tmp 89) 2, type := 25, pos := "datetime.go:212", after := #[{ on := 26, ground := Go.Ground.data }], guard := none }) (v := ?_) rfl (by kernel_rfl) (by kernel_rfl) (by kernel_rfl) (fun _ _ _ h => h) (Or.inl ⟨by rfl, ?_⟩) (by assumption) ?_
          rotate_left
          · intro w hSw; (try dsimp only at hSw); go_simp; (try with_reducible rfl)
          try simp only [Act.put, List.setIfInBounds_toArray, List.set_cons_zero, List.set_cons_succ]
          refine wpAnyH_take (i := 30) (oi := { dst := some 2, op := Go.Op.assign (Go.Operand.tmp 90), type := 3, pos := "datetime.go:212", after := #[{ on := 27, ground := Go.Ground.data }, { on := 26, ground := Go.Ground.chain }, { on := 0, ground := Go.Ground.phase }, { on := 1, ground := Go.Ground.phase }, { on := 2, ground := Go.Ground.phase }, { on := 3, ground := Go.Ground.phase }, { on := 4, ground := Go.Ground.phase }, { on := 5, ground := Go.Ground.phase }, { on := 6, ground := Go.Ground.phase }, { on := 7, ground := Go.Ground.phase }, { on := 8, ground := Go.Ground.phase }, { on := 9, ground := Go.Ground.phase }, { on := 10, ground := Go.Ground.phase }, { on := 11, ground := Go.Ground.phase }, { on := 12, ground := Go.Ground.phase }, { on := 13, ground := Go.Ground.phase }, { on := 14, ground := Go.Ground.phase }, { on := 15, ground := Go.Ground.phase }, { on := 16, ground := Go.Ground.phase }, { on := 17, ground := Go.Ground.phase }, { on := 18, ground := Go.Ground.phase }, { on := 19, ground := Go.Ground.phase }, { on := 20, ground := Go.Ground.phase }, { on := 21, ground := Go.Ground.phase }, { on := 22, ground := Go.Ground.phase }, { on := 23, ground := Go.Ground.phase }, { on := 24, ground := Go.Ground.phase }, { on := 25, ground := Go.Ground.phase }, { on := 26, ground := Go.Ground.phase }, { on := 27, ground := Go.Ground.phase }, { on := 28, ground := Go.Ground.phase }, { on := 29, ground := Go.Ground.phase }], guard := none }) (v := ?_) rfl (by kernel_rfl) (by kernel_rfl) (by kernel_rfl) (fun _ _ _ h => h) (Or.inl ⟨by rfl, ?_⟩) (by assumption) ?_
          rotate_left
          · intro w hSw; (try dsimp only at hSw); go_simp; (try with_reducible rfl)
          try simp only [Act.put, List.setIfInBounds_toArray, List.set_cons_zero, List.set_cons_succ]
          refine wpAnyH_take (i := 31) (oi := { dst := some 3, op := Go.Op.assign (Go.Operand.tmp 91), type := 3, pos := "datetime.go:212", after := #[{ on := 28, ground := Go.Ground.data }, { on := 30, ground := Go.Ground.chain }, { on := 0, ground := Go.Ground.phase }, { on := 1, ground := Go.Ground.phase }, { on := 2, ground := Go.Ground.phase }, { on := 3, ground := Go.Ground.phase }, { on := 4, ground := Go.Ground.phase }, { on := 5, ground := Go.Ground.phase }, { on := 6, ground := Go.Ground.phase }, { on := 7, ground := Go.Ground.phase }, { on := 8, ground := Go.Ground.phase }, { on := 9, ground := Go.Ground.phase }, { on := 10, ground := Go.Ground.phase }, { on := 11, ground := Go.Ground.phase }, { on := 12, ground := Go.Ground.phase }, { on := 13, ground := Go.Ground.phase }, { on := 14, ground := Go.Ground.phase }, { on := 15, ground := Go.Ground.phase }, { on := 16, ground := Go.Ground.phase }, { on := 17, ground := Go.Ground.phase }, { on := 18, ground := Go.Ground.phase }, { on := 19, ground := Go.Ground.phase }, { on := 20, ground := Go.Ground.phase }, { on := 21, ground := Go.Ground.phase }, { on := 22, ground := Go.Ground.phase }, { on := 23, ground := Go.Ground.phase }, { on := 24, ground := Go.Ground.phase }, { on := 25, ground := Go.Ground.phase }, { on := 26, ground := Go.Ground.phase }, { on := 27, ground := Go.Ground.phase }, { on := 28, ground := Go.Ground.phase }, { on := 29, ground := Go.Ground.phase }, { on := 30, ground := Go.Ground.phase }], guard := none }) (v := ?_) rfl (by kernel_rfl) (by kernel_rfl) (by kernel_rfl) (fun _ _ _ h => h) (Or.inl ⟨by rfl, ?_⟩) (by assumption) ?_
          rotate_left
          · intro w hSw; (try dsimp only at hSw); go_simp; (try with_reducible rfl)
          try simp only [Act.put, List.setIfInBounds_toArray, List.set_cons_zero, List.set_cons_succ]
          refine wpAnyH_take (i := 32) (oi := { dst := some 4, op := Go.Op.assign (Go.Operand.tmp 92), type := 25, pos := "datetime.go:212", after := #[{ on := 29, ground := Go.Ground.data }, { on := 31, ground := Go.Ground.chain }, { on := 0, ground := Go.Ground.phase }, { on := 1, ground := Go.Ground.phase }, { on := 2, ground := Go.Ground.phase }, { on := 3, ground := Go.Ground.phase }, { on := 4, ground := Go.Ground.phase }, { on := 5, ground := Go.Ground.phase }, { on := 6, ground := Go.Ground.phase }, { on := 7, ground := Go.Ground.phase }, { on := 8, ground := Go.Ground.phase }, { on := 9, ground := Go.Ground.phase }, { on := 10, ground := Go.Ground.phase }, { on := 11, ground := Go.Ground.phase }, { on := 12, ground := Go.Ground.phase }, { on := 13, ground := Go.Ground.phase }, { on := 14, ground := Go.Ground.phase }, { on := 15, ground := Go.Ground.phase }, { on := 16, ground := Go.Ground.phase }, { on := 17, ground := Go.Ground.phase }, { on := 18, ground := Go.Ground.phase }, { on := 19, ground := Go.Ground.phase }, { on := 20, ground := Go.Ground.phase }, { on := 21, ground := Go.Ground.phase }, { on := 22, ground := Go.Ground.phase }, { on := 23, ground := Go.Ground.phase }, { on := 24, ground := Go.Ground.phase }, { on := 25, ground := Go.Ground.phase }, { on := 26, ground := Go.Ground.phase }, { on := 27, ground := Go.Ground.phase }, { on := 28, ground := Go.Ground.phase }, { on := 29, ground := Go.Ground.phase }, { on := 30, ground := Go.Ground.phase }, { on := 31, ground := Go.Ground.phase }], guard := none }) (v := ?_) rfl (by kernel_rfl) (by kernel_rfl) (by kernel_rfl) (fun _ _ _ h => h) (Or.inl ⟨by rfl, ?_⟩) (by assumption) ?_
          rotate_left
          · intro w hSw; (try dsimp only at hSw); go_simp; (try with_reducible rfl)
          try simp only [Act.put, List.setIfInBounds_toArray, List.set_cons_zero, List.set_cons_succ]
          refine wpAnyH_done (by kernel_rfl) ?_ _
          refine NoPanic.normal ?_
          clear wb ws
          all_goals (go_wp2; go_ret3; exact ⟨rfl, by ((repeat' (first | (with_reducible exact Below.refl _ _) | (with_reducible refine Below.alloc ?_ ?_ _) | (with_reducible refine Below.setCell ?_ ?_ _) | (with_reducible refine Below.drew ?_) | (with_reducible refine below_drewN' ?_) | (with_reducible refine below_bytesW ?_ ?_) | (with_reducible refine Below.trans ?_ (Below.mono (by assumption) ?_)) | omega | (simp only [World.size_alloc, World.size_setCell, World.size_drew]; omega) | (simp [size_bytesW]; omega) | (simp; omega))); all_goals first | with_reducible exact size_dN _ _ | with_reducible exact size_bd _ _ _ _)⟩)
end Go.Proofs.YtkkkfbhpphngmaaDoor
