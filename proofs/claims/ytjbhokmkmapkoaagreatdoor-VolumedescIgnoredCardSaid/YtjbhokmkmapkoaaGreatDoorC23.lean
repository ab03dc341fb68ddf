/- Contracts and plain words for the laws of volume descriptors, part 23: B6, O1, O2, O3, O4. No condition. -/
import Derived.Lib.EndianBits
import Derived.Test.YtjbhokmkmapkoaaGreatDoorC22
import Derived.Lib.SlBuf
import Derived.Lib.BufferWrite
import Derived.Test.YtjbhokmkmapkoaaGreatDoorC20
import Derived.Deep.OwnRows
import Derived.Test.YtjbhokmkmapkoaaGreatDoorC8
namespace Go.Proofs.YtjbhokmkmapkoaaGreatDoor
set_option linter.unusedSimpArgs false
set_option linter.unusedVariables false
open Go.RowKit
open Go.PlainAid (bt get_bt bt_nonneg bt_le bt_end)
set_option maxHeartbeats 400000 in
theorem inside_any (s : ByteArray) (p c : Int) (w : World) (hs : s.size ≤ 100000) (hp : 0 ≤ p ∧ p ≤ 100000) (hc : 0 ≤ c ∧ c ≤ 100000) : Calls Tryz.prog 130 #[.string s, .int .i64 p, .int .i64 c] w fun e w' => e = .returned (.bool (decide (p + c ≤ s.size))) ∧ w = w' := by
  have HL : Live w [] := trivial
  go_enter Tryz.func130, Tryz.ntmps130
  go_wp2
  all_goals
    go_ret
    exact ⟨ret_b (by rw [Bool.eq_iff_iff]; simp <;> omega), rfl⟩
set_option maxHeartbeats 4000000 in
theorem read_up2 (s : ByteArray) (p : Nat) (hs : s.size ≤ 100000) (hp : p + 2 ≤ s.size) (w : World) : Calls Tryz.prog 108 #[.string s, .int .i64 p, .int .i64 2, .func (.func 131) #[] #[]] w fun e w' => e = .returned (.tuple #[.int .i64 (le2 s p), .int .i64 0]) ∧ w = w' := by
  have hg := get_bt s
  have IN := hide (fun W => inside_any s p 2 W hs (by omega) (by omega))
  have hd : decide ((p : Int) + 2 ≤ (s.size : Int)) = true := by simp; omega
  rw [hd] at IN
  have b0 := bt_nonneg s p
  have c0 := bt_le s p
  have b1 := bt_nonneg s (p + 1)
  have c1 := bt_le s (p + 1)
  have k0 : bits .or .u64 0 (bt s p) = bt s p := by
    have := bits_join_low .u64 64 (by decide) wraps_u64 0 0 (bt s p) (by omega) (by decide) (by decide) b0 (by omega) (by omega)
    rw [this]; omega
  have k0w : IntKind.u64.wrap (bt s p) = bt s p := wraps_u64 _ b0 (by omega)
  have k1 : IntKind.u64.wrap (bt s (p + 1)) = bt s (p + 1) := wraps_u64 _ b1 (by omega)
  have k1a : IntKind.u64.wrap (bt s (p + 1) * 256) = bt s (p + 1) * 256 := wraps_u64 _ (by omega) (by omega)
  have k1b : bits .or .u64 (bt s p) (bt s (p + 1) * 256) = bt s p + bt s (p + 1) * 256 := u64_or8 _ _ (by omega) (by omega) (by omega) (by omega) (by omega)
  have HL : Live w [] := trivial
  go_enter Tryz.func108, Tryz.ntmps108
  go_wp2_with (go_at_call 130; refine (IN.out _).mono ?_; rintro e w' ⟨rfl, rfl⟩)
  refine wp_loop_rounds 3 ?_
  rw [rounds_succ]
  go_wp2_with (first | (go_at_call 131; (with_reducible refine (up1_any _ _).mono ?_); rintro e w' ⟨rfl, rfl⟩))
  rw [rounds_succ]
  go_wp2_with (first | (go_at_call 131; (with_reducible refine (up1_any _ _).mono ?_); rintro e w' ⟨rfl, rfl⟩))
  rw [rounds_succ]
  go_wp2_with (first | (go_at_call 131; (with_reducible refine (up1_any _ _).mono ?_); rintro e w' ⟨rfl, rfl⟩))
  go_ret2
  exact ⟨rfl, rfl⟩
set_option maxHeartbeats 4000000 in
theorem read_up4 (s : ByteArray) (p : Nat) (hs : s.size ≤ 100000) (hp : p + 4 ≤ s.size) (w : World) : Calls Tryz.prog 108 #[.string s, .int .i64 p, .int .i64 4, .func (.func 131) #[] #[]] w fun e w' => e = .returned (.tuple #[.int .i64 (le4 s p), .int .i64 0]) ∧ w = w' := by
  have hg := get_bt s
  have IN := hide (fun W => inside_any s p 4 W hs (by omega) (by omega))
  have hd : decide ((p : Int) + 4 ≤ (s.size : Int)) = true := by simp; omega
  rw [hd] at IN
  have b0 := bt_nonneg s p
  have c0 := bt_le s p
  have b1 := bt_nonneg s (p + 1)
  have c1 := bt_le s (p + 1)
  have b2 := bt_nonneg s (p + 2)
  have c2 := bt_le s (p + 2)
  have b3 := bt_nonneg s (p + 3)
  have c3 := bt_le s (p + 3)
  have k0 : bits .or .u64 0 (bt s p) = bt s p := by
    have := bits_join_low .u64 64 (by decide) wraps_u64 0 0 (bt s p) (by omega) (by decide) (by decide) b0 (by omega) (by omega)
    rw [this]; omega
  have k0w : IntKind.u64.wrap (bt s p) = bt s p := wraps_u64 _ b0 (by omega)
  have k1 : IntKind.u64.wrap (bt s (p + 1)) = bt s (p + 1) := wraps_u64 _ b1 (by omega)
  have k1a : IntKind.u64.wrap (bt s (p + 1) * 256) = bt s (p + 1) * 256 := wraps_u64 _ (by omega) (by omega)
  have k1b : bits .or .u64 (bt s p) (bt s (p + 1) * 256) = bt s p + bt s (p + 1) * 256 := u64_or8 _ _ (by omega) (by omega) (by omega) (by omega) (by omega)
  have k2 : IntKind.u64.wrap (bt s (p + 2)) = bt s (p + 2) := wraps_u64 _ b2 (by omega)
  have k2a : IntKind.u64.wrap (bt s (p + 2) * 65536) = bt s (p + 2) * 65536 := wraps_u64 _ (by omega) (by omega)
  have k2b : bits .or .u64 (bt s p + bt s (p + 1) * 256) (bt s (p + 2) * 65536) = bt s p + bt s (p + 1) * 256 + bt s (p + 2) * 65536 := u64_or16 _ _ (by omega) (by omega) (by omega) (by omega) (by omega)
  have k3 : IntKind.u64.wrap (bt s (p + 3)) = bt s (p + 3) := wraps_u64 _ b3 (by omega)
  have k3a : IntKind.u64.wrap (bt s (p + 3) * 16777216) = bt s (p + 3) * 16777216 := wraps_u64 _ (by omega) (by omega)
  have k3b : bits .or .u64 (bt s p + bt s (p + 1) * 256 + bt s (p + 2) * 65536) (bt s (p + 3) * 16777216) = bt s p + bt s (p + 1) * 256 + bt s (p + 2) * 65536 + bt s (p + 3) * 16777216 := u64_or24 _ _ (by omega) (by omega) (by omega) (by omega) (by omega)
  have HL : Live w [] := trivial
  go_enter Tryz.func108, Tryz.ntmps108
  go_wp2_with (go_at_call 130; refine (IN.out _).mono ?_; rintro e w' ⟨rfl, rfl⟩)
  refine wp_loop_rounds 5 ?_
  rw [rounds_succ]
  go_wp2_with (first | (go_at_call 131; (with_reducible refine (up1_any _ _).mono ?_); rintro e w' ⟨rfl, rfl⟩))
  rw [rounds_succ]
  go_wp2_with (first | (go_at_call 131; (with_reducible refine (up1_any _ _).mono ?_); rintro e w' ⟨rfl, rfl⟩))
  rw [rounds_succ]
  go_wp2_with (first | (go_at_call 131; (with_reducible refine (up1_any _ _).mono ?_); rintro e w' ⟨rfl, rfl⟩))
  rw [rounds_succ]
  go_wp2_with (first | (go_at_call 131; (with_reducible refine (up1_any _ _).mono ?_); rintro e w' ⟨rfl, rfl⟩))
  rw [rounds_succ]
  go_wp2_with (first | (go_at_call 131; (with_reducible refine (up1_any _ _).mono ?_); rintro e w' ⟨rfl, rfl⟩))
  go_ret2
  exact ⟨rfl, rfl⟩
set_option maxHeartbeats 4000000 in
theorem read_down2 (s : ByteArray) (p : Nat) (b : Nat) (hs : s.size ≤ 100000) (hp : p + 2 ≤ s.size) (w : World) (hc : w.cell? ⟨b, 0, none⟩ = some (.int .i64 2)) : Calls Tryz.prog 108 #[.string s, .int .i64 p, .int .i64 2, .func (.func 136) #[] #[.pointer (some ⟨b, 0, none⟩)]] w fun e w' => e = .returned (.tuple #[.int .i64 (be2 s p), .int .i64 0]) ∧ w = w' := by
  have hg := get_bt s
  have IN := hide (fun W => inside_any s p 2 W hs (by omega) (by omega))
  have hd : decide ((p : Int) + 2 ≤ (s.size : Int)) = true := by simp; omega
  rw [hd] at IN
  have b0 := bt_nonneg s (p + 1)
  have c0 := bt_le s (p + 1)
  have b1 := bt_nonneg s p
  have c1 := bt_le s p
  have k0 : bits .or .u64 0 (bt s (p + 1)) = bt s (p + 1) := by
    have := bits_join_low .u64 64 (by decide) wraps_u64 0 0 (bt s (p + 1)) (by omega) (by decide) (by decide) b0 (by omega) (by omega)
    rw [this]; omega
  have k0w : IntKind.u64.wrap (bt s (p + 1)) = bt s (p + 1) := wraps_u64 _ b0 (by omega)
  have k1 : IntKind.u64.wrap (bt s p) = bt s p := wraps_u64 _ b1 (by omega)
  have k1a : IntKind.u64.wrap (bt s p * 256) = bt s p * 256 := wraps_u64 _ (by omega) (by omega)
  have k1b : bits .or .u64 (bt s (p + 1)) (bt s p * 256) = bt s (p + 1) + bt s p * 256 := u64_or8 _ _ (by omega) (by omega) (by omega) (by omega) (by omega)
  have HL : Live w [] := trivial
  go_enter Tryz.func108, Tryz.ntmps108
  go_wp2_with (go_at_call 130; refine (IN.out _).mono ?_; rintro e w' ⟨rfl, rfl⟩)
  refine wp_loop_rounds 3 ?_
  rw [rounds_succ]
  go_wp2_with (first | (go_at_call 136; (with_reducible refine (down1_2 _ _ (by omega) _ (by assumption)).mono ?_); rintro e w' ⟨rfl, rfl⟩))
  rw [rounds_succ]
  go_wp2_with (first | (go_at_call 136; (with_reducible refine (down1_2 _ _ (by omega) _ (by assumption)).mono ?_); rintro e w' ⟨rfl, rfl⟩))
  rw [rounds_succ]
  go_wp2_with (first | (go_at_call 136; (with_reducible refine (down1_2 _ _ (by omega) _ (by assumption)).mono ?_); rintro e w' ⟨rfl, rfl⟩))
  go_ret2
  exact ⟨rfl, rfl⟩
set_option maxHeartbeats 4000000 in
theorem read_down4 (s : ByteArray) (p : Nat) (b : Nat) (hs : s.size ≤ 100000) (hp : p + 4 ≤ s.size) (w : World) (hc : w.cell? ⟨b, 0, none⟩ = some (.int .i64 4)) : Calls Tryz.prog 108 #[.string s, .int .i64 p, .int .i64 4, .func (.func 136) #[] #[.pointer (some ⟨b, 0, none⟩)]] w fun e w' => e = .returned (.tuple #[.int .i64 (be4 s p), .int .i64 0]) ∧ w = w' := by
  have hg := get_bt s
  have IN := hide (fun W => inside_any s p 4 W hs (by omega) (by omega))
  have hd : decide ((p : Int) + 4 ≤ (s.size : Int)) = true := by simp; omega
  rw [hd] at IN
  have b0 := bt_nonneg s (p + 3)
  have c0 := bt_le s (p + 3)
  have b1 := bt_nonneg s (p + 2)
  have c1 := bt_le s (p + 2)
  have b2 := bt_nonneg s (p + 1)
  have c2 := bt_le s (p + 1)
  have b3 := bt_nonneg s p
  have c3 := bt_le s p
  have k0 : bits .or .u64 0 (bt s (p + 3)) = bt s (p + 3) := by
    have := bits_join_low .u64 64 (by decide) wraps_u64 0 0 (bt s (p + 3)) (by omega) (by decide) (by decide) b0 (by omega) (by omega)
    rw [this]; omega
  have k0w : IntKind.u64.wrap (bt s (p + 3)) = bt s (p + 3) := wraps_u64 _ b0 (by omega)
  have k1 : IntKind.u64.wrap (bt s (p + 2)) = bt s (p + 2) := wraps_u64 _ b1 (by omega)
  have k1a : IntKind.u64.wrap (bt s (p + 2) * 256) = bt s (p + 2) * 256 := wraps_u64 _ (by omega) (by omega)
  have k1b : bits .or .u64 (bt s (p + 3)) (bt s (p + 2) * 256) = bt s (p + 3) + bt s (p + 2) * 256 := u64_or8 _ _ (by omega) (by omega) (by omega) (by omega) (by omega)
  have k2 : IntKind.u64.wrap (bt s (p + 1)) = bt s (p + 1) := wraps_u64 _ b2 (by omega)
  have k2a : IntKind.u64.wrap (bt s (p + 1) * 65536) = bt s (p + 1) * 65536 := wraps_u64 _ (by omega) (by omega)
  have k2b : bits .or .u64 (bt s (p + 3) + bt s (p + 2) * 256) (bt s (p + 1) * 65536) = bt s (p + 3) + bt s (p + 2) * 256 + bt s (p + 1) * 65536 := u64_or16 _ _ (by omega) (by omega) (by omega) (by omega) (by omega)
  have k3 : IntKind.u64.wrap (bt s p) = bt s p := wraps_u64 _ b3 (by omega)
  have k3a : IntKind.u64.wrap (bt s p * 16777216) = bt s p * 16777216 := wraps_u64 _ (by omega) (by omega)
  have k3b : bits .or .u64 (bt s (p + 3) + bt s (p + 2) * 256 + bt s (p + 1) * 65536) (bt s p * 16777216) = bt s (p + 3) + bt s (p + 2) * 256 + bt s (p + 1) * 65536 + bt s p * 16777216 := u64_or24 _ _ (by omega) (by omega) (by omega) (by omega) (by omega)
  have HL : Live w [] := trivial
  go_enter Tryz.func108, Tryz.ntmps108
  go_wp2_with (go_at_call 130; refine (IN.out _).mono ?_; rintro e w' ⟨rfl, rfl⟩)
  refine wp_loop_rounds 5 ?_
  rw [rounds_succ]
  go_wp2_with (first | (go_at_call 136; (with_reducible refine (down1_4 _ _ (by omega) _ (by assumption)).mono ?_); rintro e w' ⟨rfl, rfl⟩))
  rw [rounds_succ]
  go_wp2_with (first | (go_at_call 136; (with_reducible refine (down1_4 _ _ (by omega) _ (by assumption)).mono ?_); rintro e w' ⟨rfl, rfl⟩))
  rw [rounds_succ]
  go_wp2_with (first | (go_at_call 136; (with_reducible refine (down1_4 _ _ (by omega) _ (by assumption)).mono ?_); rintro e w' ⟨rfl, rfl⟩))
  rw [rounds_succ]
  go_wp2_with (first | (go_at_call 136; (with_reducible refine (down1_4 _ _ (by omega) _ (by assumption)).mono ?_); rintro e w' ⟨rfl, rfl⟩))
  rw [rounds_succ]
  go_wp2_with (first | (go_at_call 136; (with_reducible refine (down1_4 _ _ (by omega) _ (by assumption)).mono ?_); rintro e w' ⟨rfl, rfl⟩))
  go_ret2
  exact ⟨rfl, rfl⟩
set_option maxHeartbeats 1000000 in
theorem readL2 (s : ByteArray) (p : Nat) (hs : s.size ≤ 100000) (hp : p + 2 ≤ s.size) (w : World) : Calls Tryz.prog 53 #[.string s, .int .i64 p, .int .i64 2] w fun e w' => e = .returned (.tuple #[.int .i64 (le2 s p), .int .i64 0]) ∧ w = w' := by
  have RU2 := hide (fun W => read_up2 s p hs hp W)
  have HL : Live w [] := trivial
  go_enter Tryz.func53, Tryz.ntmps53
  go_wp2_with (first | (go_at_call 70; (with_reducible refine (up_any _ _).mono ?_); rintro e w' ⟨rfl, rfl⟩) | (go_at_call 108; (with_reducible refine (RU2.out _).mono ?_); rintro e w' ⟨rfl, rfl⟩))
  go_ret2
  exact ⟨rfl, rfl⟩
set_option maxHeartbeats 1000000 in
theorem readB2 (s : ByteArray) (p : Nat) (hs : s.size ≤ 100000) (hp : p + 2 ≤ s.size) (w : World) : Calls Tryz.prog 59 #[.string s, .int .i64 p, .int .i64 2] w fun e w' => e = .returned (.tuple #[.int .i64 (be2 s p), .int .i64 0]) ∧ Below w.heap.size w w' := by
  have RDN := hide (fun W hc => read_down2 s p w.heap.size hs hp W hc)
  have HL : Live w [] := trivial
  go_enter Tryz.func59, Tryz.ntmps59
  go_wp2_with (first | (go_at_call 75; (with_reducible refine (down_2 _).mono ?_); rintro e w' ⟨rfl, rfl⟩) | (go_at_call 108; refine (RDN.out _ (by go_simp)).mono ?_; rintro e w' ⟨rfl, rfl⟩))
  go_ret2
  exact ⟨rfl, by (exact bl)⟩
set_option maxHeartbeats 1000000 in
theorem readL4 (s : ByteArray) (p : Nat) (hs : s.size ≤ 100000) (hp : p + 4 ≤ s.size) (w : World) : Calls Tryz.prog 53 #[.string s, .int .i64 p, .int .i64 4] w fun e w' => e = .returned (.tuple #[.int .i64 (le4 s p), .int .i64 0]) ∧ w = w' := by
  have RU4 := hide (fun W => read_up4 s p hs hp W)
  have HL : Live w [] := trivial
  go_enter Tryz.func53, Tryz.ntmps53
  go_wp2_with (first | (go_at_call 70; (with_reducible refine (up_any _ _).mono ?_); rintro e w' ⟨rfl, rfl⟩) | (go_at_call 108; (with_reducible refine (RU4.out _).mono ?_); rintro e w' ⟨rfl, rfl⟩))
  go_ret2
  exact ⟨rfl, rfl⟩
set_option maxHeartbeats 1000000 in
theorem readB4 (s : ByteArray) (p : Nat) (hs : s.size ≤ 100000) (hp : p + 4 ≤ s.size) (w : World) : Calls Tryz.prog 59 #[.string s, .int .i64 p, .int .i64 4] w fun e w' => e = .returned (.tuple #[.int .i64 (be4 s p), .int .i64 0]) ∧ Below w.heap.size w w' := by
  have RDN := hide (fun W hc => read_down4 s p w.heap.size hs hp W hc)
  have HL : Live w [] := trivial
  go_enter Tryz.func59, Tryz.ntmps59
  go_wp2_with (first | (go_at_call 75; (with_reducible refine (down_4 _).mono ?_); rintro e w' ⟨rfl, rfl⟩) | (go_at_call 108; refine (RDN.out _ (by go_simp)).mono ?_; rintro e w' ⟨rfl, rfl⟩))
  go_ret2
  exact ⟨rfl, by (exact bl)⟩
set_option maxHeartbeats 1000000 in
theorem readboth2 (s : ByteArray) (p : Nat) (hs : s.size ≤ 100000) (hp : p + 4 ≤ s.size) (w : World) : Calls Tryz.prog 65 #[.string s, .int .i64 p, .int .i64 2] w fun e w' => e = .returned (.tuple #[.int .i64 (le2 s p), .bool (decide (le2 s p = be2 s (p + 2))), .int .i64 0]) ∧ Below w.heap.size w w' := by
  have RL2 := hide (fun W => readL2 s p hs (by omega) W)
  have RB2 := hide (fun W => readB2 s (p + 2) hs (by omega) W)
  have hpe : ((p + 2 : Nat) : Int) = (p : Int) + 2 := by omega
  rw [hpe] at RB2
  have IN := hide (fun W => inside_any s p 4 W hs (by omega) (by omega))
  have hd : decide ((p : Int) + 4 ≤ (s.size : Int)) = true := by simp; omega
  rw [hd] at IN
  clear hpe hd
  have HL : Live w [] := trivial
  go_enter Tryz.func65, Tryz.ntmps65
  go_wp2_with (first | (go_at_call 73; (with_reducible refine (double2 _).mono ?_); rintro e w' ⟨rfl, rfl⟩) | (go_at_call 130; refine (IN.out _).mono ?_; rintro e w' ⟨rfl, rfl⟩) | (go_at_call 53; (with_reducible refine (RL2.out _).mono ?_); rintro e w' ⟨rfl, rfl⟩) | (go_at_call 59; (with_reducible refine (RB2.out _).mono ?_); rintro e w' ⟨rfl, hb⟩; have hz := hb.size; (try simp only [SZ, Nat.reduceAdd] at hz); (first | obtain ⟨HL, hk⟩ := HL.callA hb hz | obtain ⟨HL, hk⟩ := HL.call0A hb hz); (try simp only [addN, Nat.add_zero] at HL hk); have hl := HL; simp only [Live] at hl; (try simp only [Kept] at hk)))
  ((try simp only [Exit.inBlock, Exit.then]); refine bodyPost_ret (by simp only [results, Tryz.results65]; go_simp; try rfl) rfl ?_)
  exact ⟨rfl, by (exact bl)⟩
set_option maxHeartbeats 1000000 in
theorem readboth4 (s : ByteArray) (p : Nat) (hs : s.size ≤ 100000) (hp : p + 8 ≤ s.size) (w : World) : Calls Tryz.prog 65 #[.string s, .int .i64 p, .int .i64 4] w fun e w' => e = .returned (.tuple #[.int .i64 (le4 s p), .bool (decide (le4 s p = be4 s (p + 4))), .int .i64 0]) ∧ Below w.heap.size w w' := by
  have RL4 := hide (fun W => readL4 s p hs (by omega) W)
  have RB4 := hide (fun W => readB4 s (p + 4) hs (by omega) W)
  have hpe : ((p + 4 : Nat) : Int) = (p : Int) + 4 := by omega
  rw [hpe] at RB4
  have IN := hide (fun W => inside_any s p 8 W hs (by omega) (by omega))
  have hd : decide ((p : Int) + 8 ≤ (s.size : Int)) = true := by simp; omega
  rw [hd] at IN
  clear hpe hd
  have HL : Live w [] := trivial
  go_enter Tryz.func65, Tryz.ntmps65
  go_wp2_with (first | (go_at_call 73; (with_reducible refine (double4 _).mono ?_); rintro e w' ⟨rfl, rfl⟩) | (go_at_call 130; refine (IN.out _).mono ?_; rintro e w' ⟨rfl, rfl⟩) | (go_at_call 53; (with_reducible refine (RL4.out _).mono ?_); rintro e w' ⟨rfl, rfl⟩) | (go_at_call 59; (with_reducible refine (RB4.out _).mono ?_); rintro e w' ⟨rfl, hb⟩; have hz := hb.size; (try simp only [SZ, Nat.reduceAdd] at hz); (first | obtain ⟨HL, hk⟩ := HL.callA hb hz | obtain ⟨HL, hk⟩ := HL.call0A hb hz); (try simp only [addN, Nat.add_zero] at HL hk); have hl := HL; simp only [Live] at hl; (try simp only [Kept] at hk)))
  ((try simp only [Exit.inBlock, Exit.then]); refine bodyPost_ret (by simp only [results, Tryz.results65]; go_simp; try rfl) rfl ?_)
  exact ⟨rfl, by (exact bl)⟩
end Go.Proofs.YtjbhokmkmapkoaaGreatDoor
namespace Go.Proofs.YtjbhokmkmapkoaaGreatDoor
set_option linter.unusedSimpArgs false
set_option linter.unusedVariables false
open Go.RowKit
open Go.PlainAid (bt get_bt bt_nonneg bt_le bt_end)
/-- s laid over L from place p on. -/
def spl (L : List UInt8) (p : Nat) (s : List UInt8) : List UInt8 := L.take p ++ s ++ L.drop (p + s.length)
theorem spl_seg : ∀ (segs : List (List UInt8)) (i : Nat) (s x : List UInt8), segs[i]? = some x → x.length = s.length → spl segs.flatten ((segs.map List.length).take i).sum s = (segs.set i s).flatten
  | [], _, _, _, h, _ => by simp at h
  | y :: r, 0, s, x, h, hl => by
    have e : y = x := by simpa using h
    subst e
    unfold spl
    simp only [List.take_zero, List.sum_nil, List.nil_append, Nat.zero_add, List.flatten_cons, List.set_cons_zero]
    rw [← hl, List.drop_left]
  | y :: r, i + 1, s, x, h, hl => by
    have ih := spl_seg r i s x (by simpa using h) hl
    unfold spl at ih ⊢
    simp only [List.map_cons, List.take_succ_cons, List.sum_cons, List.flatten_cons, List.set_cons_succ]
    rw [← ih, List.take_length_add_append, Nat.add_assoc, List.drop_length_add_append]
    simp only [List.append_assoc]
theorem cells_spl (L : List UInt8) (o : Nat) (s : ByteArray) : ((Lib.byteCells L).toArray.toList.take o ++ Lib.byteCells s.data.toList ++ (Lib.byteCells L).toArray.toList.drop (o + s.size)).toArray = (Lib.byteCells (spl L o s.data.toList)).toArray := by
  have hl : s.data.toList.length = s.size := Array.length_toList
  unfold spl Lib.byteCells
  rw [hl]
  simp only [List.map_append, List.map_take, List.map_drop, List.append_assoc]
theorem sum_take_le : ∀ (l : List Nat) (i n : Nat), l[i]? = some n → (l.take i).sum + n ≤ l.sum
  | [], _, _, h => by simp at h
  | y :: r, 0, n, h => by
    have e : y = n := by simpa using h
    subst e
    simp
  | y :: r, i + 1, n, h => by
    have ih := sum_take_le r i n (by simpa using h)
    simp only [List.take_succ_cons, List.sum_cons]
    omega
theorem lens_set {segs : List (List UInt8)} {lens : List Nat} {i : Nat} {s : List UInt8} (h : segs.map List.length = lens) (hi : lens[i]? = some s.length) : (segs.set i s).map List.length = lens := by
  subst h
  rw [List.map_set]
  apply List.ext_getElem?
  intro j
  rw [List.getElem?_set]
  by_cases hj : i = j
  · subst hj
    rw [if_pos rfl, hi]
    have := (List.getElem?_eq_some_iff.1 hi).1
    rw [if_pos this]
  · rw [if_neg hj]
theorem seg_at {segs : List (List UInt8)} {lens : List Nat} {i n : Nat} (h : segs.map List.length = lens) (hi : lens[i]? = some n) : ∃ x, segs[i]? = some x ∧ x.length = n := by
  subst h
  rw [List.getElem?_map] at hi
  cases hx : segs[i]? with
  | none => rw [hx] at hi; cases hi
  | some x => rw [hx] at hi; exact ⟨x, rfl, by simpa using hi⟩
theorem zr_flat : ∀ lens : List Nat, (lens.map zr).flatten = zr lens.sum
  | [] => rfl
  | n :: l => by
    have ih := zr_flat l
    simp only [List.map_cons, List.flatten_cons, ih, List.sum_cons]
    unfold zr
    exact List.replicate_append_replicate
theorem zr_lens (lens : List Nat) : (lens.map zr).map List.length = lens := by
  rw [List.map_map]
  conv => rhs; rw [← List.map_id lens]
  apply List.map_congr_left
  intro n _
  exact zr_len n
/-- The state of volumedesc.Encode: the descriptor's block, the buffer's variable, the first literal's, the buffer. -/
structure BS (w : World) (d : DR) (G p5 p6 : Nat) (lens : List Nat) (segs : List (List UInt8)) (W : World) : Prop where
  bel : Below w.heap.size w W
  db : Blk W w.heap.size d.cells 27
  b5 : Blk W p5 #[.slice (some ⟨G, 0, none⟩) 2048 2048] 48
  b6 : Blk W p6 #[.func (.func 27) #[] #[.pointer (some ⟨p5, 0, none⟩)]] 54
  bf : Blk W G (Lib.byteCells segs.flatten).toArray 5
  ln : segs.map List.length = lens
  l1 : w.heap.size < G
  l2 : G < p5
  l3 : p5 < p6
section
variable {w : World} {d : DR} {G p5 p6 : Nat} {lens : List Nat} {segs : List (List UInt8)} {W : World}
theorem BS.l6 (h : BS w d G p5 p6 lens segs W) : p6 < W.heap.size := h.b6.lt
theorem BS.below (h : BS w d G p5 p6 lens segs W) {W' : World} (hb : Below W.heap.size W W') : BS w d G p5 p6 lens segs W' :=
  ⟨h.bel.trans (hb.mono h.bel.size), Blk.below hb h.db, Blk.below hb h.b5, Blk.below hb h.b6, Blk.below hb h.bf, h.ln, h.l1, h.l2, h.l3⟩
theorem BS.alloc (h : BS w d G p5 p6 lens segs W) (o : Obj) : BS w d G p5 p6 lens segs (W.alloc o) :=
  ⟨h.bel.alloc h.bel.size _, h.db.alloc _, h.b5.alloc _, h.b6.alloc _, h.bf.alloc _, h.ln, h.l1, h.l2, h.l3⟩
theorem BS.drew (h : BS w d G p5 p6 lens segs W) : BS w d G p5 p6 lens segs W.drew :=
  ⟨⟨h.bel.os, h.bel.tape, h.bel.output, h.bel.size, h.bel.block⟩, h.db, h.b5, h.b6, h.bf, h.ln, h.l1, h.l2, h.l3⟩
theorem BS.rows (h : BS w d G p5 p6 lens segs W) {q : Nat} (hq : p6 < q) (j : Nat) (v : Value) : BS w d G p5 p6 lens segs (W.setCell ⟨q, j, none⟩ v) :=
  have := h.l1; have := h.l2; have := h.l3; have := h.l6
  ⟨h.bel.setCell (p := ⟨q, j, none⟩) (by simp only; omega) _, Blk.other (by omega) h.db, Blk.other (by omega) h.b5, Blk.other (by omega) h.b6, Blk.other (by omega) h.bf, h.ln, h.l1, h.l2, h.l3⟩
theorem Blk.row {g n : Nat} {cs C : Array Value} {T : TypeId} (hne : n ≠ g) (h : Blk W n cs T) : Blk (W.setRow g C) n cs T := by
  show (W.setRow g C).heap[n]? = _
  rw [setRow_other W g n C hne]; exact h
theorem BS.set (h : BS w d G p5 p6 lens segs W) {i at' : Nat} {s : ByteArray} (hi : lens[i]? = some s.size) (hat : (lens.take i).sum = at') :
    BS w d G p5 p6 lens (segs.set i s.data.toList) (W.setRow G ((Lib.byteCells segs.flatten).toArray.toList.take at' ++ Lib.byteCells s.data.toList ++ (Lib.byteCells segs.flatten).toArray.toList.drop (at' + s.size)).toArray) := by
  have hl : s.data.toList.length = s.size := Array.length_toList
  obtain ⟨x, hx, hxl⟩ := seg_at h.ln hi
  have e := spl_seg segs i s.data.toList x hx (by rw [hxl, hl])
  rw [h.ln, hat] at e
  rw [cells_spl, e]
  have := h.l1; have := h.l2; have := h.l3
  exact ⟨h.bel.trans ⟨rfl, rfl, rfl, by simp [World.setRow], fun k hk => setRow_other W G k _ (by omega)⟩, h.db.row (by omega), h.b5.row (by omega), h.b6.row (by omega), setRow_heap W G _ _ _ _ h.bf, lens_set h.ln (by rw [hl]; exact hi), h.l1, h.l2, h.l3⟩
end
end Go.Proofs.YtjbhokmkmapkoaaGreatDoor
namespace Go.Proofs.YtjbhokmkmapkoaaGreatDoor
set_option linter.unusedSimpArgs false
set_option linter.unusedVariables false
open Go.RowKit
open Go.PlainAid (bt get_bt bt_nonneg bt_le bt_end)
/-- All rows but the buffer stand. -/
def KG (G : Nat) (W W' : World) : Prop := ∀ (n : Nat) (cs : Array Value) (T : TypeId), n ≠ G → Blk W n cs T → Blk W' n cs T
theorem KG.below {G : Nat} {W W' : World} (hb : Below W.heap.size W W') : KG G W W' := fun _ _ _ _ h => Blk.below hb h
theorem KG.trans {G : Nat} {W W1 W2 : World} (h1 : KG G W W1) (h2 : KG G W1 W2) : KG G W W2 := fun n cs T hn h => h2 n cs T hn (h1 n cs T hn h)
theorem KG.row {G : Nat} {W : World} {C : Array Value} : KG G W (W.setRow G C) := fun _ _ _ hn h => h.row hn
section
variable {w : World} {d : DR} {G p5 p6 : Nat} {lens : List Nat} {segs : List (List UInt8)} {W : World}
set_option maxRecDepth 20000 in
set_option maxHeartbeats 1000000 in
theorem put_any (hS : BS w d G p5 p6 lens segs W) (i at' : Nat) (s : ByteArray) (hi : lens[i]? = some s.size) (hat : (lens.take i).sum = at') (hsum : lens.sum = 2048) (hpos : 0 < s.size) :
    Calls Tryz.prog 27 #[.int .i64 at', .string s, .pointer (some ⟨p5, 0, none⟩)] W fun e w' => e = .returned (.tuple #[]) ∧ BS w d G p5 p6 lens (segs.set i s.data.toList) w' ∧ KG G W w' := by
  have hle : at' + s.size ≤ 2048 := by have := sum_take_le lens i _ hi; omega
  have hfl : segs.flatten.length = 2048 := by rw [List.length_flatten, hS.ln, hsum]
  have c5 : W.cell? ⟨p5, 0, none⟩ = some (.slice (some ⟨G, 0, none⟩) 2048 2048) := hS.b5.cells 0
  have hG : W.heap[G]? = some (.cells (Lib.byteCells segs.flatten).toArray 5 (0, 0)) := hS.bf
  have hcp := hide (Lib.run_copy_row_string (P := Tryz.prog) W 48 9 3 5 G at' (2048 - at') (2048 - at') s _ _ Tryz.underlying48 (by kernel_rfl) hG (by omega) (by rw [List.size_toArray, Lib.byteCells_length, hfl]; exact hle))
  have hB := hide (hS.set hi hat)
  have h1 : at' < 2048 := by omega
  clear hG hS hi hat hsum hfl
  have HL : Live w [] := trivial
  go_enter Tryz.func27, Tryz.ntmps27
  go_wp2_with fail
  rw [hcp.out]
  go_wp2_with fail
  go_end0
  have hB2 := hB.out
  simp only [List.append_assoc] at hB2
  exact ⟨rfl, hB2, KG.row⟩
set_option maxRecDepth 20000 in
set_option maxHeartbeats 1000000 in
theorem num_l4 (hS : BS w d G p5 p6 lens segs W) (i at' : Nat) (n : Int) (hn : 0 ≤ n ∧ n ≤ 4294967295) (hi : lens[i]? = some 4) (hat : (lens.take i).sum = at') (hsum : lens.sum = 2048) :
    Calls Tryz.prog 28 #[.int .i64 at', .int .i64 n, .int .i64 4, .func (.func 29) #[] #[], .pointer (some ⟨p6, 0, none⟩)] W fun e w' => e = .returned (.tuple #[]) ∧ BS w d G p5 p6 lens (segs.set i (l4 n)) w' ∧ KG G W w' := by
  have HS := hide hS
  clear hS
  have HL : Live w [] := trivial
  go_enter Tryz.func28, Tryz.ntmps28
  go_upto_region 1 with (go_at_call 29; refine (little4_any n hn _).mono ?_; rintro e w1 ⟨rfl, hb⟩)
  have hb1 : Below W.heap.size W w1 := by (exact bl)
  have hS1 := hide (HS.out.below hb1)
  have c6 : w1.cell? ⟨p6, 0, none⟩ = some (.func (.func 27) #[] #[.pointer (some ⟨p5, 0, none⟩)]) := hS1.out.b6.cells 0
  go_wp2_with (go_at_call 27; refine (put_any hS1.out i at' ⟨(l4 n).toArray⟩ hi hat hsum (show 0 < 4 from by decide)).mono ?_; rintro e w2 ⟨rfl, h2, hk⟩)
  go_end0
  exact ⟨rfl, h2, (KG.below hb1).trans hk⟩
set_option maxRecDepth 20000 in
set_option maxHeartbeats 1000000 in
theorem num_b4 (hS : BS w d G p5 p6 lens segs W) (i at' : Nat) (n : Int) (hn : 0 ≤ n ∧ n ≤ 4294967295) (hi : lens[i]? = some 4) (hat : (lens.take i).sum = at') (hsum : lens.sum = 2048) :
    Calls Tryz.prog 28 #[.int .i64 at', .int .i64 n, .int .i64 4, .func (.func 35) #[] #[], .pointer (some ⟨p6, 0, none⟩)] W fun e w' => e = .returned (.tuple #[]) ∧ BS w d G p5 p6 lens (segs.set i (b4 n)) w' ∧ KG G W w' := by
  have HS := hide hS
  clear hS
  have HL : Live w [] := trivial
  go_enter Tryz.func28, Tryz.ntmps28
  go_upto_region 1 with (go_at_call 35; refine (big4_any n hn _).mono ?_; rintro e w1 ⟨rfl, hb⟩)
  have hb1 : Below W.heap.size W w1 := by (exact bl)
  have hS1 := hide (HS.out.below hb1)
  have c6 : w1.cell? ⟨p6, 0, none⟩ = some (.func (.func 27) #[] #[.pointer (some ⟨p5, 0, none⟩)]) := hS1.out.b6.cells 0
  go_wp2_with (go_at_call 27; refine (put_any hS1.out i at' ⟨(b4 n).toArray⟩ hi hat hsum (show 0 < 4 from by decide)).mono ?_; rintro e w2 ⟨rfl, h2, hk⟩)
  go_end0
  exact ⟨rfl, h2, (KG.below hb1).trans hk⟩
set_option maxRecDepth 20000 in
set_option maxHeartbeats 1000000 in
theorem num_w4 (hS : BS w d G p5 p6 lens segs W) (i at' : Nat) (n : Int) (hn : 0 ≤ n ∧ n ≤ 4294967295) (hi : lens[i]? = some 8) (hat : (lens.take i).sum = at') (hsum : lens.sum = 2048) :
    Calls Tryz.prog 28 #[.int .i64 at', .int .i64 n, .int .i64 4, .func (.func 34) #[] #[], .pointer (some ⟨p6, 0, none⟩)] W fun e w' => e = .returned (.tuple #[]) ∧ BS w d G p5 p6 lens (segs.set i (both4 n)) w' ∧ KG G W w' := by
  have HS := hide hS
  clear hS
  have HL : Live w [] := trivial
  go_enter Tryz.func28, Tryz.ntmps28
  go_upto_region 1 with (go_at_call 34; refine (both4_any n hn _).mono ?_; rintro e w1 ⟨rfl, hb⟩)
  have hb1 : Below W.heap.size W w1 := by (exact bl)
  have hS1 := hide (HS.out.below hb1)
  have c6 : w1.cell? ⟨p6, 0, none⟩ = some (.func (.func 27) #[] #[.pointer (some ⟨p5, 0, none⟩)]) := hS1.out.b6.cells 0
  go_wp2_with (go_at_call 27; refine (put_any hS1.out i at' ⟨(both4 n).toArray⟩ hi hat hsum (show 0 < 8 from by decide)).mono ?_; rintro e w2 ⟨rfl, h2, hk⟩)
  go_end0
  exact ⟨rfl, h2, (KG.below hb1).trans hk⟩
set_option maxRecDepth 20000 in
set_option maxHeartbeats 1000000 in
theorem num_w2 (hS : BS w d G p5 p6 lens segs W) (i at' : Nat) (n : Int) (hn : 0 ≤ n ∧ n ≤ 65535) (hi : lens[i]? = some 4) (hat : (lens.take i).sum = at') (hsum : lens.sum = 2048) :
    Calls Tryz.prog 28 #[.int .i64 at', .int .i64 n, .int .i64 2, .func (.func 34) #[] #[], .pointer (some ⟨p6, 0, none⟩)] W fun e w' => e = .returned (.tuple #[]) ∧ BS w d G p5 p6 lens (segs.set i (both2 n)) w' ∧ KG G W w' := by
  have HS := hide hS
  clear hS
  have HL : Live w [] := trivial
  go_enter Tryz.func28, Tryz.ntmps28
  go_upto_region 1 with (go_at_call 34; refine (both2_any n hn _).mono ?_; rintro e w1 ⟨rfl, hb⟩)
  have hb1 : Below W.heap.size W w1 := by (exact bl)
  have hS1 := hide (HS.out.below hb1)
  have c6 : w1.cell? ⟨p6, 0, none⟩ = some (.func (.func 27) #[] #[.pointer (some ⟨p5, 0, none⟩)]) := hS1.out.b6.cells 0
  go_wp2_with (go_at_call 27; refine (put_any hS1.out i at' ⟨(both2 n).toArray⟩ hi hat hsum (show 0 < 4 from by decide)).mono ?_; rintro e w2 ⟨rfl, h2, hk⟩)
  go_end0
  exact ⟨rfl, h2, (KG.below hb1).trans hk⟩
end
end Go.Proofs.YtjbhokmkmapkoaaGreatDoor
namespace Go.Proofs.YtjbhokmkmapkoaaGreatDoor
set_option linter.unusedSimpArgs false
set_option linter.unusedVariables false
open Go.RowKit
open Go.PlainAid (bt get_bt bt_nonneg bt_le bt_end)
/-- The literal's fill. -/
def fillV (wd : Bool) : Value := .func (.func (if wd then 31 else 30)) #[] #[]
theorem ok_field {s : ByteArray} {n : Nat} {st : Bool} (h : okB s n st false = true) : s.size ≤ n ∧ (padS s n).data.toList = fldL false s n := by
  unfold okB at h
  rw [Bool.and_eq_true] at h
  have h2 := h.2
  have hle : s.size ≤ n := by
    cases st <;> (simp only [Bool.false_eq_true, if_false, if_true, Bool.and_eq_true, decide_eq_true_eq] at h2; exact h2.1)
  refine ⟨hle, ?_⟩
  unfold padS fldL
  rw [Int.toNat_natCast]
  rfl
theorem ok_wide {s : ByteArray} {n : Nat} {st : Bool} (h : okB s n st true = true) : ∃ cs, charL s = some cs ∧ 2 * cs.length ≤ n ∧ (wpad cs n).data.toList = fldL true s n := by
  unfold okB at h
  rw [Bool.and_eq_true] at h
  have h2 := h.2
  simp only [if_true] at h2
  unfold wideB at h2
  cases hc : charL s with
  | none => rw [hc] at h2; cases h2
  | some cs =>
    rw [hc] at h2
    have h3 := of_decide_eq_true h2
    refine ⟨cs, rfl, by omega, ?_⟩
    unfold wpad fldL chars0
    rw [hc, Int.toNat_natCast]
    rfl
section
variable {w : World} {d : DR} {G p5 p6 : Nat} {lens : List Nat} {segs : List (List UInt8)} {W : World}
set_option maxRecDepth 20000 in
set_option maxHeartbeats 1000000 in
theorem text_any (hS : BS w d G p5 p6 lens segs W) (hT : TabD w) (p8 : Nat) (wd : Bool) (h8 : Blk W p8 #[fillV wd] 57) (i at' n : Nat) (s : ByteArray) (st : Bool) (hs : s.size ≤ 65536) (hok : okB s n st wd = true) (hn : 0 < n ∧ n ≤ 2048) (hi : lens[i]? = some n) (hat : (lens.take i).sum = at') (hsum : lens.sum = 2048) :
    Calls Tryz.prog 32 #[.int .i64 at', .int .i64 n, .string s, .pointer (some ⟨p8, 0, none⟩), .pointer (some ⟨p6, 0, none⟩)] W fun e w' => e = .returned (.tuple #[]) ∧ BS w d G p5 p6 lens (segs.set i (fldL wd s n)) w' ∧ KG G W w' := by
  have HS := hide hS
  have c8 := h8.cells 0
  have hl := fld_len hok
  have hTW := hT.1.below hS.bel
  clear hS h8
  cases wd
  · obtain ⟨hle, he⟩ := ok_field hok
    have hps : (padS s n).size = n := (Array.length_toList (xs := (padS s n).data)).symm.trans ((congrArg List.length he).trans hl)
    replace c8 : W.cell? ⟨p8, 0, none⟩ = some (.func (.func 30) #[] #[]) := c8
    have HE := hide he
    clear hok hl he
    have HL : Live w [] := trivial
    go_enter Tryz.func32, Tryz.ntmps32
    go_upto_region 1 with (go_at_call 30; refine (field_any s n (by omega) _).mono ?_; rintro e w1 ⟨rfl, hb⟩)
    have hb1 : Below W.heap.size W w1 := by (exact bl)
    have hS1 := hide (HS.out.below hb1)
    have c6 : w1.cell? ⟨p6, 0, none⟩ = some (.func (.func 27) #[] #[.pointer (some ⟨p5, 0, none⟩)]) := hS1.out.b6.cells 0
    go_wp2_with (go_at_call 27; refine (put_any hS1.out i at' (padS s n) (by rw [hi, hps]) hat hsum (by omega)).mono ?_; rintro e w2 ⟨rfl, h2, hk⟩)
    go_end0
    rw [HE.out] at h2
    exact ⟨rfl, h2, (KG.below hb1).trans hk⟩
  · obtain ⟨cs, hc, hle, he⟩ := ok_wide hok
    have hps : (wpad cs n).size = n := (Array.length_toList (xs := (wpad cs n).data)).symm.trans ((congrArg List.length he).trans hl)
    replace c8 : W.cell? ⟨p8, 0, none⟩ = some (.func (.func 31) #[] #[]) := c8
    have HE := hide he
    clear hok hl he
    have HL : Live w [] := trivial
    go_enter Tryz.func32, Tryz.ntmps32
    go_upto_region 1 with (go_at_call 31; refine (wfield_any s hs cs hc n (by omega) _ (by assumption)).mono ?_; rintro e w1 ⟨rfl, hb⟩)
    have hb1 : Below W.heap.size W w1 := by (exact bl)
    have hS1 := hide (HS.out.below hb1)
    have c6 : w1.cell? ⟨p6, 0, none⟩ = some (.func (.func 27) #[] #[.pointer (some ⟨p5, 0, none⟩)]) := hS1.out.b6.cells 0
    go_wp2_with (go_at_call 27; refine (put_any hS1.out i at' (wpad cs n) (by rw [hi, hps]) hat hsum (by omega)).mono ?_; rintro e w2 ⟨rfl, h2, hk⟩)
    go_end0
    rw [HE.out] at h2
    exact ⟨rfl, h2, (KG.below hb1).trans hk⟩
end
end Go.Proofs.YtjbhokmkmapkoaaGreatDoor
namespace Go.Proofs.YtjbhokmkmapkoaaGreatDoor
set_option linter.unusedSimpArgs false
set_option linter.unusedVariables false
open Go.RowKit
open Go.PlainAid (bt get_bt bt_nonneg bt_le bt_end)
/-- What a descriptor is written as. -/
def encDS (d : DR) : ByteArray := if chkD d = 0 then ⟨(encD d).toArray⟩ else ⟨#[]⟩
/-- The segments' lengths: the times and what stands behind them are one. -/
def lensP : List Nat := [1, 6, 1, 32, 32, 8, 8, 3, 29, 4, 4, 4, 8, 4, 4, 4, 4, 34, 128, 128, 128, 128, 37, 37, 37, 69, 1166]
def lensA (d : DR) : List Nat := if d.typ = 0 then [1, 6, 23, 41, 4, 1973] else if d.typ = 255 then [1, 6, 2041] else lensP
theorem lensA_0 (d : DR) : (lensA d)[0]? = some 1 := by unfold lensA; split; · rfl
                                                        · split <;> rfl
theorem lensA_1 (d : DR) : (lensA d)[1]? = some 6 := by unfold lensA; split; · rfl
                                                        · split <;> rfl
theorem lensA_1' (d : DR) : ((lensA d).take 1).sum = 1 := by unfold lensA; split; · rfl
                                                             · split <;> rfl
theorem lensA_sum (d : DR) : (lensA d).sum = 2048 := by unfold lensA; split; · decide
                                                        · split <;> decide
/-- The segments behind the type and the standard. -/
def seg2 (d : DR) : List (List UInt8) := (((lensA d).map zr).set 0 [u8 d.typ]).set 1 stdL
def fIx : Nat → Nat
  | 0 => 4
  | 1 => 18
  | 2 => 19
  | 3 => 20
  | _ => 21
def fS (d : DR) (segs : List (List UInt8)) : Nat → List (List UInt8)
  | 0 => segs
  | k + 1 => (fS d segs k).set (fIx k) (fldL (wide d) (fTx d k) (fSz k))
def bS3 (wd : Bool) (segs : List (List UInt8)) : Nat → List (List UInt8)
  | 0 => segs
  | k + 1 => (bS3 wd segs k).set (22 + k) (fldL wd ⟨#[]⟩ 37)
theorem fIx_at (k : Nat) (h : k < 5) : lensP[fIx k]? = some (fSz k) ∧ (lensP.take (fIx k)).sum = fAt k := by
  rcases five h with rfl | rfl | rfl | rfl | rfl <;> exact ⟨rfl, rfl⟩
theorem bIx_at (k : Nat) (h : k < 3) : lensP[22 + k]? = some 37 ∧ (lensP.take (22 + k)).sum = 702 + 37 * k := by
  have : k = 0 ∨ k = 1 ∨ k = 2 := by omega
  rcases this with rfl | rfl | rfl <;> exact ⟨rfl, rfl⟩
/-- The escape sequence is written into supplementary ones alone. -/
def segE (d : DR) : List (List UInt8) := if wide d then (seg2 d).set 7 [37, 47, 69] else seg2 d
/-- The bytes behind the fields. -/
def timL (d : DR) : List UInt8 := (desT2 d.time d.zone).data.toList ++ (desT2 d.time d.zone).data.toList ++ unL ++ (desT2 d.time d.zone).data.toList ++ [1]
def segF (d : DR) : List (List UInt8) :=
  (((((((((bS3 (wide d) ((fS d (segE d) 5).set 3 (fldL (wide d) ⟨#[]⟩ 32)) 3).set 6 (both4 d.space)).set 9 (both2 d.discs)).set 10 (both2 d.number)).set 11 (both2 2048)).set 12 (both4 d.psize)).set 13 (l4 d.pl)).set 15 (b4 d.pm)).set 17 (encR d.root)).set 25 (timL d)
theorem segF_flat {d : DR} (ht : d.typ = 1 ∨ d.typ = 2) : (segF d).flatten = encD d := by
  rw [encD_prim ht]
  have hl : lensA d = lensP := by unfold lensA; rw [if_neg (by omega), if_neg (by omega)]
  unfold segF segE seg2
  rw [hl]
  unfold segsD escL timL
  rcases ht with h | h
  · have hw : wide d = false := by unfold wide; rw [h]; rfl
    rw [hw, if_neg (by simp), if_neg (by omega)]
    simp only [fS, bS3, fIx, fTx, fSz, hw, lensP, List.map_cons, List.map_nil, List.set_cons_zero, List.set_cons_succ, List.flatten_cons, List.flatten_nil, List.append_assoc, List.append_nil, Nat.reduceAdd]
    rfl
  · have hw : wide d = true := by unfold wide; rw [h]; rfl
    rw [hw, if_pos rfl, if_pos h]
    simp only [fS, bS3, fIx, fTx, fSz, hw, lensP, List.map_cons, List.map_nil, List.set_cons_zero, List.set_cons_succ, List.flatten_cons, List.flatten_nil, List.append_assoc, List.append_nil, Nat.reduceAdd]
    rfl
theorem made_zr (n : Nat) : madeCells #[.int .u8 0] n = (Lib.byteCells (zr n)).toArray := by
  apply Array.ext
  · rw [size_madeCells, List.size_toArray, Lib.byteCells_length, zr_len]
  · intro i h1 h2
    simp [madeCells, Lib.byteCells, zr, Nat.mod_one]
theorem make_2048 (W : World) : (Instr.makeSlice 48 (.int .i64 2048) (.int .i64 2048)).run Tryz.prog W = .ok (.slice (some ⟨W.heap.size, 0, none⟩) 2048 2048) (W.alloc (.cells (Lib.byteCells (zr 2048)).toArray 5)) := by
  rw [← made_zr]
  exact run_make_row' (P := Tryz.prog) 48 5 (.int .u8 0) 1 Tryz.underlying48 (by kernel_rfl) rfl .i64 .i64 2048 (by decide) (by decide) W
theorem set_zr (lens : List Nat) (h : lens[0]? = some 1) (x : UInt8) : (Lib.byteCells (lens.map zr).flatten).toArray.setIfInBounds 0 (.int .u8 (x.toNat : Int)) = (Lib.byteCells ((lens.map zr).set 0 [x]).flatten).toArray := by
  cases lens with
  | nil => simp at h
  | cons n l =>
    have e : n = 1 := by simpa using h
    subst e
    simp [Lib.byteCells, zr]
/-- A value of one cell is stored into a block that is known whole. -/
theorem run_store_blk {P : Program} {W : World} {n j : Nat} {cs : Array Value} {T : TypeId} {v : Value} (h : Blk W n cs T) (hj : j < cs.size) (hv : v.oneCell' = true) : (store ⟨n, j, none⟩ v).run P W = .ok () (W.setCell ⟨n, j, none⟩ v) := by
  have hcell : W.cell? ⟨n, j, none⟩ = some cs[j] := by rw [h.cells]; exact Array.getElem?_eq_getElem hj
  have hfro : W.frozen? ⟨n, j, none⟩ = false := h.free j
  rw [run_store P W _ v _ hv, hcell]
  simp [hfro]
theorem flat0 {d : DR} (h : d.typ = 0) : (((seg2 d).set 2 torL).set 4 (l4 d.cat)).flatten = encD d := by
  unfold encD seg2 lensA
  rw [if_pos h, if_pos h]
  rfl
theorem flat255 {d : DR} (h : d.typ = 255) : (seg2 d).flatten = encD d := by
  unfold encD seg2 lensA
  rw [if_neg (by omega), if_pos h, if_neg (by omega), if_pos h]
  rfl
section
variable {w : World} {d : DR} {G p5 p6 : Nat} {lens : List Nat} {segs : List (List UInt8)} {W : World}
theorem BS.first (h : BS w d G p5 p6 lens (lens.map zr) W) (h0 : lens[0]? = some 1) (t : Int) (ht : 0 ≤ t ∧ t ≤ 255) : BS w d G p5 p6 lens ((lens.map zr).set 0 [u8 t]) (W.setCell ⟨G, 0, none⟩ (.int .u8 t)) := by
  have := h.l1; have := h.l2; have := h.l3
  refine ⟨h.bel.setCell (p := ⟨G, 0, none⟩) (by simp only; omega) _, Blk.other (by omega) h.db, Blk.other (by omega) h.b5, Blk.other (by omega) h.b6, Blk.put ?_ h.bf, lens_set h.ln (by rw [h0]; rfl), h.l1, h.l2, h.l3⟩
  have e := set_zr lens h0 (u8 t)
  rw [u8_nat ht] at e
  exact e
theorem BS.known (h : BS w d G p5 p6 lens segs W) : Dat W w.heap.size d ∧ W.cell? ⟨p5, 0, none⟩ = some (.slice (some ⟨G, 0, none⟩) 2048 2048) ∧ W.cell? ⟨p6, 0, none⟩ = some (.func (.func 27) #[] #[.pointer (some ⟨p5, 0, none⟩)]) :=
  ⟨Dat.of h.db, h.b5.cells 0, h.b6.cells 0⟩
theorem BS.str (h : BS w d G p5 p6 lens segs W) (hs : lens.sum = 2048) : (convert 48 9 (.slice (some ⟨G, 0, none⟩) 2048 2048)).run Tryz.prog W = .ok (.string ⟨segs.flatten.toArray⟩) W := by
  have hl : segs.flatten.length = 2048 := by rw [List.length_flatten, h.ln, hs]
  have hb := h.bf
  generalize segs.flatten = L at hb hl ⊢
  have hm : (L.map fun b => (b.toNat : Int)).map (fun n => UInt8.ofNat n.toNat) = L := by
    rw [List.map_map]
    conv => rhs; rw [← List.map_id L]
    apply List.map_congr_left
    intro b _
    show UInt8.ofNat ((b.toNat : Int)).toNat = b
    rw [Int.toNat_natCast]
    exact UInt8.ofNat_toNat
  have e := run_conv_bytes (P := Tryz.prog) W 48 9 5 Tryz.underlying48 Tryz.underlying5 Tryz.underlying9 ⟨G, 0, none⟩ 2048 (L.map fun b => (b.toNat : Int)) (fun j v hj => by
    have e : (Addr.add ⟨G, 0, none⟩ j) = ⟨G, j, none⟩ := by simp [Addr.add]; intro h; exact h.symm
    rw [e, hb.cells, List.getElem?_toArray]
    unfold Lib.byteCells
    rw [List.map_map] at hj
    exact hj)
  rw [hm, List.length_map, hl] at e
  exact e
end
theorem cat_of {d : DR} (h : chkD d = 0) (ht : d.typ = 0) : 0 ≤ d.cat ∧ d.cat ≤ 4294967295 := by
  rw [chk_0 ht] at h
  split at h
  · split at h
    · rename_i hw
      unfold wordB at hw
      exact of_decide_eq_true hw
    · cases h
  · cases h
theorem encDS_ok {d : DR} (h : chkD d = 0) : encDS d = ⟨(encD d).toArray⟩ := by unfold encDS; rw [if_pos h]
theorem encDS_no {d : DR} (h : chkD d ≠ 0) : encDS d = ⟨#[]⟩ := by unfold encDS; rw [if_neg h]
end Go.Proofs.YtjbhokmkmapkoaaGreatDoor
