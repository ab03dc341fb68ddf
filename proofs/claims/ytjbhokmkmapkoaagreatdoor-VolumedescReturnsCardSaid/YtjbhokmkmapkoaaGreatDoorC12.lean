/- Contracts and plain words for the laws of volume descriptors, part 12: B3, I1, W4, J1, G3, G4. No condition. -/
import Derived.Test.YtjbhokmkmapkoaaGreatDoorC11
import Derived.Lib.BufferWrite
import Derived.Test.YtjbhokmkmapkoaaGreatDoorC7
import Derived.Test.YtjbhokmkmapkoaaGreatDoorC8
import Derived.Laws.StructEq
import Derived.Test.YtjbhokmkmapkoaaGreatDoorC0
namespace Go.Proofs.YtjbhokmkmapkoaaGreatDoor
set_option linter.unusedSimpArgs false
set_option linter.unusedVariables false
open Go.RowKit
set_option maxHeartbeats 400000 in
theorem double2 (w : World) : Calls Tryz.prog 73 #[.int .i64 2] w fun e w' => e = .returned (.bool true) ∧ w = w' := by
  have HL : Live w [] := trivial
  go_enter Tryz.func73, Tryz.ntmps73
  go_wp2
  go_ret
  exact ⟨rfl, rfl⟩
set_option maxHeartbeats 400000 in
theorem fits2 (n : Int) (h : 0 ≤ n ∧ n ≤ 65535) (w : World) : Calls Tryz.prog 74 #[.int .i64 n, .int .i64 2] w fun e w' => e = .returned (.bool true) ∧ w = w' := by
  have HL : Live w [] := trivial
  go_enter Tryz.func74, Tryz.ntmps74
  go_wp2
  go_ret
  exact ⟨ret_b (decide_eq_true (by omega)), rfl⟩
set_option maxHeartbeats 400000 in
theorem double4 (w : World) : Calls Tryz.prog 73 #[.int .i64 4] w fun e w' => e = .returned (.bool true) ∧ w = w' := by
  have HL : Live w [] := trivial
  go_enter Tryz.func73, Tryz.ntmps73
  go_wp2
  go_ret
  exact ⟨rfl, rfl⟩
set_option maxHeartbeats 400000 in
theorem fits4 (n : Int) (h : 0 ≤ n ∧ n ≤ 4294967295) (w : World) : Calls Tryz.prog 74 #[.int .i64 n, .int .i64 4] w fun e w' => e = .returned (.bool true) ∧ w = w' := by
  have HL : Live w [] := trivial
  go_enter Tryz.func74, Tryz.ntmps74
  go_wp2
  go_ret
  exact ⟨ret_b (decide_eq_true (by omega)), rfl⟩
set_option maxHeartbeats 400000 in
theorem check4 (n : Int) (h : 0 ≤ n ∧ n ≤ 4294967295) (w : World) : Calls Tryz.prog 68 #[.int .i64 n, .int .i64 4] w fun e w' => e = .returned (.int .i64 0) ∧ w = w' := by
  have HL : Live w [] := trivial
  go_enter Tryz.func68, Tryz.ntmps68
  go_wp2_with (first | (go_at_call 74; (with_reducible refine (fits4 _ (by omega) _).mono ?_); rintro e w' ⟨rfl, rfl⟩))
  go_ret
  exact ⟨rfl, rfl⟩
set_option maxHeartbeats 1000000 in
theorem little4_any (n : Int) (h : 0 ≤ n ∧ n ≤ 4294967295) (w : World) : Calls Tryz.prog 29 #[.int .i64 n, .int .i64 4] w fun e w' => e = .returned (.tuple #[.string ⟨(l4 n).toArray⟩, .int .i64 0]) ∧ Below w.heap.size w w' := by
  have HL : Live w [] := trivial
  go_enter Tryz.func29, Tryz.ntmps29
  go_wp2_with (first | (go_at_call 68; (with_reducible refine (check4 _ (by omega) _).mono ?_); rintro e w' ⟨rfl, rfl⟩) | (go_at_call 70; (with_reducible refine (up_any _ _).mono ?_); rintro e w' ⟨rfl, rfl⟩))
  (first | ((with_reducible refine (write_up4 n h _).mono ?_); rintro e w1 ⟨rfl, hb⟩; have hz := hb.size; (try simp only [World.size_alloc, World.size_setCell, World.size_drew, Nat.add_assoc, Nat.reduceAdd] at hz); (first | obtain ⟨HL, hk⟩ := HL.call hb hz (by simp only [World.size_alloc, World.size_setCell, World.size_drew, Nat.add_assoc, Nat.reduceAdd]) | obtain ⟨HL, hk⟩ := HL.call0 hb hz (by first | rfl | simp only [World.size_alloc, World.size_setCell, World.size_drew, Nat.add_assoc, Nat.reduceAdd])); (try simp only [addN, Nat.add_zero] at HL hk); have hl := HL; simp only [Live] at hl; (try simp only [Kept] at hk)))
  go_wp2_with fail
  go_ret2
  exact ⟨rfl, by (repeat' (first | (with_reducible exact Below.refl _ _) | (with_reducible refine Below.alloc ?_ ?_ _) | (with_reducible refine Below.setCell ?_ ?_ _) | (with_reducible refine Below.drew ?_) | (with_reducible refine below_drewN' ?_) | (with_reducible refine below_bytesW ?_ ?_) | (with_reducible refine Below.trans ?_ (Below.mono (by assumption) ?_)) | omega | (simp only [World.size_alloc, World.size_setCell, World.size_drew]; omega) | (simp [size_bytesW]; omega) | (simp; omega)))⟩
set_option maxHeartbeats 1000000 in
theorem big4_any (n : Int) (h : 0 ≤ n ∧ n ≤ 4294967295) (w : World) : Calls Tryz.prog 35 #[.int .i64 n, .int .i64 4] w fun e w' => e = .returned (.tuple #[.string ⟨(b4 n).toArray⟩, .int .i64 0]) ∧ Below w.heap.size w w' := by
  have HL : Live w [] := trivial
  go_enter Tryz.func35, Tryz.ntmps35
  go_wp2_with (first | (go_at_call 68; (with_reducible refine (check4 _ (by omega) _).mono ?_); rintro e w' ⟨rfl, rfl⟩) | (go_at_call 75; (with_reducible refine (down_4 _).mono ?_); rintro e w' ⟨rfl, rfl⟩))
  (first | ((with_reducible refine (write_down4 n w.heap.size h _ (by go_simp)).mono ?_); rintro e w1 ⟨rfl, hb⟩; have hz := hb.size; (try simp only [World.size_alloc, World.size_setCell, World.size_drew, Nat.add_assoc, Nat.reduceAdd] at hz); (first | obtain ⟨HL, hk⟩ := HL.call hb hz (by simp only [World.size_alloc, World.size_setCell, World.size_drew, Nat.add_assoc, Nat.reduceAdd]) | obtain ⟨HL, hk⟩ := HL.call0 hb hz (by first | rfl | simp only [World.size_alloc, World.size_setCell, World.size_drew, Nat.add_assoc, Nat.reduceAdd])); (try simp only [addN, Nat.add_zero] at HL hk); have hl := HL; simp only [Live] at hl; (try simp only [Kept] at hk)))
  go_wp2_with fail
  go_ret2
  exact ⟨rfl, by (repeat' (first | (with_reducible exact Below.refl _ _) | (with_reducible refine Below.alloc ?_ ?_ _) | (with_reducible refine Below.setCell ?_ ?_ _) | (with_reducible refine Below.drew ?_) | (with_reducible refine below_drewN' ?_) | (with_reducible refine below_bytesW ?_ ?_) | (with_reducible refine Below.trans ?_ (Below.mono (by assumption) ?_)) | omega | (simp only [World.size_alloc, World.size_setCell, World.size_drew]; omega) | (simp [size_bytesW]; omega) | (simp; omega)))⟩
set_option maxHeartbeats 1000000 in
theorem both2_any (n : Int) (h : 0 ≤ n ∧ n ≤ 65535) (w : World) : Calls Tryz.prog 34 #[.int .i64 n, .int .i64 2] w fun e w' => e = .returned (.tuple #[.string ⟨(both2 n).toArray⟩, .int .i64 0]) ∧ Below w.heap.size w w' := by
  have HL : Live w [] := trivial
  go_enter Tryz.func34, Tryz.ntmps34
  go_wp2_with (first | (go_at_call 73; (with_reducible refine (double2 _).mono ?_); rintro e w' ⟨rfl, rfl⟩) | (go_at_call 74; (with_reducible refine (fits2 _ (by omega) _).mono ?_); rintro e w' ⟨rfl, rfl⟩) | (go_at_call 70; (with_reducible refine (up_any _ _).mono ?_); rintro e w' ⟨rfl, rfl⟩))
  (first | ((with_reducible refine (write_up2 n h _).mono ?_); rintro e w1 ⟨rfl, hb⟩; have hz := hb.size; (try simp only [World.size_alloc, World.size_setCell, World.size_drew, Nat.add_assoc, Nat.reduceAdd] at hz); (first | obtain ⟨HL, hk⟩ := HL.call hb hz (by simp only [World.size_alloc, World.size_setCell, World.size_drew, Nat.add_assoc, Nat.reduceAdd]) | obtain ⟨HL, hk⟩ := HL.call0 hb hz (by first | rfl | simp only [World.size_alloc, World.size_setCell, World.size_drew, Nat.add_assoc, Nat.reduceAdd])); (try simp only [addN, Nat.add_zero] at HL hk); have hl := HL; simp only [Live] at hl; (try simp only [Kept] at hk)))
  go_wp2_with (first | (go_at_call 75; (with_reducible refine (down_2 _).mono ?_); rintro e w' ⟨rfl, rfl⟩))
  (first | ((with_reducible refine (write_down2 n w1.heap.size h _ (by go_simp)).mono ?_); rintro e w2 ⟨rfl, hb⟩; have hz := hb.size; (try simp only [World.size_alloc, World.size_setCell, World.size_drew, Nat.add_assoc, Nat.reduceAdd] at hz); (first | obtain ⟨HL, hk⟩ := HL.call hb hz (by simp only [World.size_alloc, World.size_setCell, World.size_drew, Nat.add_assoc, Nat.reduceAdd]) | obtain ⟨HL, hk⟩ := HL.call0 hb hz (by first | rfl | simp only [World.size_alloc, World.size_setCell, World.size_drew, Nat.add_assoc, Nat.reduceAdd])); (try simp only [addN, Nat.add_zero] at HL hk); have hl := HL; simp only [Live] at hl; (try simp only [Kept] at hk)))
  go_wp2_with fail
  go_ret2
  exact ⟨rfl, by (repeat' (first | (with_reducible exact Below.refl _ _) | (with_reducible refine Below.alloc ?_ ?_ _) | (with_reducible refine Below.setCell ?_ ?_ _) | (with_reducible refine Below.drew ?_) | (with_reducible refine below_drewN' ?_) | (with_reducible refine below_bytesW ?_ ?_) | (with_reducible refine Below.trans ?_ (Below.mono (by assumption) ?_)) | omega | (simp only [World.size_alloc, World.size_setCell, World.size_drew]; omega) | (simp [size_bytesW]; omega) | (simp; omega)))⟩
set_option maxHeartbeats 1000000 in
theorem both4_any (n : Int) (h : 0 ≤ n ∧ n ≤ 4294967295) (w : World) : Calls Tryz.prog 34 #[.int .i64 n, .int .i64 4] w fun e w' => e = .returned (.tuple #[.string ⟨(both4 n).toArray⟩, .int .i64 0]) ∧ Below w.heap.size w w' := by
  have HL : Live w [] := trivial
  go_enter Tryz.func34, Tryz.ntmps34
  go_wp2_with (first | (go_at_call 73; (with_reducible refine (double4 _).mono ?_); rintro e w' ⟨rfl, rfl⟩) | (go_at_call 74; (with_reducible refine (fits4 _ (by omega) _).mono ?_); rintro e w' ⟨rfl, rfl⟩) | (go_at_call 70; (with_reducible refine (up_any _ _).mono ?_); rintro e w' ⟨rfl, rfl⟩))
  (first | ((with_reducible refine (write_up4 n h _).mono ?_); rintro e w1 ⟨rfl, hb⟩; have hz := hb.size; (try simp only [World.size_alloc, World.size_setCell, World.size_drew, Nat.add_assoc, Nat.reduceAdd] at hz); (first | obtain ⟨HL, hk⟩ := HL.call hb hz (by simp only [World.size_alloc, World.size_setCell, World.size_drew, Nat.add_assoc, Nat.reduceAdd]) | obtain ⟨HL, hk⟩ := HL.call0 hb hz (by first | rfl | simp only [World.size_alloc, World.size_setCell, World.size_drew, Nat.add_assoc, Nat.reduceAdd])); (try simp only [addN, Nat.add_zero] at HL hk); have hl := HL; simp only [Live] at hl; (try simp only [Kept] at hk)))
  go_wp2_with (first | (go_at_call 75; (with_reducible refine (down_4 _).mono ?_); rintro e w' ⟨rfl, rfl⟩))
  (first | ((with_reducible refine (write_down4 n w1.heap.size h _ (by go_simp)).mono ?_); rintro e w2 ⟨rfl, hb⟩; have hz := hb.size; (try simp only [World.size_alloc, World.size_setCell, World.size_drew, Nat.add_assoc, Nat.reduceAdd] at hz); (first | obtain ⟨HL, hk⟩ := HL.call hb hz (by simp only [World.size_alloc, World.size_setCell, World.size_drew, Nat.add_assoc, Nat.reduceAdd]) | obtain ⟨HL, hk⟩ := HL.call0 hb hz (by first | rfl | simp only [World.size_alloc, World.size_setCell, World.size_drew, Nat.add_assoc, Nat.reduceAdd])); (try simp only [addN, Nat.add_zero] at HL hk); have hl := HL; simp only [Live] at hl; (try simp only [Kept] at hk)))
  go_wp2_with fail
  go_ret2
  exact ⟨rfl, by (repeat' (first | (with_reducible exact Below.refl _ _) | (with_reducible refine Below.alloc ?_ ?_ _) | (with_reducible refine Below.setCell ?_ ?_ _) | (with_reducible refine Below.drew ?_) | (with_reducible refine below_drewN' ?_) | (with_reducible refine below_bytesW ?_ ?_) | (with_reducible refine Below.trans ?_ (Below.mono (by assumption) ?_)) | omega | (simp only [World.size_alloc, World.size_setCell, World.size_drew]; omega) | (simp [size_bytesW]; omega) | (simp; omega)))⟩
end Go.Proofs.YtjbhokmkmapkoaaGreatDoor
namespace Go.Proofs.YtjbhokmkmapkoaaGreatDoor
set_option linter.unusedSimpArgs false
set_option linter.unusedVariables false
open Go.RowKit
open Go.PlainAid (bt get_bt bt_nonneg bt_le bt_end)
/-- The cells of a record. -/
def Rec.cells (r : Rec) : Array Value := #[.string r.id, .int .i64 r.lba, .int .i64 r.len, .int .i64 r.time, .int .i64 r.zone, .int .i64 r.flags, .int .i64 r.seq, .string r.use]
/-- A block reads as a record from a place on. -/
def Rat (w : World) (b : Nat) (r : Rec) : Prop := w.cell? ⟨b, 0, none⟩ = some (.string r.id) ∧ w.cell? ⟨b, 1, none⟩ = some (.int .i64 r.lba) ∧ w.cell? ⟨b, 2, none⟩ = some (.int .i64 r.len) ∧ w.cell? ⟨b, 3, none⟩ = some (.int .i64 r.time) ∧ w.cell? ⟨b, 4, none⟩ = some (.int .i64 r.zone) ∧ w.cell? ⟨b, 5, none⟩ = some (.int .i64 r.flags) ∧ w.cell? ⟨b, 6, none⟩ = some (.int .i64 r.seq) ∧ w.cell? ⟨b, 7, none⟩ = some (.string r.use)
theorem Rat.of {w : World} {b : Nat} {r : Rec} {T : TypeId} (h : Blk w b r.cells T) : Rat w b r := by
  unfold Rat
  have hc := h.cells
  exact ⟨(hc 0).trans rfl, (hc 1).trans rfl, (hc 2).trans rfl, (hc 3).trans rfl, (hc 4).trans rfl, (hc 5).trans rfl, (hc 6).trans rfl, (hc 7).trans rfl⟩
/-- A number and its size: it fits, its bytes in both orders, its error. -/
def okP (n s : Int) : Bool := if s = 4 then wordB n else halfB n
def bS (n s : Int) : List UInt8 := if okP n s = true then (if s = 4 then both4 n else both2 n) else []
def eP (n s : Int) : Int := if okP n s = true then 0 else 2
theorem bS_len (n s : Int) : (bS n s).length ≤ 8 := by
  unfold bS both4 both2 l4 b4 l2 b2
  repeat' split
  all_goals simp
set_option maxHeartbeats 400000 in
theorem fits_no (n s : Int) (hs : s = 2 ∨ s = 4) (h : okP n s = false) (w : World) : Calls Tryz.prog 74 #[.int .i64 n, .int .i64 s] w fun e w' => e = .returned (.bool false) ∧ w = w' := by
  by_cases n0 : 0 ≤ n
  · have hk : (if s = 4 then (4294967295 : Int) else 65535) < n := by
      unfold okP wordB halfB at h
      rcases hs with rfl | rfl
      · have := of_decide_eq_false h; simp; omega
      · have := of_decide_eq_false h; simp; omega
    clear h
    rcases hs with rfl | rfl
    · simp at hk
      have HL : Live w [] := trivial
      go_enter Tryz.func74, Tryz.ntmps74
      go_wp2
      go_ret
      exact ⟨ret_b (decide_eq_false (by omega)), rfl⟩
    · simp at hk
      have HL : Live w [] := trivial
      go_enter Tryz.func74, Tryz.ntmps74
      go_wp2
      go_ret
      exact ⟨ret_b (decide_eq_false (by omega)), rfl⟩
  · clear h
    rcases hs with rfl | rfl
    · have HL : Live w [] := trivial
      go_enter Tryz.func74, Tryz.ntmps74
      go_wp2
      go_ret
      exact ⟨rfl, rfl⟩
    · have HL : Live w [] := trivial
      go_enter Tryz.func74, Tryz.ntmps74
      go_wp2
      go_ret
      exact ⟨rfl, rfl⟩
theorem ret2_sb {a b : ByteArray} {c d : Int} (h1 : a = b) (h2 : c = d) : Ending.returned (.tuple #[.string a, .int .i64 c]) = .returned (.tuple #[.string b, .int .i64 d]) := by rw [h1, h2]
theorem okP4 {n : Int} (h : okP n 4 = true) : 0 ≤ n ∧ n ≤ 4294967295 := of_decide_eq_true h
theorem okP2 {n : Int} (h : okP n 2 = true) : 0 ≤ n ∧ n ≤ 65535 := of_decide_eq_true h
set_option maxHeartbeats 1000000 in
theorem both_any (n s : Int) (hs : s = 2 ∨ s = 4) (w : World) : Calls Tryz.prog 34 #[.int .i64 n, .int .i64 s] w fun e w' => e = .returned (.tuple #[.string ⟨(bS n s).toArray⟩, .int .i64 (eP n s)]) ∧ Below w.heap.size w w' := by
  cases h : okP n s
  · have e1 := hide (show bS n s = [] by unfold bS; rw [h]; rfl)
    have e2 := hide (show eP n s = 2 by unfold eP; rw [h]; rfl)
    have H := hide h
    clear h
    rcases hs with rfl | rfl
    · have FN := hide (fun W => fits_no n 2 (Or.inl rfl) H.out W)
      have HL : Live w [] := trivial
      go_enter Tryz.func34, Tryz.ntmps34
      go_wp2_with (first | (go_at_call 73; (with_reducible refine (double2 _).mono ?_); rintro e w' ⟨rfl, rfl⟩) | (go_at_call 74; (with_reducible refine (FN.out _).mono ?_); rintro e w' ⟨rfl, rfl⟩))
      go_ret2
      exact ⟨ret2_sb (by rw [e1.out]) e2.out.symm, Below.refl _ _⟩
    · have FN := hide (fun W => fits_no n 4 (Or.inr rfl) H.out W)
      have HL : Live w [] := trivial
      go_enter Tryz.func34, Tryz.ntmps34
      go_wp2_with (first | (go_at_call 73; (with_reducible refine (double4 _).mono ?_); rintro e w' ⟨rfl, rfl⟩) | (go_at_call 74; (with_reducible refine (FN.out _).mono ?_); rintro e w' ⟨rfl, rfl⟩))
      go_ret2
      exact ⟨ret2_sb (by rw [e1.out]) e2.out.symm, Below.refl _ _⟩
  · have e2 : eP n s = 0 := by unfold eP; rw [h]; rfl
    rw [e2]
    rcases hs with rfl | rfl
    · have e1 : bS n 2 = both2 n := by unfold bS; rw [h]; rfl
      rw [e1]
      exact both2_any n (okP2 h) w
    · have e1 : bS n 4 = both4 n := by unfold bS; rw [h]; rfl
      rw [e1]
      exact both4_any n (okP4 h) w
set_option maxHeartbeats 400000 in
theorem padded_any (n : Nat) (h : n ≤ 255) (w : World) : Calls Tryz.prog 112 #[.int .i64 n] w fun e w' => e = .returned (.int .i64 (padN n)) ∧ w = w' := by
  have HL : Live w [] := trivial
  go_enter Tryz.func112, Tryz.ntmps112
  go_wp2
  go_ret
  exact ⟨ret_i (by unfold padN; omega), rfl⟩
set_option maxHeartbeats 400000 in
theorem size_self (w : World) : Calls Tryz.prog 76 #[.int .i64 1, .int .i64 0] w fun e w' => e = .returned (.int .i64 34) ∧ w = w' := by
  have PA : Hid (∀ W, Calls Tryz.prog 112 #[.int .i64 1] W fun e w' => e = .returned (.int .i64 34) ∧ W = w') := hide (fun W => padded_any 1 (by decide) W)
  have HL : Live w [] := trivial
  go_enter Tryz.func76, Tryz.ntmps76
  go_wp2_with (go_at_call 112; refine (PA.out _).mono ?_; rintro e w' ⟨rfl, rfl⟩)
  go_ret
  exact ⟨rfl, rfl⟩
theorem byteInfo : (Tryz.prog.info? 5).map (fun i => (i.zero, i.size, i.bytes)) = some (some (.int .u8 0), 1, 1) := by kernel_rfl
set_option maxHeartbeats 1000000 in
theorem ccheck (B b : Nat) (l : List UInt8) (w : World) (h : BF B b l w) : Calls Tryz.prog 137 #[.pointer (some ⟨b, 0, none⟩)] w fun e w' => e = .returned (.tuple #[]) ∧
    (Lib.BuilderAtF 101 5 B b (.pointer (some ⟨b, 0, none⟩)) (Lib.byteCells l) w' ∧ Below B w w' ∧ OK8 b w w' ∧ (∀ p : Addr, p.block ≠ b → w'.cell? p = w.cell? p) ∧ w'.heap.size = w.heap.size) := by
  rcases h with h | h
  · refine (Any.Builder_copyCheck_fresh { Tryz.lays166 with } Tryz.Builder_Extra_166.toX72 b w h.cell0 h.shape h.frozen0).mono ?_
    rintro e w' ⟨rfl, rfl⟩
    exact ⟨rfl, h.used _, (Below.refl B w).setCell (p := ⟨b, 0, none⟩) h.1 _, (Lib.OthersKept.refl _ _ w).setCell ⟨b, 0, none⟩ rfl _, fun p hp => World.cell?_setCell_other w _ p _ (fun e => hp (by subst e; rfl)), World.size_setCell _ _ _⟩
  · refine (Any.Builder_copyCheck_used { Tryz.lays166 with } Tryz.Builder_Extra_166.toX72 b w h.cell0).mono ?_
    rintro e w' ⟨rfl, rfl⟩
    exact ⟨rfl, h, Below.refl B _, Lib.OthersKept.refl _ _ _, fun p _ => rfl, rfl⟩
set_option maxHeartbeats 2000000 in
set_option maxRecDepth 100000 in
theorem wbytes (B b : Nat) (l m : List UInt8) (g n c : Nat) (w : World) (h : BF B b l w) (hlen : l.length + m.length ≤ 140737488355328) (hBw : B ≤ w.heap.size) (hn : m.length = n) (hg : g ≠ b)
    (hc : ∀ j u, (Lib.byteCells m)[j]? = some u → w.cell? ((⟨g, 0, none⟩ : Addr).add j) = some u) :
    Calls Tryz.prog 80 #[.pointer (some ⟨b, 0, none⟩), .slice (some ⟨g, 0, none⟩) n c] w fun e w' => e = .returned (.tuple #[.int .i64 n, .nilIface]) ∧ BWP B b (l ++ m) w w' := by
  subst hn
  obtain ⟨i0, hi, hz0, hz1, hz2⟩ := info_parts byteInfo
  go_enter Tryz.func80, Tryz.ntmps80
  go_wp2_with (go_at_call 137; refine (ccheck B b l _ h).mono ?_)
  rintro e w1 ⟨rfl, h1, hb1, hk1, hcell, hsz⟩
  obtain ⟨hB, v, hbk, hown, hne⟩ := h1
  rw [Lib.byteCells_length] at hown
  have c0 : w1.cell? ⟨b, 0, none⟩ = some (.pointer (some ⟨b, 0, none⟩)) := by rw [Lib.cell_of_heap hbk]; rfl
  have c1 : w1.cell? ⟨b, 1, none⟩ = some v := by rw [Lib.cell_of_heap hbk]; rfl
  have hcc : ∀ j u, (Lib.byteCells m)[j]? = some u → w1.cell? ((⟨g, 0, none⟩ : Addr).add j) = some u := fun j u hj => (hcell _ (by unfold Addr.add; split <;> exact hg)).trans (hc j u hj)
  have HC := hide hcc
  clear hc hcc hcell hsz
  go_wp2_with (at_builtin; refine wpList_append_ownF _ rfl _ _ 48 rfl B 5 i0 (.int .u8 0) 1 1 Tryz.underlying48 hi hz0 hz1 hz2 rfl (by decide) _ _ _ rfl hown ⟨g, 0, none⟩ m.length c (Lib.byteCells m) rfl (by rw [Lib.byteCells_length]; omega) HC.out (Lib.byteCells_one _) ?c3 ?c4 ?c5 ?_)
  case c3 => unfold maxLen; omega
  case c4 => omega
  case c5 => have := hb1.size; omega
  intro v' w2 hown' hgrow _
  have hlt : b < w1.heap.size := by
    rcases Nat.lt_or_ge b w1.heap.size with h' | h'
    · exact h'
    · simp [Array.getElem?_eq_none h'] at hbk
  have hb2 : w2.heap[b]? = some (.cells #[.pointer (some ⟨b, 0, none⟩), v] 101 (0, 0)) := by
    rw [hgrow.block b hlt (fun e => hne e.symm)]
    exact hbk
  have d0 : w2.cell? ⟨b, 0, none⟩ = some (.pointer (some ⟨b, 0, none⟩)) := by rw [Lib.cell_of_heap hb2]; rfl
  have d1 : w2.cell? ⟨b, 1, none⟩ = some v := by rw [Lib.cell_of_heap hb2]; rfl
  have f1 : w2.frozen? ⟨b, 1, none⟩ = false := Lib.frozen_of_heap hb2 1
  obtain ⟨ao, n', cap, rfl⟩ : ∃ ao n' cap, v' = .slice ao n' cap := by
    rcases hown'.2 with ⟨hv, _⟩ | ⟨g, cap, cur, fz, hv, _⟩
    · exact ⟨_, _, _, hv⟩
    · exact ⟨_, _, _, hv⟩
  go_wp2
  go_ret2
  refine ⟨rfl, Or.inr ?_, ?_, (hk1.grown hgrow (Lib.ownsRowF_kind hown)).setCell ⟨b, 1, none⟩ rfl _⟩
  · refine Lib.BuilderAtF.put (T := 101) (e := 5) hB hb2 (bs' := Lib.byteCells (l ++ m)) ?_ Tryz.Builder_Extra_166.neB5
    rw [Lib.byteCells_length, List.length_append, Lib.byteCells_append]
    exact hown'
  · exact (hb1.grown hgrow (by have := hb1.size; omega) (fun k hk => (hown.lt k hk).1)).setCell (p := ⟨b, 1, none⟩) hB _
theorem wbyte (B b : Nat) (l : List UInt8) (c : Int) (w : World) (h : BF B b l w) (hc : 0 ≤ c ∧ c ≤ 255) (hlen : l.length ≤ 100000000) (hBw : B ≤ w.heap.size) :
    Calls Tryz.prog 81 #[.pointer (some ⟨b, 0, none⟩), .int .u8 c] w fun e w' => e = .returned .nilIface ∧ BWP B b (l ++ [u8 c]) w w' := by
  refine (Any.Builder_WriteByte_k Tryz.lays167 Tryz.Builder_Extra_167 B b (Lib.byteCells l) c w h (by rw [Lib.byteCells_length]; omega) hBw).mono ?_
  rintro e w' ⟨he, h1, h2, h3⟩
  refine ⟨he, Or.inr ?_, h2, h3⟩
  have e1 : Lib.byteCells l ++ [Value.int .u8 c] = Lib.byteCells (l ++ [u8 c]) := by
    rw [Lib.byteCells_append]
    simp only [Lib.byteCells, List.map_cons, List.map_nil, u8_nat hc]
  rw [e1] at h1
  exact h1
theorem Blk.ok8 {w w1 : World} {n b : Nat} {cs : Array Value} {T : TypeId} (h : Blk w n cs T) (hk : OK8 b w w1) (hT : T ≠ 5) (hne : n ≠ b) : Blk w1 n cs T :=
  hk n _ h (by intro e; exact hne (Option.some.inj e)) (fun c fz e => by injection e with _ e2; exact hT e2)
theorem OK8.below {b : Nat} {w w1 : World} (hb : Below w.heap.size w w1) : OK8 b w w1 := fun n o h _ _ => some_below hb h
end Go.Proofs.YtjbhokmkmapkoaaGreatDoor
namespace Go.Proofs.YtjbhokmkmapkoaaGreatDoor
set_option linter.unusedSimpArgs false
set_option linter.unusedVariables false
open Go.PlainAid (bt get_bt bt_nonneg bt_le bt_end)
theorem ok_nil (n : Nat) (strict wide : Bool) : okB ⟨#[]⟩ n strict wide = true := by
  unfold okB
  have h1 : endB ⟨#[]⟩ = false := by decide
  have h2 : charL ⟨#[]⟩ = some [] := charL_nil rfl
  have h3 : wideB ⟨#[]⟩ n = true := by unfold wideB; rw [h2]; exact decide_eq_true (by simp)
  rw [h1, h3]
  cases wide
  · cases strict
    · show (true && (decide (0 ≤ n) && true)) = true; simp
    · show (true && (decide (0 ≤ n) && true)) = true; simp
  · rfl
theorem chkD_typ {d : DR} (h : chkD d = 0) : d.typ = 0 ∨ d.typ = 255 ∨ d.typ = 1 ∨ d.typ = 2 := by
  unfold chkD at h
  split at h
  · rename_i h1; omega
  · split at h
    · rename_i h1; omega
    · cases h
theorem chkD_prim {d : DR} (h : chkD d = 0) (ht : d.typ = 1 ∨ d.typ = 2) : d.cat = 0 ∧ namesB d = true ∧ d.root.id = selfS ∧ d.root.use = ⟨#[]⟩ ∧ rangesB d = true ∧ tmB d.time = true ∧ zoneB d.zone = true ∧ recE d.root = 0 := by
  unfold chkD at h
  rw [if_neg (by omega), if_pos ht] at h
  by_cases hc : d.cat = 0
  case neg => rw [if_pos hc] at h; cases h
  rw [if_neg (by simpa using hc)] at h
  cases hn : namesB d
  case false => rw [if_pos hn] at h; cases h
  rw [if_neg (by rw [hn]; simp)] at h
  by_cases hr : d.root.id ≠ selfS ∨ d.root.use ≠ ⟨#[]⟩
  · rw [if_pos hr] at h; cases h
  rw [if_neg hr] at h
  split at h
  · rename_i hb
    simp only [Bool.and_eq_true, decide_eq_true_eq] at hb
    obtain ⟨⟨⟨h1, h2⟩, h3⟩, h4⟩ := hb
    refine ⟨hc, rfl, ?_, ?_, h1, h2, h3, h4⟩
    · exact Decidable.byContradiction fun h => hr (Or.inl h)
    · exact Decidable.byContradiction fun h => hr (Or.inr h)
  · cases h
theorem ranges_of {d : DR} (h : rangesB d = true) : (0 ≤ d.space ∧ d.space ≤ 4294967295) ∧ (0 ≤ d.psize ∧ d.psize ≤ 4294967295) ∧ (0 ≤ d.pl ∧ d.pl ≤ 4294967295) ∧ (0 ≤ d.pm ∧ d.pm ≤ 4294967295) ∧ (0 ≤ d.discs ∧ d.discs ≤ 65535) ∧ (0 ≤ d.number ∧ d.number ≤ 65535) := by
  unfold rangesB wordB at h
  simp only [Bool.and_eq_true, decide_eq_true_eq] at h
  obtain ⟨⟨⟨⟨a, b⟩, c⟩, e⟩, f⟩ := h
  exact ⟨a, b, c, e, by omega, by omega⟩
theorem names_of {d : DR} (h : namesB d = true) : okB d.name 32 true (wide d) = true ∧ okB d.set 128 true (wide d) = true ∧ okB d.pub 128 false (wide d) = true ∧ okB d.prep 128 false (wide d) = true ∧ okB d.app 128 false (wide d) = true := by
  unfold namesB at h
  simp only [Bool.and_eq_true] at h
  obtain ⟨⟨⟨⟨a, b⟩, c⟩, e⟩, f⟩ := h
  exact ⟨a, b, c, e, f⟩
theorem lensD {d : DR} (h : chkD d = 0) (ht : d.typ = 1 ∨ d.typ = 2) : (segsD d).map List.length = [1, 6, 1, 32, 32, 8, 8, 3, 29, 4, 4, 4, 8, 4, 4, 4, 4, 34, 128, 128, 128, 128, 37, 37, 37, 17, 17, 17, 17, 1, 1166] := by
  obtain ⟨hc, hn, hi, hu, hr, htm, hz, he⟩ := chkD_prim h ht
  obtain ⟨n1, n2, n3, n4, n5⟩ := names_of hn
  have hl : (desT2 d.time d.zone).data.toList.length = 17 := by rw [Array.length_toList]; exact desT2_size htm hz
  have hes : (escL d).length = 3 := by unfold escL; split <;> rfl
  unfold segsD
  simp only [List.map_cons, List.map_nil, fld_len n1, fld_len n2, fld_len n3, fld_len n4, fld_len n5, fld_len (ok_nil 32 true (wide d)), fld_len (ok_nil 37 true (wide d)), encR_len hi hu he, hl, hes, zr_len]
  rfl
theorem encD_prim {d : DR} (ht : d.typ = 1 ∨ d.typ = 2) : encD d = (segsD d).flatten := by
  unfold encD
  rw [if_neg (by omega), if_neg (by omega)]
theorem lensB (d : DR) : (segsB d).map List.length = [1, 6, 23, 41, 4, 1973] := by
  unfold segsB
  simp only [List.map_cons, List.map_nil, zr_len]
  rfl
theorem lensT (d : DR) : (segsT d).map List.length = [1, 6, 2041] := by
  unfold segsT
  simp only [List.map_cons, List.map_nil, zr_len]
  rfl
theorem encD_len {d : DR} (h : chkD d = 0) : (encD d).length = 2048 := by
  rcases chkD_typ h with ht | ht | ht
  · unfold encD
    rw [if_pos ht, List.length_flatten, lensB]
    rfl
  · unfold encD
    rw [if_neg (by omega), if_pos ht, List.length_flatten, lensT]
    rfl
  · rw [encD_prim ht, List.length_flatten, lensD h ht]
    rfl
theorem At.sub {s : ByteArray} {p q : Nat} {l m : List UInt8} (h : At s p l) (h2 : At ⟨l.toArray⟩ q m) : At s (p + q) m := by
  obtain ⟨a, b, rfl, rfl⟩ := h
  obtain ⟨c, e, hl, rfl⟩ := h2
  have hl : l = c ++ (m ++ e) := by
    have := congrArg (fun x : ByteArray => x.data.toList) hl
    simpa using this
  refine ⟨a ++ c, e ++ b, ?_, by simp⟩
  rw [hl]; simp
theorem both4_same {s : ByteArray} {p : Nat} {n : Int} (h : At s p (both4 n)) (hn : 0 ≤ n ∧ n ≤ 4294967295) : le4 s p = n ∧ be4 s (p + 4) = n :=
  ⟨le4_at (l := b4 n) h hn, be4_at (l := []) (At.sub (q := 4) (m := b4 n ++ []) h ⟨l4 n, [], by unfold both4; simp, rfl⟩) hn⟩
theorem both2_same {s : ByteArray} {p : Nat} {n : Int} (h : At s p (both2 n)) (hn : 0 ≤ n ∧ n ≤ 65535) : le2 s p = n ∧ be2 s (p + 2) = n :=
  ⟨le2_at (l := b2 n) h hn, be2_at (l := []) (At.sub (q := 2) (m := b2 n ++ []) h ⟨l2 n, [], by unfold both2; simp, rfl⟩) hn⟩
theorem ext_at {s : ByteArray} {p q : Nat} {l : List UInt8} (h : At s p l) (hq : p + l.length = q) : s.extract p q = ⟨l.toArray⟩ := by
  subst hq; exact h.ext
/-- What is encoded is decoded as the same. -/
theorem dec_encD {d : DR} (h : chkD d = 0) : decD ⟨(encD d).toArray⟩ = (d, 0) := by
  have hlen := encD_len h
  have hsize : (ByteArray.mk (encD d).toArray).size = 2048 := by
    show (encD d).toArray.size = _
    rw [List.size_toArray, hlen]
  rcases chkD_typ h with ht | ht | ht
  · -- a boot record
    have hE : encD d = (segsB d).flatten := by unfold encD; rw [if_pos ht]
    have hd : d = { DR.zero with typ := d.typ, cat := d.cat } ∧ 0 ≤ d.cat ∧ d.cat ≤ 4294967295 := by
      unfold chkD at h
      rw [if_pos (Or.inl ht)] at h
      split at h
      · cases h
      · rename_i ho
        have ho : d = onlyD d := Decidable.byContradiction ho
        unfold onlyD at ho
        rw [if_pos ht] at ho
        split at h
        · rename_i hw
          unfold wordB at hw
          exact ⟨ho, of_decide_eq_true hw⟩
        · cases h
    obtain ⟨hd, hc⟩ := hd
    have L := lensB d
    rw [hE] at hsize ⊢
    have a0 := At.seg L 0 0 _ rfl rfl
    have a1 := At.seg L 1 1 _ rfl rfl
    have a2 := At.seg L 2 7 _ rfl rfl
    have a4 := At.seg L 4 71 _ rfl rfl
    generalize (⟨(segsB d).flatten.toArray⟩ : ByteArray) = s at *
    have e0 := a0.bt 0 _ rfl
    rw [ht, u8_nat (by decide)] at e0
    have e0 : bt s 0 = 0 := e0
    unfold decD
    rw [if_neg (by rw [hsize]; simp), ext_at a1 (q := 7) rfl, if_neg (fun h => h rfl), e0, if_neg (by decide), if_pos rfl, ext_at a2 (q := 30) rfl, if_neg (fun h => h rfl), le4_at (l := []) (by simpa using a4) hc]
    rw [hd]
    simp only [ht]
    rfl
  · have hE : encD d = (segsT d).flatten := by unfold encD; rw [if_neg (by omega), if_pos ht]
    have hd : d = { DR.zero with typ := d.typ } := by
      unfold chkD at h
      rw [if_pos (Or.inr ht)] at h
      split at h
      · cases h
      · rename_i ho
        have ho : d = onlyD d := Decidable.byContradiction ho
        unfold onlyD at ho
        rw [if_neg (by omega)] at ho
        exact ho
    have L := lensT d
    rw [hE] at hsize ⊢
    have a0 := At.seg L 0 0 _ rfl rfl
    have a1 := At.seg L 1 1 _ rfl rfl
    generalize (⟨(segsT d).flatten.toArray⟩ : ByteArray) = s at *
    have e0 := a0.bt 0 _ rfl
    rw [ht, u8_nat (by decide)] at e0
    have e0 : bt s 0 = 255 := e0
    unfold decD
    rw [if_neg (by rw [hsize]; simp), ext_at a1 (q := 7) rfl, if_neg (fun h => h rfl), e0, if_pos rfl]
    rw [hd]
    simp only [ht]
  · obtain ⟨hc, hn, hi, hu, hr, htm, hz, he⟩ := chkD_prim h ht
    obtain ⟨n1, n2, n3, n4, n5⟩ := names_of hn
    obtain ⟨r1, r2, r3, r4, r5, r6⟩ := ranges_of hr
    have L := lensD h ht
    have hE := encD_prim ht
    rw [hE] at hsize ⊢
    have a0 := At.seg L 0 0 _ rfl rfl
    have a1 := At.seg L 1 1 _ rfl rfl
    have a4 := At.seg L 4 40 _ rfl rfl
    have a6 := At.seg L 6 80 _ rfl rfl
    have a7 := At.seg L 7 88 _ rfl rfl
    have a9 := At.seg L 9 120 _ rfl rfl
    have a10 := At.seg L 10 124 _ rfl rfl
    have a11 := At.seg L 11 128 _ rfl rfl
    have a12 := At.seg L 12 132 _ rfl rfl
    have a13 := At.seg L 13 140 _ rfl rfl
    have a15 := At.seg L 15 148 _ rfl rfl
    have a17 := At.seg L 17 156 _ rfl rfl
    have a18 := At.seg L 18 190 _ rfl rfl
    have a19 := At.seg L 19 318 _ rfl rfl
    have a20 := At.seg L 20 446 _ rfl rfl
    have a21 := At.seg L 21 574 _ rfl rfl
    have a25 := At.seg L 25 813 _ rfl rfl
    have a29 := At.seg L 29 881 _ rfl rfl
    generalize (⟨(segsD d).flatten.toArray⟩ : ByteArray) = s at *
    have hl17 : (desT2 d.time d.zone).data.toList.length = 17 := by rw [Array.length_toList]; exact desT2_size htm hz
    have e0 := a0.bt 0 _ rfl
    rw [u8_nat (by omega)] at e0
    have e0 : bt s 0 = d.typ := e0
    have e881 := a29.bt 0 _ rfl
    have e881 : bt s 881 = 1 := e881
    have hw : decide (bt s 0 = 2) = wide d := by rw [e0]; rfl
    have x40 : s.extract 40 72 = ⟨(fldL (wide d) d.name 32).toArray⟩ := ext_at a4 (by rw [fld_len n1])
    have x190 : s.extract 190 318 = ⟨(fldL (wide d) d.set 128).toArray⟩ := ext_at a18 (by rw [fld_len n2])
    have x318 : s.extract 318 446 = ⟨(fldL (wide d) d.pub 128).toArray⟩ := ext_at a19 (by rw [fld_len n3])
    have x446 : s.extract 446 574 = ⟨(fldL (wide d) d.prep 128).toArray⟩ := ext_at a20 (by rw [fld_len n4])
    have x574 : s.extract 574 702 = ⟨(fldL (wide d) d.app 128).toArray⟩ := ext_at a21 (by rw [fld_len n5])
    have x156 : s.extract 156 190 = ⟨(encR d.root).toArray⟩ := ext_at a17 (by rw [encR_len hi hu he])
    have x813 : s.extract 813 830 = desT2 d.time d.zone := (ext_at a25 (by rw [hl17])).trans (lst _).symm
    have hbody : bodyD s = d := by
      unfold bodyD
      rw [hw, e0, x40, x190, x318, x446, x574, x156, x813, (txt_fld n1 rfl).1, (txt_fld n2 rfl).1, (txt_fld n3 rfl).1, (txt_fld n4 rfl).1, (txt_fld n5 rfl).1, rdT_des htm hz, dec_encR hi hu he,
        (both4_same a6 r1).1, (both2_same a9 r5).1, (both2_same a10 r6).1, (both4_same a12 r2).1, le4_at (l := []) (by simpa using a13) r3, be4_at (l := []) (by simpa using a15) r4, ← hc]
    have hgood : goodD s = true := by
      unfold goodD rightD
      rw [hbody, hw, x40, x190, x318, x446, x574, x156, x813, (txt_fld n1 rfl).2, (txt_fld n2 rfl).2, (txt_fld n3 rfl).2, (txt_fld n4 rfl).2, (txt_fld n5 rfl).2, rdT_des htm hz, dec_encR hi hu he, h]
      rfl
    have hesc : ¬ (d.typ = 2 ∧ escB s = false) := by
      rintro ⟨h2, hb⟩
      have hE2 : escL d = [37, 47, 69] := by unfold escL; rw [if_pos h2]
      rw [hE2] at a7
      have f0 := a7.bt 0 _ rfl
      have f1 := a7.bt 1 _ rfl
      have f2 := a7.bt 2 _ rfl
      have f0 : bt s 88 = 37 := f0
      have f1 : bt s 89 = 47 := f1
      have f2 : bt s 90 = 69 := f2
      unfold escB at hb
      rw [f0, f1, f2] at hb
      revert hb; decide
    unfold decD
    rw [if_neg (by rw [hsize]; simp), ext_at a1 (q := 7) rfl, if_neg (fun h => h rfl), e0, if_neg (by omega), if_neg (by omega), (both2_same a11 (by decide)).1, e881, if_neg (by
      rintro (h1 | h1 | h1 | h1)
      · omega
      · exact h1 rfl
      · exact h1 rfl
      · exact hesc h1), if_pos hgood, hbody]
end Go.Proofs.YtjbhokmkmapkoaaGreatDoor
namespace Go.Proofs.YtjbhokmkmapkoaaGreatDoor
set_option linter.unusedSimpArgs false
set_option linter.unusedVariables false
open Go.RowKit
open Go.PlainAid (bt get_bt bt_nonneg bt_le bt_end)
/-- The cells of a volume. -/
def DR.vcells (d : DR) : Array Value := #[.string d.name, .string d.set, .string d.pub, .string d.prep, .string d.app, .int .i64 d.number, .int .i64 d.discs, .int .i64 d.time]
/-- The cells of a descriptor. -/
def DR.cells (d : DR) : Array Value := #[.int .i64 d.typ, .int .i64 d.cat, .string d.name, .string d.set, .string d.pub, .string d.prep, .string d.app, .int .i64 d.number, .int .i64 d.discs, .int .i64 d.time, .int .i64 d.zone, .int .i64 d.space, .int .i64 d.psize, .int .i64 d.pl, .int .i64 d.pm,
  .string d.root.id, .int .i64 d.root.lba, .int .i64 d.root.len, .int .i64 d.root.time, .int .i64 d.root.zone, .int .i64 d.root.flags, .int .i64 d.root.seq, .string d.root.use]
def eqTrip (d : Nat) (xs ys : Array Value) : List (TypeId × Nat) → Sem Bool
  | [] => pure true
  | p :: l => do
    let a ← part p.1 xs p.2
    let b ← part p.1 ys p.2
    let r ← Op.equalIn d p.1 a b
    if (!r) = true then pure false else eqTrip d xs ys l
theorem eqFields_trip (d : Nat) (xs ys : Array Value) : ∀ fs : List Field, (fs.all fun f => f.name != "_") = true → Op.eqFields d xs ys fs = eqTrip d xs ys (fs.map fun f => (f.type, f.offset))
  | [], _ => rfl
  | f :: fs, h => by
    rw [List.all_cons, Bool.and_eq_true] at h
    have hn : f.name ≠ "_" := by simpa using h.1
    show (if f.name ≠ "_" then _ else _) = _
    rw [if_pos hn, eqFields_trip d xs ys fs h.2]
    rfl
theorem eqTrip_cons {P : Program} {W : World} {d : Nat} {xs ys : Array Value} {t : TypeId} {o : Nat} {l : List (TypeId × Nat)} {a b : Value} {r r' : Bool} (ha : (part t xs o).run P W = .ok a W) (hb : (part t ys o).run P W = .ok b W) (hr : (Op.equalIn d t a b).run P W = .ok r W)
    (hl : (eqTrip d xs ys l).run P W = .ok r' W) : (eqTrip d xs ys ((t, o) :: l)).run P W = .ok (r && r') W := by
  unfold eqTrip
  simp only [Sem.run_bind, ha, Result.andThen_ok, hb, hr]
  cases r
  · rfl
  · exact hl
theorem eqTrip_nil {P : Program} {W : World} {d : Nat} {xs ys : Array Value} : (eqTrip d xs ys []).run P W = .ok true W := rfl
theorem eqI (d : Nat) (a b : Int) (W : World) : (Op.equalIn (d + 1) 3 (.int .i64 a) (.int .i64 b)).run Tryz.prog W = .ok (a == b) W := run_equalIn_int W d _ .i64 .i64 a b Tryz.underlying3
theorem eqS (d : Nat) (a b : ByteArray) (W : World) : (Op.equalIn (d + 1) 9 (.string a) (.string b)).run Tryz.prog W = .ok (a.toList == b.toList) W := run_equalIn_string W d _ a b Tryz.underlying9
theorem bl_inj {a b : ByteArray} : (a.toList == b.toList) = true ↔ a = b := by
  rw [beq_iff_eq]
  constructor
  · intro h
    apply ByteArray.ext
    apply Array.toList_inj.1
    rw [ByteArray.toList_eq, ByteArray.toList_eq] at h
    exact h
  · rintro rfl; rfl
theorem bl_eq {a b : ByteArray} : a.toList = b.toList ↔ a = b := by rw [← bl_inj, beq_iff_eq]
theorem eqAgg (d : Nat) (t : TypeId) (xs ys : Array Value) (W : World) (l : List (TypeId × Nat)) (r : Bool) (ht : Tryz.prog.underlying t = some (.struct (Tryz.prog.fieldsOf t))) (hp : Tryz.prog.stoodInHeld t = false) (hn : ((Tryz.prog.fieldsOf t).toList.all fun f => f.name != "_") = true)
    (hl : (Tryz.prog.fieldsOf t).toList.map (fun f => (f.type, f.offset)) = l) (h : (eqTrip d xs ys l).run Tryz.prog W = .ok r W) : (Op.equalIn (d + 1) t (.agg xs) (.agg ys)).run Tryz.prog W = .ok r W := by
  rw [run_equalIn_struct W d t xs ys ht hp, eqFields_trip d xs ys _ hn, hl]
  exact h
set_option maxRecDepth 100000 in
theorem eqRec (d : Nat) (x y : Rec) (W : World) : (Op.equalIn (d + 1 + 1) 25 (.agg x.cells) (.agg y.cells)).run Tryz.prog W = .ok (decide (x = y)) W := by
  refine eqAgg (d + 1) _ _ _ W [(9, 0), (3, 1), (3, 2), (3, 3), (3, 4), (3, 5), (3, 6), (9, 7)] _ (by kernel_rfl) (by kernel_rfl) (by kernel_rfl) (by kernel_rfl) ?_
  have h := eqTrip_cons (P := Tryz.prog) (W := W) (d := d + 1) (xs := x.cells) (ys := y.cells) (t := 9) (o := 0) (a := .string x.id) (b := .string y.id) (by kernel_rfl) (by kernel_rfl) (eqS d _ _ W)
    (eqTrip_cons (t := 3) (o := 1) (a := .int .i64 x.lba) (b := .int .i64 y.lba) (by kernel_rfl) (by kernel_rfl) (eqI d _ _ W)
    (eqTrip_cons (t := 3) (o := 2) (a := .int .i64 x.len) (b := .int .i64 y.len) (by kernel_rfl) (by kernel_rfl) (eqI d _ _ W)
    (eqTrip_cons (t := 3) (o := 3) (a := .int .i64 x.time) (b := .int .i64 y.time) (by kernel_rfl) (by kernel_rfl) (eqI d _ _ W)
    (eqTrip_cons (t := 3) (o := 4) (a := .int .i64 x.zone) (b := .int .i64 y.zone) (by kernel_rfl) (by kernel_rfl) (eqI d _ _ W)
    (eqTrip_cons (t := 3) (o := 5) (a := .int .i64 x.flags) (b := .int .i64 y.flags) (by kernel_rfl) (by kernel_rfl) (eqI d _ _ W)
    (eqTrip_cons (t := 3) (o := 6) (a := .int .i64 x.seq) (b := .int .i64 y.seq) (by kernel_rfl) (by kernel_rfl) (eqI d _ _ W)
    (eqTrip_cons (t := 9) (o := 7) (a := .string x.use) (b := .string y.use) (by kernel_rfl) (by kernel_rfl) (eqS d _ _ W) eqTrip_nil)))))))
  refine h.trans ?_
  congr 1
  rw [Bool.eq_iff_iff, decide_eq_true_eq]
  simp only [Bool.and_eq_true, beq_iff_eq, bl_eq, and_true]
  constructor
  · rintro ⟨h0, h1, h2, h3, h4, h5, h6, h7⟩
    cases x; cases y
    simp only at h0 h1 h2 h3 h4 h5 h6 h7
    subst h0 h1 h2 h3 h4 h5 h6 h7
    rfl
  · rintro rfl
    exact ⟨rfl, rfl, rfl, rfl, rfl, rfl, rfl, rfl⟩
def volB (x y : DR) : Bool := decide (x.name = y.name ∧ x.set = y.set ∧ x.pub = y.pub ∧ x.prep = y.prep ∧ x.app = y.app ∧ x.number = y.number ∧ x.discs = y.discs ∧ x.time = y.time)
set_option maxRecDepth 100000 in
theorem eqVol (d : Nat) (x y : DR) (W : World) : (Op.equalIn (d + 1 + 1) 23 (.agg x.vcells) (.agg y.vcells)).run Tryz.prog W = .ok (volB x y) W := by
  refine eqAgg (d + 1) _ _ _ W [(9, 0), (9, 1), (9, 2), (9, 3), (9, 4), (3, 5), (3, 6), (3, 7)] _ (by kernel_rfl) (by kernel_rfl) (by kernel_rfl) (by kernel_rfl) ?_
  have h := eqTrip_cons (P := Tryz.prog) (W := W) (d := d + 1) (xs := x.vcells) (ys := y.vcells) (t := 9) (o := 0) (a := .string x.name) (b := .string y.name) (by kernel_rfl) (by kernel_rfl) (eqS d _ _ W)
    (eqTrip_cons (t := 9) (o := 1) (a := .string x.set) (b := .string y.set) (by kernel_rfl) (by kernel_rfl) (eqS d _ _ W)
    (eqTrip_cons (t := 9) (o := 2) (a := .string x.pub) (b := .string y.pub) (by kernel_rfl) (by kernel_rfl) (eqS d _ _ W)
    (eqTrip_cons (t := 9) (o := 3) (a := .string x.prep) (b := .string y.prep) (by kernel_rfl) (by kernel_rfl) (eqS d _ _ W)
    (eqTrip_cons (t := 9) (o := 4) (a := .string x.app) (b := .string y.app) (by kernel_rfl) (by kernel_rfl) (eqS d _ _ W)
    (eqTrip_cons (t := 3) (o := 5) (a := .int .i64 x.number) (b := .int .i64 y.number) (by kernel_rfl) (by kernel_rfl) (eqI d _ _ W)
    (eqTrip_cons (t := 3) (o := 6) (a := .int .i64 x.discs) (b := .int .i64 y.discs) (by kernel_rfl) (by kernel_rfl) (eqI d _ _ W)
    (eqTrip_cons (t := 3) (o := 7) (a := .int .i64 x.time) (b := .int .i64 y.time) (by kernel_rfl) (by kernel_rfl) (eqI d _ _ W) eqTrip_nil)))))))
  refine h.trans ?_
  congr 1
  unfold volB
  rw [Bool.eq_iff_iff, decide_eq_true_eq]
  simp only [Bool.and_eq_true, beq_iff_eq, bl_eq, and_true]
set_option maxRecDepth 100000 in
theorem eqD (x y : DR) (W : World) : (Op.equalIn 10000 27 (.agg x.cells) (.agg y.cells)).run Tryz.prog W = .ok (decide (x = y)) W := by
  refine eqAgg 9999 _ _ _ W [(3, 0), (3, 1), (23, 2), (3, 10), (3, 11), (3, 12), (3, 13), (3, 14), (25, 15)] _ (by kernel_rfl) (by kernel_rfl) (by kernel_rfl) (by kernel_rfl) ?_
  have h := eqTrip_cons (P := Tryz.prog) (W := W) (d := 9999) (xs := x.cells) (ys := y.cells) (t := 3) (o := 0) (a := .int .i64 x.typ) (b := .int .i64 y.typ) (by kernel_rfl) (by kernel_rfl) (eqI 9998 _ _ W)
    (eqTrip_cons (t := 3) (o := 1) (a := .int .i64 x.cat) (b := .int .i64 y.cat) (by kernel_rfl) (by kernel_rfl) (eqI 9998 _ _ W)
    (eqTrip_cons (t := 23) (o := 2) (a := .agg x.vcells) (b := .agg y.vcells) (by kernel_rfl) (by kernel_rfl) (eqVol 9997 _ _ W)
    (eqTrip_cons (t := 3) (o := 10) (a := .int .i64 x.zone) (b := .int .i64 y.zone) (by kernel_rfl) (by kernel_rfl) (eqI 9998 _ _ W)
    (eqTrip_cons (t := 3) (o := 11) (a := .int .i64 x.space) (b := .int .i64 y.space) (by kernel_rfl) (by kernel_rfl) (eqI 9998 _ _ W)
    (eqTrip_cons (t := 3) (o := 12) (a := .int .i64 x.psize) (b := .int .i64 y.psize) (by kernel_rfl) (by kernel_rfl) (eqI 9998 _ _ W)
    (eqTrip_cons (t := 3) (o := 13) (a := .int .i64 x.pl) (b := .int .i64 y.pl) (by kernel_rfl) (by kernel_rfl) (eqI 9998 _ _ W)
    (eqTrip_cons (t := 3) (o := 14) (a := .int .i64 x.pm) (b := .int .i64 y.pm) (by kernel_rfl) (by kernel_rfl) (eqI 9998 _ _ W)
    (eqTrip_cons (t := 25) (o := 15) (a := .agg x.root.cells) (b := .agg y.root.cells) (by kernel_rfl) (by kernel_rfl) (eqRec 9997 _ _ W) eqTrip_nil))))))))
  refine h.trans ?_
  congr 1
  rw [Bool.eq_iff_iff, decide_eq_true_eq]
  simp only [Bool.and_eq_true, beq_iff_eq, and_true, decide_eq_true_eq]
  constructor
  · rintro ⟨h0, h1, h2, h3, h4, h5, h6, h7, h8⟩
    obtain ⟨v0, v1, v2, v3, v4, v5, v6, v7⟩ := of_decide_eq_true h2
    cases x; cases y
    simp only at h0 h1 h3 h4 h5 h6 h7 h8 v0 v1 v2 v3 v4 v5 v6 v7
    subst h0 h1 h3 h4 h5 h6 h7 h8 v0 v1 v2 v3 v4 v5 v6 v7
    rfl
  · rintro rfl
    exact ⟨rfl, rfl, decide_eq_true ⟨rfl, rfl, rfl, rfl, rfl, rfl, rfl, rfl⟩, rfl, rfl, rfl, rfl, rfl, rfl⟩
theorem neqD (x y : DR) (W : World) : (binOp .neq 27 (.agg x.cells) (.agg y.cells)).run Tryz.prog W = .ok (.bool (!decide (x = y))) W := by
  rw [run_neq_struct, eqD]; rfl
theorem eqlD (x y : DR) (W : World) : (binOp .eql 27 (.agg x.cells) (.agg y.cells)).run Tryz.prog W = .ok (.bool (decide (x = y))) W := by
  rw [run_eql_struct, eqD]; rfl
end Go.Proofs.YtjbhokmkmapkoaaGreatDoor
namespace Go.Proofs.YtjbhokmkmapkoaaGreatDoor
set_option linter.unusedSimpArgs false
set_option linter.unusedVariables false
open Go.RowKit
set_option maxHeartbeats 400000 in
theorem word_any (n : Int) (w : World) : Calls Tryz.prog 47 #[.int .i64 n] w fun e w' => e = .returned (.bool (wordB n)) ∧ w = w' := by
  have HL : Live w [] := trivial
  go_enter Tryz.func47, Tryz.ntmps47
  go_wp2
  all_goals
    go_ret
    exact ⟨ret_b (by rw [Bool.eq_iff_iff]; simp [wordB] <;> omega), rfl⟩
end Go.Proofs.YtjbhokmkmapkoaaGreatDoor
namespace Go.Proofs.YtjbhokmkmapkoaaGreatDoor
set_option linter.unusedSimpArgs false
set_option linter.unusedVariables false
open Go.RowKit
open Go.PlainAid (bt get_bt bt_nonneg bt_le bt_end)
theorem ok_end {s : ByteArray} {n : Nat} {a b : Bool} (h : endB s = true) : okB s n a b = false := by unfold okB; rw [h]; rfl
theorem ok_d {s : ByteArray} {n : Nat} (h : endB s = false) : okB s n true false = (decide (s.size ≤ n) && dsB s) := by unfold okB; rw [h]; rfl
theorem ok_a {s : ByteArray} {n : Nat} (h : endB s = false) : okB s n false false = (decide (s.size ≤ n) && asB s) := by unfold okB; rw [h]; rfl
theorem ok_w {s : ByteArray} {n : Nat} {a : Bool} (h : endB s = false) : okB s n a true = wideB s n := by unfold okB; rw [h]; rfl
end Go.Proofs.YtjbhokmkmapkoaaGreatDoor
