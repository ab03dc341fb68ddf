/- Contracts and plain words for the laws of volume descriptors, part 9: F6, F7, F8, F9. No condition. -/
import Derived.Test.YtjbhokmkmapkoaaGreatDoorC8
import Derived.Test.YtjbhokmkmapkoaaGreatDoorC4
import Derived.Shelf.Strings.Prefix
namespace Go.Proofs.YtjbhokmkmapkoaaGreatDoor
set_option linter.unusedSimpArgs false
set_option linter.unusedVariables false
open Go.RowKit
open Go.PlainAid (bt get_bt bt_nonneg bt_le bt_end)
theorem or256' (a b : Int) (h1 : 0 ≤ a) (h2 : a ≤ 255) (h3 : 0 ≤ b) (h4 : b ≤ 255) : bits .or .i64 (b * 256) a = b * 256 + a := by
  obtain ⟨A, rfl⟩ := Int.eq_ofNat_of_zero_le h1
  obtain ⟨B, rfl⟩ := Int.eq_ofNat_of_zero_le h3
  have e : ((B : Int) * 256) = ((B * 256 : Nat) : Int) := by omega
  have h := Nat.shiftLeft_add_eq_or_of_lt (show A < 2 ^ 8 by omega) B
  rw [e, Dt.i64_or_nat (B * 256) A (by omega) (by omega)]
  rw [Nat.shiftLeft_eq] at h
  have : B * 256 ||| A = B * 256 + A := h.symm
  rw [this]; omega
set_option maxRecDepth 100000 in
set_option maxHeartbeats 4000000 in
theorem from_any (s : ByteArray) (hs : s.size ≤ 65536) (w : World) : Calls Tryz.prog 111 #[.string s] w (fromP (fromU s) w) := by
  have hs2 : (s.size : Int) ≤ 65536 := by omega
  by_cases hodd : s.size % 2 = 1
  · have FO := hide (fromU_odd hodd)
    have ho2 : ((s.size : Int) % 2 != 0) = true := by
      rw [bne_iff_ne]; omega
    clear hodd
    have HL : Live w [] := trivial
    go_enter Tryz.func111, Tryz.ntmps111
    go_wp2
    go_ret2
    exact fromP.mk FO.out rfl (by (repeat' (first | (with_reducible exact Below.refl _ _) | (with_reducible refine Below.alloc ?_ ?_ _) | (with_reducible refine Below.setCell ?_ ?_ _) | (with_reducible refine Below.drew ?_) | (with_reducible refine below_drewN' ?_) | (with_reducible refine below_bytesW ?_ ?_) | (with_reducible refine Below.trans ?_ (Below.mono (by assumption) ?_)) | omega | (simp only [World.size_alloc, World.size_setCell, World.size_drew]; omega) | (simp [size_bytesW]; omega) | (simp; omega))))
  · have FE := hide (fromU_even hodd)
    have hev : s.size % 2 = 0 := by omega
    have ho2 : ((s.size : Int) % 2 != 0) = false := by
      rw [bne_eq_false_iff_eq]; omega
    clear hodd
    have HL : Live w [] := trivial
    go_enter Tryz.func111, Tryz.ntmps111
    go_wp2
    go_loopw [5] (fun i wr => ∃ (p : Nat) (l : List UInt8), p ≤ s.size ∧ p % 2 = 0 ∧ i = .int .i64 p ∧ l.length ≤ 2 * p ∧ unuF s 0 [] = unuF s p l ∧ BF w.heap.size w.heap.size l wr ∧ Below w.heap.size w wr) (fun i _ => s.size - (intOf i).toNat)
    case atStart => exact ⟨0, [], by omega, rfl, rfl, by simp, rfl, BF.fresh w, by (repeat' (first | (with_reducible exact Below.refl _ _) | (with_reducible refine Below.alloc ?_ ?_ _) | (with_reducible refine Below.setCell ?_ ?_ _) | (with_reducible refine Below.drew ?_) | (with_reducible refine below_drewN' ?_) | (with_reducible refine below_bytesW ?_ ?_) | (with_reducible refine Below.trans ?_ (Below.mono (by assumption) ?_)) | omega | (simp only [World.size_alloc, World.size_setCell, World.size_drew]; omega) | (simp [size_bytesW]; omega) | (simp; omega)))⟩
    case round =>
      obtain ⟨p, l, hp, hp2, rfl, hl, hu, hr, hbr⟩ := hrel
      have HR := hide hr
      have HU := hide hu
      clear hr hu
      have hszr := hbr.size
      have HL : Live wr [] := trivial
      by_cases hlt : p < s.size
      · have a0 := bt_nonneg s p
        have a1 := bt_le s p
        have b0 := bt_nonneg s (p + 1)
        have b1 := bt_le s (p + 1)
        have hg := get_bt s
        obtain ⟨c, hcc⟩ : ∃ c, c = bt s p * 256 + bt s (p + 1) := ⟨_, rfl⟩
        have hc0 : 0 ≤ c ∧ c ≤ 65535 := by omega
        have j1 : (p : Int) < (s.size : Int) := by omega
        have j2 : (p : Int) + 1 < (s.size : Int) := by omega
        have j0 : (0 : Int) ≤ (p : Int) + 1 := by omega
        have j3 : p + 1 < s.size := by omega
        go_upto_region 9 with fail
        have wp1 : IntKind.i64.wrap ((p : Int) + 1) = (p : Int) + 1 := IntWalk.i64_in _ (by omega)
        have wm : IntKind.i64.wrap (bt s p * 256) = bt s p * 256 := IntWalk.i64_in _ (by omega)
        have wa : bits .or .i64 (bt s p * 256) (bt s (p + 1)) = bt s p * 256 + bt s (p + 1) := or256' _ _ b0 b1 a0 a1
        have wi : IntKind.i64.wrap (bt s p) = bt s p := IntWalk.i64_in _ (by omega)
        have wj : IntKind.i64.wrap (bt s (p + 1)) = bt s (p + 1) := IntWalk.i64_in _ (by omega)
        refine wp_region_noPanic ?_
        refine wp_region_held_drew (S := (fun _ => True ∧ True)) (by kernel_rfl) (by (try dsimp only); first | with_reducible assumption | (simp [*, go_sem]; done) | (refine ⟨?_, ?_⟩ <;> simp [*, go_sem])) (fun hHeld => ?_)
        refine wpAnyH_take (i := 0) (oi := { dst := some 20, op := Go.Op.move (Go.Operand.tmp 0), type := 9, pos := "charset.go:136", after := #[], guard := none }) (v := ?_) rfl (by kernel_rfl) (by kernel_rfl) (by kernel_rfl) (fun _ _ _ h => h) (Or.inl ⟨by rfl, ?_⟩) (by assumption) ?_
        rotate_left
        · intro w hSw; (try dsimp only at hSw); go_simp; (try with_reducible rfl)
        try simp only [Act.put, List.setIfInBounds_toArray, List.set_cons_zero, List.set_cons_succ]
        refine wpAnyH_take (i := 1) (oi := { dst := some 21, op := Go.Op.move (Go.Operand.tmp 5), type := 3, pos := "charset.go:136", after := #[], guard := none }) (v := ?_) rfl (by kernel_rfl) (by kernel_rfl) (by kernel_rfl) (fun _ _ _ h => h) (Or.inl ⟨by rfl, ?_⟩) (by assumption) ?_
        rotate_left
        · intro w hSw; (try dsimp only at hSw); go_simp; (try with_reducible rfl)
        try simp only [Act.put, List.setIfInBounds_toArray, List.set_cons_zero, List.set_cons_succ]
        refine wpAnyH_take (i := 2) (oi := { dst := some 22, op := Go.Op.index 9 (Go.Operand.tmp 20) (Go.Operand.tmp 21), type := 5, pos := "charset.go:136", after := #[{ on := 0, ground := Go.Ground.data }, { on := 1, ground := Go.Ground.data }], guard := none }) (v := ?_) rfl (by kernel_rfl) (by kernel_rfl) (by kernel_rfl) (fun _ _ _ h => h) (Or.inl ⟨by rfl, ?_⟩) (by assumption) ?_
        rotate_left
        · intro w hSw; (try dsimp only at hSw); go_simp; (try with_reducible rfl)
        try simp only [Act.put, List.setIfInBounds_toArray, List.set_cons_zero, List.set_cons_succ]
        refine wpAnyH_take (i := 3) (oi := { dst := some 23, op := Go.Op.convert 5 3 (Go.Operand.tmp 22), type := 3, pos := "charset.go:136", after := #[{ on := 2, ground := Go.Ground.data }], guard := none }) (v := ?_) rfl (by kernel_rfl) (by kernel_rfl) (by kernel_rfl) (fun _ _ _ h => h) (Or.inl ⟨by rfl, ?_⟩) (by assumption) ?_
        rotate_left
        · intro w hSw; (try dsimp only at hSw); go_simp; (try with_reducible rfl)
        try simp only [Act.put, List.setIfInBounds_toArray, List.set_cons_zero, List.set_cons_succ]
        refine wpAnyH_take (i := 4) (oi := { dst := some 24, op := Go.Op.binOp Go.BinOp.shl 3 (Go.Operand.tmp 23) (Go.Operand.const (Go.Value.int Go.IntKind.u64 8)) 129, type := 3, pos := "charset.go:136", after := #[{ on := 3, ground := Go.Ground.data }], guard := none }) (v := ?_) rfl (by kernel_rfl) (by kernel_rfl) (by kernel_rfl) (fun _ _ _ h => h) (Or.inl ⟨by rfl, ?_⟩) (by assumption) ?_
        rotate_left
        · intro w hSw; (try dsimp only at hSw); go_simp; (try with_reducible rfl)
        try simp only [Act.put, List.setIfInBounds_toArray, List.set_cons_zero, List.set_cons_succ]
        refine wpAnyH_take (i := 5) (oi := { dst := some 25, op := Go.Op.move (Go.Operand.tmp 0), type := 9, pos := "charset.go:136", after := #[], guard := none }) (v := ?_) rfl (by kernel_rfl) (by kernel_rfl) (by kernel_rfl) (fun _ _ _ h => h) (Or.inl ⟨by rfl, ?_⟩) (by assumption) ?_
        rotate_left
        · intro w hSw; (try dsimp only at hSw); go_simp; (try with_reducible rfl)
        try simp only [Act.put, List.setIfInBounds_toArray, List.set_cons_zero, List.set_cons_succ]
        refine wpAnyH_take (i := 6) (oi := { dst := some 26, op := Go.Op.move (Go.Operand.tmp 5), type := 3, pos := "charset.go:136", after := #[], guard := none }) (v := ?_) rfl (by kernel_rfl) (by kernel_rfl) (by kernel_rfl) (fun _ _ _ h => h) (Or.inl ⟨by rfl, ?_⟩) (by assumption) ?_
        rotate_left
        · intro w hSw; (try dsimp only at hSw); go_simp; (try with_reducible rfl)
        try simp only [Act.put, List.setIfInBounds_toArray, List.set_cons_zero, List.set_cons_succ]
        refine wpAnyH_take (i := 7) (oi := { dst := some 27, op := Go.Op.binOp Go.BinOp.add 3 (Go.Operand.tmp 26) (Go.Operand.const (Go.Value.int Go.IntKind.i64 1)) 3, type := 3, pos := "charset.go:136", after := #[{ on := 6, ground := Go.Ground.data }], guard := none }) (v := ?_) rfl (by kernel_rfl) (by kernel_rfl) (by kernel_rfl) (fun _ _ _ h => h) (Or.inl ⟨by rfl, ?_⟩) (by assumption) ?_
        rotate_left
        · intro w hSw; (try dsimp only at hSw); go_simp; (try with_reducible rfl)
        try simp only [Act.put, List.setIfInBounds_toArray, List.set_cons_zero, List.set_cons_succ]
        refine wpAnyH_take (i := 8) (oi := { dst := some 28, op := Go.Op.index 9 (Go.Operand.tmp 25) (Go.Operand.tmp 27), type := 5, pos := "charset.go:136", after := #[{ on := 5, ground := Go.Ground.data }, { on := 7, ground := Go.Ground.data }], guard := none }) (v := ?_) rfl (by kernel_rfl) (by kernel_rfl) (by kernel_rfl) (fun _ _ _ h => h) (Or.inl ⟨by rfl, ?_⟩) (by assumption) ?_
        rotate_left
        · intro w hSw; (try dsimp only at hSw); go_simp; (try with_reducible rfl)
        try simp only [Act.put, List.setIfInBounds_toArray, List.set_cons_zero, List.set_cons_succ]
        refine wpAnyH_take (i := 9) (oi := { dst := some 29, op := Go.Op.convert 5 3 (Go.Operand.tmp 28), type := 3, pos := "charset.go:136", after := #[{ on := 8, ground := Go.Ground.data }], guard := none }) (v := ?_) rfl (by kernel_rfl) (by kernel_rfl) (by kernel_rfl) (fun _ _ _ h => h) (Or.inl ⟨by rfl, ?_⟩) (by assumption) ?_
        rotate_left
        · intro w hSw; (try dsimp only at hSw); go_simp; (try with_reducible rfl)
        try simp only [Act.put, List.setIfInBounds_toArray, List.set_cons_zero, List.set_cons_succ]
        refine wpAnyH_take (i := 10) (oi := { dst := some 30, op := Go.Op.binOp Go.BinOp.or 3 (Go.Operand.tmp 24) (Go.Operand.tmp 29) 3, type := 3, pos := "charset.go:136", after := #[{ on := 4, ground := Go.Ground.data }, { on := 9, ground := Go.Ground.data }], guard := none }) (v := ?_) rfl (by kernel_rfl) (by kernel_rfl) (by kernel_rfl) (fun _ _ _ h => h) (Or.inl ⟨by rfl, ?_⟩) (by assumption) ?_
        rotate_left
        · intro w hSw; (try dsimp only at hSw); go_simp; (try with_reducible rfl)
        try simp only [Act.put, List.setIfInBounds_toArray, List.set_cons_zero, List.set_cons_succ]
        refine wpAnyH_take (i := 11) (oi := { dst := some 6, op := Go.Op.assign (Go.Operand.tmp 30), type := 3, pos := "charset.go:136", after := #[{ on := 10, ground := Go.Ground.data }, { on := 0, ground := Go.Ground.phase }, { on := 1, ground := Go.Ground.phase }, { on := 2, ground := Go.Ground.phase }, { on := 3, ground := Go.Ground.phase }, { on := 4, ground := Go.Ground.phase }, { on := 5, ground := Go.Ground.phase }, { on := 6, ground := Go.Ground.phase }, { on := 7, ground := Go.Ground.phase }, { on := 8, ground := Go.Ground.phase }, { on := 9, ground := Go.Ground.phase }, { on := 10, ground := Go.Ground.phase }], guard := none }) (v := ?_) rfl (by kernel_rfl) (by kernel_rfl) (by kernel_rfl) (fun _ _ _ h => h) (Or.inl ⟨by rfl, ?_⟩) (by assumption) ?_
        rotate_left
        · intro w hSw; (try dsimp only at hSw); go_simp; (try with_reducible rfl)
        try simp only [Act.put, List.setIfInBounds_toArray, List.set_cons_zero, List.set_cons_succ]
        refine wpAnyH_done (by kernel_rfl) ?_ _
        refine NoPanic.normal ?_
        rw [← hcc]
        cases hch : chB c
        case false =>
          have HX := hide (unuF_bad (out := l) hlt (show chB (bt s p * 256 + bt s (p + 1)) = false by rw [← hcc]; exact hch))
          clear hcc
          go_wp2_with (first | (go_at_call 149; (with_reducible refine (char_any _ _).mono ?_); rintro e w' ⟨rfl, rfl⟩))
          go_ret2
          exact fromP.mk (by rw [FE.out, HU.out, HX.out]) rfl (by (repeat' (first | (with_reducible exact Below.refl _ _) | (with_reducible refine Below.alloc ?_ ?_ _) | (with_reducible refine Below.setCell ?_ ?_ _) | (with_reducible refine Below.drew ?_) | (with_reducible refine below_drewN' ?_) | (with_reducible refine below_bytesW ?_ ?_) | (with_reducible refine Below.trans ?_ (Below.mono (by assumption) ?_)) | omega | (simp only [World.size_alloc, World.size_setCell, World.size_drew]; omega) | (simp [size_bytesW]; omega) | (simp; omega))))
        case true =>
          have HX := hide (unuF_go (out := l) hlt (show chB (bt s p * 256 + bt s (p + 1)) = true by rw [← hcc]; exact hch))
          rw [← hcc] at HX
          have hll : l.length ≤ 100000000 := by omega
          have hel := encL_len c
          clear hcc
          go_wp2_with (first | (go_at_call 149; (with_reducible refine (char_any _ _).mono ?_); rintro e w' ⟨rfl, rfl⟩) | (go_at_call 161; refine (wrune w.heap.size w.heap.size l c _ HR.out.drew hch hll (by simp; omega)).mono ?_; rintro e w3 ⟨rfl, hr3, hb3, hk3⟩))
          go_roundw
          case rel => exact ⟨p + 2, l ++ encL c, by omega, by omega, by go_num, by rw [List.length_append]; omega, by rw [HU.out, HX.out], hr3, hbr.drew.trans hb3⟩
          case measure => simp [intOf]; omega
      · obtain rfl : p = s.size := by omega
        go_wp2_with (go_at_call 82; refine (bstring w.heap.size w.heap.size l _ HR.out hszr).mono ?_; rintro e w3 ⟨rfl, hr3, hb3, hk3⟩)
        go_ret2
        exact fromP.mk (by rw [FE.out, HU.out, unuF_end (Nat.le_refl _)]) rfl (hbr.trans hb3)
end Go.Proofs.YtjbhokmkmapkoaaGreatDoor
namespace Go.Proofs.YtjbhokmkmapkoaaGreatDoor
set_option linter.unusedSimpArgs false
set_option linter.unusedVariables false
open Go.RowKit
open Go.PlainAid (bt get_bt bt_nonneg bt_le bt_end)
def blkW (n : Int) : ByteArray := ⟨(blanks n.toNat).toArray⟩
def blk0 (n : Int) : ByteArray := ⟨(List.replicate n.toNat (0 : UInt8)).toArray⟩
theorem blkW_size (n : Int) : (blkW n).size = 2 * n.toNat := by
  show (blanks n.toNat).toArray.size = _
  rw [List.size_toArray, blanks_len]
theorem blk0_size (n : Int) : (blk0 n).size = n.toNat := by
  show (List.replicate n.toNat (0 : UInt8)).toArray.size = _
  rw [List.size_toArray, List.length_replicate]
theorem ucsS_size (cs : List Int) : (ucsS cs).size = 2 * cs.length := by
  show (ucsL cs).toArray.size = _
  rw [List.size_toArray, ucsL_len]
theorem rep_W : ∀ n : Nat, Lib.repeatL [0, 32] n = blanks n
  | 0 => rfl
  | n + 1 => by
    show [0, 32] ++ Lib.repeatL [0, 32] n = _
    rw [rep_W n]
    unfold blanks
    rw [List.replicate_succ]
    rfl
theorem rep_0 (n : Nat) : Lib.repeatL [0] n = List.replicate n 0 := by
  have := Lib.repeatL_replicate 0 1 n
  rw [Nat.mul_one] at this
  exact this
theorem repW (n : Int) (w : World) (hn : 0 ≤ n ∧ n ≤ 65536) : Calls Tryz.prog 71 #[.string ⟨#[0, 32]⟩, .int .i64 n] w fun e w' => e = .returned (.string (blkW n)) ∧ Below w.heap.size w w' :=
  (rep_any ⟨#[0, 32]⟩ n (by decide) (by decide) hn w).mono fun e w' h => ⟨by rw [h.1, show (⟨#[0, 32]⟩ : ByteArray).data.toList = [0, 32] from rfl, rep_W]; rfl, h.2⟩
theorem rep0 (n : Int) (w : World) (hn : 0 ≤ n ∧ n ≤ 65536) : Calls Tryz.prog 71 #[.string ⟨#[0]⟩, .int .i64 n] w fun e w' => e = .returned (.string (blk0 n)) ∧ Below w.heap.size w w' :=
  (rep_any ⟨#[0]⟩ n (by decide) (by decide) hn w).mono fun e w' h => ⟨by rw [h.1, show (⟨#[0]⟩ : ByteArray).data.toList = [0] from rfl, rep_0]; rfl, h.2⟩
/-- A wide field. -/
def wpad (cs : List Int) (n : Int) : ByteArray := ⟨(wideS cs n.toNat).toArray⟩
theorem wpad_cat (cs : List Int) (n k j : Int) (h : 2 * (cs.length : Int) ≤ n) (hk : k = (n - 2 * cs.length) / 2) (hj : j = (n - 2 * cs.length) % 2) : ucsS cs ++ blkW k ++ blk0 j = wpad cs n := by
  apply ByteArray.ext
  apply Array.toList_inj.1
  rw [ByteArray.data_append, Array.toList_append, ByteArray.data_append, Array.toList_append]
  show ucsL cs ++ blanks k.toNat ++ List.replicate j.toNat 0 = wideS cs n.toNat
  unfold wideS
  have e1 : k.toNat = (n.toNat - 2 * cs.length) / 2 := by omega
  have e2 : j.toNat = (n.toNat - 2 * cs.length) % 2 := by omega
  rw [e1, e2]
set_option maxHeartbeats 4000000 in
theorem wfield_any (s : ByteArray) (hs : s.size ≤ 65536) (cs : List Int) (hc : charL s = some cs) (n : Int) (h : 2 * (cs.length : Int) ≤ n ∧ n ≤ 65536) (w : World) (hT : TabU w) : Calls Tryz.prog 31 #[.string s, .int .i64 n] w fun e w' => e = .returned (.tuple #[.string (wpad cs n), .int .i64 0]) ∧ Below w.heap.size w w' := by
  have UC := hide (fun W hW => ucs_any s hs cs hc W hW)
  obtain ⟨u, hu⟩ : ∃ u, u = ucsS cs := ⟨_, rfl⟩
  rw [← hu] at UC
  have hus : (u.size : Int) = 2 * cs.length := by rw [hu, ucsS_size]; omega
  have hbw : ((blkW ((n - 2 * cs.length) / 2)).size : Int) = 2 * ((n - 2 * cs.length) / 2) := by rw [blkW_size]; omega
  have hbn : ¬ 9223372036854775807 < u.size + (blkW ((n - 2 * cs.length) / 2)).size := by omega
  have hb0 : ((blk0 (n - (2 * cs.length + 2 * ((n - 2 * cs.length) / 2)))).size : Int) = n - (2 * cs.length + 2 * ((n - 2 * cs.length) / 2)) := by rw [blk0_size]; omega
  have hbm : ¬ 9223372036854775807 < u.size + (blkW ((n - 2 * cs.length) / 2)).size + (blk0 (n - (2 * cs.length + 2 * ((n - 2 * cs.length) / 2)))).size := by omega
  have PC := hide (wpad_cat cs n ((n - 2 * cs.length) / 2) (n - (2 * cs.length + 2 * ((n - 2 * cs.length) / 2))) h.1 rfl (by omega))
  rw [← hu] at PC
  clear hu hc
  have HL : Live w [] := trivial
  go_enter Tryz.func31, Tryz.ntmps31
  go_wp2_with (first | (go_at_call 72; (with_reducible refine (UC.out _ (by assumption)).mono ?_); rintro e w' ⟨rfl, hb⟩; have hz := hb.size; (try simp only [World.size_alloc, World.size_setCell, World.size_drew, Nat.add_assoc, Nat.reduceAdd] at hz); (first | obtain ⟨HL, hk⟩ := HL.call hb hz (by simp only [World.size_alloc, World.size_setCell, World.size_drew, Nat.add_assoc, Nat.reduceAdd]) | obtain ⟨HL, hk⟩ := HL.call0 hb hz (by first | rfl | simp only [World.size_alloc, World.size_setCell, World.size_drew, Nat.add_assoc, Nat.reduceAdd])); (try simp only [addN, Nat.add_zero] at HL hk); have hl := HL; simp only [Live] at hl; (try simp only [Kept] at hk)) | (go_at_call 71; (with_reducible refine (repW _ _ (by omega)).mono ?_); rintro e w' ⟨rfl, hb⟩; have hz := hb.size; (try simp only [World.size_alloc, World.size_setCell, World.size_drew, Nat.add_assoc, Nat.reduceAdd] at hz); (first | obtain ⟨HL, hk⟩ := HL.call hb hz (by simp only [World.size_alloc, World.size_setCell, World.size_drew, Nat.add_assoc, Nat.reduceAdd]) | obtain ⟨HL, hk⟩ := HL.call0 hb hz (by first | rfl | simp only [World.size_alloc, World.size_setCell, World.size_drew, Nat.add_assoc, Nat.reduceAdd])); (try simp only [addN, Nat.add_zero] at HL hk); have hl := HL; simp only [Live] at hl; (try simp only [Kept] at hk)) | (go_at_call 71; (with_reducible refine (rep0 _ _ (by omega)).mono ?_); rintro e w' ⟨rfl, hb⟩; have hz := hb.size; (try simp only [World.size_alloc, World.size_setCell, World.size_drew, Nat.add_assoc, Nat.reduceAdd] at hz); (first | obtain ⟨HL, hk⟩ := HL.call hb hz (by simp only [World.size_alloc, World.size_setCell, World.size_drew, Nat.add_assoc, Nat.reduceAdd]) | obtain ⟨HL, hk⟩ := HL.call0 hb hz (by first | rfl | simp only [World.size_alloc, World.size_setCell, World.size_drew, Nat.add_assoc, Nat.reduceAdd])); (try simp only [addN, Nat.add_zero] at HL hk); have hl := HL; simp only [Live] at hl; (try simp only [Kept] at hk)))
  go_ret2
  exact ⟨ret_s0 PC.out, by (repeat' (first | (with_reducible exact Below.refl _ _) | (with_reducible refine Below.alloc ?_ ?_ _) | (with_reducible refine Below.setCell ?_ ?_ _) | (with_reducible refine Below.drew ?_) | (with_reducible refine below_drewN' ?_) | (with_reducible refine below_bytesW ?_ ?_) | (with_reducible refine Below.trans ?_ (Below.mono (by assumption) ?_)) | omega | (simp only [World.size_alloc, World.size_setCell, World.size_drew]; omega) | (simp [size_bytesW]; omega) | (simp; omega)))⟩
end Go.Proofs.YtjbhokmkmapkoaaGreatDoor
namespace Go.Proofs.YtjbhokmkmapkoaaGreatDoor
set_option linter.unusedSimpArgs false
set_option linter.unusedVariables false
open Go.RowKit
open Go.PlainAid (bt get_bt bt_nonneg bt_le bt_end)
theorem ext_two (s : ByteArray) (m : Nat) (h : m + 2 ≤ s.size) : (s.extract m (m + 2)).toList = [u8 (bt s m), u8 (bt s (m + 1))] := by
  rw [ByteArray.toList_eq, bt_list, ByteArray.size_extract]
  have : min (m + 2) s.size - m = 2 := by omega
  rw [this]
  show [u8 (bt _ 0), u8 (bt _ 1)] = _
  rw [bt_extract s m (m + 2) 0 h (by omega), bt_extract s m (m + 2) 1 h (by omega), Nat.add_zero]
theorem two_yes (s : ByteArray) (m : Nat) (h : m + 2 ≤ s.size) : ((s.extract m (m + 2)).toList == [0, 32]) = decide (bt s m = 0 ∧ bt s (m + 1) = 32) := by
  have a0 := bt_nonneg s m
  have a1 := bt_le s m
  have b0 := bt_nonneg s (m + 1)
  have b1 := bt_le s (m + 1)
  rw [ext_two s m h, Bool.eq_iff_iff, beq_iff_eq, decide_eq_true_iff]
  constructor
  · intro e
    injection e with e1 e2
    injection e2 with e2 _
    have f1 := congrArg (fun x : UInt8 => (x.toNat : Int)) e1
    have f2 := congrArg (fun x : UInt8 => (x.toNat : Int)) e2
    have g1 : ((u8 (bt s m)).toNat : Int) = 0 := f1
    have g2 : ((u8 (bt s (m + 1))).toNat : Int) = 32 := f2
    rw [u8_nat (by omega)] at g1 g2
    exact ⟨g1, g2⟩
  · rintro ⟨e1, e2⟩
    rw [e1, e2]; rfl
theorem wt_yes {s : ByteArray} {m : Nat} (h : m % 2 = 0) (h1 : bt s m = 0 ∧ bt s (m + 1) = 32) : wtrimK s (m + 2) = wtrimK s m := by rw [wtrimK, if_pos ⟨h, h1⟩]
theorem wt_no {s : ByteArray} {m : Nat} (h1 : ¬ (m % 2 = 0 ∧ bt s m = 0 ∧ bt s (m + 1) = 32)) : wtrimK s (m + 2) = m + 2 := by rw [wtrimK, if_neg h1]
theorem wt_odd {s : ByteArray} : ∀ {k : Nat}, k % 2 = 1 → wtrimK s k = k
  | 0, h => by omega
  | 1, _ => rfl
  | k + 2, h => wt_no (by omega)
theorem w0_cut {s : ByteArray} (h : s.size % 2 = 1 ∧ bt s (s.size - 1) = 0) : wtrim0 s = s.size - 1 := if_pos h
theorem w0_all {s : ByteArray} (h : ¬ (s.size % 2 = 1 ∧ bt s (s.size - 1) = 0)) : wtrim0 s = s.size := if_neg h
theorem from_e (s : ByteArray) (hs : s.size ≤ 65536) (w : World) : Calls Tryz.prog 111 #[.string s] w fun e w' => e = .returned (.tuple #[.string ⟨(fromU s).1.toArray⟩, .int .i64 (fromU s).2]) ∧ Below w.heap.size w w' := from_any s hs w
end Go.Proofs.YtjbhokmkmapkoaaGreatDoor
namespace Go.Proofs.YtjbhokmkmapkoaaGreatDoor
set_option linter.unusedSimpArgs false
set_option linter.unusedVariables false
open Go.RowKit
open Go.PlainAid (bt get_bt bt_nonneg bt_le bt_end)
theorem suf_two (t : ByteArray) (m : Nat) (h : t.size = m + 2) : Lib.hasSuffix t.data.toList [0, 32] = decide (bt t m = 0 ∧ bt t (m + 1) = 32) := by
  have e := two_yes t m (by omega)
  have hl : t.data.toList.length = t.size := Array.length_toList
  rw [← e, Lib.extract_toList]
  unfold Lib.hasSuffix
  rw [Bool.eq_iff_iff, List.isSuffixOf_iff_suffix, List.suffix_iff_eq_drop, beq_iff_eq, hl, h]
  show [0, 32] = List.drop m t.data.toList ↔ _
  rw [show m + 2 - m = 2 by omega, List.take_of_length_le (by rw [List.length_drop, hl, h]; omega)]
  exact eq_comm
theorem suf_no (t : ByteArray) (h : t.size < 2) : Lib.hasSuffix t.data.toList [0, 32] = false := by
  have hl : t.data.toList.length = t.size := Array.length_toList
  unfold Lib.hasSuffix
  rw [Bool.eq_false_iff]
  intro e
  have := (List.isSuffixOf_iff_suffix.1 e).length_le
  simp at this; omega
theorem suf_any (t : ByteArray) (b : Bool) (hs : t.size ≤ 65536) (hb : Lib.hasSuffix t.data.toList [0, 32] = b) (w : World) : Calls Tryz.prog 101 #[.string t, .string ⟨#[0, 32]⟩] w fun e w' => e = .returned (.bool b) ∧ w = w' := by
  refine (Any.strings_HasSuffix Tryz.lays100 t ⟨#[0, 32]⟩ w (by omega)).mono ?_
  rintro e w' ⟨rfl, rfl⟩
  exact ⟨by rw [← hb], rfl⟩
def URel (s : ByteArray) (v : Value) : Prop := ∃ t : ByteArray, v = .string t ∧ t.size ≤ s.size ∧ t = s.extract 0 t.size ∧ wtrimK s (wtrim0 s) = wtrimK s t.size
theorem bt_ext {s t : ByteArray} (h1 : t.size ≤ s.size) (h2 : t = s.extract 0 t.size) (j : Nat) (hj : j < t.size) : bt t j = bt s j := by
  have := bt_extract s 0 t.size j h1 (by omega)
  rw [← h2, Nat.zero_add] at this
  exact this
theorem ugo {s t : ByteArray} (h1 : t.size ≤ s.size) (h2 : t = s.extract 0 t.size) (h3 : wtrimK s (wtrim0 s) = wtrimK s t.size) (m : Nat) (hm : t.size = m + 2) (hev : m % 2 = 0) (hb : bt t m = 0 ∧ bt t (m + 1) = 32) : URel s (.string (t.extract 0 m)) := by
  have e := ext_size t m (by omega)
  refine ⟨_, rfl, by omega, ?_, ?_⟩
  · rw [e]
    exact (show t.extract 0 m = (s.extract 0 t.size).extract 0 m from congrArg (fun x : ByteArray => x.extract 0 m) h2).trans (ext_ext s t.size m (by omega))
  · rw [e, h3, hm]
    rw [bt_ext h1 h2 m (by omega), bt_ext h1 h2 (m + 1) (by omega)] at hb
    exact wt_yes hev hb
theorem uend {s t : ByteArray} (h1 : t.size ≤ s.size) (h2 : t = s.extract 0 t.size) (h3 : wtrimK s (wtrim0 s) = wtrimK s t.size) (hk : wtrimK s t.size = t.size) : wtrimS s = ((fromU t).1, (fromU t).2) := by
  unfold wtrimS
  rw [h3, hk, ← h2]
set_option maxRecDepth 100000 in
set_option maxHeartbeats 8000000 in
theorem wtrim_any (s : ByteArray) (hs : s.size ≤ 65536) (w : World) : Calls Tryz.prog 56 #[.string s] w (fromP (wtrimS s) w) := by
  have hs2 : (s.size : Int) ≤ 65536 := by omega
  have hg := get_bt s
  rcases (show (s.size % 2 = 1 ∧ bt s (s.size - 1) = 0) ∨ (s.size % 2 = 1 ∧ bt s (s.size - 1) ≠ 0) ∨ s.size % 2 = 0 by by_cases h : s.size % 2 = 1; (by_cases h2 : bt s (s.size - 1) = 0; exact Or.inl ⟨h, h2⟩; exact Or.inr (Or.inl ⟨h, h2⟩)); exact Or.inr (Or.inr (by omega))) with h0 | h0 | h0
  · have h1s : 1 ≤ s.size := by omega
    have HZ := hide (show URel s (.string (s.extract 0 (s.size - 1))) from ⟨_, rfl, by rw [ext_size s (s.size - 1) (by omega)]; omega, by rw [ext_size s (s.size - 1) (by omega)], by rw [ext_size s (s.size - 1) (by omega), w0_cut h0]⟩)
    have ho2 : ((s.size : Int) % 2 != 0) = true := by rw [bne_iff_ne]; omega
    have hbq : (bt s (s.size - 1) == 0) = true := by rw [h0.2]; rfl
    clear h0
    have HL : Live w [] := trivial
    go_enter Tryz.func56, Tryz.ntmps56
    go_wp2
    go_loopw [0] (fun sv wr => URel s sv ∧ Below w.heap.size w wr) (fun sv _ => strLen sv)
    case atStart => exact ⟨HZ.out, by (repeat' (first | (with_reducible exact Below.refl _ _) | (with_reducible refine Below.alloc ?_ ?_ _) | (with_reducible refine Below.setCell ?_ ?_ _) | (with_reducible refine Below.drew ?_) | (with_reducible refine below_drewN' ?_) | (with_reducible refine below_bytesW ?_ ?_) | (with_reducible refine Below.trans ?_ (Below.mono (by assumption) ?_)) | omega | (simp only [World.size_alloc, World.size_setCell, World.size_drew]; omega) | (simp [size_bytesW]; omega) | (simp; omega)))⟩
    case round =>
      obtain ⟨⟨t, rfl, h1, h2, h3⟩, hbr⟩ := hrel
      have H2 := hide h2
      have H3 := hide h3
      clear h2 h3
      have hszr := hbr.size
      have HL : Live wr [] := trivial
      have FR := hide (fun W => from_e t (by omega) W)
      rcases (show t.size % 2 = 1 ∨ t.size = 0 ∨ ∃ m, t.size = m + 2 ∧ m % 2 = 0 by rcases (show t.size % 2 = 1 ∨ t.size = 0 ∨ 2 ≤ t.size by omega) with h | h | h; exact Or.inl h; exact Or.inr (Or.inl h); exact (if h2 : t.size % 2 = 1 then Or.inl h2 else Or.inr (Or.inr ⟨t.size - 2, by omega, by omega⟩))) with h0 | h0 | ⟨m, hm, hev⟩
      · have hq : ((t.size : Int) % 2 == 0) = false := by rw [beq_eq_false_iff_ne]; omega
        have WE := hide (wt_odd (s := s) h0)
        clear h0
        go_wp2_with (go_at_call 111; refine (FR.out _).mono ?_; rintro e w3 ⟨rfl, hb3⟩)
        go_ret2
        exact fromP.mk (uend h1 H2.out H3.out WE.out) rfl (hbr.trans (hb3.mono hszr))
      · have hq : ((t.size : Int) % 2 == 0) = true := by rw [beq_iff_eq]; omega
        have SF := hide (fun W => suf_any t false (by omega) (suf_no t (by omega)) W)
        have WE := hide (show wtrimK s t.size = t.size by rw [h0]; rfl)
        clear h0
        go_wp2_with (first | (go_at_call 101; refine (SF.out _).mono ?_; rintro e w3 ⟨rfl, rfl⟩) | (go_at_call 111; refine (FR.out _).mono ?_; rintro e w3 ⟨rfl, hb3⟩))
        go_ret2
        exact fromP.mk (uend h1 H2.out H3.out WE.out) rfl (hbr.trans (hb3.mono hszr))
      · have hq : ((t.size : Int) % 2 == 0) = true := by rw [beq_iff_eq]; omega
        by_cases hh : bt t m = 0 ∧ bt t (m + 1) = 32
        · have SF := hide (fun W => suf_any t true (by omega) (by rw [suf_two t m hm, decide_eq_true hh]) W)
          have UG := hide (ugo h1 H2.out H3.out m hm hev hh)
          have hz2 : (2 : Int) ≤ (t.size : Int) := by omega
          have em : t.size - 2 = m := by omega
          clear hh
          go_wp2_with (go_at_call 101; refine (SF.out _).mono ?_; rintro e w3 ⟨rfl, rfl⟩)
          go_roundw
          case rel => exact ⟨by have := UG.out; simpa [em] using this, hbr⟩
          case measure => simp [strLen]; omega
        · have SF := hide (fun W => suf_any t false (by omega) (by rw [suf_two t m hm, decide_eq_false hh]) W)
          have WE := hide (show wtrimK s t.size = t.size by
            rw [hm]
            refine wt_no (fun h => hh ?_)
            rw [bt_ext h1 H2.out m (by omega), bt_ext h1 H2.out (m + 1) (by omega)]
            exact h.2)
          clear hh hm
          go_wp2_with (first | (go_at_call 101; refine (SF.out _).mono ?_; rintro e w3 ⟨rfl, rfl⟩) | (go_at_call 111; refine (FR.out _).mono ?_; rintro e w3 ⟨rfl, hb3⟩))
          go_ret2
          exact fromP.mk (uend h1 H2.out H3.out WE.out) rfl (hbr.trans (hb3.mono hszr))
  · have h1s : 1 ≤ s.size := by omega
    have HZ := hide (show URel s (.string s) from ⟨s, rfl, by omega, (Lib.Pa.extract_all s).symm, by rw [w0_all (fun h => h0.2 h.2)]⟩)
    have ho2 : ((s.size : Int) % 2 != 0) = true := by rw [bne_iff_ne]; omega
    have hbq : (bt s (s.size - 1) == 0) = false := by rw [beq_eq_false_iff_ne]; exact h0.2
    clear h0
    have HL : Live w [] := trivial
    go_enter Tryz.func56, Tryz.ntmps56
    go_wp2
    go_loopw [0] (fun sv wr => URel s sv ∧ Below w.heap.size w wr) (fun sv _ => strLen sv)
    case atStart => exact ⟨HZ.out, by (repeat' (first | (with_reducible exact Below.refl _ _) | (with_reducible refine Below.alloc ?_ ?_ _) | (with_reducible refine Below.setCell ?_ ?_ _) | (with_reducible refine Below.drew ?_) | (with_reducible refine below_drewN' ?_) | (with_reducible refine below_bytesW ?_ ?_) | (with_reducible refine Below.trans ?_ (Below.mono (by assumption) ?_)) | omega | (simp only [World.size_alloc, World.size_setCell, World.size_drew]; omega) | (simp [size_bytesW]; omega) | (simp; omega)))⟩
    case round =>
      obtain ⟨⟨t, rfl, h1, h2, h3⟩, hbr⟩ := hrel
      have H2 := hide h2
      have H3 := hide h3
      clear h2 h3
      have hszr := hbr.size
      have HL : Live wr [] := trivial
      have FR := hide (fun W => from_e t (by omega) W)
      rcases (show t.size % 2 = 1 ∨ t.size = 0 ∨ ∃ m, t.size = m + 2 ∧ m % 2 = 0 by rcases (show t.size % 2 = 1 ∨ t.size = 0 ∨ 2 ≤ t.size by omega) with h | h | h; exact Or.inl h; exact Or.inr (Or.inl h); exact (if h2 : t.size % 2 = 1 then Or.inl h2 else Or.inr (Or.inr ⟨t.size - 2, by omega, by omega⟩))) with h0 | h0 | ⟨m, hm, hev⟩
      · have hq : ((t.size : Int) % 2 == 0) = false := by rw [beq_eq_false_iff_ne]; omega
        have WE := hide (wt_odd (s := s) h0)
        clear h0
        go_wp2_with (go_at_call 111; refine (FR.out _).mono ?_; rintro e w3 ⟨rfl, hb3⟩)
        go_ret2
        exact fromP.mk (uend h1 H2.out H3.out WE.out) rfl (hbr.trans (hb3.mono hszr))
      · have hq : ((t.size : Int) % 2 == 0) = true := by rw [beq_iff_eq]; omega
        have SF := hide (fun W => suf_any t false (by omega) (suf_no t (by omega)) W)
        have WE := hide (show wtrimK s t.size = t.size by rw [h0]; rfl)
        clear h0
        go_wp2_with (first | (go_at_call 101; refine (SF.out _).mono ?_; rintro e w3 ⟨rfl, rfl⟩) | (go_at_call 111; refine (FR.out _).mono ?_; rintro e w3 ⟨rfl, hb3⟩))
        go_ret2
        exact fromP.mk (uend h1 H2.out H3.out WE.out) rfl (hbr.trans (hb3.mono hszr))
      · have hq : ((t.size : Int) % 2 == 0) = true := by rw [beq_iff_eq]; omega
        by_cases hh : bt t m = 0 ∧ bt t (m + 1) = 32
        · have SF := hide (fun W => suf_any t true (by omega) (by rw [suf_two t m hm, decide_eq_true hh]) W)
          have UG := hide (ugo h1 H2.out H3.out m hm hev hh)
          have hz2 : (2 : Int) ≤ (t.size : Int) := by omega
          have em : t.size - 2 = m := by omega
          clear hh
          go_wp2_with (go_at_call 101; refine (SF.out _).mono ?_; rintro e w3 ⟨rfl, rfl⟩)
          go_roundw
          case rel => exact ⟨by have := UG.out; simpa [em] using this, hbr⟩
          case measure => simp [strLen]; omega
        · have SF := hide (fun W => suf_any t false (by omega) (by rw [suf_two t m hm, decide_eq_false hh]) W)
          have WE := hide (show wtrimK s t.size = t.size by
            rw [hm]
            refine wt_no (fun h => hh ?_)
            rw [bt_ext h1 H2.out m (by omega), bt_ext h1 H2.out (m + 1) (by omega)]
            exact h.2)
          clear hh hm
          go_wp2_with (first | (go_at_call 101; refine (SF.out _).mono ?_; rintro e w3 ⟨rfl, rfl⟩) | (go_at_call 111; refine (FR.out _).mono ?_; rintro e w3 ⟨rfl, hb3⟩))
          go_ret2
          exact fromP.mk (uend h1 H2.out H3.out WE.out) rfl (hbr.trans (hb3.mono hszr))
  · have HZ := hide (show URel s (.string s) from ⟨s, rfl, by omega, (Lib.Pa.extract_all s).symm, by rw [w0_all (fun h => by omega)]⟩)
    have ho2 : ((s.size : Int) % 2 != 0) = false := by rw [bne_eq_false_iff_eq]; omega
    clear h0
    have HL : Live w [] := trivial
    go_enter Tryz.func56, Tryz.ntmps56
    go_wp2
    go_loopw [0] (fun sv wr => URel s sv ∧ Below w.heap.size w wr) (fun sv _ => strLen sv)
    case atStart => exact ⟨HZ.out, by (repeat' (first | (with_reducible exact Below.refl _ _) | (with_reducible refine Below.alloc ?_ ?_ _) | (with_reducible refine Below.setCell ?_ ?_ _) | (with_reducible refine Below.drew ?_) | (with_reducible refine below_drewN' ?_) | (with_reducible refine below_bytesW ?_ ?_) | (with_reducible refine Below.trans ?_ (Below.mono (by assumption) ?_)) | omega | (simp only [World.size_alloc, World.size_setCell, World.size_drew]; omega) | (simp [size_bytesW]; omega) | (simp; omega)))⟩
    case round =>
      obtain ⟨⟨t, rfl, h1, h2, h3⟩, hbr⟩ := hrel
      have H2 := hide h2
      have H3 := hide h3
      clear h2 h3
      have hszr := hbr.size
      have HL : Live wr [] := trivial
      have FR := hide (fun W => from_e t (by omega) W)
      rcases (show t.size % 2 = 1 ∨ t.size = 0 ∨ ∃ m, t.size = m + 2 ∧ m % 2 = 0 by rcases (show t.size % 2 = 1 ∨ t.size = 0 ∨ 2 ≤ t.size by omega) with h | h | h; exact Or.inl h; exact Or.inr (Or.inl h); exact (if h2 : t.size % 2 = 1 then Or.inl h2 else Or.inr (Or.inr ⟨t.size - 2, by omega, by omega⟩))) with h0 | h0 | ⟨m, hm, hev⟩
      · have hq : ((t.size : Int) % 2 == 0) = false := by rw [beq_eq_false_iff_ne]; omega
        have WE := hide (wt_odd (s := s) h0)
        clear h0
        go_wp2_with (go_at_call 111; refine (FR.out _).mono ?_; rintro e w3 ⟨rfl, hb3⟩)
        go_ret2
        exact fromP.mk (uend h1 H2.out H3.out WE.out) rfl (hbr.trans (hb3.mono hszr))
      · have hq : ((t.size : Int) % 2 == 0) = true := by rw [beq_iff_eq]; omega
        have SF := hide (fun W => suf_any t false (by omega) (suf_no t (by omega)) W)
        have WE := hide (show wtrimK s t.size = t.size by rw [h0]; rfl)
        clear h0
        go_wp2_with (first | (go_at_call 101; refine (SF.out _).mono ?_; rintro e w3 ⟨rfl, rfl⟩) | (go_at_call 111; refine (FR.out _).mono ?_; rintro e w3 ⟨rfl, hb3⟩))
        go_ret2
        exact fromP.mk (uend h1 H2.out H3.out WE.out) rfl (hbr.trans (hb3.mono hszr))
      · have hq : ((t.size : Int) % 2 == 0) = true := by rw [beq_iff_eq]; omega
        by_cases hh : bt t m = 0 ∧ bt t (m + 1) = 32
        · have SF := hide (fun W => suf_any t true (by omega) (by rw [suf_two t m hm, decide_eq_true hh]) W)
          have UG := hide (ugo h1 H2.out H3.out m hm hev hh)
          have hz2 : (2 : Int) ≤ (t.size : Int) := by omega
          have em : t.size - 2 = m := by omega
          clear hh
          go_wp2_with (go_at_call 101; refine (SF.out _).mono ?_; rintro e w3 ⟨rfl, rfl⟩)
          go_roundw
          case rel => exact ⟨by have := UG.out; simpa [em] using this, hbr⟩
          case measure => simp [strLen]; omega
        · have SF := hide (fun W => suf_any t false (by omega) (by rw [suf_two t m hm, decide_eq_false hh]) W)
          have WE := hide (show wtrimK s t.size = t.size by
            rw [hm]
            refine wt_no (fun h => hh ?_)
            rw [bt_ext h1 H2.out m (by omega), bt_ext h1 H2.out (m + 1) (by omega)]
            exact h.2)
          clear hh hm
          go_wp2_with (first | (go_at_call 101; refine (SF.out _).mono ?_; rintro e w3 ⟨rfl, rfl⟩) | (go_at_call 111; refine (FR.out _).mono ?_; rintro e w3 ⟨rfl, hb3⟩))
          go_ret2
          exact fromP.mk (uend h1 H2.out H3.out WE.out) rfl (hbr.trans (hb3.mono hszr))
end Go.Proofs.YtjbhokmkmapkoaaGreatDoor
