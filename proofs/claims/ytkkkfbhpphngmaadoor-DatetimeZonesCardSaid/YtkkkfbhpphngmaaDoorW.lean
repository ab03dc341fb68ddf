/- Contracts of ReadDescriptor of package datetime, for every string. -/
import Derived.Test.YtkkkfbhpphngmaaDoorU
namespace Go.Proofs.YtkkkfbhpphngmaaDoor
set_option linter.unusedSimpArgs false
set_option linter.unusedVariables false
open Go.RowKit
open Go.PlainAid (bt get_bt bt_nonneg bt_le)

def unS : ByteArray := ⟨#[48, 48, 48, 48, 48, 48, 48, 48, 48, 48, 48, 48, 48, 48, 48, 48, 0]⟩

set_option maxHeartbeats 1000000 in
theorem numLit_2 (s : ByteArray) (a : Nat) (x y : Int) (b : Nat) (hx : x = a ∧ y = a + 2) (hs : a + 2 ≤ s.size) (hs2 : s.size ≤ 100) (h0 : Dig s a) (h1 : Dig s (a + 1)) (w : World) (hc : w.cell? ⟨b, 0, none⟩ = some (.string s)) :
    Calls Tryd.prog 50 #[.int .i64 x, .int .i64 y, .pointer (some ⟨b, 0, none⟩)] w fun e w' => e = .returned (.int .i64 (num2 s a)) ∧ Below w.heap.size w w' := by
  obtain ⟨rfl, rfl⟩ := hx
  have hz : (s.extract a (a + 2)).size = 2 := by simp; omega
  have e0 := bt_extract s a (a + 2) 0 hs (by omega)
  have e1 := bt_extract s a (a + 2) 1 hs (by omega)
  have hn : num2 (s.extract a (a + 2)) 0 = num2 s a := by simp only [num2, Nat.zero_add]; rw [e0, e1]; simp
  have d0 : Dig (s.extract a (a + 2)) 0 := by unfold Dig; rw [e0]; exact h0
  have d1 : Dig (s.extract a (a + 2)) 1 := by unfold Dig; rw [e1]; exact h1
  have AT := hide (fun W => atoi_2 (s.extract a (a + 2)) hz d0 d1 W)
  have HN := hide hn
  clear hn e0 e1 hz d0 d1
  have HL : Live w [] := trivial
  go_enter Tryd.func50, Tryd.ntmps50
  go_wp2_with (go_at_call 51; (with_reducible refine (AT.out _).mono ?_); rintro e w' ⟨rfl, hb⟩; have hz := hb.size)
  go_ret
  exact ⟨ret_i HN.out, by (repeat' (first | (with_reducible exact Below.refl _ _) | (with_reducible refine Below.alloc ?_ ?_ _) | (with_reducible refine Below.setCell ?_ ?_ _) | (with_reducible refine Below.drew ?_) | (with_reducible refine below_drewN' ?_) | (with_reducible refine below_bytesW ?_ ?_) | (with_reducible refine Below.trans ?_ (Below.mono (by assumption) ?_)) | omega | (simp only [World.size_alloc, World.size_setCell, World.size_drew]; omega) | (simp [size_bytesW]; omega) | (simp; omega)))⟩
set_option maxHeartbeats 1000000 in
theorem numLit_4 (s : ByteArray) (b : Nat) (hs : 4 ≤ s.size) (hs2 : s.size ≤ 100) (h0 : Dig s 0) (h1 : Dig s 1) (h2 : Dig s 2) (h3 : Dig s 3) (w : World) (hc : w.cell? ⟨b, 0, none⟩ = some (.string s)) :
    Calls Tryd.prog 50 #[.int .i64 0, .int .i64 4, .pointer (some ⟨b, 0, none⟩)] w fun e w' => e = .returned (.int .i64 (num4 s 0)) ∧ Below w.heap.size w w' := by
  have hz : (s.extract 0 4).size = 4 := by simp; omega
  have e0 := bt_extract s 0 4 0 hs (by omega)
  have e1 := bt_extract s 0 4 1 hs (by omega)
  have e2 := bt_extract s 0 4 2 hs (by omega)
  have e3 := bt_extract s 0 4 3 hs (by omega)
  have hn : num4 (s.extract 0 4) 0 = num4 s 0 := by simp only [num4, Nat.zero_add]; rw [e0, e1, e2, e3]
  have d0 : Dig (s.extract 0 4) 0 := by unfold Dig; rw [e0]; exact h0
  have d1 : Dig (s.extract 0 4) 1 := by unfold Dig; rw [e1]; exact h1
  have d2 : Dig (s.extract 0 4) 2 := by unfold Dig; rw [e2]; exact h2
  have d3 : Dig (s.extract 0 4) 3 := by unfold Dig; rw [e3]; exact h3
  have AT := hide (fun W => atoi_4 (s.extract 0 4) hz d0 d1 d2 d3 W)
  have HN := hide hn
  clear hn e0 e1 e2 e3 hz d0 d1 d2 d3
  have HL : Live w [] := trivial
  go_enter Tryd.func50, Tryd.ntmps50
  go_wp2_with (go_at_call 51; (with_reducible refine (AT.out _).mono ?_); rintro e w' ⟨rfl, hb⟩; have hz := hb.size)
  go_ret
  exact ⟨ret_i HN.out, by (repeat' (first | (with_reducible exact Below.refl _ _) | (with_reducible refine Below.alloc ?_ ?_ _) | (with_reducible refine Below.setCell ?_ ?_ _) | (with_reducible refine Below.drew ?_) | (with_reducible refine below_drewN' ?_) | (with_reducible refine below_bytesW ?_ ?_) | (with_reducible refine Below.trans ?_ (Below.mono (by assumption) ?_)) | omega | (simp only [World.size_alloc, World.size_setCell, World.size_drew]; omega) | (simp [size_bytesW]; omega) | (simp; omega)))⟩

set_option maxHeartbeats 400000 in
theorem readDesc_no (s : ByteArray) (hs : ¬ s.size = 17) (w : World) : Calls Tryd.prog 29 #[.string s] w fun e w' => e = .returned (.tuple #[.int .i64 0, .int .i64 0, .int .i64 1]) ∧ Below w.heap.size w w' := by
  obtain ⟨h1, h2⟩ := size_ne hs
  have HL : Live w [] := trivial
  go_enter Tryd.func29, Tryd.ntmps29
  go_wp2
  go_ret3
  exact ⟨rfl, by (repeat' (first | (with_reducible exact Below.refl _ _) | (with_reducible refine Below.alloc ?_ ?_ _) | (with_reducible refine Below.setCell ?_ ?_ _) | (with_reducible refine Below.drew ?_) | (with_reducible refine below_drewN' ?_) | (with_reducible refine below_bytesW ?_ ?_) | (with_reducible refine Below.trans ?_ (Below.mono (by assumption) ?_)) | omega | (simp only [World.size_alloc, World.size_setCell, World.size_drew]; omega) | (simp [size_bytesW]; omega) | (simp; omega)))⟩
set_option maxHeartbeats 400000 in
theorem readDesc_un (w : World) : Calls Tryd.prog 29 #[.string ⟨#[48, 48, 48, 48, 48, 48, 48, 48, 48, 48, 48, 48, 48, 48, 48, 48, 0]⟩] w fun e w' => e = .returned (.tuple #[.int .i64 0, .int .i64 0, .int .i64 0]) ∧ Below w.heap.size w w' := by
  have HL : Live w [] := trivial
  go_enter Tryd.func29, Tryd.ntmps29
  go_wp2
  go_quiet ((go_at_call 32; exact Calls.quiet_of_same ((unspec_any _).mono fun e w' h => ⟨h.1, h.2.symm⟩)))
  go_wp2
  go_ret3
  exact ⟨rfl, by (repeat' (first | (with_reducible exact Below.refl _ _) | (with_reducible refine Below.alloc ?_ ?_ _) | (with_reducible refine Below.setCell ?_ ?_ _) | (with_reducible refine Below.drew ?_) | (with_reducible refine below_drewN' ?_) | (with_reducible refine below_bytesW ?_ ?_) | (with_reducible refine Below.trans ?_ (Below.mono (by assumption) ?_)) | omega | (simp only [World.size_alloc, World.size_setCell, World.size_drew]; omega) | (simp [size_bytesW]; omega) | (simp; omega)))⟩
theorem un_list {s : ByteArray} (h : s ≠ unS) : (s.toList == [48, 48, 48, 48, 48, 48, 48, 48, 48, 48, 48, 48, 48, 48, 48, 48, 0]) = false := by
  rw [beq_eq_false_iff_ne]
  intro e
  apply h
  rw [ByteArray.toList_eq] at e
  obtain ⟨⟨l⟩⟩ := s
  simp only at e
  rw [e]; rfl
theorem dto {s : ByteArray} (h : DigTo s 16) (i : Nat) (hi : i < 16) : Dig s i := h i hi
set_option maxHeartbeats 1000000 in
theorem readDesc_bad (s : ByteArray) (hs : s.size = 17) (hu : s ≠ unS) (hd : ¬ DigTo s 16) (w : World) : Calls Tryd.prog 29 #[.string s] w fun e w' => e = .returned (.tuple #[.int .i64 0, .int .i64 0, .int .i64 10]) ∧ Below w.heap.size w w' := by
  have hg := get_bt s
  have hl := un_list hu
  have HD := hide hd
  clear hd hu
  have HL : Live w [] := trivial
  go_enter Tryd.func29, Tryd.ntmps29
  go_wp2
  go_quiet ((go_at_call 32; exact Calls.quiet_of_same ((unspec_any _).mono fun e w' h => ⟨h.1, h.2.symm⟩)))
  go_wp2
  go_loop [15] (fun c => ∃ i : Nat, i ≤ 16 ∧ c = .int .i64 i ∧ DigTo s i) (fun c => 16 - (intOf c).toNat)
  case atStart => exact ⟨0, by omega, rfl, DigTo.zero s⟩
  case round =>
    obtain ⟨i, hi, rfl, hto⟩ := hrel
    have HT := hide hto
    clear hto
    by_cases hlt : i < 16
    · by_cases g1 : 48 ≤ bt s i
      · by_cases g2 : bt s i ≤ 57
        · go_wp2
          go_round
          case rel => exact ⟨i + 1, by omega, by go_num, HT.out.succ g1 g2⟩
          case measure => simp [intOf]; omega
        · go_wp2
          go_ret3
          exact ⟨rfl, by (repeat' (first | (with_reducible exact Below.refl _ _) | (with_reducible refine Below.alloc ?_ ?_ _) | (with_reducible refine Below.setCell ?_ ?_ _) | (with_reducible refine Below.drew ?_) | (with_reducible refine below_drewN' ?_) | (with_reducible refine below_bytesW ?_ ?_) | (with_reducible refine Below.trans ?_ (Below.mono (by assumption) ?_)) | omega | (simp only [World.size_alloc, World.size_setCell, World.size_drew]; omega) | (simp [size_bytesW]; omega) | (simp; omega)))⟩
      · go_wp2
        go_ret3
        exact ⟨rfl, by (repeat' (first | (with_reducible exact Below.refl _ _) | (with_reducible refine Below.alloc ?_ ?_ _) | (with_reducible refine Below.setCell ?_ ?_ _) | (with_reducible refine Below.drew ?_) | (with_reducible refine below_drewN' ?_) | (with_reducible refine below_bytesW ?_ ?_) | (with_reducible refine Below.trans ?_ (Below.mono (by assumption) ?_)) | omega | (simp only [World.size_alloc, World.size_setCell, World.size_drew]; omega) | (simp [size_bytesW]; omega) | (simp; omega)))⟩
    · obtain rfl : i = 16 := by omega
      exact absurd HT.out HD.out
set_option maxHeartbeats 2000000 in
theorem readDesc_yes (s : ByteArray) (hs : s.size = 17) (hu : s ≠ unS) (hd : DigTo s 16) (w : World) : Calls Tryd.prog 29 #[.string s] w (RoP (num4 s 0) (num2 s 4) (num2 s 6) (num2 s 8) (num2 s 10) (num2 s 12) (15 * sg (bt s 16)) (qB (sg (bt s 16))) w) := by
  have hg := get_bt s
  have hl := un_list hu
  have HD := hide hd
  have b6 := bt_nonneg s 16
  have b6' := bt_le s 16
  have hs2 : s.size ≤ 100 := by omega
  clear hd hu
  have RD := hide (fun W => read_any (num4 s 0) (num2 s 4) (num2 s 6) (num2 s 8) (num2 s 10) (num2 s 12) (15 * sg (bt s 16)) (qB (sg (bt s 16))) qB_zone W)
  have HL : Live w [] := trivial
  go_enter Tryd.func29, Tryd.ntmps29
  go_wp2
  refine wp_region_noPanic ?_
  refine wp_region_held_drew (S := (fun x => x.cell? ⟨w.heap.size, 0, none⟩ = some (.string s))) (by kernel_rfl) (by (try dsimp only); first | assumption | (simp [*, go_sem]; done) | (refine ⟨?_, ?_⟩ <;> simp [*, go_sem])) (fun hHeld => ?_)
  refine wpAnyH_take (i := 0) (oi := { dst := some 12, op := Go.Op.load 9 (Go.Operand.tmp 1), type := 9, pos := "datetime.go:167", after := #[], guard := none }) (v := ?_) rfl (by kernel_rfl) (by kernel_rfl) (by kernel_rfl) (fun _ _ _ h => h) (Or.inl ⟨by rfl, ?_⟩) (by assumption) ?_
  rotate_left
  · intro w hSw; (try dsimp only at hSw); go_simp; (try with_reducible rfl)
  try simp only [Act.put, List.setIfInBounds_toArray, List.set_cons_zero, List.set_cons_succ]
  refine wpAnyH_ready (rs := [1]) (by kernel_rfl) (by simp) ?_
  refine AllReadyH.cons (o := { dst := some 13, op := Go.Op.call { callee := Go.Callee.value (Go.Operand.func 32), args := #[], argTypes := #[] }, type := 9, pos := "datetime.go:167", after := #[], guard := none }) rfl (fun K hK => ?_) AllReadyH.nil
  go_simp
  (first | (go_at_call 32; (with_reducible refine (unspec_any _).mono ?_); rintro e w' ⟨rfl, rfl⟩))
  go_wp2_with fail
  refine hK.out _ _ (by (try dsimp only); first | assumption | (simp [*, go_sem]; done) | (refine ⟨?_, ?_⟩ <;> simp [*, go_sem])) (fun hHeld => ?_)
  clear hK K
  try simp only [Act.put, List.setIfInBounds_toArray, List.set_cons_zero, List.set_cons_succ]
  refine wpAnyH_take (i := 2) (oi := { dst := some 14, op := Go.Op.binOp Go.BinOp.eql 9 (Go.Operand.tmp 12) (Go.Operand.tmp 13) 9, type := 4, pos := "datetime.go:167", after := #[{ on := 0, ground := Go.Ground.data }, { on := 1, ground := Go.Ground.data }], guard := none }) (v := ?_) rfl (by kernel_rfl) (by kernel_rfl) (by kernel_rfl) (fun _ _ _ h => h) (Or.inl ⟨by rfl, ?_⟩) (by assumption) ?_
  rotate_left
  · intro w hSw; (try dsimp only at hSw); go_simp; (try with_reducible rfl)
  try simp only [Act.put, List.setIfInBounds_toArray, List.set_cons_zero, List.set_cons_succ]
  refine wpAnyH_done (by kernel_rfl) ?_ _
  refine NoPanic.normal ?_
  go_wp2
  go_loop [15] (fun c => ∃ i : Nat, i ≤ 16 ∧ c = .int .i64 i) (fun c => 16 - (intOf c).toNat)
  case atStart => exact ⟨0, by omega, rfl⟩
  case round =>
    obtain ⟨i, hi, rfl⟩ := hrel
    by_cases hlt : i < 16
    · have g1 := (HD.out i hlt).1
      have g2 := (HD.out i hlt).2
      go_wp2
      go_round
      case rel => exact ⟨i + 1, by omega, by go_num⟩
      case measure => simp [intOf]; omega
    · obtain rfl : i = 16 := by omega
      go_wp2_with (first | (go_at_call 44; (with_reducible refine (quarter_any _ (by omega) _).mono ?_); rintro e w' ⟨rfl, rfl⟩))
      (first | ((with_reducible refine (numLit_4 s _ (by omega) (by omega) (dto HD.out 0 (by omega)) (dto HD.out 1 (by omega)) (dto HD.out 2 (by omega)) (dto HD.out 3 (by omega)) _ (by go_simp)).mono ?_); rintro e w1 ⟨rfl, hb⟩; have hz := hb.size; (try simp only [World.size_alloc, World.size_setCell, World.size_drew, Nat.add_assoc, Nat.reduceAdd] at hz); (first | obtain ⟨HL, hk⟩ := HL.call hb hz (by simp only [World.size_alloc, World.size_setCell, World.size_drew, Nat.add_assoc, Nat.reduceAdd]) | obtain ⟨HL, hk⟩ := HL.call0 hb hz (by first | rfl | simp only [World.size_alloc, World.size_setCell, World.size_drew, Nat.add_assoc, Nat.reduceAdd])); (try simp only [addN, Nat.add_zero] at HL hk); have hl := HL; simp only [Live] at hl; (try simp only [Kept] at hk)))
      go_wp2_with fail
      (first | ((with_reducible refine (numLit_2 s 4 _ _ _ (by omega) (by omega) (by omega) (dto HD.out 4 (by omega)) (dto HD.out 5 (by omega)) _ (by go_simp)).mono ?_); rintro e w2 ⟨rfl, hb⟩; have hz := hb.size; (try simp only [World.size_alloc, World.size_setCell, World.size_drew, Nat.add_assoc, Nat.reduceAdd] at hz); (first | obtain ⟨HL, hk⟩ := HL.call hb hz (by simp only [World.size_alloc, World.size_setCell, World.size_drew, Nat.add_assoc, Nat.reduceAdd]) | obtain ⟨HL, hk⟩ := HL.call0 hb hz (by first | rfl | simp only [World.size_alloc, World.size_setCell, World.size_drew, Nat.add_assoc, Nat.reduceAdd])); (try simp only [addN, Nat.add_zero] at HL hk); have hl := HL; simp only [Live] at hl; (try simp only [Kept] at hk)))
      go_wp2_with fail
      (first | ((with_reducible refine (numLit_2 s 6 _ _ _ (by omega) (by omega) (by omega) (dto HD.out 6 (by omega)) (dto HD.out 7 (by omega)) _ (by go_simp)).mono ?_); rintro e w3 ⟨rfl, hb⟩; have hz := hb.size; (try simp only [World.size_alloc, World.size_setCell, World.size_drew, Nat.add_assoc, Nat.reduceAdd] at hz); (first | obtain ⟨HL, hk⟩ := HL.call hb hz (by simp only [World.size_alloc, World.size_setCell, World.size_drew, Nat.add_assoc, Nat.reduceAdd]) | obtain ⟨HL, hk⟩ := HL.call0 hb hz (by first | rfl | simp only [World.size_alloc, World.size_setCell, World.size_drew, Nat.add_assoc, Nat.reduceAdd])); (try simp only [addN, Nat.add_zero] at HL hk); have hl := HL; simp only [Live] at hl; (try simp only [Kept] at hk)))
      go_wp2_with fail
      (first | ((with_reducible refine (numLit_2 s 8 _ _ _ (by omega) (by omega) (by omega) (dto HD.out 8 (by omega)) (dto HD.out 9 (by omega)) _ (by go_simp)).mono ?_); rintro e w4 ⟨rfl, hb⟩; have hz := hb.size; (try simp only [World.size_alloc, World.size_setCell, World.size_drew, Nat.add_assoc, Nat.reduceAdd] at hz); (first | obtain ⟨HL, hk⟩ := HL.call hb hz (by simp only [World.size_alloc, World.size_setCell, World.size_drew, Nat.add_assoc, Nat.reduceAdd]) | obtain ⟨HL, hk⟩ := HL.call0 hb hz (by first | rfl | simp only [World.size_alloc, World.size_setCell, World.size_drew, Nat.add_assoc, Nat.reduceAdd])); (try simp only [addN, Nat.add_zero] at HL hk); have hl := HL; simp only [Live] at hl; (try simp only [Kept] at hk)))
      go_wp2_with fail
      (first | ((with_reducible refine (numLit_2 s 10 _ _ _ (by omega) (by omega) (by omega) (dto HD.out 10 (by omega)) (dto HD.out 11 (by omega)) _ (by go_simp)).mono ?_); rintro e w5 ⟨rfl, hb⟩; have hz := hb.size; (try simp only [World.size_alloc, World.size_setCell, World.size_drew, Nat.add_assoc, Nat.reduceAdd] at hz); (first | obtain ⟨HL, hk⟩ := HL.call hb hz (by simp only [World.size_alloc, World.size_setCell, World.size_drew, Nat.add_assoc, Nat.reduceAdd]) | obtain ⟨HL, hk⟩ := HL.call0 hb hz (by first | rfl | simp only [World.size_alloc, World.size_setCell, World.size_drew, Nat.add_assoc, Nat.reduceAdd])); (try simp only [addN, Nat.add_zero] at HL hk); have hl := HL; simp only [Live] at hl; (try simp only [Kept] at hk)))
      go_wp2_with fail
      (first | ((with_reducible refine (numLit_2 s 12 _ _ _ (by omega) (by omega) (by omega) (dto HD.out 12 (by omega)) (dto HD.out 13 (by omega)) _ (by go_simp)).mono ?_); rintro e w6 ⟨rfl, hb⟩; have hz := hb.size; (try simp only [World.size_alloc, World.size_setCell, World.size_drew, Nat.add_assoc, Nat.reduceAdd] at hz); (first | obtain ⟨HL, hk⟩ := HL.call hb hz (by simp only [World.size_alloc, World.size_setCell, World.size_drew, Nat.add_assoc, Nat.reduceAdd]) | obtain ⟨HL, hk⟩ := HL.call0 hb hz (by first | rfl | simp only [World.size_alloc, World.size_setCell, World.size_drew, Nat.add_assoc, Nat.reduceAdd])); (try simp only [addN, Nat.add_zero] at HL hk); have hl := HL; simp only [Live] at hl; (try simp only [Kept] at hk)))
      go_wp2_with (first | (go_at_call 45; (with_reducible refine (RD.out _).mono ?_); rintro e w' ⟨rfl, hb⟩; have hz := hb.size))
      go_ret3
      exact ⟨rfl, by (repeat' (first | (with_reducible exact Below.refl _ _) | (with_reducible refine Below.alloc ?_ ?_ _) | (with_reducible refine Below.setCell ?_ ?_ _) | (with_reducible refine Below.drew ?_) | (with_reducible refine below_drewN' ?_) | (with_reducible refine below_bytesW ?_ ?_) | (with_reducible refine Below.trans ?_ (Below.mono (by assumption) ?_)) | omega | (simp only [World.size_alloc, World.size_setCell, World.size_drew]; omega) | (simp [size_bytesW]; omega) | (simp; omega)))⟩
end Go.Proofs.YtkkkfbhpphngmaaDoor
