/- Contracts and plain words for the laws of volume descriptors, part 16: F8, F9. No condition. -/
import Derived.Shelf.Strings.Prefix
import Derived.Test.YtjbhokmkmapkoaaGreatDoorC15
namespace Go.Proofs.YtjbhokmkmapkoaaGreatDoor
set_option linter.unusedSimpArgs false
set_option linter.unusedVariables false
open Go.RowKit
open Go.PlainAid (bt get_bt bt_nonneg bt_le bt_end)
theorem ext_two (s : ByteArray) (m : Nat) (h : m + 2 ≤ s.size) : (s.extract m (m + 2)).toList = [u8 (bt s m), u8 (bt s (m + 1))] := by
  rw [ByteArray.toList_eq, bt_list, ByteArray.size_extract]
  have : min (m + 2) s.size - m = 2 := by omega
  rw [this]
  show [u8 (bt _ 0), u8 (bt _ 1)] = _
  rw [bt_extract s m (m + 2) 0 h (by omega), bt_extract s m (m + 2) 1 h (by omega), Nat.add_zero]
theorem two_yes (s : ByteArray) (m : Nat) (h : m + 2 ≤ s.size) : ((s.extract m (m + 2)).toList == [0, 32]) = decide (bt s m = 0 ∧ bt s (m + 1) = 32) := by
  have a0 := bt_nonneg s m
  have a1 := bt_le s m
  have b0 := bt_nonneg s (m + 1)
  have b1 := bt_le s (m + 1)
  rw [ext_two s m h, Bool.eq_iff_iff, beq_iff_eq, decide_eq_true_iff]
  constructor
  · intro e
    injection e with e1 e2
    injection e2 with e2 _
    have f1 := congrArg (fun x : UInt8 => (x.toNat : Int)) e1
    have f2 := congrArg (fun x : UInt8 => (x.toNat : Int)) e2
    have g1 : ((u8 (bt s m)).toNat : Int) = 0 := f1
    have g2 : ((u8 (bt s (m + 1))).toNat : Int) = 32 := f2
    rw [u8_nat (by omega)] at g1 g2
    exact ⟨g1, g2⟩
  · rintro ⟨e1, e2⟩
    rw [e1, e2]; rfl
theorem wt_yes {s : ByteArray} {m : Nat} (h : m % 2 = 0) (h1 : bt s m = 0 ∧ bt s (m + 1) = 32) : wtrimK s (m + 2) = wtrimK s m := by rw [wtrimK, if_pos ⟨h, h1⟩]
theorem wt_no {s : ByteArray} {m : Nat} (h1 : ¬ (m % 2 = 0 ∧ bt s m = 0 ∧ bt s (m + 1) = 32)) : wtrimK s (m + 2) = m + 2 := by rw [wtrimK, if_neg h1]
theorem wt_odd {s : ByteArray} : ∀ {k : Nat}, k % 2 = 1 → wtrimK s k = k
  | 0, h => by omega
  | 1, _ => rfl
  | k + 2, h => wt_no (by omega)
theorem w0_cut {s : ByteArray} (h : s.size % 2 = 1 ∧ bt s (s.size - 1) = 0) : wtrim0 s = s.size - 1 := if_pos h
theorem w0_all {s : ByteArray} (h : ¬ (s.size % 2 = 1 ∧ bt s (s.size - 1) = 0)) : wtrim0 s = s.size := if_neg h
theorem rfrom_e (s : ByteArray) (hs : s.size ≤ 65536) (w : World) : Calls Tryz.prog 166 #[.string s] w fun e w' => e = .returned (.tuple #[.string ⟨(fromU s).1.toArray⟩, .int .i64 (fromU s).2]) ∧ Below w.heap.size w w' := rfrom_any s hs w
theorem from_e (s : ByteArray) (hs : s.size ≤ 65536) (w : World) : Calls Tryz.prog 111 #[.string s] w fun e w' => e = .returned (.tuple #[.string ⟨(fromU s).1.toArray⟩, .int .i64 (fromU s).2]) ∧ Below w.heap.size w w' := from_any s hs w
set_option maxRecDepth 100000 in
set_option maxHeartbeats 8000000 in
theorem rwtrim_any (s : ByteArray) (hs : s.size ≤ 65536) (w : World) : Calls Tryz.prog 122 #[.string s] w (fromP (wtrimS s) w) := by
  have hs2 : (s.size : Int) ≤ 65536 := by omega
  have hg := get_bt s
  rcases (show (s.size % 2 = 1 ∧ bt s (s.size - 1) = 0) ∨ (s.size % 2 = 1 ∧ bt s (s.size - 1) ≠ 0) ∨ s.size % 2 = 0 by by_cases h : s.size % 2 = 1; (by_cases h2 : bt s (s.size - 1) = 0; exact Or.inl ⟨h, h2⟩; exact Or.inr (Or.inl ⟨h, h2⟩)); exact Or.inr (Or.inr (by omega))) with h0 | h0 | h0
  · have HZ := hide (w0_cut h0)
    have ho2 : ((s.size : Int) % 2 == 1) = true := by rw [beq_iff_eq]; omega
    have hbq : (bt s (s.size - 1) == 0) = true := by rw [h0.2]; rfl
    have h1s : 1 ≤ s.size := by omega
    clear h0
    have HL : Live w [] := trivial
    go_enter Tryz.func122, Tryz.ntmps122
    go_wp2
    go_loopw [4] (fun i wr => ∃ k : Nat, k ≤ s.size ∧ i = .int .i64 k ∧ wtrimK s (wtrim0 s) = wtrimK s k ∧ Below w.heap.size w wr) (fun i _ => (intOf i).toNat)
    case atStart => exact ⟨s.size - 1, by omega, by go_num, by rw [HZ.out], by (exact bl)⟩
    case round =>
      obtain ⟨k, hk, rfl, hkk, hbr⟩ := hrel
      have HK := hide hkk
      clear hkk
      have hszr := hbr.size
      have HL : Live wr [] := trivial
      have hxs := ext_size s k hk
      have FR := hide (fun W => rfrom_e (s.extract 0 k) (by omega) W)
      clear hxs
      have fin : wtrimK s k = k → wtrimS s = ((fromU (s.extract 0 k)).1, (fromU (s.extract 0 k)).2) := fun h => by
        unfold wtrimS
        rw [HK.out, h]
      have FN := hide fin
      clear fin
      rcases (show k % 2 = 1 ∨ k = 0 ∨ ∃ m, k = m + 2 ∧ m % 2 = 0 by rcases (show k % 2 = 1 ∨ k = 0 ∨ 2 ≤ k by omega) with h | h | h; exact Or.inl h; exact Or.inr (Or.inl h); exact (if h2 : k % 2 = 1 then Or.inl h2 else Or.inr (Or.inr ⟨k - 2, by omega, by omega⟩))) with h1 | h1 | ⟨m, rfl, hm⟩
      · have hq : ((k : Int) % 2 == 0) = false := by rw [beq_eq_false_iff_ne]; omega
        have WE := hide (wt_odd (s := s) h1)
        go_wp2_with (go_at_call 166; refine (FR.out _).mono ?_; rintro e w3 ⟨rfl, hb3⟩)
        go_ret2
        exact fromP.mk (FN.out WE.out) rfl (hbr.trans (hb3.mono hszr))
      · have hq : ((k : Int) % 2 == 0) = true := by rw [beq_iff_eq]; omega
        have hq2 : ¬ (2 ≤ (k : Int)) := by omega
        have WE := hide (show wtrimK s k = k by rw [h1]; rfl)
        have h1' := hide h1
        clear h1
        go_wp2_with (go_at_call 166; refine (FR.out _).mono ?_; rintro e w3 ⟨rfl, hb3⟩)
        go_ret2
        exact fromP.mk (FN.out WE.out) rfl (hbr.trans (hb3.mono hszr))
      · have hq : (((m + 2 : Nat) : Int) % 2 == 0) = true := by rw [beq_iff_eq]; omega
        have hq2 : ((m : Int) % 2 == 0) = true := by rw [beq_iff_eq]; omega
        have T2 := two_yes s m hk
        by_cases hh : bt s m = 0 ∧ bt s (m + 1) = 32
        · rw [decide_eq_true hh] at T2
          have WE := hide (wt_yes hm hh)
          clear hh
          go_wp2
          go_roundw
          case rel => exact ⟨m, by omega, by go_num, by rw [HK.out, WE.out], hbr⟩
          case measure => simp [intOf]; omega
        · rw [decide_eq_false hh] at T2
          have WE := hide (wt_no (s := s) (m := m) (fun h => hh h.2))
          clear hh
          go_wp2_with (go_at_call 166; refine (FR.out _).mono ?_; rintro e w3 ⟨rfl, hb3⟩)
          go_ret2
          exact fromP.mk (FN.out WE.out) rfl (hbr.trans (hb3.mono hszr))
  · have HZ := hide (w0_all (fun h => h0.2 h.2))
    have ho2 : ((s.size : Int) % 2 == 1) = true := by rw [beq_iff_eq]; omega
    have hbq : (bt s (s.size - 1) == 0) = false := by rw [beq_eq_false_iff_ne]; exact h0.2
    have h1s : 1 ≤ s.size := by omega
    clear h0
    have HL : Live w [] := trivial
    go_enter Tryz.func122, Tryz.ntmps122
    go_wp2
    go_loopw [4] (fun i wr => ∃ k : Nat, k ≤ s.size ∧ i = .int .i64 k ∧ wtrimK s (wtrim0 s) = wtrimK s k ∧ Below w.heap.size w wr) (fun i _ => (intOf i).toNat)
    case atStart => exact ⟨s.size, by omega, by go_num, by rw [HZ.out], by (exact bl)⟩
    case round =>
      obtain ⟨k, hk, rfl, hkk, hbr⟩ := hrel
      have HK := hide hkk
      clear hkk
      have hszr := hbr.size
      have HL : Live wr [] := trivial
      have hxs := ext_size s k hk
      have FR := hide (fun W => rfrom_e (s.extract 0 k) (by omega) W)
      clear hxs
      have fin : wtrimK s k = k → wtrimS s = ((fromU (s.extract 0 k)).1, (fromU (s.extract 0 k)).2) := fun h => by
        unfold wtrimS
        rw [HK.out, h]
      have FN := hide fin
      clear fin
      rcases (show k % 2 = 1 ∨ k = 0 ∨ ∃ m, k = m + 2 ∧ m % 2 = 0 by rcases (show k % 2 = 1 ∨ k = 0 ∨ 2 ≤ k by omega) with h | h | h; exact Or.inl h; exact Or.inr (Or.inl h); exact (if h2 : k % 2 = 1 then Or.inl h2 else Or.inr (Or.inr ⟨k - 2, by omega, by omega⟩))) with h1 | h1 | ⟨m, rfl, hm⟩
      · have hq : ((k : Int) % 2 == 0) = false := by rw [beq_eq_false_iff_ne]; omega
        have WE := hide (wt_odd (s := s) h1)
        go_wp2_with (go_at_call 166; refine (FR.out _).mono ?_; rintro e w3 ⟨rfl, hb3⟩)
        go_ret2
        exact fromP.mk (FN.out WE.out) rfl (hbr.trans (hb3.mono hszr))
      · have hq : ((k : Int) % 2 == 0) = true := by rw [beq_iff_eq]; omega
        have hq2 : ¬ (2 ≤ (k : Int)) := by omega
        have WE := hide (show wtrimK s k = k by rw [h1]; rfl)
        have h1' := hide h1
        clear h1
        go_wp2_with (go_at_call 166; refine (FR.out _).mono ?_; rintro e w3 ⟨rfl, hb3⟩)
        go_ret2
        exact fromP.mk (FN.out WE.out) rfl (hbr.trans (hb3.mono hszr))
      · have hq : (((m + 2 : Nat) : Int) % 2 == 0) = true := by rw [beq_iff_eq]; omega
        have hq2 : ((m : Int) % 2 == 0) = true := by rw [beq_iff_eq]; omega
        have T2 := two_yes s m hk
        by_cases hh : bt s m = 0 ∧ bt s (m + 1) = 32
        · rw [decide_eq_true hh] at T2
          have WE := hide (wt_yes hm hh)
          clear hh
          go_wp2
          go_roundw
          case rel => exact ⟨m, by omega, by go_num, by rw [HK.out, WE.out], hbr⟩
          case measure => simp [intOf]; omega
        · rw [decide_eq_false hh] at T2
          have WE := hide (wt_no (s := s) (m := m) (fun h => hh h.2))
          clear hh
          go_wp2_with (go_at_call 166; refine (FR.out _).mono ?_; rintro e w3 ⟨rfl, hb3⟩)
          go_ret2
          exact fromP.mk (FN.out WE.out) rfl (hbr.trans (hb3.mono hszr))
  · have HZ := hide (w0_all (s := s) (fun h => by omega))
    have ho2 : ((s.size : Int) % 2 == 1) = false := by rw [beq_eq_false_iff_ne]; omega
    clear h0
    have HL : Live w [] := trivial
    go_enter Tryz.func122, Tryz.ntmps122
    go_wp2
    go_loopw [4] (fun i wr => ∃ k : Nat, k ≤ s.size ∧ i = .int .i64 k ∧ wtrimK s (wtrim0 s) = wtrimK s k ∧ Below w.heap.size w wr) (fun i _ => (intOf i).toNat)
    case atStart => exact ⟨s.size, by omega, by go_num, by rw [HZ.out], by (exact bl)⟩
    case round =>
      obtain ⟨k, hk, rfl, hkk, hbr⟩ := hrel
      have HK := hide hkk
      clear hkk
      have hszr := hbr.size
      have HL : Live wr [] := trivial
      have hxs := ext_size s k hk
      have FR := hide (fun W => rfrom_e (s.extract 0 k) (by omega) W)
      clear hxs
      have fin : wtrimK s k = k → wtrimS s = ((fromU (s.extract 0 k)).1, (fromU (s.extract 0 k)).2) := fun h => by
        unfold wtrimS
        rw [HK.out, h]
      have FN := hide fin
      clear fin
      rcases (show k % 2 = 1 ∨ k = 0 ∨ ∃ m, k = m + 2 ∧ m % 2 = 0 by rcases (show k % 2 = 1 ∨ k = 0 ∨ 2 ≤ k by omega) with h | h | h; exact Or.inl h; exact Or.inr (Or.inl h); exact (if h2 : k % 2 = 1 then Or.inl h2 else Or.inr (Or.inr ⟨k - 2, by omega, by omega⟩))) with h1 | h1 | ⟨m, rfl, hm⟩
      · have hq : ((k : Int) % 2 == 0) = false := by rw [beq_eq_false_iff_ne]; omega
        have WE := hide (wt_odd (s := s) h1)
        go_wp2_with (go_at_call 166; refine (FR.out _).mono ?_; rintro e w3 ⟨rfl, hb3⟩)
        go_ret2
        exact fromP.mk (FN.out WE.out) rfl (hbr.trans (hb3.mono hszr))
      · have hq : ((k : Int) % 2 == 0) = true := by rw [beq_iff_eq]; omega
        have hq2 : ¬ (2 ≤ (k : Int)) := by omega
        have WE := hide (show wtrimK s k = k by rw [h1]; rfl)
        have h1' := hide h1
        clear h1
        go_wp2_with (go_at_call 166; refine (FR.out _).mono ?_; rintro e w3 ⟨rfl, hb3⟩)
        go_ret2
        exact fromP.mk (FN.out WE.out) rfl (hbr.trans (hb3.mono hszr))
      · have hq : (((m + 2 : Nat) : Int) % 2 == 0) = true := by rw [beq_iff_eq]; omega
        have hq2 : ((m : Int) % 2 == 0) = true := by rw [beq_iff_eq]; omega
        have T2 := two_yes s m hk
        by_cases hh : bt s m = 0 ∧ bt s (m + 1) = 32
        · rw [decide_eq_true hh] at T2
          have WE := hide (wt_yes hm hh)
          clear hh
          go_wp2
          go_roundw
          case rel => exact ⟨m, by omega, by go_num, by rw [HK.out, WE.out], hbr⟩
          case measure => simp [intOf]; omega
        · rw [decide_eq_false hh] at T2
          have WE := hide (wt_no (s := s) (m := m) (fun h => hh h.2))
          clear hh
          go_wp2_with (go_at_call 166; refine (FR.out _).mono ?_; rintro e w3 ⟨rfl, hb3⟩)
          go_ret2
          exact fromP.mk (FN.out WE.out) rfl (hbr.trans (hb3.mono hszr))
end Go.Proofs.YtjbhokmkmapkoaaGreatDoor
namespace Go.Proofs.YtjbhokmkmapkoaaGreatDoor
set_option linter.unusedSimpArgs false
set_option linter.unusedVariables false
open Go.RowKit
open Go.PlainAid (bt get_bt bt_nonneg bt_le bt_end)
theorem suf_two (t : ByteArray) (m : Nat) (h : t.size = m + 2) : Lib.hasSuffix t.data.toList [0, 32] = decide (bt t m = 0 ∧ bt t (m + 1) = 32) := by
  have e := two_yes t m (by omega)
  have hl : t.data.toList.length = t.size := Array.length_toList
  rw [← e, Lib.extract_toList]
  unfold Lib.hasSuffix
  rw [Bool.eq_iff_iff, List.isSuffixOf_iff_suffix, List.suffix_iff_eq_drop, beq_iff_eq, hl, h]
  show [0, 32] = List.drop m t.data.toList ↔ _
  rw [show m + 2 - m = 2 by omega, List.take_of_length_le (by rw [List.length_drop, hl, h]; omega)]
  exact eq_comm
theorem suf_no (t : ByteArray) (h : t.size < 2) : Lib.hasSuffix t.data.toList [0, 32] = false := by
  have hl : t.data.toList.length = t.size := Array.length_toList
  unfold Lib.hasSuffix
  rw [Bool.eq_false_iff]
  intro e
  have := (List.isSuffixOf_iff_suffix.1 e).length_le
  simp at this; omega
theorem suf_any (t : ByteArray) (b : Bool) (hs : t.size ≤ 65536) (hb : Lib.hasSuffix t.data.toList [0, 32] = b) (w : World) : Calls Tryz.prog 101 #[.string t, .string ⟨#[0, 32]⟩] w fun e w' => e = .returned (.bool b) ∧ w = w' := by
  refine (Any.strings_HasSuffix Tryz.lays100 t ⟨#[0, 32]⟩ w (by omega)).mono ?_
  rintro e w' ⟨rfl, rfl⟩
  exact ⟨by rw [← hb], rfl⟩
def URel (s : ByteArray) (v : Value) : Prop := ∃ t : ByteArray, v = .string t ∧ t.size ≤ s.size ∧ t = s.extract 0 t.size ∧ wtrimK s (wtrim0 s) = wtrimK s t.size
theorem bt_ext {s t : ByteArray} (h1 : t.size ≤ s.size) (h2 : t = s.extract 0 t.size) (j : Nat) (hj : j < t.size) : bt t j = bt s j := by
  have := bt_extract s 0 t.size j h1 (by omega)
  rw [← h2, Nat.zero_add] at this
  exact this
theorem ugo {s t : ByteArray} (h1 : t.size ≤ s.size) (h2 : t = s.extract 0 t.size) (h3 : wtrimK s (wtrim0 s) = wtrimK s t.size) (m : Nat) (hm : t.size = m + 2) (hev : m % 2 = 0) (hb : bt t m = 0 ∧ bt t (m + 1) = 32) : URel s (.string (t.extract 0 m)) := by
  have e := ext_size t m (by omega)
  refine ⟨_, rfl, by omega, ?_, ?_⟩
  · rw [e]
    exact (show t.extract 0 m = (s.extract 0 t.size).extract 0 m from congrArg (fun x : ByteArray => x.extract 0 m) h2).trans (ext_ext s t.size m (by omega))
  · rw [e, h3, hm]
    rw [bt_ext h1 h2 m (by omega), bt_ext h1 h2 (m + 1) (by omega)] at hb
    exact wt_yes hev hb
theorem uend {s t : ByteArray} (h1 : t.size ≤ s.size) (h2 : t = s.extract 0 t.size) (h3 : wtrimK s (wtrim0 s) = wtrimK s t.size) (hk : wtrimK s t.size = t.size) : wtrimS s = ((fromU t).1, (fromU t).2) := by
  unfold wtrimS
  rw [h3, hk, ← h2]
set_option maxRecDepth 100000 in
set_option maxHeartbeats 8000000 in
theorem wtrim_any (s : ByteArray) (hs : s.size ≤ 65536) (w : World) : Calls Tryz.prog 56 #[.string s] w (fromP (wtrimS s) w) := by
  have hs2 : (s.size : Int) ≤ 65536 := by omega
  have hg := get_bt s
  rcases (show (s.size % 2 = 1 ∧ bt s (s.size - 1) = 0) ∨ (s.size % 2 = 1 ∧ bt s (s.size - 1) ≠ 0) ∨ s.size % 2 = 0 by by_cases h : s.size % 2 = 1; (by_cases h2 : bt s (s.size - 1) = 0; exact Or.inl ⟨h, h2⟩; exact Or.inr (Or.inl ⟨h, h2⟩)); exact Or.inr (Or.inr (by omega))) with h0 | h0 | h0
  · have h1s : 1 ≤ s.size := by omega
    have HZ := hide (show URel s (.string (s.extract 0 (s.size - 1))) from ⟨_, rfl, by rw [ext_size s (s.size - 1) (by omega)]; omega, by rw [ext_size s (s.size - 1) (by omega)], by rw [ext_size s (s.size - 1) (by omega), w0_cut h0]⟩)
    have ho2 : ((s.size : Int) % 2 != 0) = true := by rw [bne_iff_ne]; omega
    have hbq : (bt s (s.size - 1) == 0) = true := by rw [h0.2]; rfl
    clear h0
    have HL : Live w [] := trivial
    go_enter Tryz.func56, Tryz.ntmps56
    go_wp2
    go_loopw [0] (fun sv wr => URel s sv ∧ Below w.heap.size w wr) (fun sv _ => strLen sv)
    case atStart => exact ⟨HZ.out, by (exact bl)⟩
    case round =>
      obtain ⟨⟨t, rfl, h1, h2, h3⟩, hbr⟩ := hrel
      have H2 := hide h2
      have H3 := hide h3
      clear h2 h3
      have hszr := hbr.size
      have HL : Live wr [] := trivial
      have FR := hide (fun W => from_e t (by omega) W)
      rcases (show t.size % 2 = 1 ∨ t.size = 0 ∨ ∃ m, t.size = m + 2 ∧ m % 2 = 0 by rcases (show t.size % 2 = 1 ∨ t.size = 0 ∨ 2 ≤ t.size by omega) with h | h | h; exact Or.inl h; exact Or.inr (Or.inl h); exact (if h2 : t.size % 2 = 1 then Or.inl h2 else Or.inr (Or.inr ⟨t.size - 2, by omega, by omega⟩))) with h0 | h0 | ⟨m, hm, hev⟩
      · have hq : ((t.size : Int) % 2 == 0) = false := by rw [beq_eq_false_iff_ne]; omega
        have WE := hide (wt_odd (s := s) h0)
        clear h0
        go_wp2_with (go_at_call 111; refine (FR.out _).mono ?_; rintro e w3 ⟨rfl, hb3⟩)
        go_ret2
        exact fromP.mk (uend h1 H2.out H3.out WE.out) rfl (hbr.trans (hb3.mono hszr))
      · have hq : ((t.size : Int) % 2 == 0) = true := by rw [beq_iff_eq]; omega
        have SF := hide (fun W => suf_any t false (by omega) (suf_no t (by omega)) W)
        have WE := hide (show wtrimK s t.size = t.size by rw [h0]; rfl)
        clear h0
        go_wp2_with (first | (go_at_call 101; refine (SF.out _).mono ?_; rintro e w3 ⟨rfl, rfl⟩) | (go_at_call 111; refine (FR.out _).mono ?_; rintro e w3 ⟨rfl, hb3⟩))
        go_ret2
        exact fromP.mk (uend h1 H2.out H3.out WE.out) rfl (hbr.trans (hb3.mono hszr))
      · have hq : ((t.size : Int) % 2 == 0) = true := by rw [beq_iff_eq]; omega
        by_cases hh : bt t m = 0 ∧ bt t (m + 1) = 32
        · have SF := hide (fun W => suf_any t true (by omega) (by rw [suf_two t m hm, decide_eq_true hh]) W)
          have UG := hide (ugo h1 H2.out H3.out m hm hev hh)
          have hz2 : (2 : Int) ≤ (t.size : Int) := by omega
          have em : t.size - 2 = m := by omega
          clear hh
          go_wp2_with (go_at_call 101; refine (SF.out _).mono ?_; rintro e w3 ⟨rfl, rfl⟩)
          go_roundw
          case rel => exact ⟨by have := UG.out; simpa [em] using this, hbr⟩
          case measure => simp [strLen]; omega
        · have SF := hide (fun W => suf_any t false (by omega) (by rw [suf_two t m hm, decide_eq_false hh]) W)
          have WE := hide (show wtrimK s t.size = t.size by
            rw [hm]
            refine wt_no (fun h => hh ?_)
            rw [bt_ext h1 H2.out m (by omega), bt_ext h1 H2.out (m + 1) (by omega)]
            exact h.2)
          clear hh hm
          go_wp2_with (first | (go_at_call 101; refine (SF.out _).mono ?_; rintro e w3 ⟨rfl, rfl⟩) | (go_at_call 111; refine (FR.out _).mono ?_; rintro e w3 ⟨rfl, hb3⟩))
          go_ret2
          exact fromP.mk (uend h1 H2.out H3.out WE.out) rfl (hbr.trans (hb3.mono hszr))
  · have h1s : 1 ≤ s.size := by omega
    have HZ := hide (show URel s (.string s) from ⟨s, rfl, by omega, (Lib.Pa.extract_all s).symm, by rw [w0_all (fun h => h0.2 h.2)]⟩)
    have ho2 : ((s.size : Int) % 2 != 0) = true := by rw [bne_iff_ne]; omega
    have hbq : (bt s (s.size - 1) == 0) = false := by rw [beq_eq_false_iff_ne]; exact h0.2
    clear h0
    have HL : Live w [] := trivial
    go_enter Tryz.func56, Tryz.ntmps56
    go_wp2
    go_loopw [0] (fun sv wr => URel s sv ∧ Below w.heap.size w wr) (fun sv _ => strLen sv)
    case atStart => exact ⟨HZ.out, by (exact bl)⟩
    case round =>
      obtain ⟨⟨t, rfl, h1, h2, h3⟩, hbr⟩ := hrel
      have H2 := hide h2
      have H3 := hide h3
      clear h2 h3
      have hszr := hbr.size
      have HL : Live wr [] := trivial
      have FR := hide (fun W => from_e t (by omega) W)
      rcases (show t.size % 2 = 1 ∨ t.size = 0 ∨ ∃ m, t.size = m + 2 ∧ m % 2 = 0 by rcases (show t.size % 2 = 1 ∨ t.size = 0 ∨ 2 ≤ t.size by omega) with h | h | h; exact Or.inl h; exact Or.inr (Or.inl h); exact (if h2 : t.size % 2 = 1 then Or.inl h2 else Or.inr (Or.inr ⟨t.size - 2, by omega, by omega⟩))) with h0 | h0 | ⟨m, hm, hev⟩
      · have hq : ((t.size : Int) % 2 == 0) = false := by rw [beq_eq_false_iff_ne]; omega
        have WE := hide (wt_odd (s := s) h0)
        clear h0
        go_wp2_with (go_at_call 111; refine (FR.out _).mono ?_; rintro e w3 ⟨rfl, hb3⟩)
        go_ret2
        exact fromP.mk (uend h1 H2.out H3.out WE.out) rfl (hbr.trans (hb3.mono hszr))
      · have hq : ((t.size : Int) % 2 == 0) = true := by rw [beq_iff_eq]; omega
        have SF := hide (fun W => suf_any t false (by omega) (suf_no t (by omega)) W)
        have WE := hide (show wtrimK s t.size = t.size by rw [h0]; rfl)
        clear h0
        go_wp2_with (first | (go_at_call 101; refine (SF.out _).mono ?_; rintro e w3 ⟨rfl, rfl⟩) | (go_at_call 111; refine (FR.out _).mono ?_; rintro e w3 ⟨rfl, hb3⟩))
        go_ret2
        exact fromP.mk (uend h1 H2.out H3.out WE.out) rfl (hbr.trans (hb3.mono hszr))
      · have hq : ((t.size : Int) % 2 == 0) = true := by rw [beq_iff_eq]; omega
        by_cases hh : bt t m = 0 ∧ bt t (m + 1) = 32
        · have SF := hide (fun W => suf_any t true (by omega) (by rw [suf_two t m hm, decide_eq_true hh]) W)
          have UG := hide (ugo h1 H2.out H3.out m hm hev hh)
          have hz2 : (2 : Int) ≤ (t.size : Int) := by omega
          have em : t.size - 2 = m := by omega
          clear hh
          go_wp2_with (go_at_call 101; refine (SF.out _).mono ?_; rintro e w3 ⟨rfl, rfl⟩)
          go_roundw
          case rel => exact ⟨by have := UG.out; simpa [em] using this, hbr⟩
          case measure => simp [strLen]; omega
        · have SF := hide (fun W => suf_any t false (by omega) (by rw [suf_two t m hm, decide_eq_false hh]) W)
          have WE := hide (show wtrimK s t.size = t.size by
            rw [hm]
            refine wt_no (fun h => hh ?_)
            rw [bt_ext h1 H2.out m (by omega), bt_ext h1 H2.out (m + 1) (by omega)]
            exact h.2)
          clear hh hm
          go_wp2_with (first | (go_at_call 101; refine (SF.out _).mono ?_; rintro e w3 ⟨rfl, rfl⟩) | (go_at_call 111; refine (FR.out _).mono ?_; rintro e w3 ⟨rfl, hb3⟩))
          go_ret2
          exact fromP.mk (uend h1 H2.out H3.out WE.out) rfl (hbr.trans (hb3.mono hszr))
  · have HZ := hide (show URel s (.string s) from ⟨s, rfl, by omega, (Lib.Pa.extract_all s).symm, by rw [w0_all (fun h => by omega)]⟩)
    have ho2 : ((s.size : Int) % 2 != 0) = false := by rw [bne_eq_false_iff_eq]; omega
    clear h0
    have HL : Live w [] := trivial
    go_enter Tryz.func56, Tryz.ntmps56
    go_wp2
    go_loopw [0] (fun sv wr => URel s sv ∧ Below w.heap.size w wr) (fun sv _ => strLen sv)
    case atStart => exact ⟨HZ.out, by (exact bl)⟩
    case round =>
      obtain ⟨⟨t, rfl, h1, h2, h3⟩, hbr⟩ := hrel
      have H2 := hide h2
      have H3 := hide h3
      clear h2 h3
      have hszr := hbr.size
      have HL : Live wr [] := trivial
      have FR := hide (fun W => from_e t (by omega) W)
      rcases (show t.size % 2 = 1 ∨ t.size = 0 ∨ ∃ m, t.size = m + 2 ∧ m % 2 = 0 by rcases (show t.size % 2 = 1 ∨ t.size = 0 ∨ 2 ≤ t.size by omega) with h | h | h; exact Or.inl h; exact Or.inr (Or.inl h); exact (if h2 : t.size % 2 = 1 then Or.inl h2 else Or.inr (Or.inr ⟨t.size - 2, by omega, by omega⟩))) with h0 | h0 | ⟨m, hm, hev⟩
      · have hq : ((t.size : Int) % 2 == 0) = false := by rw [beq_eq_false_iff_ne]; omega
        have WE := hide (wt_odd (s := s) h0)
        clear h0
        go_wp2_with (go_at_call 111; refine (FR.out _).mono ?_; rintro e w3 ⟨rfl, hb3⟩)
        go_ret2
        exact fromP.mk (uend h1 H2.out H3.out WE.out) rfl (hbr.trans (hb3.mono hszr))
      · have hq : ((t.size : Int) % 2 == 0) = true := by rw [beq_iff_eq]; omega
        have SF := hide (fun W => suf_any t false (by omega) (suf_no t (by omega)) W)
        have WE := hide (show wtrimK s t.size = t.size by rw [h0]; rfl)
        clear h0
        go_wp2_with (first | (go_at_call 101; refine (SF.out _).mono ?_; rintro e w3 ⟨rfl, rfl⟩) | (go_at_call 111; refine (FR.out _).mono ?_; rintro e w3 ⟨rfl, hb3⟩))
        go_ret2
        exact fromP.mk (uend h1 H2.out H3.out WE.out) rfl (hbr.trans (hb3.mono hszr))
      · have hq : ((t.size : Int) % 2 == 0) = true := by rw [beq_iff_eq]; omega
        by_cases hh : bt t m = 0 ∧ bt t (m + 1) = 32
        · have SF := hide (fun W => suf_any t true (by omega) (by rw [suf_two t m hm, decide_eq_true hh]) W)
          have UG := hide (ugo h1 H2.out H3.out m hm hev hh)
          have hz2 : (2 : Int) ≤ (t.size : Int) := by omega
          have em : t.size - 2 = m := by omega
          clear hh
          go_wp2_with (go_at_call 101; refine (SF.out _).mono ?_; rintro e w3 ⟨rfl, rfl⟩)
          go_roundw
          case rel => exact ⟨by have := UG.out; simpa [em] using this, hbr⟩
          case measure => simp [strLen]; omega
        · have SF := hide (fun W => suf_any t false (by omega) (by rw [suf_two t m hm, decide_eq_false hh]) W)
          have WE := hide (show wtrimK s t.size = t.size by
            rw [hm]
            refine wt_no (fun h => hh ?_)
            rw [bt_ext h1 H2.out m (by omega), bt_ext h1 H2.out (m + 1) (by omega)]
            exact h.2)
          clear hh hm
          go_wp2_with (first | (go_at_call 101; refine (SF.out _).mono ?_; rintro e w3 ⟨rfl, rfl⟩) | (go_at_call 111; refine (FR.out _).mono ?_; rintro e w3 ⟨rfl, hb3⟩))
          go_ret2
          exact fromP.mk (uend h1 H2.out H3.out WE.out) rfl (hbr.trans (hb3.mono hszr))
end Go.Proofs.YtjbhokmkmapkoaaGreatDoor
