/- Contracts and plain words for the laws of volume descriptors, part 13: G5, G6, J2. No condition. -/
import Derived.Test.YtjbhokmkmapkoaaGreatDoorC12
namespace Go.Proofs.YtjbhokmkmapkoaaGreatDoor
set_option linter.unusedSimpArgs false
set_option linter.unusedVariables false
open Go.RowKit
open Go.PlainAid (bt get_bt bt_nonneg bt_le bt_end)
/-- A row of known length, or an error. -/
def LenP (n : Nat) (w : World) (e : Ending) (w' : World) : Prop := ∃ sa scap, e = .returned (.tuple #[.slice sa n scap, .int .i64 0]) ∧ Below w.heap.size w w'
theorem LenP.of {s : ByteArray} {cs : List Int} (h : charL s = some cs) {w : World} {e : Ending} {w' : World} (hp : CharsP (charL s) w e w') : LenP cs.length w e w' := by
  unfold CharsP at hp
  rw [h] at hp
  obtain ⟨⟨v, he, ho⟩, hb⟩ := hp
  rcases ho.2 with ⟨h1, h2⟩ | ⟨g, cap, cur, hv, _⟩
  · rw [h2]
    exact ⟨none, 0, he.trans (by rw [h1]), hb⟩
  · exact ⟨_, _, he.trans (by rw [hv]), hb⟩
theorem charsYes (s : ByteArray) (n : Nat) (cs : List Int) (hs : s.size ≤ 65536) (h : charL s = some cs) (hn : cs.length = n) (w : World) (hT : TabU w) : Calls Tryz.prog 102 #[.string s] w (LenP n w) := by
  subst hn
  exact (chars_any s hs w hT).mono fun _ _ hp => LenP.of h hp
theorem charsNo (s : ByteArray) (hs : s.size ≤ 65536) (h : charL s = none) (w : World) (hT : TabU w) : Calls Tryz.prog 102 #[.string s] w fun e w' => e = .returned (.tuple #[.slice none 0 0, .int .i64 3]) ∧ Below w.heap.size w w' := by
  refine (chars_any s hs w hT).mono fun _ _ hp => ?_
  unfold CharsP at hp
  rw [h] at hp
  exact hp
theorem wideB_some {s : ByteArray} {cs : List Int} {n k : Nat} (h : charL s = some cs) (hk : cs.length = k) : wideB s n = decide (2 * k ≤ n) := by unfold wideB; rw [h]; subst hk; rfl
theorem wideB_none {s : ByteArray} {n : Nat} (h : charL s = none) : wideB s n = false := by unfold wideB; rw [h]
end Go.Proofs.YtjbhokmkmapkoaaGreatDoor
namespace Go.Proofs.YtjbhokmkmapkoaaGreatDoor
set_option linter.unusedSimpArgs false
set_option linter.unusedVariables false
open Go.RowKit
open Go.PlainAid (bt get_bt bt_nonneg bt_le bt_end)
theorem suf_one (s : ByteArray) : Lib.hasSuffix s.data.toList [32] = endB s := by
  have hl : s.data.toList.length = s.size := Array.length_toList
  unfold Lib.hasSuffix endB
  rw [Bool.eq_iff_iff, List.isSuffixOf_iff_suffix, decide_eq_true_eq]
  constructor
  · rintro ⟨l, e⟩
    have e2 := congrArg List.length e
    simp at e2
    refine ⟨by omega, ?_⟩
    rw [lst s, ← e]
    rw [bt_at l [] 32 _ (by show (ByteArray.mk (l ++ [32]).toArray).size - 1 = _; show (l ++ [32]).toArray.size - 1 = _; simp)]
    rfl
  · rintro ⟨h1, h2⟩
    have hlt : s.size - 1 < s.data.toList.length := by omega
    have e : s.data.toList = s.data.toList.take (s.size - 1) ++ [s.data.toList[s.size - 1]] := by
      conv => lhs; rw [← List.take_append_drop (s.size - 1) s.data.toList]
      rw [List.drop_eq_getElem_cons hlt, List.drop_of_length_le (by omega)]
    have g := bt_of (List.getElem?_eq_getElem hlt)
    rw [← lst s, h2] at g
    have g2 : s.data.toList[s.size - 1] = 32 := by
      apply UInt8.toNat_inj.1
      have : (s.data.toList[s.size - 1].toNat : Int) = ((32 : UInt8).toNat : Int) := by rw [← g]; rfl
      omega
    rw [g2] at e
    exact ⟨_, e.symm⟩
theorem sufB (t : ByteArray) (b : Bool) (hs : t.size ≤ 65536) (hb : endB t = b) (w : World) : Calls Tryz.prog 101 #[.string t, .string ⟨#[32]⟩] w fun e w' => e = .returned (.bool b) ∧ w = w' := by
  refine (Any.strings_HasSuffix Tryz.lays100 t ⟨#[32]⟩ w (by omega)).mono ?_
  rintro e w' ⟨rfl, rfl⟩
  exact ⟨by rw [← hb, ← suf_one t], rfl⟩
set_option maxHeartbeats 2000000 in
theorem allowed_end (s : ByteArray) (hs : s.size ≤ 65536) (a : Int) (n : Nat) (wide strict : Bool) (h : endB s = true) (w : World) : Calls Tryz.prog 48 #[.string s, .agg #[.int .i64 a, .int .i64 n, .bool strict], .bool wide] w fun e w' => e = .returned (.bool (okB s n strict wide)) ∧ Below w.heap.size w w' := by
  have E := hide (ok_end (n := n) (a := strict) (b := wide) h)
  have SB := hide (fun W => sufB s true hs h W)
  clear h
  have HL : Live w [] := trivial
  go_enter Tryz.func48, Tryz.ntmps48
  go_wp2_with (first | (go_at_call 101; (with_reducible refine (SB.out _).mono ?_); rintro e w' ⟨rfl, rfl⟩))
  go_ret
  exact ⟨ret_b E.out.symm, by (repeat' (first | (with_reducible exact Below.refl _ _) | (with_reducible refine Below.alloc ?_ ?_ _) | (with_reducible refine Below.setCell ?_ ?_ _) | (with_reducible refine Below.drew ?_) | (with_reducible refine below_drewN' ?_) | (with_reducible refine below_bytesW ?_ ?_) | (with_reducible refine Below.trans ?_ (Below.mono (by assumption) ?_)) | omega | (simp only [World.size_alloc, World.size_setCell, World.size_drew]; omega) | (simp [size_bytesW]; omega) | (simp; omega)))⟩
set_option maxHeartbeats 4000000 in
theorem allowed_d (s : ByteArray) (hs : s.size ≤ 65536) (a : Int) (n : Nat) (strict : Bool) (h : endB s = false) (w : World) : Calls Tryz.prog 48 #[.string s, .agg #[.int .i64 a, .int .i64 n, .bool strict], .bool false] w fun e w' => e = .returned (.bool (okB s n strict false)) ∧ Below w.heap.size w w' := by
  have DC := hide (fun W => dchars_any s hs W)
  have AC := hide (fun W => achars_any s hs W)
  have E1 := hide (ok_d (n := n) h)
  have E2 := hide (ok_a (n := n) h)
  have SB := hide (fun W => sufB s false hs h W)
  clear h
  by_cases hle : s.size ≤ n
  case pos =>
    cases strict
    case true =>
      have HL : Live w [] := trivial
      go_enter Tryz.func48, Tryz.ntmps48
      go_wp2_with (first | (go_at_call 101; (with_reducible refine (SB.out _).mono ?_); rintro e w' ⟨rfl, rfl⟩) | (go_at_call 103; (with_reducible refine (DC.out _).mono ?_); rintro e w' ⟨rfl, hb⟩; have hz := hb.size; (try simp only [World.size_alloc, World.size_setCell, World.size_drew, Nat.add_assoc, Nat.reduceAdd] at hz); (first | obtain ⟨HL, hk⟩ := HL.call hb hz (by simp only [World.size_alloc, World.size_setCell, World.size_drew, Nat.add_assoc, Nat.reduceAdd]) | obtain ⟨HL, hk⟩ := HL.call0 hb hz (by first | rfl | simp only [World.size_alloc, World.size_setCell, World.size_drew, Nat.add_assoc, Nat.reduceAdd])); (try simp only [addN, Nat.add_zero] at HL hk); have hl := HL; simp only [Live] at hl; (try simp only [Kept] at hk)) | (go_at_call 104; (with_reducible refine (AC.out _).mono ?_); rintro e w' ⟨rfl, hb⟩; have hz := hb.size; (try simp only [World.size_alloc, World.size_setCell, World.size_drew, Nat.add_assoc, Nat.reduceAdd] at hz); (first | obtain ⟨HL, hk⟩ := HL.call hb hz (by simp only [World.size_alloc, World.size_setCell, World.size_drew, Nat.add_assoc, Nat.reduceAdd]) | obtain ⟨HL, hk⟩ := HL.call0 hb hz (by first | rfl | simp only [World.size_alloc, World.size_setCell, World.size_drew, Nat.add_assoc, Nat.reduceAdd])); (try simp only [addN, Nat.add_zero] at HL hk); have hl := HL; simp only [Live] at hl; (try simp only [Kept] at hk)))
      go_ret
      exact ⟨ret_b (by rw [E1.out, decide_eq_true hle]; rfl), by (repeat' (first | (with_reducible exact Below.refl _ _) | (with_reducible refine Below.alloc ?_ ?_ _) | (with_reducible refine Below.setCell ?_ ?_ _) | (with_reducible refine Below.drew ?_) | (with_reducible refine below_drewN' ?_) | (with_reducible refine below_bytesW ?_ ?_) | (with_reducible refine Below.trans ?_ (Below.mono (by assumption) ?_)) | omega | (simp only [World.size_alloc, World.size_setCell, World.size_drew]; omega) | (simp [size_bytesW]; omega) | (simp; omega)))⟩
    case false =>
      have HL : Live w [] := trivial
      go_enter Tryz.func48, Tryz.ntmps48
      go_wp2_with (first | (go_at_call 101; (with_reducible refine (SB.out _).mono ?_); rintro e w' ⟨rfl, rfl⟩) | (go_at_call 103; (with_reducible refine (DC.out _).mono ?_); rintro e w' ⟨rfl, hb⟩; have hz := hb.size; (try simp only [World.size_alloc, World.size_setCell, World.size_drew, Nat.add_assoc, Nat.reduceAdd] at hz); (first | obtain ⟨HL, hk⟩ := HL.call hb hz (by simp only [World.size_alloc, World.size_setCell, World.size_drew, Nat.add_assoc, Nat.reduceAdd]) | obtain ⟨HL, hk⟩ := HL.call0 hb hz (by first | rfl | simp only [World.size_alloc, World.size_setCell, World.size_drew, Nat.add_assoc, Nat.reduceAdd])); (try simp only [addN, Nat.add_zero] at HL hk); have hl := HL; simp only [Live] at hl; (try simp only [Kept] at hk)) | (go_at_call 104; (with_reducible refine (AC.out _).mono ?_); rintro e w' ⟨rfl, hb⟩; have hz := hb.size; (try simp only [World.size_alloc, World.size_setCell, World.size_drew, Nat.add_assoc, Nat.reduceAdd] at hz); (first | obtain ⟨HL, hk⟩ := HL.call hb hz (by simp only [World.size_alloc, World.size_setCell, World.size_drew, Nat.add_assoc, Nat.reduceAdd]) | obtain ⟨HL, hk⟩ := HL.call0 hb hz (by first | rfl | simp only [World.size_alloc, World.size_setCell, World.size_drew, Nat.add_assoc, Nat.reduceAdd])); (try simp only [addN, Nat.add_zero] at HL hk); have hl := HL; simp only [Live] at hl; (try simp only [Kept] at hk)))
      go_ret
      exact ⟨ret_b (by rw [E2.out, decide_eq_true hle]; rfl), by (repeat' (first | (with_reducible exact Below.refl _ _) | (with_reducible refine Below.alloc ?_ ?_ _) | (with_reducible refine Below.setCell ?_ ?_ _) | (with_reducible refine Below.drew ?_) | (with_reducible refine below_drewN' ?_) | (with_reducible refine below_bytesW ?_ ?_) | (with_reducible refine Below.trans ?_ (Below.mono (by assumption) ?_)) | omega | (simp only [World.size_alloc, World.size_setCell, World.size_drew]; omega) | (simp [size_bytesW]; omega) | (simp; omega)))⟩
  case neg =>
    cases strict
    case true =>
      have HL : Live w [] := trivial
      go_enter Tryz.func48, Tryz.ntmps48
      go_wp2_with (first | (go_at_call 101; (with_reducible refine (SB.out _).mono ?_); rintro e w' ⟨rfl, rfl⟩) | (go_at_call 103; (with_reducible refine (DC.out _).mono ?_); rintro e w' ⟨rfl, hb⟩; have hz := hb.size; (try simp only [World.size_alloc, World.size_setCell, World.size_drew, Nat.add_assoc, Nat.reduceAdd] at hz); (first | obtain ⟨HL, hk⟩ := HL.call hb hz (by simp only [World.size_alloc, World.size_setCell, World.size_drew, Nat.add_assoc, Nat.reduceAdd]) | obtain ⟨HL, hk⟩ := HL.call0 hb hz (by first | rfl | simp only [World.size_alloc, World.size_setCell, World.size_drew, Nat.add_assoc, Nat.reduceAdd])); (try simp only [addN, Nat.add_zero] at HL hk); have hl := HL; simp only [Live] at hl; (try simp only [Kept] at hk)) | (go_at_call 104; (with_reducible refine (AC.out _).mono ?_); rintro e w' ⟨rfl, hb⟩; have hz := hb.size; (try simp only [World.size_alloc, World.size_setCell, World.size_drew, Nat.add_assoc, Nat.reduceAdd] at hz); (first | obtain ⟨HL, hk⟩ := HL.call hb hz (by simp only [World.size_alloc, World.size_setCell, World.size_drew, Nat.add_assoc, Nat.reduceAdd]) | obtain ⟨HL, hk⟩ := HL.call0 hb hz (by first | rfl | simp only [World.size_alloc, World.size_setCell, World.size_drew, Nat.add_assoc, Nat.reduceAdd])); (try simp only [addN, Nat.add_zero] at HL hk); have hl := HL; simp only [Live] at hl; (try simp only [Kept] at hk)))
      go_ret
      exact ⟨ret_b (by rw [E1.out, decide_eq_false hle]; rfl), by (repeat' (first | (with_reducible exact Below.refl _ _) | (with_reducible refine Below.alloc ?_ ?_ _) | (with_reducible refine Below.setCell ?_ ?_ _) | (with_reducible refine Below.drew ?_) | (with_reducible refine below_drewN' ?_) | (with_reducible refine below_bytesW ?_ ?_) | (with_reducible refine Below.trans ?_ (Below.mono (by assumption) ?_)) | omega | (simp only [World.size_alloc, World.size_setCell, World.size_drew]; omega) | (simp [size_bytesW]; omega) | (simp; omega)))⟩
    case false =>
      have HL : Live w [] := trivial
      go_enter Tryz.func48, Tryz.ntmps48
      go_wp2_with (first | (go_at_call 101; (with_reducible refine (SB.out _).mono ?_); rintro e w' ⟨rfl, rfl⟩) | (go_at_call 103; (with_reducible refine (DC.out _).mono ?_); rintro e w' ⟨rfl, hb⟩; have hz := hb.size; (try simp only [World.size_alloc, World.size_setCell, World.size_drew, Nat.add_assoc, Nat.reduceAdd] at hz); (first | obtain ⟨HL, hk⟩ := HL.call hb hz (by simp only [World.size_alloc, World.size_setCell, World.size_drew, Nat.add_assoc, Nat.reduceAdd]) | obtain ⟨HL, hk⟩ := HL.call0 hb hz (by first | rfl | simp only [World.size_alloc, World.size_setCell, World.size_drew, Nat.add_assoc, Nat.reduceAdd])); (try simp only [addN, Nat.add_zero] at HL hk); have hl := HL; simp only [Live] at hl; (try simp only [Kept] at hk)) | (go_at_call 104; (with_reducible refine (AC.out _).mono ?_); rintro e w' ⟨rfl, hb⟩; have hz := hb.size; (try simp only [World.size_alloc, World.size_setCell, World.size_drew, Nat.add_assoc, Nat.reduceAdd] at hz); (first | obtain ⟨HL, hk⟩ := HL.call hb hz (by simp only [World.size_alloc, World.size_setCell, World.size_drew, Nat.add_assoc, Nat.reduceAdd]) | obtain ⟨HL, hk⟩ := HL.call0 hb hz (by first | rfl | simp only [World.size_alloc, World.size_setCell, World.size_drew, Nat.add_assoc, Nat.reduceAdd])); (try simp only [addN, Nat.add_zero] at HL hk); have hl := HL; simp only [Live] at hl; (try simp only [Kept] at hk)))
      go_ret
      exact ⟨ret_b (by rw [E2.out, decide_eq_false hle]; rfl), by (repeat' (first | (with_reducible exact Below.refl _ _) | (with_reducible refine Below.alloc ?_ ?_ _) | (with_reducible refine Below.setCell ?_ ?_ _) | (with_reducible refine Below.drew ?_) | (with_reducible refine below_drewN' ?_) | (with_reducible refine below_bytesW ?_ ?_) | (with_reducible refine Below.trans ?_ (Below.mono (by assumption) ?_)) | omega | (simp only [World.size_alloc, World.size_setCell, World.size_drew]; omega) | (simp [size_bytesW]; omega) | (simp; omega)))⟩
set_option maxHeartbeats 4000000 in
theorem allowed_w (s : ByteArray) (hs : s.size ≤ 65536) (a : Int) (n m : Nat) (hn : n = 2 * m) (hm : m ≤ 500) (strict : Bool) (h : endB s = false) (w : World) (hT : TabU w) : Calls Tryz.prog 48 #[.string s, .agg #[.int .i64 a, .int .i64 n, .bool strict], .bool true] w fun e w' => e = .returned (.bool (okB s n strict true)) ∧ Below w.heap.size w w' := by
  have E1 := hide (ok_w (n := n) (a := strict) h)
  have SB := hide (fun W => sufB s false hs h W)
  have q2 : (n : Int) / 2 = (m : Int) := by omega
  have n0 : (0 : Int) ≤ (n : Int) := by omega
  have HN := hide hn
  have hT2 : ∀ o, TabU (w.alloc o) := fun o => hT.below ((Below.refl _ _).alloc (Nat.le_refl _) _)
  have hTa := hT2 (.cells #[.int .i64 a, .int .i64 n, .bool strict] 63)
  clear h hn hT2
  cases hc : charL s with
  | none =>
    have CN := hide (fun W hW => charsNo s hs hc W hW)
    have E2 := hide (wideB_none (n := n) hc)
    clear hc
    have HL : Live w [] := trivial
    go_enter Tryz.func48, Tryz.ntmps48
    go_wp2_with (first | (go_at_call 101; (with_reducible refine (SB.out _).mono ?_); rintro e w' ⟨rfl, rfl⟩) | (go_at_call 102; (with_reducible refine (CN.out _ (by assumption)).mono ?_); rintro e w' ⟨rfl, hb⟩; have hz := hb.size; (try simp only [World.size_alloc, World.size_setCell, World.size_drew, Nat.add_assoc, Nat.reduceAdd] at hz); (first | obtain ⟨HL, hk⟩ := HL.call hb hz (by simp only [World.size_alloc, World.size_setCell, World.size_drew, Nat.add_assoc, Nat.reduceAdd]) | obtain ⟨HL, hk⟩ := HL.call0 hb hz (by first | rfl | simp only [World.size_alloc, World.size_setCell, World.size_drew, Nat.add_assoc, Nat.reduceAdd])); (try simp only [addN, Nat.add_zero] at HL hk); have hl := HL; simp only [Live] at hl; (try simp only [Kept] at hk)))
    go_ret
    exact ⟨ret_b (by rw [E1.out, E2.out]), by (repeat' (first | (with_reducible exact Below.refl _ _) | (with_reducible refine Below.alloc ?_ ?_ _) | (with_reducible refine Below.setCell ?_ ?_ _) | (with_reducible refine Below.drew ?_) | (with_reducible refine below_drewN' ?_) | (with_reducible refine below_bytesW ?_ ?_) | (with_reducible refine Below.trans ?_ (Below.mono (by assumption) ?_)) | omega | (simp only [World.size_alloc, World.size_setCell, World.size_drew]; omega) | (simp [size_bytesW]; omega) | (simp; omega)))⟩
  | some cs =>
    obtain ⟨k, hk⟩ : ∃ k, cs.length = k := ⟨_, rfl⟩
    have CY := hide (fun W hW => charsYes s k cs hs hc hk W hW)
    have E2 := hide (wideB_some (n := n) hc hk)
    have k1 : k ≤ s.size := by rw [← hk]; exact (charL_text s.size s cs (Nat.le_refl _) hc).2.2
    clear hc hk
    have HL : Live w [] := trivial
    go_enter Tryz.func48, Tryz.ntmps48
    go_wp2_with (first | (go_at_call 101; (with_reducible refine (SB.out _).mono ?_); rintro e w' ⟨rfl, rfl⟩) | (go_at_call 102; (with_reducible refine (CY.out _ (by assumption)).mono ?_); rintro e w' ⟨sa, scap, rfl, hb⟩; have hz := hb.size; (try simp only [World.size_alloc, World.size_setCell, World.size_drew, Nat.add_assoc, Nat.reduceAdd] at hz); (first | obtain ⟨HL, hk⟩ := HL.call hb hz (by simp only [World.size_alloc, World.size_setCell, World.size_drew, Nat.add_assoc, Nat.reduceAdd]) | obtain ⟨HL, hk⟩ := HL.call0 hb hz (by first | rfl | simp only [World.size_alloc, World.size_setCell, World.size_drew, Nat.add_assoc, Nat.reduceAdd])); (try simp only [addN, Nat.add_zero] at HL hk); have hl := HL; simp only [Live] at hl; (try simp only [Kept] at hk)))
    go_ret
    exact ⟨ret_b (by rw [E1.out, E2.out, HN.out]; simp <;> omega), by (repeat' (first | (with_reducible exact Below.refl _ _) | (with_reducible refine Below.alloc ?_ ?_ _) | (with_reducible refine Below.setCell ?_ ?_ _) | (with_reducible refine Below.drew ?_) | (with_reducible refine below_drewN' ?_) | (with_reducible refine below_bytesW ?_ ?_) | (with_reducible refine Below.trans ?_ (Below.mono (by assumption) ?_)) | omega | (simp only [World.size_alloc, World.size_setCell, World.size_drew]; omega) | (simp [size_bytesW]; omega) | (simp; omega)))⟩
theorem allowed_any (s : ByteArray) (a : Int) (n m : Nat) (hs : s.size ≤ 65536) (wide strict : Bool) (hn : n = 2 * m) (hm : m ≤ 500) (w : World) (hT : TabU w) : Calls Tryz.prog 48 #[.string s, .agg #[.int .i64 a, .int .i64 n, .bool strict], .bool wide] w fun e w' => e = .returned (.bool (okB s n strict wide)) ∧ Below w.heap.size w w' := by
  cases h : endB s
  · cases wide
    · exact allowed_d s hs a n strict h w
    · exact allowed_w s hs a n m hn hm strict h w hT
  · exact allowed_end s hs a n wide strict h w
end Go.Proofs.YtjbhokmkmapkoaaGreatDoor
namespace Go.Proofs.YtjbhokmkmapkoaaGreatDoor
set_option linter.unusedSimpArgs false
set_option linter.unusedVariables false
open Go.RowKit
open Go.PlainAid (bt get_bt bt_nonneg bt_le bt_end)
/-- The strings of a volume with their places. -/
def fldCells (b o : Nat) : Array Value := #[.int .i64 40, .int .i64 32, .bool true, .pointer (some ⟨b, o, none⟩), .int .i64 190, .int .i64 128, .bool true, .pointer (some ⟨b, o + 1, none⟩), .int .i64 318, .int .i64 128, .bool false, .pointer (some ⟨b, o + 2, none⟩),
  .int .i64 446, .int .i64 128, .bool false, .pointer (some ⟨b, o + 3, none⟩), .int .i64 574, .int .i64 128, .bool false, .pointer (some ⟨b, o + 4, none⟩)]
def FldP (b o : Nat) (w : World) (e : Ending) (w' : World) : Prop := ∃ g, e = .returned (.slice (some ⟨g, 0, none⟩) 5 5) ∧ Blk w' g (fldCells b o) 65 ∧ Below w.heap.size w w' ∧ w.heap.size ≤ g
set_option maxRecDepth 100000 in
set_option maxHeartbeats 2000000 in
theorem fields_any (b o : Nat) (w : World) : Calls Tryz.prog 33 #[.pointer (some ⟨b, o, none⟩)] w (FldP b o w) := by
  have HL : Live w [] := trivial
  go_enter Tryz.func33, Tryz.ntmps33
  go_upto_region 1 with fail
  refine wp_region_noPanic ?_
  refine wp_region_held_drew (S := (fun x => True ∧ True)) (by kernel_rfl) (by (try dsimp only); first | with_reducible assumption | (simp [*, go_sem]; done) | (refine ⟨?_, ?_⟩ <;> simp [*, go_sem])) (fun hHeld => ?_)
  refine wpAnyH_take (i := 0) (oi := { dst := some 3, op := Go.Op.build 63 #[(0, Go.Operand.const (Go.Value.int Go.IntKind.i64 40)), (1, Go.Operand.const (Go.Value.int Go.IntKind.i64 32)), (2, Go.Operand.const (Go.Value.bool true))], type := 63, pos := "volumedesc.go:31", after := #[], guard := none }) (v := ?_) rfl (by kernel_rfl) (by kernel_rfl) (by kernel_rfl) (fun _ _ _ h => h) (Or.inl ⟨by rfl, ?_⟩) (by assumption) ?_
  rotate_left
  · intro w hSw; (try dsimp only at hSw); go_simp; (try with_reducible rfl)
  try simp only [Act.put, List.setIfInBounds_toArray, List.set_cons_zero, List.set_cons_succ]
  refine wpAnyH_take (i := 1) (oi := { dst := some 4, op := Go.Op.move (Go.Operand.tmp 0), type := 61, pos := "volumedesc.go:31", after := #[], guard := none }) (v := ?_) rfl (by kernel_rfl) (by kernel_rfl) (by kernel_rfl) (fun _ _ _ h => h) (Or.inl ⟨by rfl, ?_⟩) (by assumption) ?_
  rotate_left
  · intro w hSw; (try dsimp only at hSw); go_simp; (try with_reducible rfl)
  try simp only [Act.put, List.setIfInBounds_toArray, List.set_cons_zero, List.set_cons_succ]
  refine wpAnyH_take (i := 2) (oi := { dst := some 5, op := Go.Op.nilCheck (Go.Operand.tmp 4), type := 0, pos := "volumedesc.go:31", after := #[{ on := 1, ground := Go.Ground.data }], guard := none }) (v := ?_) rfl (by kernel_rfl) (by kernel_rfl) (by kernel_rfl) (fun _ _ _ h => h) (Or.inl ⟨by rfl, ?_⟩) (by assumption) ?_
  rotate_left
  · intro w hSw; (try dsimp only at hSw); go_simp; (try with_reducible rfl)
  try simp only [Act.put, List.setIfInBounds_toArray, List.set_cons_zero, List.set_cons_succ]
  refine wpAnyH_take (i := 3) (oi := { dst := some 6, op := Go.Op.fieldAddr 23 (Go.Operand.tmp 5) 0, type := 0, pos := "volumedesc.go:31", after := #[{ on := 2, ground := Go.Ground.data }], guard := none }) (v := ?_) rfl (by kernel_rfl) (by kernel_rfl) (by kernel_rfl) (fun _ _ _ h => h) (Or.inl ⟨by rfl, ?_⟩) (by assumption) ?_
  rotate_left
  · intro w hSw; (try dsimp only at hSw); go_simp; (try with_reducible rfl)
  try simp only [Act.put, List.setIfInBounds_toArray, List.set_cons_zero, List.set_cons_succ]
  refine wpAnyH_take (i := 4) (oi := { dst := some 7, op := Go.Op.build 65 #[(0, Go.Operand.tmp 3), (1, Go.Operand.tmp 6)], type := 65, pos := "volumedesc.go:31", after := #[{ on := 0, ground := Go.Ground.data }, { on := 3, ground := Go.Ground.data }], guard := none }) (v := ?_) rfl (by kernel_rfl) (by kernel_rfl) (by kernel_rfl) (fun _ _ _ h => h) (Or.inl ⟨by rfl, ?_⟩) (by assumption) ?_
  rotate_left
  · intro w hSw; (try dsimp only at hSw); go_simp; (try with_reducible rfl)
  try simp only [Act.put, List.setIfInBounds_toArray, List.set_cons_zero, List.set_cons_succ]
  refine wpAnyH_take (i := 5) (oi := { dst := some 8, op := Go.Op.build 63 #[(0, Go.Operand.const (Go.Value.int Go.IntKind.i64 190)), (1, Go.Operand.const (Go.Value.int Go.IntKind.i64 128)), (2, Go.Operand.const (Go.Value.bool true))], type := 63, pos := "volumedesc.go:31", after := #[], guard := none }) (v := ?_) rfl (by kernel_rfl) (by kernel_rfl) (by kernel_rfl) (fun _ _ _ h => h) (Or.inl ⟨by rfl, ?_⟩) (by assumption) ?_
  rotate_left
  · intro w hSw; (try dsimp only at hSw); go_simp; (try with_reducible rfl)
  try simp only [Act.put, List.setIfInBounds_toArray, List.set_cons_zero, List.set_cons_succ]
  refine wpAnyH_take (i := 6) (oi := { dst := some 9, op := Go.Op.move (Go.Operand.tmp 0), type := 61, pos := "volumedesc.go:31", after := #[], guard := none }) (v := ?_) rfl (by kernel_rfl) (by kernel_rfl) (by kernel_rfl) (fun _ _ _ h => h) (Or.inl ⟨by rfl, ?_⟩) (by assumption) ?_
  rotate_left
  · intro w hSw; (try dsimp only at hSw); go_simp; (try with_reducible rfl)
  try simp only [Act.put, List.setIfInBounds_toArray, List.set_cons_zero, List.set_cons_succ]
  refine wpAnyH_take (i := 7) (oi := { dst := some 10, op := Go.Op.nilCheck (Go.Operand.tmp 9), type := 0, pos := "volumedesc.go:31", after := #[{ on := 6, ground := Go.Ground.data }], guard := none }) (v := ?_) rfl (by kernel_rfl) (by kernel_rfl) (by kernel_rfl) (fun _ _ _ h => h) (Or.inl ⟨by rfl, ?_⟩) (by assumption) ?_
  rotate_left
  · intro w hSw; (try dsimp only at hSw); go_simp; (try with_reducible rfl)
  try simp only [Act.put, List.setIfInBounds_toArray, List.set_cons_zero, List.set_cons_succ]
  refine wpAnyH_take (i := 8) (oi := { dst := some 11, op := Go.Op.fieldAddr 23 (Go.Operand.tmp 10) 1, type := 0, pos := "volumedesc.go:31", after := #[{ on := 7, ground := Go.Ground.data }], guard := none }) (v := ?_) rfl (by kernel_rfl) (by kernel_rfl) (by kernel_rfl) (fun _ _ _ h => h) (Or.inl ⟨by rfl, ?_⟩) (by assumption) ?_
  rotate_left
  · intro w hSw; (try dsimp only at hSw); go_simp; (try with_reducible rfl)
  try simp only [Act.put, List.setIfInBounds_toArray, List.set_cons_zero, List.set_cons_succ]
  refine wpAnyH_take (i := 9) (oi := { dst := some 12, op := Go.Op.build 65 #[(0, Go.Operand.tmp 8), (1, Go.Operand.tmp 11)], type := 65, pos := "volumedesc.go:31", after := #[{ on := 5, ground := Go.Ground.data }, { on := 8, ground := Go.Ground.data }], guard := none }) (v := ?_) rfl (by kernel_rfl) (by kernel_rfl) (by kernel_rfl) (fun _ _ _ h => h) (Or.inl ⟨by rfl, ?_⟩) (by assumption) ?_
  rotate_left
  · intro w hSw; (try dsimp only at hSw); go_simp; (try with_reducible rfl)
  try simp only [Act.put, List.setIfInBounds_toArray, List.set_cons_zero, List.set_cons_succ]
  refine wpAnyH_take (i := 10) (oi := { dst := some 13, op := Go.Op.build 63 #[(0, Go.Operand.const (Go.Value.int Go.IntKind.i64 318)), (1, Go.Operand.const (Go.Value.int Go.IntKind.i64 128)), (2, Go.Operand.const (Go.Value.bool false))], type := 63, pos := "volumedesc.go:31", after := #[], guard := none }) (v := ?_) rfl (by kernel_rfl) (by kernel_rfl) (by kernel_rfl) (fun _ _ _ h => h) (Or.inl ⟨by rfl, ?_⟩) (by assumption) ?_
  rotate_left
  · intro w hSw; (try dsimp only at hSw); go_simp; (try with_reducible rfl)
  try simp only [Act.put, List.setIfInBounds_toArray, List.set_cons_zero, List.set_cons_succ]
  refine wpAnyH_take (i := 11) (oi := { dst := some 14, op := Go.Op.move (Go.Operand.tmp 0), type := 61, pos := "volumedesc.go:31", after := #[], guard := none }) (v := ?_) rfl (by kernel_rfl) (by kernel_rfl) (by kernel_rfl) (fun _ _ _ h => h) (Or.inl ⟨by rfl, ?_⟩) (by assumption) ?_
  rotate_left
  · intro w hSw; (try dsimp only at hSw); go_simp; (try with_reducible rfl)
  try simp only [Act.put, List.setIfInBounds_toArray, List.set_cons_zero, List.set_cons_succ]
  refine wpAnyH_take (i := 12) (oi := { dst := some 15, op := Go.Op.nilCheck (Go.Operand.tmp 14), type := 0, pos := "volumedesc.go:31", after := #[{ on := 11, ground := Go.Ground.data }], guard := none }) (v := ?_) rfl (by kernel_rfl) (by kernel_rfl) (by kernel_rfl) (fun _ _ _ h => h) (Or.inl ⟨by rfl, ?_⟩) (by assumption) ?_
  rotate_left
  · intro w hSw; (try dsimp only at hSw); go_simp; (try with_reducible rfl)
  try simp only [Act.put, List.setIfInBounds_toArray, List.set_cons_zero, List.set_cons_succ]
  refine wpAnyH_take (i := 13) (oi := { dst := some 16, op := Go.Op.fieldAddr 23 (Go.Operand.tmp 15) 2, type := 0, pos := "volumedesc.go:31", after := #[{ on := 12, ground := Go.Ground.data }], guard := none }) (v := ?_) rfl (by kernel_rfl) (by kernel_rfl) (by kernel_rfl) (fun _ _ _ h => h) (Or.inl ⟨by rfl, ?_⟩) (by assumption) ?_
  rotate_left
  · intro w hSw; (try dsimp only at hSw); go_simp; (try with_reducible rfl)
  try simp only [Act.put, List.setIfInBounds_toArray, List.set_cons_zero, List.set_cons_succ]
  refine wpAnyH_take (i := 14) (oi := { dst := some 17, op := Go.Op.build 65 #[(0, Go.Operand.tmp 13), (1, Go.Operand.tmp 16)], type := 65, pos := "volumedesc.go:31", after := #[{ on := 10, ground := Go.Ground.data }, { on := 13, ground := Go.Ground.data }], guard := none }) (v := ?_) rfl (by kernel_rfl) (by kernel_rfl) (by kernel_rfl) (fun _ _ _ h => h) (Or.inl ⟨by rfl, ?_⟩) (by assumption) ?_
  rotate_left
  · intro w hSw; (try dsimp only at hSw); go_simp; (try with_reducible rfl)
  try simp only [Act.put, List.setIfInBounds_toArray, List.set_cons_zero, List.set_cons_succ]
  refine wpAnyH_take (i := 15) (oi := { dst := some 18, op := Go.Op.build 63 #[(0, Go.Operand.const (Go.Value.int Go.IntKind.i64 446)), (1, Go.Operand.const (Go.Value.int Go.IntKind.i64 128)), (2, Go.Operand.const (Go.Value.bool false))], type := 63, pos := "volumedesc.go:31", after := #[], guard := none }) (v := ?_) rfl (by kernel_rfl) (by kernel_rfl) (by kernel_rfl) (fun _ _ _ h => h) (Or.inl ⟨by rfl, ?_⟩) (by assumption) ?_
  rotate_left
  · intro w hSw; (try dsimp only at hSw); go_simp; (try with_reducible rfl)
  try simp only [Act.put, List.setIfInBounds_toArray, List.set_cons_zero, List.set_cons_succ]
  refine wpAnyH_take (i := 16) (oi := { dst := some 19, op := Go.Op.move (Go.Operand.tmp 0), type := 61, pos := "volumedesc.go:31", after := #[], guard := none }) (v := ?_) rfl (by kernel_rfl) (by kernel_rfl) (by kernel_rfl) (fun _ _ _ h => h) (Or.inl ⟨by rfl, ?_⟩) (by assumption) ?_
  rotate_left
  · intro w hSw; (try dsimp only at hSw); go_simp; (try with_reducible rfl)
  try simp only [Act.put, List.setIfInBounds_toArray, List.set_cons_zero, List.set_cons_succ]
  refine wpAnyH_take (i := 17) (oi := { dst := some 20, op := Go.Op.nilCheck (Go.Operand.tmp 19), type := 0, pos := "volumedesc.go:31", after := #[{ on := 16, ground := Go.Ground.data }], guard := none }) (v := ?_) rfl (by kernel_rfl) (by kernel_rfl) (by kernel_rfl) (fun _ _ _ h => h) (Or.inl ⟨by rfl, ?_⟩) (by assumption) ?_
  rotate_left
  · intro w hSw; (try dsimp only at hSw); go_simp; (try with_reducible rfl)
  try simp only [Act.put, List.setIfInBounds_toArray, List.set_cons_zero, List.set_cons_succ]
  refine wpAnyH_take (i := 18) (oi := { dst := some 21, op := Go.Op.fieldAddr 23 (Go.Operand.tmp 20) 3, type := 0, pos := "volumedesc.go:31", after := #[{ on := 17, ground := Go.Ground.data }], guard := none }) (v := ?_) rfl (by kernel_rfl) (by kernel_rfl) (by kernel_rfl) (fun _ _ _ h => h) (Or.inl ⟨by rfl, ?_⟩) (by assumption) ?_
  rotate_left
  · intro w hSw; (try dsimp only at hSw); go_simp; (try with_reducible rfl)
  try simp only [Act.put, List.setIfInBounds_toArray, List.set_cons_zero, List.set_cons_succ]
  refine wpAnyH_take (i := 19) (oi := { dst := some 22, op := Go.Op.build 65 #[(0, Go.Operand.tmp 18), (1, Go.Operand.tmp 21)], type := 65, pos := "volumedesc.go:31", after := #[{ on := 15, ground := Go.Ground.data }, { on := 18, ground := Go.Ground.data }], guard := none }) (v := ?_) rfl (by kernel_rfl) (by kernel_rfl) (by kernel_rfl) (fun _ _ _ h => h) (Or.inl ⟨by rfl, ?_⟩) (by assumption) ?_
  rotate_left
  · intro w hSw; (try dsimp only at hSw); go_simp; (try with_reducible rfl)
  try simp only [Act.put, List.setIfInBounds_toArray, List.set_cons_zero, List.set_cons_succ]
  refine wpAnyH_take (i := 20) (oi := { dst := some 23, op := Go.Op.build 63 #[(0, Go.Operand.const (Go.Value.int Go.IntKind.i64 574)), (1, Go.Operand.const (Go.Value.int Go.IntKind.i64 128)), (2, Go.Operand.const (Go.Value.bool false))], type := 63, pos := "volumedesc.go:31", after := #[], guard := none }) (v := ?_) rfl (by kernel_rfl) (by kernel_rfl) (by kernel_rfl) (fun _ _ _ h => h) (Or.inl ⟨by rfl, ?_⟩) (by assumption) ?_
  rotate_left
  · intro w hSw; (try dsimp only at hSw); go_simp; (try with_reducible rfl)
  try simp only [Act.put, List.setIfInBounds_toArray, List.set_cons_zero, List.set_cons_succ]
  refine wpAnyH_take (i := 21) (oi := { dst := some 24, op := Go.Op.move (Go.Operand.tmp 0), type := 61, pos := "volumedesc.go:31", after := #[], guard := none }) (v := ?_) rfl (by kernel_rfl) (by kernel_rfl) (by kernel_rfl) (fun _ _ _ h => h) (Or.inl ⟨by rfl, ?_⟩) (by assumption) ?_
  rotate_left
  · intro w hSw; (try dsimp only at hSw); go_simp; (try with_reducible rfl)
  try simp only [Act.put, List.setIfInBounds_toArray, List.set_cons_zero, List.set_cons_succ]
  refine wpAnyH_take (i := 22) (oi := { dst := some 25, op := Go.Op.nilCheck (Go.Operand.tmp 24), type := 0, pos := "volumedesc.go:31", after := #[{ on := 21, ground := Go.Ground.data }], guard := none }) (v := ?_) rfl (by kernel_rfl) (by kernel_rfl) (by kernel_rfl) (fun _ _ _ h => h) (Or.inl ⟨by rfl, ?_⟩) (by assumption) ?_
  rotate_left
  · intro w hSw; (try dsimp only at hSw); go_simp; (try with_reducible rfl)
  try simp only [Act.put, List.setIfInBounds_toArray, List.set_cons_zero, List.set_cons_succ]
  refine wpAnyH_take (i := 23) (oi := { dst := some 26, op := Go.Op.fieldAddr 23 (Go.Operand.tmp 25) 4, type := 0, pos := "volumedesc.go:31", after := #[{ on := 22, ground := Go.Ground.data }], guard := none }) (v := ?_) rfl (by kernel_rfl) (by kernel_rfl) (by kernel_rfl) (fun _ _ _ h => h) (Or.inl ⟨by rfl, ?_⟩) (by assumption) ?_
  rotate_left
  · intro w hSw; (try dsimp only at hSw); go_simp; (try with_reducible rfl)
  try simp only [Act.put, List.setIfInBounds_toArray, List.set_cons_zero, List.set_cons_succ]
  refine wpAnyH_take (i := 24) (oi := { dst := some 27, op := Go.Op.build 65 #[(0, Go.Operand.tmp 23), (1, Go.Operand.tmp 26)], type := 65, pos := "volumedesc.go:31", after := #[{ on := 20, ground := Go.Ground.data }, { on := 23, ground := Go.Ground.data }], guard := none }) (v := ?_) rfl (by kernel_rfl) (by kernel_rfl) (by kernel_rfl) (fun _ _ _ h => h) (Or.inl ⟨by rfl, ?_⟩) (by assumption) ?_
  rotate_left
  · intro w hSw; (try dsimp only at hSw); go_simp; (try with_reducible rfl)
  try simp only [Act.put, List.setIfInBounds_toArray, List.set_cons_zero, List.set_cons_succ]
  refine wpAnyH_ready (rs := [25]) (by kernel_rfl) (by simp) ?_
  refine AllReadyH.cons (o := { dst := some 28, op := Go.Op.buildSlice 59 5 #[(0, Go.Operand.tmp 7), (1, Go.Operand.tmp 12), (2, Go.Operand.tmp 17), (3, Go.Operand.tmp 22), (4, Go.Operand.tmp 27)], type := 59, pos := "volumedesc.go:31", after := #[{ on := 4, ground := Go.Ground.data }, { on := 9, ground := Go.Ground.data }, { on := 14, ground := Go.Ground.data }, { on := 19, ground := Go.Ground.data }, { on := 24, ground := Go.Ground.data }], guard := none }) rfl (fun K hK => ?_) AllReadyH.nil
  go_simp
  refine hK.out _ _ (by (try dsimp only); first | with_reducible assumption | (simp [*, go_sem]; done) | (refine ⟨?_, ?_⟩ <;> simp [*, go_sem])) (fun hHeld => ?_)
  clear hK K
  try simp only [Act.put, List.setIfInBounds_toArray, List.set_cons_zero, List.set_cons_succ]
  refine wpAnyH_take (i := 26) (oi := { dst := some 2, op := Go.Op.assign (Go.Operand.tmp 28), type := 59, pos := "volumedesc.go:31", after := #[{ on := 25, ground := Go.Ground.data }, { on := 0, ground := Go.Ground.phase }, { on := 1, ground := Go.Ground.phase }, { on := 2, ground := Go.Ground.phase }, { on := 3, ground := Go.Ground.phase }, { on := 4, ground := Go.Ground.phase }, { on := 5, ground := Go.Ground.phase }, { on := 6, ground := Go.Ground.phase }, { on := 7, ground := Go.Ground.phase }, { on := 8, ground := Go.Ground.phase }, { on := 9, ground := Go.Ground.phase }, { on := 10, ground := Go.Ground.phase }, { on := 11, ground := Go.Ground.phase }, { on := 12, ground := Go.Ground.phase }, { on := 13, ground := Go.Ground.phase }, { on := 14, ground := Go.Ground.phase }, { on := 15, ground := Go.Ground.phase }, { on := 16, ground := Go.Ground.phase }, { on := 17, ground := Go.Ground.phase }, { on := 18, ground := Go.Ground.phase }, { on := 19, ground := Go.Ground.phase }, { on := 20, ground := Go.Ground.phase }, { on := 21, ground := Go.Ground.phase }, { on := 22, ground := Go.Ground.phase }, { on := 23, ground := Go.Ground.phase }, { on := 24, ground := Go.Ground.phase }, { on := 25, ground := Go.Ground.phase }], guard := none }) (v := ?_) rfl (by kernel_rfl) (by kernel_rfl) (by kernel_rfl) (fun _ _ _ h => h) (Or.inl ⟨by rfl, ?_⟩) (by assumption) ?_
  rotate_left
  · intro w hSw; (try dsimp only at hSw); go_simp; (try with_reducible rfl)
  try simp only [Act.put, List.setIfInBounds_toArray, List.set_cons_zero, List.set_cons_succ]
  refine wpAnyH_done (by kernel_rfl) ?_ _
  refine NoPanic.normal ?_
  go_wp2_with fail
  go_ret
  exact ⟨w.heap.size, rfl, Blk.newAt rfl, by (repeat' (first | (with_reducible exact Below.refl _ _) | (with_reducible refine Below.alloc ?_ ?_ _) | (with_reducible refine Below.setCell ?_ ?_ _) | (with_reducible refine Below.drew ?_) | (with_reducible refine below_drewN' ?_) | (with_reducible refine below_bytesW ?_ ?_) | (with_reducible refine Below.trans ?_ (Below.mono (by assumption) ?_)) | omega | (simp only [World.size_alloc, World.size_setCell, World.size_drew]; omega) | (simp [size_bytesW]; omega) | (simp; omega))), Nat.le_refl _⟩
end Go.Proofs.YtjbhokmkmapkoaaGreatDoor
