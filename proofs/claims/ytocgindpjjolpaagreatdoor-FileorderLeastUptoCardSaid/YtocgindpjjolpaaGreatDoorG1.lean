/- Contracts and plain words for the laws of this chapter, part 1: A, B, R. No condition. -/
import Derived.Test.YtocgindpjjolpaaGreatDoorProg
import Derived.Lib.SmallJoins
import Derived.OwnWalk
import Derived.Deep.AppendLies
import Derived.Test.YtocgindpjjolpaaGreatDoorG0
import Derived.Lib.IndexAny
import Derived.Laws.Strings
namespace Go.Proofs.YtocgindpjjolpaaGreatDoor
set_option linter.unusedSimpArgs false
set_option linter.unusedVariables false
open Go.RowKit
open Go.PlainAid (bt get_bt bt_nonneg bt_le)
theorem ret_b {a b : Bool} (h : a = b) : Ending.returned (.bool a) = .returned (.bool b) := by rw [h]
set_option maxHeartbeats 400000 in
theorem char_any (n : Int) (w : World) : Calls Tryz.prog 167 #[.int .i64 n] w fun e w' => e = .returned (.bool (chB n)) ∧ w = w' := by
  have HL : Live w [] := trivial
  go_enter Tryz.func167, Tryz.ntmps167
  go_wp2
  all_goals
    go_ret
    exact ⟨ret_b (by rw [Bool.eq_iff_iff]; simp [chB] <;> omega), rfl⟩
set_option maxHeartbeats 400000 in
theorem rchar_any (n : Int) (w : World) : Calls Tryz.prog 177 #[.int .i64 n] w fun e w' => e = .returned (.bool (chB n)) ∧ w = w' := by
  have HL : Live w [] := trivial
  go_enter Tryz.func177, Tryz.ntmps177
  go_wp2
  all_goals
    go_ret
    exact ⟨ret_b (by rw [Bool.eq_iff_iff]; simp [chB] <;> omega), rfl⟩
def TabU (w : World) : Prop := Lib.Utf8Tabs 1 2 w
theorem decC (s : ByteArray) (c k : Int) (hc : ((Lib.decodeGo s).1 : Int) = c) (hk : ((Lib.decodeGo s).2 : Int) = k) (w : World) (hT : TabU w) :
    Calls Tryz.prog 164 #[.string s] w fun e w' => e = .returned (.tuple #[.int .i32 c, .int .i64 k]) ∧ Below w.heap.size w w' := by
  subst hc hk
  exact Any.utf8_DecodeRuneInString Tryz.lays197 s w hT
theorem cell_lt {w : World} {b o : Nat} {v : Value} (h : w.cell? ⟨b, o, none⟩ = some v) : b < w.heap.size := by
  rcases Nat.lt_or_ge b w.heap.size with h' | h'
  · exact h'
  · simp [World.cell?, Array.getElem?_eq_none h'] at h
theorem TabU.below {w w' : World} (h : TabU w) (hb : Below w.heap.size w w') : TabU w' := by
  unfold TabU Lib.Utf8Tabs at *
  obtain ⟨h1, h2⟩ := h
  have l1 := cell_lt (h1 0 (by omega))
  have l2 := cell_lt (h2 0 (by omega)).1
  exact ⟨fun c hc => (hb.cell (p := ⟨_, c, none⟩) l1).trans (h1 c hc), fun i hi => ⟨(hb.cell (p := ⟨_, 2 * i, none⟩) l2).trans (h2 i hi).1, (hb.cell (p := ⟨_, 2 * i + 1, none⟩) l2).trans (h2 i hi).2⟩⟩
theorem intInfo : (Tryz.prog.info? 3).map (fun i => (i.zero, i.size, i.bytes)) = some (some (.int .i64 0), 1, 8) := by kernel_rfl
def Hit (t : ByteArray) (c : Int) (kk : Nat) : Prop := ((Lib.decodeGo t).1 : Int) = c ∧ (Lib.decodeGo t).2 = kk ∧ hd t = kk
theorem hit_or (t : ByteArray) (h : 1 ≤ t.size) : (∃ c kk, Hit t c kk ∧ chB c = true ∧ 32 ≤ c ∧ c ≤ 65533 ∧ kk ≤ t.size ∧ ((kk = 1 ∧ c < 128) ∨ kk = 2 ∨ kk = 3)) ∨ (hd t = 0 ∧ (chB ((Lib.decodeGo t).1 : Int) = false ∨ ((Lib.decodeGo t).1 = 65533 ∧ (Lib.decodeGo t).2 = 1))) := by
  by_cases h1 : H1 t
  · have d := dec_1 h1
    refine Or.inl ⟨bt t 0, 1, ⟨d.1, d.2, by unfold hd; rw [if_pos h1]⟩, ?_, h1.2.1, ?_, h, Or.inl ⟨rfl, h1.2.2⟩⟩
    · have := h1.2; unfold chB; exact decide_eq_true (by omega)
    · have := h1.2; omega
  · by_cases h2 : H2 t
    · have d := dec_2 h2
      have e := h2
      unfold H2 at e
      have hc : 128 ≤ c2 t ∧ c2 t ≤ 2047 := by unfold c2; omega
      exact Or.inl ⟨c2 t, 2, ⟨d.1, d.2, by unfold hd; rw [if_neg h1, if_pos h2]⟩, by unfold chB; exact decide_eq_true (by omega), by omega, by omega, e.1, Or.inr (Or.inl rfl)⟩
    · by_cases h3 : H3 t
      · have d := dec_3 h3
        have hb : chB (c3 t) = true := h3.2.2.2.2.2.2.2.2
        have hb2 := hb
        unfold chB at hb2
        have hb2 := of_decide_eq_true hb2
        exact Or.inl ⟨c3 t, 3, ⟨d.1, d.2, by unfold hd; rw [if_neg h1, if_neg h2, if_pos h3]⟩, hb, by omega, by omega, h3.1, Or.inr (Or.inr rfl)⟩
      · exact Or.inr ⟨by unfold hd; rw [if_neg h1, if_neg h2, if_neg h3], dec_0 h h1 h2 h3⟩
theorem chars_next {s t : ByteArray} {k kk : Nat} (h : chars s = (chars t).map (· + k)) (hh : hd t = kk) (h0 : kk ≠ 0) : chars s = (chars (t.extract kk t.size)).map (· + (k + 1)) := by
  rw [h, chars_step (by omega), hh]
  cases chars (t.extract kk t.size) with
  | none => rfl
  | some n => simp only [Option.map_some]; congr 1; omega
theorem rune_top (t : ByteArray) : (Lib.decodeGo t).1 ≤ 1114111 := by
  unfold Lib.decodeGo
  split
  · omega
  · exact Lib.rune_le t 0
def CharsP (r : Option Nat) (w : World) (e : Ending) (w' : World) : Prop :=
  (match r with
    | some n => ∃ a cap, e = .returned (.tuple #[.slice a n cap, .int .i64 0])
    | none => e = .returned (.tuple #[.slice none 0 0, .int .i64 3])) ∧ Below w.heap.size w w'
theorem some_below {W w1 : World} {k : Nat} {o : Obj} (hb : Below W.heap.size W w1) (h : W.heap[k]? = some o) : w1.heap[k]? = some o := by
  have : k < W.heap.size := by
    rcases Nat.lt_or_ge k W.heap.size with h' | h'
    · exact h'
    · rw [Array.getElem?_eq_none h'] at h; cases h
  rw [hb.block k this, h]
theorem ownsRow_below {W w1 : World} {B : Nat} {e : TypeId} {size : Nat} {v : Value} {n : Nat} {xs : List Value} (h : W.ownsRow B e size v n xs) (hb : Below W.heap.size W w1) : w1.ownsRow B e size v n xs := by
  refine ⟨h.1, ?_⟩
  rcases h.2 with h2 | ⟨g, cap, cur, hv, hg, hh, r⟩
  · exact Or.inl h2
  · exact Or.inr ⟨g, cap, cur, hv, hg, some_below hb hh, r⟩
def CRel (s : ByteArray) (sv out : Value) (B : Nat) (W wr : World) : Prop :=
  ∃ (t : ByteArray) (k : Nat) (xs : List Value), sv = .string t ∧ k + t.size ≤ s.size ∧ chars s = (chars t).map (· + k) ∧ wr.ownsRow B 3 1 out k xs ∧ Below B W wr
def strLen : Value → Nat
  | .string t => t.size
  | _ => 0
theorem CharsP.no {s : ByteArray} {w : World} {e : Ending} {w' : World} (h : chars s = none) (he : e = .returned (.tuple #[.slice none 0 0, .int .i64 3])) (hb : Below w.heap.size w w') : CharsP (chars s) w e w' := by
  unfold CharsP; rw [h]; exact ⟨he, hb⟩
theorem CharsP.yes {s : ByteArray} {w : World} {e : Ending} {w' : World} {n : Nat} (h : chars s = some n) (he : ∃ a cap, e = .returned (.tuple #[.slice a n cap, .int .i64 0])) (hb : Below w.heap.size w w') : CharsP (chars s) w e w' := by
  unfold CharsP; rw [h]; exact ⟨he, hb⟩
set_option maxRecDepth 100000 in
set_option maxHeartbeats 4000000 in
theorem chars_any (s : ByteArray) (hs : s.size ≤ 65536) (w : World) (hT : TabU w) : Calls Tryz.prog 159 #[.string s] w (CharsP (chars s) w) := by
  obtain ⟨i0, hi, hz0, hz1, hz2⟩ := info_parts intInfo
  have HL : Live w [] := trivial
  go_enter Tryz.func159, Tryz.ntmps159
  go_wp2_with (at_make; refine wpList_make_own _ rfl _ _ 85 rfl w.heap.size 3 i0 (.int .i64 0) 1 Tryz.underlying85 hi hz0 hz1 .i64 .i64 _ s.size rfl rfl (by first | rfl | omega) (by rw [hz2]; omega) (by unfold maxLen; omega) (Nat.le_refl _) ?_; intro w0 hown0 hgrow0)
  have hb0 : Below w.heap.size w w0 := (Below.refl _ _).grown hgrow0 (Nat.le_refl _) (fun k h => by cases h)
  go_loopw [0, 4] (fun sv out wr => CRel s sv out w.heap.size w wr) (fun sv _ _ => strLen sv)
  case atStart => exact ⟨s, 0, [], rfl, by omega, by simp, hown0, hb0⟩
  case round =>
    obtain ⟨t, k, xs, rfl, hk, hc, hown, hbel⟩ := hrel
    have HC := hide hc
    clear hc hown0 hgrow0
    have hTr := hT.below hbel
    have hsz := hbel.size
    by_cases h0 : t.size = 0
    · have HH := hide h0
      have hz : ¬ (0 : Int) < (t.size : Int) := by omega
      clear h0
      rcases Go.Joins.ownsRow_forms hown with ⟨rfl, rfl⟩ | ⟨g, cap, rfl⟩
      all_goals
        clear hown
        go_wp2
        go_ret2
        exact CharsP.yes (by rw [HC.out, chars_nil HH.out]; simp) ⟨_, _, rfl⟩ hbel
    · have hz : (0 : Int) < (t.size : Int) := by omega
      rcases hit_or t (by omega) with ⟨c, kk, hhit, hcb, c0, c1, hle, hkk⟩ | ⟨hd0, hbad⟩
      · have HI := hide hhit
        clear hhit h0
        have HO := hide hown
        clear hown
        rcases hkk with ⟨rfl, h128⟩ | rfl | rfl
        · have DC := hide (fun W hW => decC t c 1 HI.out.1 (by rw [HI.out.2.1]; rfl) W hW)
          have hq : (c == 65533) = false := by simp; omega
          all_goals
            go_wp2_with (first | (go_at_call 164; (with_reducible refine (DC.out _ hTr).mono ?_); rintro e w1 ⟨rfl, hb⟩; have hz1' := hb.size) | (go_at_call 167; (with_reducible refine (char_any _ _).mono ?_); rintro e w' ⟨rfl, rfl⟩) | (at_builtin; refine wpList_append_own _ rfl _ _ 85 rfl w.heap.size 3 i0 (.int .i64 0) 1 8 Tryz.underlying85 hi hz0 hz1 hz2 rfl (by decide) _ k xs rfl ((ownsRow_below HO.out hb).alloc _) ⟨w1.heap.size, 0, none⟩ 1 1 [.int .i64 c] rfl rfl (World.news_of_block (cs := #[.int .i64 c]) (t := 3) (fr := (0, 0)) (heap_alloc_new w1 _)) (by simp [Value.oneCell']) (by unfold maxLen; omega) (by omega) (by show w.heap.size ≤ (w1.alloc _).heap.size; rw [World.size_alloc]; omega) ?_; intro v2 w2 hown2 hgrow2 _))
            go_roundw
            case rel => exact ⟨t.extract 1 t.size, k + 1, _, rfl, by simp; omega, chars_next HC.out HI.out.2.2 (by omega), hown2, (hbel.trans (hb.mono hsz)).trans (((Below.refl w.heap.size w1).alloc (by omega) _).grown hgrow2 (by show w.heap.size ≤ (w1.alloc _).heap.size; rw [World.size_alloc]; omega) (fun q hq => (HO.out.lt q hq).1))⟩
            case measure => simp [strLen]; omega
        · have DC := hide (fun W hW => decC t c 2 HI.out.1 (by rw [HI.out.2.1]; rfl) W hW)
          cases hq : (c == 65533)
          all_goals
            go_wp2_with (first | (go_at_call 164; (with_reducible refine (DC.out _ hTr).mono ?_); rintro e w1 ⟨rfl, hb⟩; have hz1' := hb.size) | (go_at_call 167; (with_reducible refine (char_any _ _).mono ?_); rintro e w' ⟨rfl, rfl⟩) | (at_builtin; refine wpList_append_own _ rfl _ _ 85 rfl w.heap.size 3 i0 (.int .i64 0) 1 8 Tryz.underlying85 hi hz0 hz1 hz2 rfl (by decide) _ k xs rfl ((ownsRow_below HO.out hb).alloc _) ⟨w1.heap.size, 0, none⟩ 1 1 [.int .i64 c] rfl rfl (World.news_of_block (cs := #[.int .i64 c]) (t := 3) (fr := (0, 0)) (heap_alloc_new w1 _)) (by simp [Value.oneCell']) (by unfold maxLen; omega) (by omega) (by show w.heap.size ≤ (w1.alloc _).heap.size; rw [World.size_alloc]; omega) ?_; intro v2 w2 hown2 hgrow2 _))
            go_roundw
            case rel => exact ⟨t.extract 2 t.size, k + 1, _, rfl, by simp; omega, chars_next HC.out HI.out.2.2 (by omega), hown2, (hbel.trans (hb.mono hsz)).trans (((Below.refl w.heap.size w1).alloc (by omega) _).grown hgrow2 (by show w.heap.size ≤ (w1.alloc _).heap.size; rw [World.size_alloc]; omega) (fun q hq => (HO.out.lt q hq).1))⟩
            case measure => simp [strLen]; omega
        · have DC := hide (fun W hW => decC t c 3 HI.out.1 (by rw [HI.out.2.1]; rfl) W hW)
          cases hq : (c == 65533)
          all_goals
            go_wp2_with (first | (go_at_call 164; (with_reducible refine (DC.out _ hTr).mono ?_); rintro e w1 ⟨rfl, hb⟩; have hz1' := hb.size) | (go_at_call 167; (with_reducible refine (char_any _ _).mono ?_); rintro e w' ⟨rfl, rfl⟩) | (at_builtin; refine wpList_append_own _ rfl _ _ 85 rfl w.heap.size 3 i0 (.int .i64 0) 1 8 Tryz.underlying85 hi hz0 hz1 hz2 rfl (by decide) _ k xs rfl ((ownsRow_below HO.out hb).alloc _) ⟨w1.heap.size, 0, none⟩ 1 1 [.int .i64 c] rfl rfl (World.news_of_block (cs := #[.int .i64 c]) (t := 3) (fr := (0, 0)) (heap_alloc_new w1 _)) (by simp [Value.oneCell']) (by unfold maxLen; omega) (by omega) (by show w.heap.size ≤ (w1.alloc _).heap.size; rw [World.size_alloc]; omega) ?_; intro v2 w2 hown2 hgrow2 _))
            go_roundw
            case rel => exact ⟨t.extract 3 t.size, k + 1, _, rfl, by simp; omega, chars_next HC.out HI.out.2.2 (by omega), hown2, (hbel.trans (hb.mono hsz)).trans (((Below.refl w.heap.size w1).alloc (by omega) _).grown hgrow2 (by show w.heap.size ≤ (w1.alloc _).heap.size; rw [World.size_alloc]; omega) (fun q hq => (HO.out.lt q hq).1))⟩
            case measure => simp [strLen]; omega
      · have HD := hide hd0
        rcases hbad with hcb | ⟨e1, e2⟩
        · obtain ⟨c, hc1⟩ : ∃ c, c = ((Lib.decodeGo t).1 : Int) := ⟨_, rfl⟩
          obtain ⟨q, hq1⟩ : ∃ q, q = ((Lib.decodeGo t).2 : Int) := ⟨_, rfl⟩
          have DC := hide (fun W hW => decC t c q hc1.symm hq1.symm W hW)
          rw [← hc1] at hcb
          have c32 : 0 ≤ c ∧ c ≤ 1114111 := by rw [hc1]; have := rune_top t; omega
          clear hd0 h0 hc1 hq1 hown
          go_wp2_with (first | (go_at_call 164; (with_reducible refine (DC.out _ hTr).mono ?_); rintro e w1 ⟨rfl, hb⟩; have hz1' := hb.size) | (go_at_call 167; (with_reducible refine (char_any _ _).mono ?_); rintro e w' ⟨rfl, rfl⟩))
          go_ret2
          exact CharsP.no (by rw [HC.out, chars_no (by omega) HD.out]; rfl) rfl (hbel.trans (hb.mono hsz))
        · have DC := hide (fun W hW => decC t 65533 1 (by rw [e1]; rfl) (by rw [e2]; rfl) W hW)
          have hcb : chB 65533 = true := by decide
          clear hd0 h0 e1 e2 hown
          go_wp2_with (first | (go_at_call 164; (with_reducible refine (DC.out _ hTr).mono ?_); rintro e w1 ⟨rfl, hb⟩; have hz1' := hb.size) | (go_at_call 167; (with_reducible refine (char_any _ _).mono ?_); rintro e w' ⟨rfl, rfl⟩))
          go_ret2
          exact CharsP.no (by rw [HC.out, chars_no (by omega) HD.out]; rfl) rfl (hbel.trans (hb.mono hsz))
theorem eq_list {s : ByteArray} {l : List UInt8} (h : s ≠ ⟨l.toArray⟩) : (s.toList == l) = false := by
  rw [beq_eq_false_iff_ne]
  intro e
  apply h
  rw [ByteArray.toList_eq] at e
  obtain ⟨⟨k⟩⟩ := s
  simp only at e
  rw [e]
theorem name_false {s : ByteArray} (h : ¬ (s ≠ dot ∧ s ≠ dots) ∨ hasC s 47 = true ∨ chars s = none) : nameB s = false := by
  unfold nameB
  rcases h with h | h | h
  · simp [h]
  · simp [h]
  · simp [h]
theorem name_some {s : ByteArray} {n : Nat} (h1 : s ≠ dot) (h2 : s ≠ dots) (h3 : hasC s 47 = false) (h : chars s = some n) : nameB s = decide (1 ≤ n ∧ n ≤ 64) := by
  unfold nameB
  simp [h1, h2, h3, h]
theorem contC (s : ByteArray) (w : World) : Calls Tryz.prog 158 #[.string s, .string ⟨#[47]⟩] w fun e w' => e = .returned (.bool (hasC s 47)) ∧ w = w' :=
  (Any.strings_Contains_one Tryz.lays144 s 47 w).mono fun e w' ⟨he, hw⟩ => ⟨by rw [he, hasC, Lib.contains_iff_indexByte], hw.symm⟩
theorem charsNo (s : ByteArray) (hs : s.size ≤ 65536) (h : chars s = none) (w : World) (hT : TabU w) : Calls Tryz.prog 159 #[.string s] w fun e w' => e = .returned (.tuple #[.slice none 0 0, .int .i64 3]) ∧ Below w.heap.size w w' := by
  refine (chars_any s hs w hT).mono fun e w' hp => ?_
  unfold CharsP at hp
  rw [h] at hp
  exact hp
def CY (n : Nat) (w : World) (e : Ending) (w' : World) : Prop := ∃ a cap, e = .returned (.tuple #[.slice a n cap, .int .i64 0]) ∧ Below w.heap.size w w'
theorem charsYes (s : ByteArray) (n : Nat) (hs : s.size ≤ 65536) (h : chars s = some n) (w : World) (hT : TabU w) : Calls Tryz.prog 159 #[.string s] w (CY n w) := by
  refine (chars_any s hs w hT).mono fun e w' hp => ?_
  unfold CharsP at hp
  rw [h] at hp
  obtain ⟨⟨a, cap, he⟩, hb⟩ := hp
  exact ⟨a, cap, he, hb⟩
set_option maxHeartbeats 1000000 in
theorem chars_big (s : ByteArray) (hs : 65536 < s.size) (w : World) : Calls Tryz.prog 159 #[.string s] w fun e w' => e = .returned (.tuple #[.slice none 0 0, .int .i64 7]) ∧ w = w' := by
  have hb : (65536 : Int) < (s.size : Int) := by omega
  have HL : Live w [] := trivial
  go_enter Tryz.func159, Tryz.ntmps159
  go_wp2
  go_ret2
  exact ⟨rfl, rfl⟩
set_option maxHeartbeats 2000000 in
theorem name_any (s : ByteArray) (hs : s.size ≤ 120000) (w : World) (hT : TabU w) : Calls Tryz.prog 143 #[.string s] w fun e w' => e = .returned (.bool (nameB s)) ∧ Below w.heap.size w w' := by
  by_cases h1 : s = dot
  case pos =>
    subst h1
    have e : nameB dot = false := name_false (Or.inl (by simp))
    unfold dot at *
    have HL : Live w [] := trivial
    go_enter Tryz.func143, Tryz.ntmps143
    go_wp2
    go_ret
    exact ⟨ret_b e.symm, by (exact bl)⟩
  by_cases h2 : s = dots
  case pos =>
    subst h2
    have e : nameB dots = false := name_false (Or.inl (by simp))
    unfold dots at *
    have HL : Live w [] := trivial
    go_enter Tryz.func143, Tryz.ntmps143
    go_wp2
    go_ret
    exact ⟨ret_b e.symm, by (exact bl)⟩
  have q1 : (s.toList == [46]) = false := eq_list h1
  have q2 : (s.toList == [46, 46]) = false := eq_list h2
  cases h3 : hasC s 47
  case true =>
    have e := hide (name_false (s := s) (Or.inr (Or.inl h3)))
    have CC := hide (fun W => contC s W)
    rw [h3] at CC
    have HL : Live w [] := trivial
    go_enter Tryz.func143, Tryz.ntmps143
    go_wp2_with (first | (go_at_call 158; (with_reducible refine (CC.out _).mono ?_); rintro e w' ⟨rfl, rfl⟩))
    go_ret
    exact ⟨ret_b e.out.symm, by (exact bl)⟩
  have CC := hide (fun W => contC s W)
  rw [h3] at CC
  by_cases hbig : s.size ≤ 65536
  case neg =>
    have e := hide (nameB_long (s := s) (by omega))
    have CHB := hide (fun W => chars_big s (by omega) W)
    have HL : Live w [] := trivial
    go_enter Tryz.func143, Tryz.ntmps143
    go_wp2_with (first | (go_at_call 158; (with_reducible refine (CC.out _).mono ?_); rintro e w' ⟨rfl, rfl⟩) | (go_at_call 159; (with_reducible refine (CHB.out _).mono ?_); rintro e w' ⟨rfl, rfl⟩))
    go_ret
    exact ⟨ret_b e.out.symm, by (exact bl)⟩
  cases h4 : chars s with
  | none =>
    have e := hide (name_false (s := s) (Or.inr (Or.inr h4)))
    have CH := hide (fun W hW => charsNo s (by omega) h4 W hW)
    have HL : Live w [] := trivial
    go_enter Tryz.func143, Tryz.ntmps143
    go_wp2_with (first | (go_at_call 158; (with_reducible refine (CC.out _).mono ?_); rintro e w' ⟨rfl, rfl⟩) | (go_at_call 159; (with_reducible refine (CH.out _ hT).mono ?_); rintro e w' ⟨rfl, hb⟩; have hz := hb.size; (try simp only [SZ, Nat.reduceAdd] at hz); (first | obtain ⟨HL, hk⟩ := HL.callA hb hz | obtain ⟨HL, hk⟩ := HL.call0A hb hz); (try simp only [addN, Nat.add_zero] at HL hk); have hl := HL; simp only [Live] at hl; (try simp only [Kept] at hk)))
    go_ret
    exact ⟨ret_b e.out.symm, by (exact bl)⟩
  | some n =>
    have e := hide (name_some h1 h2 h3 h4)
    have CH2 := hide (fun W hW => charsYes s n (by omega) h4 W hW)
    have hn := (chars_le s.size s n (Nat.le_refl _) h4).1
    by_cases n1 : 1 ≤ n
    · by_cases n2 : n ≤ 64
      · have HL : Live w [] := trivial
        go_enter Tryz.func143, Tryz.ntmps143
        go_wp2_with (first | (go_at_call 158; (with_reducible refine (CC.out _).mono ?_); rintro e w' ⟨rfl, rfl⟩) | (go_at_call 159; (with_reducible refine (CH2.out _ hT).mono ?_); rintro e w' ⟨sa, scap, rfl, hb⟩; have hz := hb.size; (try simp only [SZ, Nat.reduceAdd] at hz); (first | obtain ⟨HL, hk⟩ := HL.callA hb hz | obtain ⟨HL, hk⟩ := HL.call0A hb hz); (try simp only [addN, Nat.add_zero] at HL hk); have hl := HL; simp only [Live] at hl; (try simp only [Kept] at hk)))
        go_ret
        exact ⟨ret_b (by rw [e.out]; simp [n1, n2] <;> omega), by (exact bl)⟩
      · have HL : Live w [] := trivial
        go_enter Tryz.func143, Tryz.ntmps143
        go_wp2_with (first | (go_at_call 158; (with_reducible refine (CC.out _).mono ?_); rintro e w' ⟨rfl, rfl⟩) | (go_at_call 159; (with_reducible refine (CH2.out _ hT).mono ?_); rintro e w' ⟨sa, scap, rfl, hb⟩; have hz := hb.size; (try simp only [SZ, Nat.reduceAdd] at hz); (first | obtain ⟨HL, hk⟩ := HL.callA hb hz | obtain ⟨HL, hk⟩ := HL.call0A hb hz); (try simp only [addN, Nat.add_zero] at HL hk); have hl := HL; simp only [Live] at hl; (try simp only [Kept] at hk)))
        go_ret
        exact ⟨ret_b (by rw [e.out]; simp [n1, n2] <;> omega), by (exact bl)⟩
    · have HL : Live w [] := trivial
      go_enter Tryz.func143, Tryz.ntmps143
      go_wp2_with (first | (go_at_call 158; (with_reducible refine (CC.out _).mono ?_); rintro e w' ⟨rfl, rfl⟩) | (go_at_call 159; (with_reducible refine (CH2.out _ hT).mono ?_); rintro e w' ⟨sa, scap, rfl, hb⟩; have hz := hb.size; (try simp only [SZ, Nat.reduceAdd] at hz); (first | obtain ⟨HL, hk⟩ := HL.callA hb hz | obtain ⟨HL, hk⟩ := HL.call0A hb hz); (try simp only [addN, Nat.add_zero] at HL hk); have hl := HL; simp only [Live] at hl; (try simp only [Kept] at hk)))
      go_ret
      exact ⟨ret_b (by rw [e.out]; simp [n1]), by (exact bl)⟩
end Go.Proofs.YtocgindpjjolpaaGreatDoor
namespace Go.Proofs.YtocgindpjjolpaaGreatDoor
set_option linter.unusedSimpArgs false
set_option linter.unusedVariables false
open Go.PlainAid (bt get_bt bt_nonneg bt_le bt_end)
def u8 (v : Int) : UInt8 := UInt8.ofNat v.toNat
theorem u8_eq {a b : Int} (ha : 0 ≤ a ∧ a ≤ 255) (hb : 0 ≤ b ∧ b ≤ 255) : (u8 a == u8 b) = decide (a = b) := by
  have n1 : (u8 a).toNat = a.toNat := by unfold u8; rw [UInt8.toNat_ofNat']; omega
  have n2 : (u8 b).toNat = b.toNat := by unfold u8; rw [UInt8.toNat_ofNat']; omega
  rw [Bool.eq_iff_iff, beq_iff_eq, decide_eq_true_iff, ← UInt8.toNat_inj, n1, n2]
  omega
def encL (n : Int) : List UInt8 :=
  if n < 128 then [u8 n] else if n < 2048 then [u8 (192 + n / 64), u8 (128 + n % 64)] else [u8 (224 + n / 4096), u8 (128 + n / 64 % 64), u8 (128 + n % 64)]
theorem bt_list (s : ByteArray) : s.data.toList = (List.range s.size).map (fun j => u8 (bt s j)) := by
  apply List.ext_getElem
  · simp
  · intro n h1 h2
    have h : n < s.size := by simpa using h1
    simp only [List.getElem_map, List.getElem_range, u8]
    unfold bt
    rw [dif_pos h]
    simp
    rfl
theorem bt_extract (s : ByteArray) (a b j : Nat) (hb : b ≤ s.size) (hj : a + j < b) : bt (s.extract a b) j = bt s (a + j) := by
  have h1 : j < (s.extract a b).size := by simp; omega
  have h2 : a + j < s.size := by omega
  unfold bt
  rw [dif_pos h1, dif_pos h2, ByteArray.getElem_extract]
theorem front (s : ByteArray) (k : Nat) (hk : k ≤ s.size) : (s.extract 0 k).toList = (List.range k).map (fun j => u8 (bt s j)) := by
  have hz : (s.extract 0 k).size = k := by simp; omega
  rw [ByteArray.toList_eq, bt_list, hz]
  apply List.map_congr_left
  intro j hj
  have := List.mem_range.1 hj
  rw [bt_extract s 0 k j hk (by omega), Nat.zero_add]
theorem m1 {t : ByteArray} (h : 1 ≤ t.size) (hc : chB (bt t 0) = true) : (encL (bt t 0) == (t.extract 0 1).toList) = decide (H1 t) := by
  have c := of_decide_eq_true hc
  have b := bt_le t 0
  rw [front t 1 h]
  show (encL (bt t 0) == [u8 (bt t 0)]) = _
  unfold encL H1
  by_cases q : bt t 0 < 128
  · rw [if_pos q]; simp [q, h]; omega
  · rw [if_neg q, if_pos (by omega)]; simp [q]
theorem m2 {t : ByteArray} (h : 2 ≤ t.size) (hc : chB (c2 t) = true) : (encL (c2 t) == (t.extract 0 2).toList) = decide (H2 t) := by
  have c := of_decide_eq_true hc
  have b0 := bt_le t 0
  have b1 := bt_le t 1
  have a0 := bt_nonneg t 0
  have a1 := bt_nonneg t 1
  rw [front t 2 h]
  show (encL (c2 t) == [u8 (bt t 0), u8 (bt t 1)]) = _
  have e : c2 t = (bt t 0 - 192) * 64 + bt t 1 - 128 := rfl
  generalize c2 t = n at *
  unfold encL
  by_cases q : n < 128
  · rw [if_pos q]
    have : ¬ H2 t := by unfold H2; omega
    simp [this]
  · by_cases q2 : n < 2048
    · rw [if_neg q, if_pos q2]
      show (u8 (192 + n / 64) == u8 (bt t 0) && (u8 (128 + n % 64) == u8 (bt t 1) && true)) = _
      rw [u8_eq (by omega) ⟨a0, b0⟩, u8_eq (by omega) ⟨a1, b1⟩, Bool.eq_iff_iff]
      simp only [Bool.and_true, Bool.and_eq_true, decide_eq_true_eq]
      unfold H2
      constructor
      · rintro ⟨e1, e2⟩
        have x1 : 128 ≤ bt t 1 := by omega
        have x2 : bt t 1 ≤ 191 := by omega
        have x3 : n / 64 = bt t 0 - 192 := by omega
        refine ⟨h, ?_, ?_, x1, x2⟩ <;> omega
      · rintro ⟨_, e1, e2, e3, e4⟩
        have x3 : n / 64 = bt t 0 - 192 := by omega
        have x4 : n % 64 = bt t 1 - 128 := by omega
        rw [x3, x4]
        omega
    · rw [if_neg q, if_neg q2]
      have : ¬ H2 t := by unfold H2; omega
      simp [this]
theorem m3 {t : ByteArray} (h : 3 ≤ t.size) (hc : chB (c3 t) = true) : (encL (c3 t) == (t.extract 0 3).toList) = decide (H3 t) := by
  have c := of_decide_eq_true hc
  have b0 := bt_le t 0
  have b1 := bt_le t 1
  have b2 := bt_le t 2
  have a0 := bt_nonneg t 0
  have a1 := bt_nonneg t 1
  have a2 := bt_nonneg t 2
  rw [front t 3 h]
  show (encL (c3 t) == [u8 (bt t 0), u8 (bt t 1), u8 (bt t 2)]) = _
  unfold H3
  simp only [hc, and_true]
  have e : c3 t = (bt t 0 - 224) * 4096 + (bt t 1 - 128) * 64 + bt t 2 - 128 := rfl
  generalize c3 t = n at *
  unfold encL
  by_cases q : n < 128
  · rw [if_pos q]
    have : ¬ 2048 ≤ n := by omega
    simp [this]
  · by_cases q2 : n < 2048
    · rw [if_neg q, if_pos q2]
      have : ¬ 2048 ≤ n := by omega
      simp [this]
    · rw [if_neg q, if_neg q2]
      show (u8 (224 + n / 4096) == u8 (bt t 0) && (u8 (128 + n / 64 % 64) == u8 (bt t 1) && (u8 (128 + n % 64) == u8 (bt t 2) && true))) = _
      rw [u8_eq (by omega) ⟨a0, b0⟩, u8_eq (by omega) ⟨a1, b1⟩, u8_eq (by omega) ⟨a2, b2⟩, Bool.eq_iff_iff]
      simp only [Bool.and_true, Bool.and_eq_true, decide_eq_true_eq]
      have d1 : n % 64 = (bt t 2 - 128) % 64 := by omega
      have d2 : n / 64 = (bt t 0 - 224) * 64 + (bt t 1 - 128) + (bt t 2 - 128) / 64 := by omega
      constructor
      · intro hh; omega
      · intro hh; omega
end Go.Proofs.YtocgindpjjolpaaGreatDoor
