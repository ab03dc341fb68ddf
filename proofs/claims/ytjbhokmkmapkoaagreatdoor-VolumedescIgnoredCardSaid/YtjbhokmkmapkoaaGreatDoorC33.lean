/- Contracts and plain words for the laws of volume descriptors, part 33: W5, D1, D2. No condition. -/
import Derived.Test.YtjbhokmkmapkoaaGreatDoorC19
import Derived.Test.YtjbhokmkmapkoaaGreatDoorC23
import Derived.Test.YtjbhokmkmapkoaaGreatDoorC32
import Derived.Test.YtjbhokmkmapkoaaGreatDoorC12
namespace Go.Proofs.YtjbhokmkmapkoaaGreatDoor
set_option linter.unusedSimpArgs false
set_option linter.unusedVariables false
open Go.PlainAid (bt get_bt bt_nonneg bt_le bt_end)
/-- Where numbers stand in both byte orders, and how long they are. -/
def pairsD : List (Nat × Nat) := [(80, 4), (120, 2), (124, 2), (128, 2), (132, 4), (158, 4), (166, 4), (184, 2)]
def sameB (s : ByteArray) (p : Nat × Nat) : Bool := if p.2 = 4 then decide (le4 s p.1 = be4 s (p.1 + 4)) else decide (le2 s p.1 = be2 s (p.1 + 2))
def difD (s : ByteArray) : List Nat := if s.size ≠ 2048 ∨ (bt s 0 ≠ 1 ∧ bt s 0 ≠ 2) then [] else (pairsD.filter fun p => !sameB s p).map (·.1)
theorem same4 {s : ByteArray} {p : Nat} {n : Int} (h : At s p (both4 n)) (hn : 0 ≤ n ∧ n ≤ 4294967295) : sameB s (p, 4) = true := by
  unfold sameB
  rw [if_pos rfl]
  exact decide_eq_true ((both4_same h hn).1.trans (both4_same h hn).2.symm)
theorem same2 {s : ByteArray} {p : Nat} {n : Int} (h : At s p (both2 n)) (hn : 0 ≤ n ∧ n ≤ 65535) : sameB s (p, 2) = true := by
  unfold sameB
  rw [if_neg (show ¬ (2 : Nat) = 4 by decide)]
  exact decide_eq_true ((both2_same h hn).1.trans (both2_same h hn).2.symm)
theorem all_same {s : ByteArray} (h0 : sameB s (80, 4) = true) (h1 : sameB s (120, 2) = true) (h2 : sameB s (124, 2) = true) (h3 : sameB s (128, 2) = true) (h4 : sameB s (132, 4) = true) (h5 : sameB s (158, 4) = true) (h6 : sameB s (166, 4) = true) (h7 : sameB s (184, 2) = true) : ∀ p ∈ pairsD, sameB s p = true := by
  intro p hp
  unfold pairsD at hp
  simp only [List.mem_cons, List.not_mem_nil, or_false] at hp
  rcases hp with rfl | rfl | rfl | rfl | rfl | rfl | rfl | rfl
  · exact h0
  · exact h1
  · exact h2
  · exact h3
  · exact h4
  · exact h5
  · exact h6
  · exact h7
theorem dif_none {s : ByteArray} (h : ∀ p ∈ pairsD, sameB s p = true) : difD s = [] := by
  unfold difD
  split
  · rfl
  · rw [List.filter_eq_nil_iff.2 (fun p hp => by rw [h p hp]; simp)]
    rfl
theorem encD_head {d : DR} (h : chkD d = 0) : bt ⟨(encD d).toArray⟩ 0 = d.typ := by
  have htt := chkD_typ h
  have hr : 0 ≤ d.typ ∧ d.typ ≤ 255 := by omega
  have e : ∃ l, encD d = u8 d.typ :: l := by
    unfold encD
    split
    · exact ⟨_, rfl⟩
    · split
      · exact ⟨_, rfl⟩
      · exact ⟨_, rfl⟩
  obtain ⟨l, e⟩ := e
  rw [e]
  have := bt_at [] l (u8 d.typ) 0 rfl
  rw [u8_nat hr] at this
  exact this
theorem encD_same {d : DR} (h : chkD d = 0) (ht : d.typ = 1 ∨ d.typ = 2) : ∀ p ∈ pairsD, sameB ⟨(encD d).toArray⟩ p = true := by
  obtain ⟨hc, hn, hi, hu, hr, htm, hz, he⟩ := chkD_prim h ht
  obtain ⟨r1, r2, r3, r4, r5, r6⟩ := ranges_of hr
  obtain ⟨_, q1, q2, q3, _⟩ := recE_zero he
  have L := lensD h ht
  rw [encD_prim ht]
  have LR := lensR hi hu he
  have a17 := At.seg L 17 156 _ rfl rfl
  have b1 := At.seg LR 1 2 _ rfl rfl
  have b2 := At.seg LR 2 10 _ rfl rfl
  have b5 := At.seg LR 5 28 _ rfl rfl
  exact all_same (same4 (At.seg L 6 80 _ rfl rfl) r1) (same2 (At.seg L 9 120 _ rfl rfl) r5) (same2 (At.seg L 10 124 _ rfl rfl) r6) (same2 (At.seg L 11 128 _ rfl rfl) (by decide)) (same4 (At.seg L 12 132 _ rfl rfl) r2)
    (same4 (a17.sub b1) q1) (same4 (a17.sub b2) q2) (same2 (a17.sub b5) q3)
/-- What is encoded has no byte orders that differ. -/
theorem dif_encD {d : DR} (h : chkD d = 0) : difD ⟨(encD d).toArray⟩ = [] := by
  by_cases ht : d.typ = 1 ∨ d.typ = 2
  · exact dif_none (encD_same h ht)
  · unfold difD
    rw [if_pos (Or.inr (by rw [encD_head h]; omega))]
/-- A byte is changed. -/
def chg (s : ByteArray) (i : Nat) (x : UInt8) : ByteArray := ⟨(s.data.toList.set i x).toArray⟩
theorem chg_size (s : ByteArray) (i : Nat) (x : UInt8) : (chg s i x).size = s.size := by
  show (s.data.toList.set i x).toArray.size = _
  rw [List.size_toArray, List.length_set]; exact Array.length_toList
theorem bt_get (s : ByteArray) (j : Nat) : bt s j = match s.data.toList[j]? with
    | some x => (x.toNat : Int)
    | none => 0 := by
  cases h : s.data.toList[j]? with
  | some x =>
    have := bt_of h
    rw [← lst s] at this
    exact this
  | none =>
    unfold bt
    rw [dif_neg]
    have := List.getElem?_eq_none_iff.1 h
    have hl : s.data.toList.length = s.size := Array.length_toList
    omega
theorem chg_list (s : ByteArray) (i : Nat) (x : UInt8) : (chg s i x).data.toList = s.data.toList.set i x := by unfold chg; simp
theorem chg_ne {s : ByteArray} {i j : Nat} {x : UInt8} (h : j ≠ i) : bt (chg s i x) j = bt s j := by
  rw [bt_get, bt_get s, chg_list, List.getElem?_set_ne (by omega)]
theorem chg_at {s : ByteArray} {i : Nat} {x : UInt8} (h : i < s.size) : bt (chg s i x) i = x.toNat := by
  rw [bt_get, chg_list, List.getElem?_set_self (by rw [Array.length_toList]; exact h)]
theorem ext_list (s : ByteArray) (a b : Nat) : (s.extract a b).data.toList = (s.data.toList.drop a).take (b - a) := by
  rw [← ByteArray.toList_eq, Lib.extract_toList]
theorem chg_ext {s : ByteArray} {i a b : Nat} {x : UInt8} (h : i < a ∨ b ≤ i) : (chg s i x).extract a b = s.extract a b := by
  apply ByteArray.ext
  apply Array.toList_inj.1
  rw [ext_list, ext_list, chg_list]
  apply List.ext_getElem?
  intro j
  rw [List.getElem?_take, List.getElem?_take]
  split
  · rename_i hj
    rw [List.getElem?_drop, List.getElem?_drop, List.getElem?_set_ne (by omega)]
  · rfl
theorem chg_in {s : ByteArray} {i a b : Nat} {x : UInt8} (h : a ≤ i) : (chg s i x).extract a b = chg (s.extract a b) (i - a) x := by
  apply ByteArray.ext
  apply Array.toList_inj.1
  rw [ext_list, chg_list, chg_list, ext_list]
  apply List.ext_getElem?
  intro j
  rw [List.getElem?_take, List.getElem?_drop, List.getElem?_set, List.getElem?_set, List.getElem?_take, List.getElem?_drop, List.length_take, List.length_drop]
  by_cases hj : j < b - a
  · rw [if_pos hj, if_pos hj]
    by_cases he : i = a + j
    · subst he
      rw [if_pos rfl, show a + j - a = j by omega, if_pos rfl]
      by_cases hl : a + j < s.data.toList.length
      · rw [if_pos hl, if_pos (by omega)]
      · rw [if_neg hl, if_neg (by omega)]
    · rw [if_neg he, if_neg (by omega)]
  · rw [if_neg hj, if_neg hj]
    split
    · split
      · omega
      · rfl
    · rfl
theorem le4_chg {s : ByteArray} {i p : Nat} {x : UInt8} (h : i < p ∨ p + 4 ≤ i) : le4 (chg s i x) p = le4 s p := by unfold le4; rw [chg_ne (by omega), chg_ne (by omega), chg_ne (by omega), chg_ne (by omega)]
theorem be4_chg {s : ByteArray} {i p : Nat} {x : UInt8} (h : i < p ∨ p + 4 ≤ i) : be4 (chg s i x) p = be4 s p := by unfold be4; rw [chg_ne (by omega), chg_ne (by omega), chg_ne (by omega), chg_ne (by omega)]
theorem le2_chg {s : ByteArray} {i p : Nat} {x : UInt8} (h : i < p ∨ p + 2 ≤ i) : le2 (chg s i x) p = le2 s p := by unfold le2; rw [chg_ne (by omega), chg_ne (by omega)]
theorem be2_chg {s : ByteArray} {i p : Nat} {x : UInt8} (h : i < p ∨ p + 2 ≤ i) : be2 (chg s i x) p = be2 s p := by unfold be2; rw [chg_ne (by omega), chg_ne (by omega)]
theorem same_chg {s : ByteArray} {i : Nat} {x : UInt8} {q : Nat × Nat} (hq : q.2 = 4 ∨ q.2 = 2) (h : i < q.1 ∨ q.1 + 2 * q.2 ≤ i) : sameB (chg s i x) q = sameB s q := by
  unfold sameB
  rcases hq with hq | hq
  · rw [if_pos hq, if_pos hq, le4_chg (by omega), be4_chg (by omega)]
  · rw [if_neg (by omega), if_neg (by omega), le2_chg (by omega), be2_chg (by omega)]
theorem same_flip {s : ByteArray} {p n : Nat} {x : UInt8} (hn : n = 4 ∨ n = 2) (hs : p + n < s.size) (h : sameB s (p, n) = true) (hx : (x.toNat : Int) ≠ bt s (p + n)) : sameB (chg s (p + n) x) (p, n) = false := by
  unfold sameB at *
  rcases hn with rfl | rfl
  · rw [if_pos rfl] at h ⊢
    have h := of_decide_eq_true h
    refine decide_eq_false ?_
    simp only at h ⊢
    rw [le4_chg (by omega)]
    unfold be4 at h ⊢
    rw [chg_at hs, chg_ne (by omega), chg_ne (by omega), chg_ne (by omega)]
    omega
  · rw [if_neg (show ¬ (2 : Nat) = 4 by decide)] at h ⊢
    have h := of_decide_eq_true h
    refine decide_eq_false ?_
    simp only at h ⊢
    rw [le2_chg (by omega)]
    unfold be2 at h ⊢
    rw [chg_at hs, chg_ne (by omega)]
    omega
theorem dif_chg {s : ByteArray} {p n : Nat} {x : UInt8} (hp : (p, n) ∈ pairsD) (hs : s.size = 2048) (h0 : bt s 0 = 1 ∨ bt s 0 = 2) (h : ∀ p ∈ pairsD, sameB s p = true) (hx : (x.toNat : Int) ≠ bt s (p + n)) : difD (chg s (p + n) x) = [p] := by
  have h1 : ¬ ((chg s (p + n) x).size ≠ 2048 ∨ (bt (chg s (p + n) x) 0 ≠ 1 ∧ bt (chg s (p + n) x) 0 ≠ 2)) := by
    have hn : (0 : Nat) ≠ p + n := by
      unfold pairsD at hp
      simp only [List.mem_cons, List.not_mem_nil, or_false, Prod.mk.injEq] at hp
      omega
    rw [chg_size, chg_ne hn]; omega
  unfold difD
  rw [if_neg h1]
  have hall := h
  unfold pairsD at hp
  simp only [List.mem_cons, List.not_mem_nil, or_false, Prod.mk.injEq] at hp
  rcases hp with ⟨rfl, rfl⟩ | ⟨rfl, rfl⟩ | ⟨rfl, rfl⟩ | ⟨rfl, rfl⟩ | ⟨rfl, rfl⟩ | ⟨rfl, rfl⟩ | ⟨rfl, rfl⟩ | ⟨rfl, rfl⟩
  · have f0 : sameB (chg s (80 + 4) x) (80, 4) = false := same_flip (by decide) (by omega) (hall _ (by unfold pairsD; simp)) hx
    have f1 : sameB (chg s (80 + 4) x) (120, 2) = true := (same_chg (by decide) (by simp)).trans (hall _ (by unfold pairsD; simp))
    have f2 : sameB (chg s (80 + 4) x) (124, 2) = true := (same_chg (by decide) (by simp)).trans (hall _ (by unfold pairsD; simp))
    have f3 : sameB (chg s (80 + 4) x) (128, 2) = true := (same_chg (by decide) (by simp)).trans (hall _ (by unfold pairsD; simp))
    have f4 : sameB (chg s (80 + 4) x) (132, 4) = true := (same_chg (by decide) (by simp)).trans (hall _ (by unfold pairsD; simp))
    have f5 : sameB (chg s (80 + 4) x) (158, 4) = true := (same_chg (by decide) (by simp)).trans (hall _ (by unfold pairsD; simp))
    have f6 : sameB (chg s (80 + 4) x) (166, 4) = true := (same_chg (by decide) (by simp)).trans (hall _ (by unfold pairsD; simp))
    have f7 : sameB (chg s (80 + 4) x) (184, 2) = true := (same_chg (by decide) (by simp)).trans (hall _ (by unfold pairsD; simp))
    simp only [pairsD, List.filter, f0, f1, f2, f3, f4, f5, f6, f7, Bool.not_true, Bool.not_false, List.map_cons, List.map_nil]
  · have f0 : sameB (chg s (120 + 2) x) (80, 4) = true := (same_chg (by decide) (by simp)).trans (hall _ (by unfold pairsD; simp))
    have f1 : sameB (chg s (120 + 2) x) (120, 2) = false := same_flip (by decide) (by omega) (hall _ (by unfold pairsD; simp)) hx
    have f2 : sameB (chg s (120 + 2) x) (124, 2) = true := (same_chg (by decide) (by simp)).trans (hall _ (by unfold pairsD; simp))
    have f3 : sameB (chg s (120 + 2) x) (128, 2) = true := (same_chg (by decide) (by simp)).trans (hall _ (by unfold pairsD; simp))
    have f4 : sameB (chg s (120 + 2) x) (132, 4) = true := (same_chg (by decide) (by simp)).trans (hall _ (by unfold pairsD; simp))
    have f5 : sameB (chg s (120 + 2) x) (158, 4) = true := (same_chg (by decide) (by simp)).trans (hall _ (by unfold pairsD; simp))
    have f6 : sameB (chg s (120 + 2) x) (166, 4) = true := (same_chg (by decide) (by simp)).trans (hall _ (by unfold pairsD; simp))
    have f7 : sameB (chg s (120 + 2) x) (184, 2) = true := (same_chg (by decide) (by simp)).trans (hall _ (by unfold pairsD; simp))
    simp only [pairsD, List.filter, f0, f1, f2, f3, f4, f5, f6, f7, Bool.not_true, Bool.not_false, List.map_cons, List.map_nil]
  · have f0 : sameB (chg s (124 + 2) x) (80, 4) = true := (same_chg (by decide) (by simp)).trans (hall _ (by unfold pairsD; simp))
    have f1 : sameB (chg s (124 + 2) x) (120, 2) = true := (same_chg (by decide) (by simp)).trans (hall _ (by unfold pairsD; simp))
    have f2 : sameB (chg s (124 + 2) x) (124, 2) = false := same_flip (by decide) (by omega) (hall _ (by unfold pairsD; simp)) hx
    have f3 : sameB (chg s (124 + 2) x) (128, 2) = true := (same_chg (by decide) (by simp)).trans (hall _ (by unfold pairsD; simp))
    have f4 : sameB (chg s (124 + 2) x) (132, 4) = true := (same_chg (by decide) (by simp)).trans (hall _ (by unfold pairsD; simp))
    have f5 : sameB (chg s (124 + 2) x) (158, 4) = true := (same_chg (by decide) (by simp)).trans (hall _ (by unfold pairsD; simp))
    have f6 : sameB (chg s (124 + 2) x) (166, 4) = true := (same_chg (by decide) (by simp)).trans (hall _ (by unfold pairsD; simp))
    have f7 : sameB (chg s (124 + 2) x) (184, 2) = true := (same_chg (by decide) (by simp)).trans (hall _ (by unfold pairsD; simp))
    simp only [pairsD, List.filter, f0, f1, f2, f3, f4, f5, f6, f7, Bool.not_true, Bool.not_false, List.map_cons, List.map_nil]
  · have f0 : sameB (chg s (128 + 2) x) (80, 4) = true := (same_chg (by decide) (by simp)).trans (hall _ (by unfold pairsD; simp))
    have f1 : sameB (chg s (128 + 2) x) (120, 2) = true := (same_chg (by decide) (by simp)).trans (hall _ (by unfold pairsD; simp))
    have f2 : sameB (chg s (128 + 2) x) (124, 2) = true := (same_chg (by decide) (by simp)).trans (hall _ (by unfold pairsD; simp))
    have f3 : sameB (chg s (128 + 2) x) (128, 2) = false := same_flip (by decide) (by omega) (hall _ (by unfold pairsD; simp)) hx
    have f4 : sameB (chg s (128 + 2) x) (132, 4) = true := (same_chg (by decide) (by simp)).trans (hall _ (by unfold pairsD; simp))
    have f5 : sameB (chg s (128 + 2) x) (158, 4) = true := (same_chg (by decide) (by simp)).trans (hall _ (by unfold pairsD; simp))
    have f6 : sameB (chg s (128 + 2) x) (166, 4) = true := (same_chg (by decide) (by simp)).trans (hall _ (by unfold pairsD; simp))
    have f7 : sameB (chg s (128 + 2) x) (184, 2) = true := (same_chg (by decide) (by simp)).trans (hall _ (by unfold pairsD; simp))
    simp only [pairsD, List.filter, f0, f1, f2, f3, f4, f5, f6, f7, Bool.not_true, Bool.not_false, List.map_cons, List.map_nil]
  · have f0 : sameB (chg s (132 + 4) x) (80, 4) = true := (same_chg (by decide) (by simp)).trans (hall _ (by unfold pairsD; simp))
    have f1 : sameB (chg s (132 + 4) x) (120, 2) = true := (same_chg (by decide) (by simp)).trans (hall _ (by unfold pairsD; simp))
    have f2 : sameB (chg s (132 + 4) x) (124, 2) = true := (same_chg (by decide) (by simp)).trans (hall _ (by unfold pairsD; simp))
    have f3 : sameB (chg s (132 + 4) x) (128, 2) = true := (same_chg (by decide) (by simp)).trans (hall _ (by unfold pairsD; simp))
    have f4 : sameB (chg s (132 + 4) x) (132, 4) = false := same_flip (by decide) (by omega) (hall _ (by unfold pairsD; simp)) hx
    have f5 : sameB (chg s (132 + 4) x) (158, 4) = true := (same_chg (by decide) (by simp)).trans (hall _ (by unfold pairsD; simp))
    have f6 : sameB (chg s (132 + 4) x) (166, 4) = true := (same_chg (by decide) (by simp)).trans (hall _ (by unfold pairsD; simp))
    have f7 : sameB (chg s (132 + 4) x) (184, 2) = true := (same_chg (by decide) (by simp)).trans (hall _ (by unfold pairsD; simp))
    simp only [pairsD, List.filter, f0, f1, f2, f3, f4, f5, f6, f7, Bool.not_true, Bool.not_false, List.map_cons, List.map_nil]
  · have f0 : sameB (chg s (158 + 4) x) (80, 4) = true := (same_chg (by decide) (by simp)).trans (hall _ (by unfold pairsD; simp))
    have f1 : sameB (chg s (158 + 4) x) (120, 2) = true := (same_chg (by decide) (by simp)).trans (hall _ (by unfold pairsD; simp))
    have f2 : sameB (chg s (158 + 4) x) (124, 2) = true := (same_chg (by decide) (by simp)).trans (hall _ (by unfold pairsD; simp))
    have f3 : sameB (chg s (158 + 4) x) (128, 2) = true := (same_chg (by decide) (by simp)).trans (hall _ (by unfold pairsD; simp))
    have f4 : sameB (chg s (158 + 4) x) (132, 4) = true := (same_chg (by decide) (by simp)).trans (hall _ (by unfold pairsD; simp))
    have f5 : sameB (chg s (158 + 4) x) (158, 4) = false := same_flip (by decide) (by omega) (hall _ (by unfold pairsD; simp)) hx
    have f6 : sameB (chg s (158 + 4) x) (166, 4) = true := (same_chg (by decide) (by simp)).trans (hall _ (by unfold pairsD; simp))
    have f7 : sameB (chg s (158 + 4) x) (184, 2) = true := (same_chg (by decide) (by simp)).trans (hall _ (by unfold pairsD; simp))
    simp only [pairsD, List.filter, f0, f1, f2, f3, f4, f5, f6, f7, Bool.not_true, Bool.not_false, List.map_cons, List.map_nil]
  · have f0 : sameB (chg s (166 + 4) x) (80, 4) = true := (same_chg (by decide) (by simp)).trans (hall _ (by unfold pairsD; simp))
    have f1 : sameB (chg s (166 + 4) x) (120, 2) = true := (same_chg (by decide) (by simp)).trans (hall _ (by unfold pairsD; simp))
    have f2 : sameB (chg s (166 + 4) x) (124, 2) = true := (same_chg (by decide) (by simp)).trans (hall _ (by unfold pairsD; simp))
    have f3 : sameB (chg s (166 + 4) x) (128, 2) = true := (same_chg (by decide) (by simp)).trans (hall _ (by unfold pairsD; simp))
    have f4 : sameB (chg s (166 + 4) x) (132, 4) = true := (same_chg (by decide) (by simp)).trans (hall _ (by unfold pairsD; simp))
    have f5 : sameB (chg s (166 + 4) x) (158, 4) = true := (same_chg (by decide) (by simp)).trans (hall _ (by unfold pairsD; simp))
    have f6 : sameB (chg s (166 + 4) x) (166, 4) = false := same_flip (by decide) (by omega) (hall _ (by unfold pairsD; simp)) hx
    have f7 : sameB (chg s (166 + 4) x) (184, 2) = true := (same_chg (by decide) (by simp)).trans (hall _ (by unfold pairsD; simp))
    simp only [pairsD, List.filter, f0, f1, f2, f3, f4, f5, f6, f7, Bool.not_true, Bool.not_false, List.map_cons, List.map_nil]
  · have f0 : sameB (chg s (184 + 2) x) (80, 4) = true := (same_chg (by decide) (by simp)).trans (hall _ (by unfold pairsD; simp))
    have f1 : sameB (chg s (184 + 2) x) (120, 2) = true := (same_chg (by decide) (by simp)).trans (hall _ (by unfold pairsD; simp))
    have f2 : sameB (chg s (184 + 2) x) (124, 2) = true := (same_chg (by decide) (by simp)).trans (hall _ (by unfold pairsD; simp))
    have f3 : sameB (chg s (184 + 2) x) (128, 2) = true := (same_chg (by decide) (by simp)).trans (hall _ (by unfold pairsD; simp))
    have f4 : sameB (chg s (184 + 2) x) (132, 4) = true := (same_chg (by decide) (by simp)).trans (hall _ (by unfold pairsD; simp))
    have f5 : sameB (chg s (184 + 2) x) (158, 4) = true := (same_chg (by decide) (by simp)).trans (hall _ (by unfold pairsD; simp))
    have f6 : sameB (chg s (184 + 2) x) (166, 4) = true := (same_chg (by decide) (by simp)).trans (hall _ (by unfold pairsD; simp))
    have f7 : sameB (chg s (184 + 2) x) (184, 2) = false := same_flip (by decide) (by omega) (hall _ (by unfold pairsD; simp)) hx
    simp only [pairsD, List.filter, f0, f1, f2, f3, f4, f5, f6, f7, Bool.not_true, Bool.not_false, List.map_cons, List.map_nil]
/-- Nothing is read there. -/
def FreeD (i : Nat) : Prop := ¬ (40 ≤ i ∧ i < 72) ∧ ¬ (80 ≤ i ∧ i < 84) ∧ ¬ (88 ≤ i ∧ i < 91) ∧ ¬ (120 ≤ i ∧ i < 122) ∧ ¬ (124 ≤ i ∧ i < 126) ∧ ¬ (128 ≤ i ∧ i < 130) ∧ ¬ (132 ≤ i ∧ i < 136) ∧ ¬ (140 ≤ i ∧ i < 144) ∧ ¬ (148 ≤ i ∧ i < 152) ∧ ¬ (190 ≤ i ∧ i < 702) ∧ ¬ (813 ≤ i ∧ i < 830) ∧ i ≠ 881
theorem body_chg {s : ByteArray} {i : Nat} {x : UInt8} (h7 : 7 ≤ i) (hf : FreeD i) (hr : decR ((chg s i x).extract 156 190) = decR (s.extract 156 190)) : bodyD (chg s i x) = bodyD s := by
  obtain ⟨f1, f2, f3, f4, f5, f6, f7, f8, f9, f10, f11, f12⟩ := hf
  unfold bodyD
  rw [hr, chg_ne (j := 0) (by omega), chg_ext (a := 40) (by omega), chg_ext (a := 190) (by omega), chg_ext (a := 318) (by omega), chg_ext (a := 446) (by omega), chg_ext (a := 574) (by omega), chg_ext (a := 813) (by omega), le2_chg (p := 124) (by omega), le2_chg (p := 120) (by omega), le4_chg (p := 80) (by omega), le4_chg (p := 132) (by omega), le4_chg (p := 140) (by omega), be4_chg (p := 148) (by omega)]
theorem good_chg {s : ByteArray} {i : Nat} {x : UInt8} (h7 : 7 ≤ i) (hf : FreeD i) (hr : decR ((chg s i x).extract 156 190) = decR (s.extract 156 190)) : goodD (chg s i x) = goodD s := by
  have hb := body_chg h7 hf hr
  obtain ⟨f1, f2, f3, f4, f5, f6, f7, f8, f9, f10, f11, f12⟩ := hf
  unfold goodD rightD
  rw [hb, hr, chg_ne (j := 0) (by omega), chg_ext (a := 40) (by omega), chg_ext (a := 190) (by omega), chg_ext (a := 318) (by omega), chg_ext (a := 446) (by omega), chg_ext (a := 574) (by omega), chg_ext (a := 813) (by omega)]
/-- A byte that is not read may change. -/
theorem dec_chg {s : ByteArray} {i : Nat} {x : UInt8} (h7 : 7 ≤ i) (hb : bt s 0 = 0 → 30 ≤ i ∧ ¬ (71 ≤ i ∧ i < 75)) (hp : bt s 0 = 1 ∨ bt s 0 = 2 → FreeD i ∧ decR ((chg s i x).extract 156 190) = decR (s.extract 156 190)) : decD (chg s i x) = decD s := by
  have q0 : bt (chg s i x) 0 = bt s 0 := chg_ne (by omega)
  have q1 : (chg s i x).extract 1 7 = s.extract 1 7 := chg_ext (by omega)
  unfold decD
  rw [chg_size, q1, q0]
  by_cases c1 : s.size ≠ 2048
  · rw [if_pos c1, if_pos c1]
  rw [if_neg c1, if_neg c1]
  by_cases c2 : s.extract 1 7 ≠ stdS
  · rw [if_pos c2, if_pos c2]
  rw [if_neg c2, if_neg c2]
  by_cases c3 : bt s 0 = 255
  · rw [if_pos c3, if_pos c3]
  rw [if_neg c3, if_neg c3]
  by_cases c4 : bt s 0 = 0
  · obtain ⟨g1, g2⟩ := hb c4
    rw [if_pos c4, if_pos c4, chg_ext (a := 7) (by omega), le4_chg (p := 71) (by omega)]
  rw [if_neg c4, if_neg c4]
  have hn := bt_nonneg s 0
  by_cases c5 : bt s 0 = 1 ∨ bt s 0 = 2
  · obtain ⟨hf, hr⟩ := hp c5
    rw [good_chg h7 hf hr, body_chg h7 hf hr]
    obtain ⟨f1, f2, f3, f4, f5, f6, f7, f8, f9, f10, f11, f12⟩ := hf
    have he : escB (chg s i x) = escB s := by unfold escB; rw [chg_ne (by omega), chg_ne (by omega), chg_ne (by omega)]
    rw [he, le2_chg (p := 128) (by omega), chg_ne (j := 881) (by omega)]
  · rw [if_pos (Or.inl (by omega)), if_pos (Or.inl (by omega))]
theorem decR_chg {s : ByteArray} {j : Nat} {x : UInt8} (h : j = 6 ∨ j = 14 ∨ j = 30) : decR (chg s j x) = decR s := by
  have e0 : bt (chg s j x) 0 = bt s 0 := chg_ne (by omega)
  have e1 : bt (chg s j x) 1 = bt s 1 := chg_ne (by omega)
  have e25 : bt (chg s j x) 25 = bt s 25 := chg_ne (by omega)
  have e26 : bt (chg s j x) 26 = bt s 26 := chg_ne (by omega)
  have e27 : bt (chg s j x) 27 = bt s 27 := chg_ne (by omega)
  have e32 : bt (chg s j x) 32 = bt s 32 := chg_ne (by omega)
  have x18 : (chg s j x).extract 18 25 = s.extract 18 25 := chg_ext (by omega)
  have x33 : ∀ b, (chg s j x).extract 33 b = s.extract 33 b := fun b => chg_ext (by omega)
  unfold decR
  rw [chg_size, e0, e1, e25, e26, e27, e32, x18, le4_chg (p := 2) (by omega), le4_chg (p := 10) (by omega), le2_chg (p := 28) (by omega), x33]
  have hp : 34 ≤ padN (bt s 32).toNat ∨ bt s 32 = 0 := by
    have := bt_nonneg s 32
    unfold padN
    omega
  rcases hp with hp | hp
  · rw [chg_ext (a := padN (bt s 32).toNat) (by omega)]
  · split
    · rfl
    · rw [if_pos (by omega), if_pos (by omega)]
/-- A byte of the big-endian half of a number of an encoded descriptor is not read. -/
theorem dec_half {s : ByteArray} {p n : Nat} {x : UInt8} (hp : (p, n) ∈ pairsD) (h0 : bt s 0 = 1 ∨ bt s 0 = 2) : decD (chg s (p + n) x) = decD s := by
  unfold pairsD at hp
  simp only [List.mem_cons, List.not_mem_nil, or_false, Prod.mk.injEq] at hp
  refine dec_chg (by omega) (by omega) (fun _ => ⟨by unfold FreeD; omega, ?_⟩)
  by_cases hr : 156 ≤ p + n ∧ p + n < 190
  · rw [chg_in (by omega)]
    exact decR_chg (by omega)
  · rw [chg_ext (by omega)]
end Go.Proofs.YtjbhokmkmapkoaaGreatDoor
namespace Go.Proofs.YtjbhokmkmapkoaaGreatDoor
set_option linter.unusedSimpArgs false
set_option linter.unusedVariables false
open Go.RowKit
open Go.PlainAid (bt get_bt bt_nonneg bt_le bt_end)
def pA (k : Nat) : Nat := (pairsD.getD k (0, 0)).1
def pN (k : Nat) : Nat := (pairsD.getD k (0, 0)).2
theorem eight {k : Nat} (h : k < 8) : k = 0 ∨ k = 1 ∨ k = 2 ∨ k = 3 ∨ k = 4 ∨ k = 5 ∨ k = 6 ∨ k = 7 := by omega
/-- The offsets and sizes, as cells. -/
def difC : Array Value := #[.int .i64 80, .int .i64 4, .int .i64 120, .int .i64 2, .int .i64 124, .int .i64 2, .int .i64 128, .int .i64 2, .int .i64 132, .int .i64 4, .int .i64 158, .int .i64 4, .int .i64 166, .int .i64 4, .int .i64 184, .int .i64 2]
def difO : Array Value := #[.int .i64 80, .int .i64 120, .int .i64 124, .int .i64 128, .int .i64 132, .int .i64 158, .int .i64 166, .int .i64 184]
def difZ : Array Value := #[.int .i64 4, .int .i64 2, .int .i64 2, .int .i64 2, .int .i64 4, .int .i64 4, .int .i64 4, .int .i64 2]
theorem dif_at (k : Nat) (h : k < 8) : difC[k * 2]? = some (.int .i64 (pA k)) ∧ difC[k * 2 + 1]? = some (.int .i64 (pN k)) ∧ difO[k]? = some (.int .i64 (pA k)) ∧ difZ[k]? = some (.int .i64 (pN k)) := by
  rcases eight h with rfl | rfl | rfl | rfl | rfl | rfl | rfl | rfl <;> exact ⟨rfl, rfl, rfl, rfl⟩
theorem dif_in (k : Nat) (h : k < 8) : (pN k = 4 ∨ pN k = 2) ∧ pA k + 2 * pN k ≤ 2048 ∧ pairsD[k]? = some (pA k, pN k) := by
  rcases eight h with rfl | rfl | rfl | rfl | rfl | rfl | rfl | rfl <;> exact ⟨by decide, by decide, rfl⟩
def difK (s : ByteArray) (k : Nat) : List Nat := ((pairsD.take k).filter fun p => !sameB s p).map (·.1)
theorem difK_y {s : ByteArray} {k : Nat} (h : k < 8) (hs : sameB s (pA k, pN k) = true) : difK s (k + 1) = difK s k := by
  unfold difK
  rw [List.take_add_one, (dif_in k h).2.2, List.filter_append, List.map_append]
  simp [hs]
theorem difK_n {s : ByteArray} {k : Nat} (h : k < 8) (hs : sameB s (pA k, pN k) = false) : difK s (k + 1) = difK s k ++ [pA k] := by
  unfold difK
  rw [List.take_add_one, (dif_in k h).2.2, List.filter_append, List.map_append]
  simp [hs]
theorem difK_len (s : ByteArray) (k : Nat) : (difK s k).length ≤ 8 := by
  unfold difK
  rw [List.length_map]
  refine Nat.le_trans (List.length_filter_le _ _) ?_
  rw [List.length_take]
  show min k 8 ≤ 8
  omega
theorem difK_all {s : ByteArray} (h : s.size = 2048) (h0 : bt s 0 = 1 ∨ bt s 0 = 2) : difD s = difK s 8 := by
  unfold difD
  rw [if_neg (by omega)]
  rfl
def difV (l : List Nat) : List Value := l.map fun (n : Nat) => .int .i64 (n : Int)
/-- The answer of Differ: a row of the call's own. -/
def DifP (s : ByteArray) (w : World) (e : Ending) (w' : World) : Prop := ∃ v, e = .returned v ∧ w'.ownsRow w.heap.size 3 1 v (difD s).length (difV (difD s)) ∧ Below w.heap.size w w'
theorem DifP.nil {s : ByteArray} {w w' : World} (h : difD s = []) (hb : Below w.heap.size w w') : DifP s w (.returned (.slice none 0 0)) w' := by
  unfold DifP; rw [h]; exact ⟨_, rfl, World.ownsRow_nil _ _ _ _, hb⟩
theorem row_mono {w : World} {base base' : Nat} {e : TypeId} {size : Nat} {v : Value} {n : Nat} {xs : List Value} (h : w.ownsRow base e size v n xs) (hb : base' ≤ base) : w.ownsRow base' e size v n xs :=
  ⟨h.1, h.2.imp id fun ⟨g, cap, cur, hv, hg, r⟩ => ⟨g, cap, cur, hv, Nat.le_trans hb hg, r⟩⟩
theorem difV_snoc (l : List Nat) (n : Nat) : difV (l ++ [n]) = difV l ++ [.int .i64 (n : Int)] := by unfold difV; rw [List.map_append]; rfl
theorem rb_any (s : ByteArray) (p n : Nat) (hs : s.size ≤ 100000) (hn : n = 4 ∨ n = 2) (hp : p + 2 * n ≤ s.size) (w : World) : Calls Tryz.prog 65 #[.string s, .int .i64 p, .int .i64 n] w fun e w' => ∃ v, e = .returned (.tuple #[.int .i64 v, .bool (sameB s (p, n)), .int .i64 0]) ∧ Below w.heap.size w w' := by
  rcases hn with rfl | rfl
  · exact (readboth4 s p hs (by omega) w).mono fun e w' h => ⟨_, h⟩
  · exact (readboth2 s p hs (by omega) w).mono fun e w' h => ⟨_, h⟩
theorem rrb_any (s : ByteArray) (p n : Nat) (hs : s.size ≤ 100000) (hn : n = 4 ∨ n = 2) (hp : p + 2 * n ≤ s.size) (w : World) : Calls Tryz.prog 66 #[.string s, .int .i64 p, .int .i64 n] w fun e w' => ∃ v, e = .returned (.tuple #[.int .i64 v, .bool (sameB s (p, n)), .int .i64 0]) ∧ Below w.heap.size w w' := by
  rcases hn with rfl | rfl
  · exact (rreadboth4 s p hs (by omega) w).mono fun e w' h => ⟨_, h⟩
  · exact (rreadboth2 s p hs (by omega) w).mono fun e w' h => ⟨_, h⟩
theorem dif_no {s : ByteArray} (h : s.size ≠ 2048 ∨ (bt s 0 ≠ 1 ∧ bt s 0 ≠ 2)) : difD s = [] := by unfold difD; rw [if_pos h]
end Go.Proofs.YtjbhokmkmapkoaaGreatDoor
namespace Go.Proofs.YtjbhokmkmapkoaaGreatDoor
set_option linter.unusedSimpArgs false
set_option linter.unusedVariables false
open Go.RowKit
open Go.PlainAid (bt get_bt bt_nonneg bt_le bt_end)
set_option maxRecDepth 100000 in
set_option maxHeartbeats 4000000 in
theorem differ_any (s : ByteArray) (h100 : s.size ≤ 100000) (w : World) : Calls Tryz.prog 20 #[.string s] w (DifP s w) := by
  have hbb := get_bt s
  by_cases hsz : s.size = 2048
  case neg =>
    have HD := hide (dif_no (s := s) (Or.inl hsz))
    have q : ((s.size : Int) != 2048) = true := by simp; omega
    clear hsz
    have HL : Live w [] := trivial
    go_enter Tryz.func20, Tryz.ntmps20
    go_wp2
    go_ret
    exact DifP.nil HD.out (by (exact bl))
  case pos =>
  have q : ((s.size : Int) != 2048) = false := by simp; omega
  have n0 : 0 < s.size := by omega
  have i0 : (0 : Int) < (s.size : Int) := by omega
  have HS := hide hsz
  by_cases h12 : bt s 0 = 1 ∨ bt s 0 = 2
  case neg =>
    have HD := hide (dif_no (s := s) (Or.inr (by omega)))
    have q1 : (bt s 0 != 1) = true := by simp; omega
    have q2 : (bt s 0 != 2) = true := by simp; omega
    clear hsz h12
    have HL : Live w [] := trivial
    go_enter Tryz.func20, Tryz.ntmps20
    go_wp2
    go_ret
    exact DifP.nil HD.out (by (exact bl))
  case pos =>
  have HD := hide (difK_all hsz h12)
  have H12 := hide h12
  clear hsz h12
  obtain ⟨i0', hi, hz0, hz1, hz2⟩ := info_parts intInfo
  have HL : Live w [] := trivial
  go_enter Tryz.func20, Tryz.ntmps20
  go_upto_region 1 with fail
  go_cut [21] (fun v wx => v = .bool false ∧ w = wx)
  case first =>
    rcases H12.out with h | h
    · have q1 : (bt s 0 != 1) = false := by rw [h]; rfl
      clear h
      go_wp2
      go_meet
      exact ⟨rfl, rfl⟩
    · have q1 : (bt s 0 != 1) = true := by rw [h]; rfl
      have q2 : (bt s 0 != 2) = false := by rw [h]; rfl
      clear h
      go_wp2
      go_meet
      exact ⟨rfl, rfl⟩
  case rest =>
  obtain ⟨rfl, rfl⟩ := hcut
  clear hbb q n0 i0
  go_upto_block 0 with fail
  have hB : Blk (w.alloc (.cells difC 88)) w.heap.size difC 88 := Blk.newAt rfl
  have hbel0 : Below w.heap.size w (w.alloc (.cells difC 88)) := by (exact bl)
  have hlt0 : w.heap.size < (w.alloc (.cells difC 88)).heap.size := hB.lt
  unfold difC at hB hbel0 hlt0
  generalize w.alloc (.cells #[.int .i64 80, .int .i64 4, .int .i64 120, .int .i64 2, .int .i64 124, .int .i64 2, .int .i64 128, .int .i64 2, .int .i64 132, .int .i64 4, .int .i64 158, .int .i64 4, .int .i64 166, .int .i64 4, .int .i64 184, .int .i64 2] 88) = W1 at *
  have hB' : Blk W1 w.heap.size difC 88 := hB
  clear hB
  obtain ⟨g, hg⟩ : ∃ g, g = w.heap.size := ⟨_, rfl⟩
  rw [← hg] at hB' hlt0 ⊢
  have HGE := hide hg
  clear hg
  go_wp2_with fail
  go_loopw [32, 3] (fun i out wr => ∃ k : Nat, k ≤ 8 ∧ i = .int .i64 k ∧ wr.ownsRow W1.heap.size 3 1 out (difK s k).length (difV (difK s k)) ∧ Below W1.heap.size W1 wr ∧ Blk wr g difC 88) (fun i _ _ => 8 - (intOf i).toNat)
  case atStart => exact ⟨0, by omega, rfl, World.ownsRow_nil _ _ _ _, Below.refl _ _, hB'⟩
  case round =>
    obtain ⟨k, hk8, rfl, hown, hbel, hgr⟩ := hrel
    have hszr := hbel.size
    by_cases hk : k < 8
    case pos =>
      obtain ⟨hf0, hf1, _, _⟩ := dif_at k hk
      obtain ⟨hn, hin, _⟩ := dif_in k hk
      have HY := hide (fun h => difK_y (s := s) hk h)
      have HN := hide (fun h => difK_n (s := s) hk h)
      have hln := difK_len s k
      have hz := HS.out
      have RB := hide (fun W => rb_any s (pA k) (pN k) h100 hn (by omega) W)
      generalize pA k = p at *
      generalize pN k = n at *
      have f0 := (hgr.cells (k * 2)).trans hf0
      have f1 := (hgr.cells (k * 2 + 1)).trans hf1
      clear hf0 hf1 hn hin hz
      have HO := hide hown
      have HGr := hide hgr
      have HBe := hide hbel
      clear hown hgr hbel
      go_upto_region 7 with fail
      have HX : Blk (wr.alloc (.cells #[.int .i64 (p : Nat), .int .i64 (n : Nat)] 88)) wr.heap.size #[.int .i64 (p : Nat), .int .i64 (n : Nat)] 88 := Blk.newAt rfl
      have HOa := hide (HO.out.alloc (.cells #[.int .i64 (p : Nat), .int .i64 (n : Nat)] 88))
      have HGa := hide (HGr.out.alloc (.cells #[.int .i64 (p : Nat), .int .i64 (n : Nat)] 88))
      have HBa := hide (HBe.out.alloc hszr (.cells #[.int .i64 (p : Nat), .int .i64 (n : Nat)] 88))
      have hza : W1.heap.size ≤ (wr.alloc (.cells #[.int .i64 (p : Nat), .int .i64 (n : Nat)] 88)).heap.size := by rw [World.size_alloc]; omega
      generalize wr.alloc (.cells #[.int .i64 (p : Nat), .int .i64 (n : Nat)] 88) = Wa at *
      generalize wr.heap.size = b at *
      have x0 : Wa.cell? ⟨b, 0, none⟩ = some (.int .i64 (p : Nat)) := HX.cells 0
      have x1 : Wa.cell? ⟨b, 1, none⟩ = some (.int .i64 (n : Nat)) := HX.cells 1
      clear f0 f1 HO HGr HBe
      go_upto_region 8 with (go_at_call 65; refine (RB.out _).mono ?_; rintro e w1 ⟨v, rfl, hb1⟩)
      have HX1 := Blk.below hb1 HX
      have HO1 := hide (ownsRow_below HOa.out hb1)
      have HG1 := hide (Blk.below hb1 HGa.out)
      have HB1 := hide (HBa.out.trans (hb1.mono HBa.out.size))
      have hz1' : W1.heap.size ≤ w1.heap.size := by have := hb1.size; omega
      have y0 : w1.cell? ⟨b, 0, none⟩ = some (.int .i64 (p : Nat)) := HX1.cells 0
      clear x0 x1 HX hb1 HOa HGa HBa hza HX1 RB
      cases hsm : sameB s (p, n)
      case true =>
        have HE := hide (HY.out hsm)
        clear hsm
        go_wp2_with fail
        go_roundw
        case rel => exact ⟨k + 1, by omega, by go_num, by rw [HE.out]; exact HO1.out, HB1.out, HG1.out⟩
        case measure => simp [intOf]; omega
      case false =>
        have HE := hide (HN.out hsm)
        clear hsm
        go_wp2_with (at_builtin; refine wpList_append_one _ rfl _ _ 37 rfl W1.heap.size 3 intInfo Tryz.underlying37 rfl (by decide) _ _ _ HO1.out #[.int .i64 (p : Nat)] rfl rfl rfl (by simp [Value.oneCell']) (by unfold maxLen; omega) (by omega) (by omega) ?_; intro v2 w2 hown2 hb2 hot2 hz2)
        go_roundw
        case rel => exact ⟨k + 1, by omega, by go_num, by rw [HE.out, difV_snoc, List.length_append]; exact hown2, HB1.out.trans hb2, Blk.under hb2 (by omega) HG1.out⟩
        case measure => simp [intOf]; omega
    case neg =>
      have ek : k = 8 := by omega
      subst ek
      have HO := hide hown
      clear hown
      go_wp2_with fail
      go_ret
      refine ⟨_, rfl, ?_, hbel0.trans (hbel.mono hbel0.size)⟩
      rw [HD.out]
      exact row_mono HO.out (by rw [← HGE.out]; omega)
end Go.Proofs.YtjbhokmkmapkoaaGreatDoor
