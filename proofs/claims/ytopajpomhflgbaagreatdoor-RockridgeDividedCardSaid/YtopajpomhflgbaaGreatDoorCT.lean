/- Contracts of sourcetree.Target (in the making). -/
import Derived.Test.YtopajpomhflgbaaGreatDoorCD
import Derived.Test.YtopajpomhflgbaaGreatDoorCPQRS
namespace Go.Proofs.YtopajpomhflgbaaGreatDoor
set_option linter.unusedSimpArgs false
set_option linter.unusedVariables false
open Go.RowKit

def partB (p : ByteArray) : Bool := decide (p = dot) || decide (p = dots) || nameB p
/-- What stands behind a slash at the beginning. -/
def strip (s : ByteArray) : ByteArray := ⟨(Lib.trimPrefix s.data.toList [47]).toArray⟩
def words (s : ByteArray) : List ByteArray := Lib.splitB slash 0 (Lib.countB s slash) s
def targetB (s : ByteArray) : Bool := decide (1 ≤ s.size ∧ s.size ≤ 128) && (decide (s = slash) || (words (strip s)).all partB)
/-- What the world holds for the library: the decoder's tables, and bytealg's length. -/
def TabV (w : World) : Prop := TabU w ∧ ∃ m, w.cell? ⟨0, 0, none⟩ = some (.int .i64 m)
theorem TabV.below {w w' : World} (h : TabV w) (hb : Below w.heap.size w w') : TabV w' := by
  obtain ⟨h1, m, hm⟩ := h
  exact ⟨h1.below hb, m, (hb.cell (p := ⟨_, 0, none⟩) (cell_lt hm)).trans hm⟩
theorem trimC (s : ByteArray) (hs : s.size ≤ 60000) (w : World) : Calls Tryz.prog 72 #[.string s, .string ⟨#[47]⟩] w fun e w' => e = .returned (.string (strip s)) ∧ w = w' :=
  (Any.strings_TrimPrefix Tryz.lays101 s ⟨#[47]⟩ w).mono fun e w' ⟨he, hw⟩ => ⟨he, hw.symm⟩
theorem strip_size (s : ByteArray) : (strip s).size ≤ s.size := by
  show ((Lib.trimPrefix s.data.toList [47]).toArray).size ≤ s.data.size
  rw [List.size_toArray]
  unfold Lib.trimPrefix
  split
  · rw [List.length_drop, Array.length_toList]; omega
  · rw [Array.length_toList]; exact Nat.le_refl _
theorem splitC (x : ByteArray) (hx : x.size ≤ 60000) (w : World) (hT : TabV w) : Calls Tryz.prog 44 #[.string x, .string ⟨#[47]⟩] w fun e w' =>
    e = .returned (.slice (some ⟨w.heap.size, 0, none⟩) (Lib.countB x slash + 1) (Lib.countB x slash + 1)) ∧ w' = w.alloc (.cells ((words x).map Value.string).toArray 9) := by
  obtain ⟨-, m, hm⟩ := hT
  exact Any.strings_Split { Tryz.laysM146 with } Tryz.laysM146.i9 x slash m w (by omega) hm (by decide)
theorem piece_size (sep : ByteArray) (sv : Nat) : ∀ (k : Nat) (s p : ByteArray), p ∈ Lib.splitB sep sv k s → p.size ≤ s.size
  | 0, s, p, h => by
    rw [Lib.splitB_zero] at h
    simp at h; rw [h]; exact Nat.le_refl _
  | k + 1, s, p, h => by
    rcases Lib.indexB_cases s sep with hm | ⟨i, hi, _⟩
    · rw [Lib.splitB_miss _ _ _ _ hm] at h
      simp at h; rw [h]; exact Nat.le_refl _
    · rw [Lib.splitB_hit _ _ _ _ i hi] at h
      rcases List.mem_cons.1 h with rfl | h
      · simp; omega
      · have := piece_size sep sv k _ p h
        have e : (s.extract (i + sep.size) s.size).size ≤ s.size := by simp
        omega
theorem words_len (x : ByteArray) : (words x).length = Lib.countB x slash + 1 := Lib.splitB_all slash (by decide) 0 _ x rfl
theorem target_short {s : ByteArray} (h : ¬ (1 ≤ s.size ∧ s.size ≤ 128)) : targetB s = false := by unfold targetB; simp [h]
theorem target_all {s : ByteArray} (h : 1 ≤ s.size ∧ s.size ≤ 128) (hs : s ≠ slash) : targetB s = (words (strip s)).all partB := by unfold targetB; simp [h, hs]
theorem part_dot {p : ByteArray} (h : p = dot ∨ p = dots) : partB p = true := by unfold partB; rcases h with h | h <;> simp [h]
theorem part_name {p : ByteArray} (h1 : p ≠ dot) (h2 : p ≠ dots) : partB p = nameB p := by unfold partB; simp [h1, h2]
def TakeOK (ws : List ByteArray) (i : Nat) : Prop := ∀ j, j < i → ∀ p, ws[j]? = some p → partB p = true
theorem TakeOK.next {ws : List ByteArray} {i : Nat} {p : ByteArray} (h : TakeOK ws i) (hp : ws[i]? = some p) (hg : partB p = true) : TakeOK ws (i + 1) := fun j hj q hq => by
  rcases Nat.lt_or_ge j i with h' | h'
  · exact h j h' q hq
  · obtain rfl : j = i := by omega
    rw [hp] at hq; injection hq with hq; rw [← hq]; exact hg
theorem TakeOK.all {ws : List ByteArray} (h : TakeOK ws ws.length) : ws.all partB = true := by
  rw [List.all_eq_true]
  intro p hp
  obtain ⟨j, hj, e⟩ := List.getElem_of_mem hp
  exact h j hj p (by rw [List.getElem?_eq_getElem hj, e])
theorem all_no {ws : List ByteArray} {i : Nat} {p : ByteArray} (hp : ws[i]? = some p) (hb : partB p = false) : ws.all partB = false := by
  rw [List.all_eq_false]
  exact ⟨p, List.mem_of_getElem? hp, by rw [hb]; simp⟩
set_option maxHeartbeats 4000000 in
theorem target_any (s : ByteArray) (hs : s.size ≤ 60000) (w : World) (hT : TabV w) : Calls Tryz.prog 39 #[.string s] w fun e w' => e = .returned (.bool (targetB s)) ∧ Below w.heap.size w w' := by
  by_cases h1 : 1 ≤ s.size
  case neg =>
    have e := hide (target_short (s := s) (by omega))
    have HL : Live w [] := trivial
    go_enter Tryz.func39, Tryz.ntmps39
    go_wp2
    go_ret
    exact ⟨ret_b e.out.symm, by (repeat' (first | (with_reducible exact Below.refl _ _) | (with_reducible refine Below.alloc ?_ ?_ _) | (with_reducible refine Below.setCell ?_ ?_ _) | (with_reducible refine Below.drew ?_) | (with_reducible refine below_drewN' ?_) | (with_reducible refine below_bytesW ?_ ?_) | (with_reducible refine Below.trans ?_ (Below.mono (by assumption) ?_)) | omega | (simp only [World.size_alloc, World.size_setCell, World.size_drew]; omega) | (simp [size_bytesW]; omega) | (simp; omega)))⟩
  by_cases h2 : s.size ≤ 128
  case neg =>
    have e := hide (target_short (s := s) (by omega))
    have HL : Live w [] := trivial
    go_enter Tryz.func39, Tryz.ntmps39
    go_wp2
    go_ret
    exact ⟨ret_b e.out.symm, by (repeat' (first | (with_reducible exact Below.refl _ _) | (with_reducible refine Below.alloc ?_ ?_ _) | (with_reducible refine Below.setCell ?_ ?_ _) | (with_reducible refine Below.drew ?_) | (with_reducible refine below_drewN' ?_) | (with_reducible refine below_bytesW ?_ ?_) | (with_reducible refine Below.trans ?_ (Below.mono (by assumption) ?_)) | omega | (simp only [World.size_alloc, World.size_setCell, World.size_drew]; omega) | (simp [size_bytesW]; omega) | (simp; omega)))⟩
  by_cases h3 : s = slash
  case pos =>
    subst h3
    have e : targetB slash = true := by decide +kernel
    unfold slash at *
    have HL : Live w [] := trivial
    go_enter Tryz.func39, Tryz.ntmps39
    go_wp2
    go_ret
    exact ⟨ret_b e.symm, by (repeat' (first | (with_reducible exact Below.refl _ _) | (with_reducible refine Below.alloc ?_ ?_ _) | (with_reducible refine Below.setCell ?_ ?_ _) | (with_reducible refine Below.drew ?_) | (with_reducible refine below_drewN' ?_) | (with_reducible refine below_bytesW ?_ ?_) | (with_reducible refine Below.trans ?_ (Below.mono (by assumption) ?_)) | omega | (simp only [World.size_alloc, World.size_setCell, World.size_drew]; omega) | (simp [size_bytesW]; omega) | (simp; omega)))⟩
  have q1 : (s.toList == [47]) = false := eq_list h3
  have E := hide (target_all ⟨h1, h2⟩ h3)
  have TRM := hide (fun W => trimC s hs W)
  have hst := strip_size s
  have hwl := words_len (strip s)
  have hps : ∀ p ∈ words (strip s), p.size ≤ (strip s).size := fun p hp => piece_size slash 0 _ _ p hp
  have HL : Live w [] := trivial
  go_enter Tryz.func39, Tryz.ntmps39
  go_wp2_with (first | (go_at_call 72; (with_reducible refine (TRM.out _).mono ?_); rintro e w' ⟨rfl, rfl⟩))
  refine (splitC (strip s) (by omega) _ hT).mono ?_
  rintro e w' ⟨rfl, rfl⟩
  rw [← hwl]
  have hmx : (words (strip s)).length ≤ 60001 := by rw [hwl]; have := Lib.countB_le slash (by decide) (strip s).size (strip s) (Nat.le_refl _); omega
  clear hwl
  generalize words (strip s) = ws at *
  go_wp2_with fail
  go_loopw [19] (fun c wr => ∃ i : Nat, i ≤ ws.length ∧ c = .int .i64 i ∧ TakeOK ws i ∧ Below w.heap.size w wr ∧ Blk wr w.heap.size (ws.map Value.string).toArray 9) (fun c _ => ws.length - (intOf c).toNat)
  case atStart => exact ⟨0, by omega, rfl, fun j hj => by omega, by (repeat' (first | (with_reducible exact Below.refl _ _) | (with_reducible refine Below.alloc ?_ ?_ _) | (with_reducible refine Below.setCell ?_ ?_ _) | (with_reducible refine Below.drew ?_) | (with_reducible refine below_drewN' ?_) | (with_reducible refine below_bytesW ?_ ?_) | (with_reducible refine Below.trans ?_ (Below.mono (by assumption) ?_)) | omega | (simp only [World.size_alloc, World.size_setCell, World.size_drew]; omega) | (simp [size_bytesW]; omega) | (simp; omega))), Blk.newAt rfl⟩
  case round =>
    obtain ⟨i, hi, rfl, hok, hbel, hB⟩ := hrel
    have HK := hide hok
    clear hok
    have hsz := hbel.size
    have hTr := hT.1.below hbel
    by_cases hlt : i < ws.length
    · obtain ⟨p, hp⟩ : ∃ p, ws[i]? = some p := ⟨_, List.getElem?_eq_getElem hlt⟩
      have hcell : wr.cell? ⟨w.heap.size, i, none⟩ = some (.string p) := by rw [hB.cells]; simp [hp]
      have hpm : p.size ≤ 60000 := by have := hps p (List.mem_of_getElem? hp); omega
      have HP := hide hp
      have NM := hide (fun W hW => name_any p hpm W hW)
      clear hp hps
      by_cases d1 : p = dot
      · have hgood := hide (part_dot (Or.inl d1))
        subst d1
        unfold dot at hcell
        go_wp2
        go_roundw
        case rel => exact ⟨i + 1, by omega, by go_num, HK.out.next HP.out hgood.out, hbel, hB⟩
        case measure => simp [intOf]; omega
      by_cases d2 : p = dots
      · have hgood := hide (part_dot (Or.inr d2))
        subst d2
        unfold dots at hcell
        go_wp2
        go_roundw
        case rel => exact ⟨i + 1, by omega, by go_num, HK.out.next HP.out hgood.out, hbel, hB⟩
        case measure => simp [intOf]; omega
      have g1 : (p.toList == [46]) = false := eq_list d1
      have g2 : (p.toList == [46, 46]) = false := eq_list d2
      have hpn := hide (part_name d1 d2)
      have HL : Live wr [w.heap.size] := ⟨hB.lt, trivial⟩
      cases hn : nameB p
      · have hbad := hide (by rw [hpn.out, hn] : partB p = false)
        go_wp2_with (first | (go_at_call 55; (with_reducible refine (NM.out _ hTr).mono ?_); rintro e w' ⟨rfl, hb⟩; have hz := hb.size; (try simp only [World.size_alloc, World.size_setCell, World.size_drew, Nat.add_assoc, Nat.reduceAdd] at hz); (first | obtain ⟨HL, hk⟩ := HL.call hb hz (by simp only [World.size_alloc, World.size_setCell, World.size_drew, Nat.add_assoc, Nat.reduceAdd]) | obtain ⟨HL, hk⟩ := HL.call0 hb hz (by first | rfl | simp only [World.size_alloc, World.size_setCell, World.size_drew, Nat.add_assoc, Nat.reduceAdd])); (try simp only [addN, Nat.add_zero] at HL hk); have hl := HL; simp only [Live] at hl; (try simp only [Kept] at hk)))
        go_ret
        exact ⟨ret_b (by rw [E.out]; exact (all_no HP.out hbad.out).symm), by (repeat' (first | (with_reducible exact Below.refl _ _) | (with_reducible refine Below.alloc ?_ ?_ _) | (with_reducible refine Below.setCell ?_ ?_ _) | (with_reducible refine Below.drew ?_) | (with_reducible refine below_drewN' ?_) | (with_reducible refine below_bytesW ?_ ?_) | (with_reducible refine Below.trans ?_ (Below.mono (by assumption) ?_)) | omega | (simp only [World.size_alloc, World.size_setCell, World.size_drew]; omega) | (simp [size_bytesW]; omega) | (simp; omega)))⟩
      · have hgood := hide (by rw [hpn.out, hn] : partB p = true)
        go_wp2_with (first | (go_at_call 55; (with_reducible refine (NM.out _ hTr).mono ?_); rintro e w' ⟨rfl, hb⟩; have hz := hb.size; (try simp only [World.size_alloc, World.size_setCell, World.size_drew, Nat.add_assoc, Nat.reduceAdd] at hz); (first | obtain ⟨HL, hk⟩ := HL.call hb hz (by simp only [World.size_alloc, World.size_setCell, World.size_drew, Nat.add_assoc, Nat.reduceAdd]) | obtain ⟨HL, hk⟩ := HL.call0 hb hz (by first | rfl | simp only [World.size_alloc, World.size_setCell, World.size_drew, Nat.add_assoc, Nat.reduceAdd])); (try simp only [addN, Nat.add_zero] at HL hk); have hl := HL; simp only [Live] at hl; (try simp only [Kept] at hk)))
        go_roundw
        case rel => exact ⟨i + 1, by omega, by go_num, HK.out.next HP.out hgood.out, hbel.trans (hb.mono hsz), hB.below hb⟩
        case measure => simp [intOf]; omega
    · obtain rfl : i = ws.length := by omega
      go_wp2
      go_ret
      exact ⟨ret_b (by rw [E.out]; exact HK.out.all.symm), hbel⟩
end Go.Proofs.YtopajpomhflgbaaGreatDoor
