/- Names and components divided between entries: plain. -/
import Derived.Test.YtopajpomhflgbaaGreatDoorCM25
namespace Go.Proofs.YtopajpomhflgbaaGreatDoor
set_option linter.unusedSimpArgs false
set_option linter.unusedVariables false
open Go.RowKit
open Go.PlainAid (bt get_bt bt_nonneg bt_le)

/-- The entries that a text is divided between. -/
def splitF (sig : ByteArray) : List Int → ByteArray → List En
  | [], s => [⟨sig, 1, cat2 [0] s⟩]
  | n :: r, s => if n < 0 ∨ (s.size : Int) < n then splitF sig r s else ⟨sig, 1, cat2 [1] (s.extract 0 n.toNat)⟩ :: splitF sig r (s.extract n.toNat s.size)
theorem splitF_bad {sig : ByteArray} {n : Int} {r : List Int} {s : ByteArray} (h : n < 0 ∨ (s.size : Int) < n) : splitF sig (n :: r) s = splitF sig r s := by rw [splitF, if_pos h]
theorem splitF_cut {sig : ByteArray} {n : Int} {r : List Int} {s : ByteArray} (h : 0 ≤ n) (h2 : n ≤ s.size) : splitF sig (n :: r) s = ⟨sig, 1, cat2 [1] (s.extract 0 n.toNat)⟩ :: splitF sig r (s.extract n.toNat s.size) := by rw [splitF, if_neg (by omega)]
theorem splitF_sig (sig : ByteArray) : ∀ (cuts : List Int) (s : ByteArray), ∀ e ∈ splitF sig cuts s, e.sig = sig
  | [], s, e, h => by rw [List.mem_singleton.1 h]
  | n :: r, s, e, h => by
    unfold splitF at h
    split at h
    · exact splitF_sig sig r s e h
    · rcases List.mem_cons.1 h with rfl | h
      · rfl
      · exact splitF_sig sig r _ e h
theorem splitF_size (sig : ByteArray) : ∀ (cuts : List Int) (s : ByteArray), ∀ e ∈ splitF sig cuts s, e.data.size ≤ s.size + 1
  | [], s, e, h => by rw [List.mem_singleton.1 h]; show (cat2 [0] s).size ≤ _; rw [cat2_size]; simp; omega
  | n :: r, s, e, h => by
    unfold splitF at h
    split at h
    · exact splitF_size sig r s e h
    · rcases List.mem_cons.1 h with rfl | h
      · show (cat2 [1] _).size ≤ _; rw [cat2_size]; simp; omega
      · have := splitF_size sig r _ e h
        have h2 : (s.extract n.toNat s.size).size ≤ s.size := by simp
        omega
theorem splitF_len (sig : ByteArray) : ∀ (cuts : List Int) (s : ByteArray), (splitF sig cuts s).length ≤ cuts.length + 1
  | [], s => by simp [splitF]
  | n :: r, s => by
    unfold splitF
    split
    · have := splitF_len sig r s; simp; omega
    · have := splitF_len sig r (s.extract n.toNat s.size); simp; omega
theorem splitF_ne (sig : ByteArray) : ∀ (cuts : List Int) (s : ByteArray), splitF sig cuts s ≠ []
  | [], s => by simp [splitF]
  | n :: r, s => by
    unfold splitF
    split
    · exact splitF_ne sig r s
    · simp
theorem cut_cat (s : ByteArray) (n : Nat) (h : n ≤ s.size) : (s.extract 0 n).data.toList ++ (s.extract n s.size).data.toList = s.data.toList := by
  have hl : s.data.toList.length = s.size := Array.length_toList
  rw [← ByteArray.toList_eq (s.extract 0 n), ← ByteArray.toList_eq (s.extract n s.size), Lib.extract_toList, Lib.extract_toList]
  rw [List.take_of_length_le (l := s.data.toList.drop n) (by rw [List.length_drop, hl]; omega)]
  simp
theorem join_more {sig b : ByteArray} {nm : Bool} (R : List En) (d : List UInt8) (so on : Bool) : joinF sig nm (⟨sig, 1, cat2 [1] b⟩ :: R) d so on = joinF sig nm R (d ++ b.data.toList) true true := by
  rw [joinF, if_neg (by simp), if_neg (by show ¬ (cat2 [1] b).size = 0; rw [cat2_size]; simp), if_neg (by show ¬ (nm = true ∧ 1 < bt (cat2 [1] b) 0); rw [cat2_bt]; rintro ⟨_, h⟩; revert h; decide), if_pos (by show bt (cat2 [1] b) 0 = 1; rw [cat2_bt]; rfl)]
  show joinF sig nm R (d ++ tlB (cat2 [1] b)) true true = _
  rw [cat2_tl]
theorem join_split (sig : ByteArray) (nm : Bool) (R : List En) : ∀ (cuts : List Int) (s : ByteArray) (d : List UInt8) (so on : Bool), joinF sig nm (splitF sig cuts s ++ R) d so on = (d ++ s.data.toList, true, true)
  | [], s, d, so, on => join_hit (e := ⟨sig, 1, cat2 [0] s⟩) (b := s) rfl rfl d so on
  | n :: r, s, d, so, on => by
    unfold splitF
    split
    · exact join_split sig nm R r s d so on
    · rename_i h
      rw [List.cons_append, join_more, join_split sig nm R r _ _ _ _, List.append_assoc, cut_cat s n.toNat (by omega)]
theorem join_open1 (sig : ByteArray) (nm : Bool) : ∀ (cuts : List Int) (s : ByteArray) (d : List UInt8), ∃ d', joinF sig nm (splitF sig cuts s).dropLast d true true = (d', true, false)
  | [], s, d => ⟨d, rfl⟩
  | n :: r, s, d => by
    unfold splitF
    split
    · exact join_open1 sig nm r s d
    · rw [List.dropLast_cons_of_ne_nil (splitF_ne sig r _), join_more]
      exact join_open1 sig nm r _ _
theorem join_open (sig : ByteArray) (nm : Bool) : ∀ (cuts : List Int) (s : ByteArray) (d : List UInt8) (so on : Bool), (splitF sig cuts s).length ≠ 1 → ∃ d', joinF sig nm (splitF sig cuts s).dropLast d so on = (d', true, false)
  | [], s, d, so, on, h => absurd rfl h
  | n :: r, s, d, so, on, h => by
    unfold splitF at h ⊢
    split
    · rename_i hb
      rw [if_pos hb] at h
      exact join_open sig nm r s d so on h
    · rw [List.dropLast_cons_of_ne_nil (splitF_ne sig r _), join_more]
      exact join_open1 sig nm r _ _
def rDiv (name target : ByteArray) : RR := ⟨false, 0, 0, 0, 0, 0, true, name, target, false, 0, 0, 0, false⟩
theorem chk_div {name target : ByteArray} (hn : nameB name = true) (ht : target.toList.isEmpty = true ∨ targetB target = true) : chk (rDiv name target) = 0 := by
  have h4 : bad4 (rDiv name target) = false := by
    unfold bad4 rDiv
    simp only [hn]
    rcases ht with h | h
    · simp [h]
    · simp [h]
  have h1 : bad1 (rDiv name target) = false := by unfold bad1 rDiv; rfl
  have h2 : bad2 (rDiv name target) = false := by unfold bad2 rDiv; simp
  have h3 : bad3 (rDiv name target) = false := by unfold bad3 rDiv; rfl
  have h5 : bad5 (rDiv name target) = false := by rfl
  have h6 : bad6 (rDiv name target) = false := by unfold bad6 rDiv; rfl
  unfold chk
  rw [h1, h2, h3, h4, h5, h6]
  rfl
theorem target_full {s : ByteArray} (h : targetB s = true) : s.toList.isEmpty = false := by
  have := target_len h
  rw [List.isEmpty_eq_false_iff]
  intro e
  have hl : s.toList.length = s.size := by rw [ByteArray.toList_eq]; exact Array.length_toList
  rw [e] at hl
  simp at hl
  omega
theorem says_div {name target : ByteArray} {cuts : List Int} (hn : nameB name = true) (ht : targetB target = true) (hc : cuts.length ≤ 20) :
    Says (splitF sNM cuts name ++ splitF sSL cuts (compsB target)) (rDiv name target) := by
  have l1 := splitF_len sNM cuts name
  have l2 := splitF_len sSL cuts (compsB target)
  have z1 := splitF_size sNM cuts name
  have z2 := splitF_size sSL cuts (compsB target)
  have g1 := splitF_sig sNM cuts name
  have g2 := splitF_sig sSL cuts (compsB target)
  have hsz := comps_size2 ht
  have hnz := name_size hn
  have hno : ∀ s : ByteArray, s ≠ sNM → s ≠ sSL → firstB (splitF sNM cuts name ++ splitF sSL cuts (compsB target)) s = none := by
    intro s h1 h2
    rw [first_none_iff]
    intro e he
    rcases List.mem_append.1 he with he | he
    · rw [g1 e he]; exact fun h => h1 h.symm
    · rw [g2 e he]; exact fun h => h2 h.symm
  refine ⟨by rw [List.length_append]; omega, ?_, chk_div hn (Or.inr ht), (fun h => by cases h), fun _ => hno sPX (by decide) (by decide), ?_, ?_, ?_, (fun h => by cases h), fun _ => hno sTF (by decide) (by decide), Or.inl ⟨hno sCL (by decide) (by decide), rfl⟩, Or.inl ⟨hno sPL (by decide) (by decide), rfl⟩, by rw [hno sRE (by decide) (by decide)]; rfl⟩
  · intro e he
    rcases List.mem_append.1 he with he | he
    · have := z1 e he; omega
    · have := z2 e he; omega
  · rw [join_split]; rfl
  · intro _
    rw [join_off (fun e he => by rw [g1 e he]; decide)]
    have := join_split sSL false [] cuts (compsB target) [] false false
    rw [List.append_nil] at this
    rw [this]; rfl
  · intro h
    have := target_full ht
    rw [show (rDiv name target).target = target from rfl] at h
    rw [h] at this; cases this
theorem says_div1 {name : ByteArray} {cuts : List Int} (hn : nameB name = true) (hc : cuts.length ≤ 20) : Says (splitF sNM cuts name) (rDiv name ⟨#[]⟩) := by
  have l1 := splitF_len sNM cuts name
  have z1 := splitF_size sNM cuts name
  have g1 := splitF_sig sNM cuts name
  have hnz := name_size hn
  have hno : ∀ s : ByteArray, s ≠ sNM → firstB (splitF sNM cuts name) s = none := by
    intro s h1
    rw [first_none_iff]
    intro e he
    rw [g1 e he]; exact fun h => h1 h.symm
  have he0 : (⟨#[]⟩ : ByteArray).toList.isEmpty = true := by rw [ByteArray.toList_eq]; rfl
  refine ⟨by omega, ?_, chk_div hn (Or.inl he0), (fun h => by cases h), fun _ => hno sPX (by decide), ?_, ?_, ?_, (fun h => by cases h), fun _ => hno sTF (by decide), Or.inl ⟨hno sCL (by decide), rfl⟩, Or.inl ⟨hno sPL (by decide), rfl⟩, by rw [hno sRE (by decide)]; rfl⟩
  · intro e he
    have := z1 e he; omega
  · have := join_split sNM true [] cuts name [] false false
    rw [List.append_nil] at this
    rw [this]; rfl
  · intro h
    rw [show (rDiv name ⟨#[]⟩).target = ⟨#[]⟩ from rfl, he0] at h; cases h
  · intro _
    rw [join_off0 (fun e he => by rw [g1 e he]; decide)]
    rfl
/-- Without the last one, the components go on. -/
theorem open_div {name target : ByteArray} {cuts : List Int} (h1 : (splitF sSL cuts (compsB target)).length ≠ 1) :
    (splitF sNM cuts name ++ splitF sSL cuts (compsB target)).dropLast = splitF sNM cuts name ++ (splitF sSL cuts (compsB target)).dropLast ∧
    (joinF sNM true (splitF sNM cuts name ++ (splitF sSL cuts (compsB target)).dropLast) [] false false = (name.data.toList, true, true)) ∧
    ∃ d, joinF sSL false (splitF sNM cuts name ++ (splitF sSL cuts (compsB target)).dropLast) [] false false = (d, true, false) := by
  refine ⟨List.dropLast_append_of_ne_nil (splitF_ne _ _ _), by rw [join_split]; rfl, ?_⟩
  obtain ⟨d, hd⟩ := join_open sSL false cuts (compsB target) [] false false h1
  exact ⟨d, by rw [join_off (fun e he => by rw [splitF_sig sNM cuts name e he]; decide), hd]⟩
theorem one_div {name target : ByteArray} {cuts : List Int} (h1 : (splitF sSL cuts (compsB target)).length = 1) :
    (splitF sNM cuts name ++ splitF sSL cuts (compsB target)).dropLast = splitF sNM cuts name := by
  rw [List.dropLast_append_of_ne_nil (splitF_ne _ _ _)]
  obtain ⟨x, hx⟩ := List.length_eq_one_iff.1 h1
  rw [hx]; simp
/-- A slice reads as numbers, wherever it begins. -/
def ReadsI (w : World) (a : Value) (ns : List Int) : Prop := ∃ A c, a = .slice A ns.length c ∧ (0 < ns.length → ∃ g o, A = some ⟨g, o, none⟩ ∧ g < w.heap.size ∧ ∀ j n, ns[j]? = some n → w.cell? ⟨g, o + j, none⟩ = some (.int .i64 n))
def RangeI (ns : List Int) : Prop := ns.length ≤ maxLen ∧ ∀ n ∈ ns, (Lit.int .i64 n).wf = true
theorem ReadsI.below {w w1 : World} {v : Value} {L : List Int} (h : ReadsI w v L) (hb : Below w.heap.size w w1) : ReadsI w1 v L := by
  obtain ⟨A, c, e, h⟩ := h
  refine ⟨A, c, e, fun h0 => ?_⟩
  obtain ⟨g, o, e2, hg, hc⟩ := h h0
  exact ⟨g, o, e2, Nat.lt_of_lt_of_le hg hb.size, fun j u hu => (hb.cell (p := ⟨g, o + j, none⟩) hg).trans (hc j u hu)⟩
end Go.Proofs.YtopajpomhflgbaaGreatDoor
