/- Entries mixed with others: plain. -/
import Derived.Test.YtopajpomhflgbaaGreatDoorCM17
namespace Go.Proofs.YtopajpomhflgbaaGreatDoor
set_option linter.unusedSimpArgs false
set_option linter.unusedVariables false
open Go.RowKit
open Go.PlainAid (bt get_bt bt_nonneg bt_le)

def knownS : List ByteArray := [sPX, sNM, sSL, sTF, sCL, sPL, sRE]
def memB {α : Type} [DecidableEq α] (x : α) (l : List α) : Bool := decide (x ∈ l)
theorem memB_iff {α : Type} [DecidableEq α] {x : α} {l : List α} : memB x l = true ↔ x ∈ l := by unfold memB; exact decide_eq_true_iff
theorem memB_no {α : Type} [DecidableEq α] {x : α} {l : List α} : memB x l = false ↔ x ∉ l := by unfold memB; exact decide_eq_false_iff_not
def knownB (s : ByteArray) : Bool := memB s knownS
/-- What a round over the others adds. -/
def piece (L O : List En) (i : Nat) : List En := match O[i]? with
  | none => []
  | some y => if knownB y.sig then [] else y :: (L[i]?).toList
def mixA (L O : List En) (k : Nat) : List En := (List.range k).flatMap (piece L O)
def addB (M : List En) (y : En) : List En := if memB y M = true then M else M ++ [y]
def mixB (M L : List En) (k : Nat) : List En := (L.take k).foldl addB M
def spoil (y : En) : List En := if y.sig ≠ sRE ∧ y.sig ≠ sNM ∧ y.sig ≠ sSL then [⟨y.sig, 1, ⟨#[]⟩⟩] else []
def mixC (M L : List En) (k : Nat) : List En := M ++ (L.take k).flatMap spoil
theorem mixA_succ (L O : List En) (k : Nat) : mixA L O (k + 1) = mixA L O k ++ piece L O k := by unfold mixA; rw [List.range_succ]; simp
theorem mixB_succ (M L : List En) (k : Nat) (y : En) (h : L[k]? = some y) : mixB M L (k + 1) = addB (mixB M L k) y := by
  obtain ⟨hi, e⟩ := List.getElem?_eq_some_iff.1 h
  unfold mixB
  rw [List.take_succ_eq_append_getElem hi, e, List.foldl_append]
  rfl
theorem mixC_succ (M L : List En) (k : Nat) (y : En) (h : L[k]? = some y) : mixC M L (k + 1) = mixC M L k ++ spoil y := by
  obtain ⟨hi, e⟩ := List.getElem?_eq_some_iff.1 h
  unfold mixC
  rw [List.take_succ_eq_append_getElem hi, e, List.flatMap_append]
  simp
theorem piece_len (L O : List En) (i : Nat) : (piece L O i).length ≤ 2 := by
  unfold piece
  split
  · simp
  · split
    · simp
    · cases L[i]? <;> simp
theorem mixA_len (L O : List En) : ∀ k, (mixA L O k).length ≤ 2 * k
  | 0 => by simp [mixA]
  | k + 1 => by
    have := mixA_len L O k
    have := piece_len L O k
    rw [mixA_succ, List.length_append]; omega
theorem addB_len (M : List En) (y : En) : (addB M y).length ≤ M.length + 1 := by unfold addB; split <;> simp
theorem mixB_len : ∀ (L M : List En), (L.foldl addB M).length ≤ M.length + L.length
  | [], M => by rw [List.foldl_nil]; omega
  | y :: r, M => by
    have := mixB_len r (addB M y)
    have := addB_len M y
    rw [List.foldl_cons, List.length_cons]; omega
theorem spoil_len (y : En) : (spoil y).length ≤ 1 := by unfold spoil; split <;> simp
theorem spoils_len : ∀ L : List En, (L.flatMap spoil).length ≤ L.length
  | [] => by simp
  | y :: r => by
    have := spoils_len r
    have := spoil_len y
    simp only [List.flatMap_cons, List.length_append, List.length_cons]; omega
theorem mem_mixA {L O : List En} {e : En} {k : Nat} (h : e ∈ mixA L O k) : (e ∈ O ∧ knownB e.sig = false) ∨ e ∈ L := by
  unfold mixA at h
  obtain ⟨i, _, hi⟩ := List.mem_flatMap.1 h
  unfold piece at hi
  split at hi
  · cases hi
  · rename_i y hy
    split at hi
    · cases hi
    · rename_i hk
      rcases List.mem_cons.1 hi with rfl | hi
      · exact Or.inl ⟨List.mem_of_getElem? hy, by simpa using hk⟩
      · right
        cases hl : L[i]? with
        | none => rw [hl] at hi; cases hi
        | some x =>
          rw [hl] at hi
          have : e = x := by simpa using hi
          rw [this]; exact List.mem_of_getElem? hl
theorem mem_foldB : ∀ (L M : List En) (e : En), e ∈ L.foldl addB M ↔ e ∈ M ∨ e ∈ L
  | [], M, e => by simp
  | y :: r, M, e => by
    rw [List.foldl_cons, mem_foldB r (addB M y) e]
    unfold addB
    by_cases hy : y ∈ M
    · rw [if_pos (memB_iff.2 hy)]
      constructor
      · rintro (h | h)
        · exact Or.inl h
        · exact Or.inr (by simp [h])
      · rintro (h | h)
        · exact Or.inl h
        · rcases List.mem_cons.1 h with rfl | h
          · exact Or.inl hy
          · exact Or.inr h
    · rw [if_neg (fun h => hy (memB_iff.1 h))]
      simp only [List.mem_append, List.mem_cons, List.not_mem_nil, or_false]
      constructor
      · rintro ((h | h) | h)
        · exact Or.inl h
        · exact Or.inr (Or.inl h)
        · exact Or.inr (Or.inr h)
      · rintro (h | h | h)
        · exact Or.inl (Or.inl h)
        · exact Or.inl (Or.inr h)
        · exact Or.inr h
theorem first_none_iff {M : List En} {s : ByteArray} : firstB M s = none ↔ ∀ e ∈ M, e.sig ≠ s := by
  constructor
  · intro h e he hs
    unfold firstB at h
    simp only [Option.map_eq_none_iff, List.find?_eq_none, decide_eq_true_eq] at h
    exact h e he hs
  · exact first_off
theorem first_mem {M : List En} {s d : ByteArray} (h : firstB M s = some d) : ∃ e ∈ M, e.sig = s ∧ e.data = d := by
  unfold firstB at h
  simp only [Option.map_eq_some_iff] at h
  obtain ⟨e, he, hd⟩ := h
  exact ⟨e, List.mem_of_find?_eq_some he, by simpa using List.find?_some he, hd⟩
/-- Entries with the known signatures are L's, each signature once; L's are all there. -/
theorem first_mixed {M L : List En} {s : ByteArray} (h1 : ∀ e ∈ M, e.sig = s → e ∈ L) (h2 : ∀ e ∈ L, e ∈ M) (hu : ∀ e ∈ L, ∀ f ∈ L, e.sig = f.sig → e = f) : firstB M s = firstB L s := by
  cases h : firstB L s with
  | none =>
    rw [first_none_iff] at h ⊢
    intro e he hs
    exact h e (h1 e he hs) hs
  | some d =>
    obtain ⟨e, he, hs, hd⟩ := first_mem h
    cases hM : firstB M s with
    | none => exact absurd hs (first_none_iff.1 hM e (h2 e he))
    | some d' =>
      obtain ⟨f, hf, hfs, hfd⟩ := first_mem hM
      have := hu f (h1 f hf hfs) e he (by rw [hfs, hs])
      rw [← hfd, this, hd]
theorem join_first {s b : ByteArray} {nm : Bool} : ∀ (M : List En), firstB M s = some (cat2 [0] b) → ∀ (d : List UInt8) (so on : Bool), joinF s nm M d so on = (d ++ b.data.toList, true, true)
  | [], h, _, _, _ => by cases h
  | e :: r, h, d, so, on => by
    by_cases hs : e.sig = s
    · have hd : e.data = cat2 [0] b := by
        have : firstB (e :: r) s = some e.data := by unfold firstB; simp [hs]
        rw [this] at h; exact Option.some.inj h
      exact join_hit hs hd d so on
    · rw [joinF, if_pos (by simpa using hs)]
      refine join_first r ?_ d so on
      unfold firstB at h ⊢
      simpa [hs] using h
theorem join_none1 {s : ByteArray} {nm : Bool} {M : List En} (h : firstB M s = none) (d : List UInt8) (so on : Bool) : joinF s nm M d so on = (d, so, !on) := join_off0 (first_none_iff.1 h) d so on
theorem en_sigs (r : RR) : ∀ e ∈ ents r, e.sig ∈ knownS := by
  intro e he
  unfold ents at he
  simp only [List.mem_append] at he
  unfold knownS
  rcases he with (((((he | he) | he) | he) | he) | he) | he
  · rw [en1_sig r e he]; simp
  · rw [en2_sig r e he]; simp
  · rw [en3_sig r e he]; simp
  · rw [en4_sig r e he]; simp
  · rw [en5_sig r e he]; simp
  · rw [en6_sig r e he]; simp
  · rw [en7_sig r e he]; simp
theorem one_eq {A : List En} (h : A.length ≤ 1) : ∀ e ∈ A, ∀ f ∈ A, e = f := by
  match A, h with
  | [], _ => intro e he; cases he
  | [x], _ => intro e he f hf; rw [List.mem_singleton.1 he, List.mem_singleton.1 hf]
theorem uniq_app {A B : List En} (hA : ∀ e ∈ A, ∀ f ∈ A, e.sig = f.sig → e = f) (hB : ∀ e ∈ B, ∀ f ∈ B, e.sig = f.sig → e = f) (hAB : ∀ e ∈ A, ∀ f ∈ B, e.sig ≠ f.sig) : ∀ e ∈ A ++ B, ∀ f ∈ A ++ B, e.sig = f.sig → e = f := by
  intro e he f hf h
  rcases List.mem_append.1 he with he | he <;> rcases List.mem_append.1 hf with hf | hf
  · exact hA e he f hf h
  · exact absurd h (hAB e he f hf)
  · exact absurd h.symm (hAB f hf e he)
  · exact hB e he f hf h
theorem ents_uniq (r : RR) : ∀ e ∈ ents r, ∀ f ∈ ents r, e.sig = f.sig → e = f := by
  obtain ⟨l1, l2, l3, l4, l5, l6, l7⟩ := en_lens r
  have o := fun {A : List En} (h : A.length ≤ 1) e (he : e ∈ A) f (hf : f ∈ A) (_ : e.sig = f.sig) => one_eq h e he f hf
  unfold ents
  refine uniq_app (uniq_app (uniq_app (uniq_app (uniq_app (uniq_app (o l1) (o l2) ?_) (o l3) ?_) (o l4) ?_) (o l5) ?_) (o l6) ?_) (o l7) ?_
  all_goals
    intro e he f hf
    (try simp only [List.mem_append] at he)
    first
      | rw [en2_sig r f hf]
      | rw [en3_sig r f hf]
      | rw [en4_sig r f hf]
      | rw [en5_sig r f hf]
      | rw [en6_sig r f hf]
      | rw [en7_sig r f hf]
    repeat' (rcases he with he | he)
    all_goals
      first
        | (rw [en1_sig r e he]; decide)
        | (rw [en2_sig r e he]; decide)
        | (rw [en3_sig r e he]; decide)
        | (rw [en4_sig r e he]; decide)
        | (rw [en5_sig r e he]; decide)
        | (rw [en6_sig r e he]; decide)
/-- Entries whose first ones are those of a node say it. -/
theorem says_first {M : List En} {r : RR} (hlen : M.length ≤ 1000) (hsize : ∀ e ∈ M, e.data.size ≤ 1000000) (hc : chk r = 0) (h : ∀ s ∈ knownS, firstB M s = firstB (ents r) s) : Says M r := by
  have S := says_ents r hc
  have k1 := h sPX (by simp [knownS])
  have k2 := h sNM (by simp [knownS])
  have k3 := h sSL (by simp [knownS])
  have k4 := h sTF (by simp [knownS])
  have k5 := h sCL (by simp [knownS])
  have k6 := h sPL (by simp [knownS])
  have k7 := h sRE (by simp [knownS])
  obtain ⟨y1, y2, y3, y4⟩ := chk_more hc
  refine ⟨hlen, hsize, hc, fun e => by rw [k1]; exact S.px1 e, fun e => by rw [k1]; exact S.px0 e, ?_, ?_, ?_, fun e => by rw [k4]; exact S.tf1 e, fun e => by rw [k4]; exact S.tf0 e, by rw [SaysB, k5]; exact S.cl, by rw [SaysB, k6]; exact S.pl, by rw [k7]; exact S.re⟩
  · rw [first_en2] at k2
    cases en : r.named
    · have e2 : en2 r = [] := by unfold en2; rw [en]; rfl
      rw [e2] at k2
      rw [join_none1 k2, y2 en]; rfl
    · have e2 : en2 r = [⟨sNM, 1, cat2 [0] r.name⟩] := by unfold en2; rw [en]; rfl
      rw [e2] at k2
      have e3 : firstB [⟨sNM, 1, cat2 [0] r.name⟩] sNM = some (cat2 [0] r.name) := first_on ⟨sNM, 1, cat2 [0] r.name⟩
      rw [e3] at k2
      rw [join_first M k2]; rfl
  · intro ei
    rw [first_en3] at k3
    have e3 : en3 r = [⟨sSL, 1, cat2 [0] (compsB r.target)⟩] := by unfold en3; rw [ei]; rfl
    rw [e3] at k3
    have e4 : firstB [⟨sSL, 1, cat2 [0] (compsB r.target)⟩] sSL = some (cat2 [0] (compsB r.target)) := first_on ⟨sSL, 1, cat2 [0] (compsB r.target)⟩
    rw [e4] at k3
    rw [join_first M k3]; rfl
  · intro ei
    rw [first_en3] at k3
    have e3 : en3 r = [] := by unfold en3; rw [ei]; rfl
    rw [e3] at k3
    rw [join_none1 k3]; rfl
def mixed (r : RR) (O : List En) : List En := mixC (mixB (mixA (ents r) O O.length) (ents r) (ents r).length) (ents r) (ents r).length
theorem mixed_says (r : RR) (O : List En) (hc : chk r = 0) (hO : O.length ≤ 20) (hs : ∀ e ∈ O, e.data.size ≤ 400) : Says (mixed r O) r := by
  have hl := ents_len r
  have hes := ents_size r hc
  have hA := mixA_len (ents r) O O.length
  have hB := mixB_len (ents r) (mixA (ents r) O O.length)
  have hC := spoils_len (ents r)
  have hB' : mixB (mixA (ents r) O O.length) (ents r) (ents r).length = (ents r).foldl addB (mixA (ents r) O O.length) := by unfold mixB; rw [List.take_length]
  have hC' : ∀ M, mixC M (ents r) (ents r).length = M ++ (ents r).flatMap spoil := fun M => by unfold mixC; rw [List.take_length]
  have hmem : ∀ e ∈ (ents r).foldl addB (mixA (ents r) O O.length), (e ∈ O ∧ knownB e.sig = false) ∨ e ∈ ents r := by
    intro e he
    rcases (mem_foldB _ _ _).1 he with h | h
    · exact mem_mixA h
    · exact Or.inr h
  have hsp : ∀ e ∈ (ents r).flatMap spoil, e.data = ⟨#[]⟩ ∧ ∃ y ∈ ents r, y.sig = e.sig := by
    intro e he
    obtain ⟨y, hy, h⟩ := List.mem_flatMap.1 he
    unfold spoil at h
    split at h
    · rw [List.mem_singleton.1 h]; exact ⟨rfl, y, hy, rfl⟩
    · cases h
  unfold mixed
  rw [hB', hC']
  refine says_first ?_ ?_ hc ?_
  · rw [List.length_append]; omega
  · intro e he
    rcases List.mem_append.1 he with he | he
    · rcases hmem e he with ⟨h, _⟩ | h
      · have := hs e h; omega
      · exact hes e h
    · rw [(hsp e he).1]; show 0 ≤ _; omega
  · intro s hk
    rw [first_app]
    have h1 : firstB ((ents r).foldl addB (mixA (ents r) O O.length)) s = firstB (ents r) s := by
      refine first_mixed (fun e he hes => ?_) (fun e he => (mem_foldB _ _ _).2 (Or.inr he)) (ents_uniq r)
      rcases hmem e he with ⟨_, h⟩ | h
      · rw [hes] at h
        unfold knownB at h
        exact absurd hk (memB_no.1 h)
      · exact h
    rw [h1]
    cases h2 : firstB (ents r) s with
    | some d => rfl
    | none =>
      rw [Option.none_or, first_none_iff]
      intro e he hs
      obtain ⟨_, y, hy, hys⟩ := hsp e he
      exact first_none_iff.1 h2 y hy (by rw [hys, hs])
end Go.Proofs.YtopajpomhflgbaaGreatDoor
