/- Contracts and plain words for the laws of this chapter, part 30: Fp5. No condition. -/
import Derived.Test.YtocgindpjjolpaaGreatDoorG26
namespace Go.Proofs.YtocgindpjjolpaaGreatDoor
set_option linter.unusedSimpArgs false
set_option linter.unusedVariables false
theorem swo_ltW (t : Tr) : Swo (ltW t) := ⟨fun x => by unfold ltW; simp, fun x y z h1 h2 => by
  unfold ltW at *
  have h3 := of_decide_eq_true h1
  have h4 := of_decide_eq_true h2
  exact decide_eq_true (by omega), fun x y z h1 h2 => by
  unfold ltW at *
  have h3 := of_decide_eq_false h1
  have h4 := of_decide_eq_false h2
  exact decide_eq_false (by omega)⟩
def Bef {α : Type} (lt : α → α → Bool) (pos : α → Nat) (a b : α) : Prop := lt a b = true ∨ (lt b a = false ∧ pos a < pos b)
theorem ins_pairs {α : Type} {lt : α → α → Bool} (h : Swo lt) (pos : α → Nat) (x : α) : ∀ {l : List α}, l.Pairwise (Bef lt pos) → (∀ y ∈ l, pos y < pos x) → (ins lt x l).Pairwise (Bef lt pos)
  | [], _, _ => List.pairwise_singleton _ _
  | y :: l, hp, hx => by
    rw [ins]
    have hp2 := List.pairwise_cons.1 hp
    cases hxy : lt x y with
    | true =>
      rw [if_pos rfl]
      refine List.pairwise_cons.2 ⟨fun z hz => ?_, hp⟩
      rcases List.mem_cons.1 hz with rfl | hz
      · exact Or.inl hxy
      · left
        rcases hp2.1 z hz with h1 | ⟨h1, -⟩
        · exact h.tr _ _ _ hxy h1
        · cases hxz : lt x z with
          | true => rfl
          | false => rw [h.neg _ _ _ hxz h1] at hxy; cases hxy
    | false =>
      rw [if_neg (by decide)]
      refine List.pairwise_cons.2 ⟨fun z hz => ?_, ins_pairs h pos x hp2.2 (fun z hz => hx z (List.mem_cons_of_mem _ hz))⟩
      rcases ins_mem.1 hz with e | hz
      · rw [e]; exact Or.inr ⟨hxy, hx y (List.mem_cons_self ..)⟩
      · exact hp2.1 z hz
theorem fold_pairs {α : Type} {lt : α → α → Bool} (h : Swo lt) (pos : α → Nat) : ∀ {l acc : List α}, l.Pairwise (fun a b => pos a < pos b) → acc.Pairwise (Bef lt pos) → (∀ a ∈ acc, ∀ x ∈ l, pos a < pos x) → (l.foldl (fun acc x => ins lt x acc) acc).Pairwise (Bef lt pos)
  | [], _, _, ha, _ => ha
  | x :: l, acc, hl, ha, hx => by
    rw [List.foldl_cons]
    have hl2 := List.pairwise_cons.1 hl
    refine fold_pairs h pos hl2.2 (ins_pairs h pos x ha fun y hy => hx y hy x (List.mem_cons_self ..)) fun a hA z hz => ?_
    rcases ins_mem.1 hA with e | hA
    · rw [e]; exact hl2.1 z hz
    · exact hx a hA z (List.mem_cons_of_mem _ hz)
def idxN (l : List ByteArray) (p : ByteArray) : Nat := l.findIdx fun q => decide (q = p)
theorem idxN_at {l : List ByteArray} (hn : l.Nodup) {i : Nat} {p : ByteArray} (h : l[i]? = some p) : idxN l p = i := by
  obtain ⟨hi, e⟩ := List.getElem?_eq_some_iff.1 h
  unfold idxN
  rw [List.findIdx_eq hi]
  refine ⟨decide_eq_true e, fun j hj => decide_eq_false fun e2 => ?_⟩
  have h2 := List.pairwise_iff_getElem.1 hn j i (by omega) hi hj
  exact h2 (e2.trans e.symm)
theorem idxN_pairs {l : List ByteArray} (hn : l.Nodup) : l.Pairwise fun a b => idxN l a < idxN l b := by
  rw [List.pairwise_iff_getElem]
  intro i j hi hj hij
  rw [idxN_at hn (List.getElem?_eq_getElem hi), idxN_at hn (List.getElem?_eq_getElem hj)]
  exact hij
theorem byW_pairs (t : Tr) : (byW t).Pairwise (Bef (ltW t) (idxN (filesT t))) := fold_pairs (swo_ltW t) _ (idxN_pairs (files_nodup t)) List.Pairwise.nil (fun a h => by cases h)
/-! What the reference picks. -/
def PickI (f : ByteArray → Int) (out l : List ByteArray) (i : Nat) (b m : Int) : Prop :=
  (b = -1 ∧ m = 0 ∧ ∀ j x, j < i → l[j]? = some x → hasS out x = true) ∨
  ∃ j y, j < i ∧ l[j]? = some y ∧ b = ((j : Nat) : Int) ∧ m = f y ∧ hasS out y = false ∧ ∀ j' x, j' < i → l[j']? = some x → hasS out x = false → f x < f y ∨ (f x = f y ∧ j ≤ j')
theorem pick_zero (f : ByteArray → Int) (out l : List ByteArray) : PickI f out l 0 (-1) 0 := Or.inl ⟨rfl, rfl, fun j _ h => absurd h (by omega)⟩
theorem pick_new {f : ByteArray → Int} {out l : List ByteArray} {i : Nat} {b m : Int} {x : ByteArray} (h : PickI f out l i b m) (hx : l[i]? = some x) (ho : hasS out x = false) (hc : b < 0 ∨ m < f x) : PickI f out l (i + 1) i (f x) := by
  refine Or.inr ⟨i, x, by omega, hx, rfl, rfl, ho, fun j' z hj hz hoz => ?_⟩
  by_cases e : j' = i
  · subst e
    rw [hx] at hz
    injection hz with hz
    rw [hz]
    exact Or.inr ⟨rfl, Nat.le_refl _⟩
  · rcases h with ⟨_, _, h⟩ | ⟨j, y, h1, h2, h3, h4, h5, h6⟩
    · rw [h j' z (by omega) hz] at hoz; cases hoz
    · rcases h6 j' z (by omega) hz hoz with h7 | ⟨h7, _⟩
      · exact Or.inl (by omega)
      · exact Or.inl (by omega)
theorem pick_has {f : ByteArray → Int} {out l : List ByteArray} {i : Nat} {b m : Int} {x : ByteArray} (h : PickI f out l i b m) (hx : l[i]? = some x) (ho : hasS out x = true) : PickI f out l (i + 1) b m := by
  have hh : ∀ z, l[i]? = some z → hasS out z = true := fun z hz => by rw [hx] at hz; injection hz with hz; rw [← hz]; exact ho
  rcases h with ⟨h1, h2, h⟩ | ⟨j, y, h1, h2, h3, h4, h5, h6⟩
  · refine Or.inl ⟨h1, h2, fun j z hj hz => ?_⟩
    by_cases e : j = i
    · subst e; exact hh z hz
    · exact h j z (by omega) hz
  · refine Or.inr ⟨j, y, by omega, h2, h3, h4, h5, fun j' z hj hz hoz => ?_⟩
    by_cases e : j' = i
    · subst e; rw [hh z hz] at hoz; cases hoz
    · exact h6 j' z (by omega) hz hoz
theorem pick_old {f : ByteArray → Int} {out l : List ByteArray} {i : Nat} {b m : Int} {x : ByteArray} (h : PickI f out l i b m) (hx : l[i]? = some x) (hc : ¬ (b < 0 ∨ m < f x)) : PickI f out l (i + 1) b m := by
  rcases h with ⟨h1, h2, h⟩ | ⟨j, y, h1, h2, h3, h4, h5, h6⟩
  · exact absurd (Or.inl (by omega)) hc
  · refine Or.inr ⟨j, y, by omega, h2, h3, h4, h5, fun j' z hj hz hoz => ?_⟩
    by_cases e : j' = i
    · subst e
      rw [hx] at hz
      injection hz with hz
      rw [← hz]
      by_cases h7 : f x < f y
      · exact Or.inl h7
      · exact Or.inr ⟨by omega, by omega⟩
    · exact h6 j' z (by omega) hz hoz
theorem pick_end {t : Tr} {k : Nat} {b m : Int} (hk : k < (byW t).length) (h : PickI (weightP t) ((byW t).take k) (filesT t) (filesT t).length b m) : ∃ (j : Nat) (y : ByteArray), b = ((j : Nat) : Int) ∧ (filesT t)[j]? = some y ∧ (byW t)[k]? = some y := by
  obtain ⟨c, hc⟩ : ∃ c, (byW t)[k]? = some c := ⟨_, List.getElem?_eq_getElem hk⟩
  have hnd := byW_nodup t
  have hcf : c ∈ filesT t := (byW_perm t).mem_iff.1 (List.mem_of_getElem? hc)
  have hno : hasS ((byW t).take k) c = false := hasS_no.2 fun hm => by
    obtain ⟨i, hi, e⟩ := List.mem_take_iff_getElem.1 hm
    have h1 : (byW t)[i]? = some c := by rw [List.getElem?_eq_getElem (by omega), e]
    have h2 := List.pairwise_iff_getElem.1 hnd i k (by omega) hk (by omega)
    obtain ⟨h3, h4⟩ := List.getElem?_eq_some_iff.1 hc
    exact h2 (e.trans h4.symm)
  obtain ⟨jc, hjc, ejc⟩ := List.mem_iff_getElem.1 hcf
  have gjc : (filesT t)[jc]? = some c := by rw [List.getElem?_eq_getElem hjc, ejc]
  rcases h with ⟨_, _, h⟩ | ⟨j, y, h1, h2, h3, h4, h5, h6⟩
  · rw [h jc c hjc gjc] at hno; cases hno
  · refine ⟨j, y, h3, h2, ?_⟩
    have hyB : y ∈ byW t := (byW_perm t).mem_iff.2 (List.mem_of_getElem? h2)
    obtain ⟨k2, hk2, ek2⟩ := List.mem_iff_getElem.1 hyB
    have hge : k ≤ k2 := by
      rcases Nat.lt_or_ge k2 k with h7 | h7
      · exact absurd (List.mem_take_iff_getElem.2 ⟨k2, by omega, ek2⟩) (hasS_no.1 h5)
      · exact h7
    rcases Nat.eq_or_lt_of_le hge with e | hlt
    · subst e; rw [List.getElem?_eq_getElem hk2, ek2]
    · exfalso
      obtain ⟨h8, e8⟩ := List.getElem?_eq_some_iff.1 hc
      have hB := List.pairwise_iff_getElem.1 (byW_pairs t) k k2 hk hk2 hlt
      rw [e8, ek2] at hB
      have ic := idxN_at (files_nodup t) gjc
      have iy := idxN_at (files_nodup t) h2
      rcases hB with hB | ⟨hB, hB2⟩
      · have h9 : weightP t y < weightP t c := of_decide_eq_true hB
        rcases h6 jc c hjc gjc hno with h10 | ⟨h10, _⟩ <;> omega
      · have h9 : ¬ weightP t c < weightP t y := of_decide_eq_false hB
        rw [ic, iy] at hB2
        rcases h6 jc c hjc gjc hno with h10 | ⟨h10, h11⟩ <;> omega
/-! Small trees are placed without a gap. -/
theorem placeL_some {t : Tr} (hp : ∀ p, lenP t p ≤ 100000) : ∀ (l : List ByteArray) (a : Int) (out : List Ext), 0 ≤ a → a + 49 * (l.length : Int) ≤ 4096 → ∃ r, placeL t l a out = some r
  | [], _, _, _, _ => ⟨_, rfl⟩
  | p :: l, a, out, ha, hl => by
    have hb : blocksI (lenP t p : Int) ≤ 49 ∧ 0 ≤ blocksI (lenP t p : Int) := by
      have := hp p
      unfold blocksI
      split <;> omega
    rw [List.length_cons] at hl
    rw [placeL, if_neg (by omega)]
    exact placeL_some hp l _ _ (by omega) (by omega)
theorem gaps_place {t : Tr} (hv : validB t = true) (hp : ∀ p, lenP t p ≤ 100000) (hc : (filesT t).length ≤ 40) {l : List ByteArray} (hl : l.Perm (filesT t)) {a : Int} (h0 : 0 ≤ a) (h1 : a ≤ 255) : placeT t l a = (extsL t l a, 0) := by
  unfold placeT
  rw [if_pos ⟨hv, h0, (sameB_iff (files_nodup t)).2 hl⟩]
  obtain ⟨r, hr⟩ := placeL_some hp l a [] h0 (by have := hl.length_eq; omega)
  rw [hr, placeL_exts hr, List.nil_append]
end Go.Proofs.YtocgindpjjolpaaGreatDoor
