/- Contracts and plain words for the laws of this chapter, part 26: Fp4, Lc. No condition. -/
import Derived.Test.YtocgindpjjolpaaGreatDoorG19
import Derived.Test.YtocgindpjjolpaaGreatDoorG24
import Derived.Test.YtocgindpjjolpaaGreatDoorG25
import Derived.Test.YtocgindpjjolpaaGreatDoorG22
import Derived.Test.YtocgindpjjolpaaGreatDoorG21
import Derived.Test.YtocgindpjjolpaaGreatDoorG14
namespace Go.Proofs.YtocgindpjjolpaaGreatDoor
set_option linter.unusedSimpArgs false
set_option linter.unusedVariables false
theorem ins_perm {α : Type} (lt : α → α → Bool) (x : α) : ∀ l : List α, (ins lt x l).Perm (x :: l)
  | [] => by rw [ins]
  | y :: l => by
    rw [ins]
    split
    · exact List.Perm.refl _
    · exact ((ins_perm lt x l).cons y).trans (List.Perm.swap _ _ _)
theorem srt_perm {α : Type} (lt : α → α → Bool) (l : List α) : (srt lt l).Perm l := by
  have h : ∀ (l acc : List α), (l.foldl (fun acc x => ins lt x acc) acc).Perm (l ++ acc) := by
    intro l
    induction l with
    | nil => exact fun acc => List.Perm.refl _
    | cons x l ih => exact fun acc => (ih _).trans (((ins_perm lt x acc).append_left l).trans List.perm_middle)
  have := h l []
  rwa [List.append_nil] at this
theorem byW_perm (t : Tr) : (byW t).Perm (filesT t) := srt_perm _ _
theorem byW_nodup (t : Tr) : (byW t).Nodup := (byW_perm t).nodup_iff.2 (files_nodup t)
theorem addA_mem {all out : List ByteArray} {p q : ByteArray} : q ∈ addA all out p ↔ q ∈ out ∨ (q = p ∧ p ∈ all) := by
  unfold addA
  cases h1 : hasS all p with
  | false =>
    rw [Bool.false_and, if_neg (by decide)]
    exact ⟨Or.inl, fun h => h.elim id (fun h => absurd h.2 (hasS_no.1 h1))⟩
  | true =>
    have h3 := hasS_iff.1 h1
    cases h2 : hasS out p with
    | true =>
      rw [Bool.not_true, Bool.and_false, if_neg (by decide)]
      exact ⟨Or.inl, fun h => h.elim id (fun h => by rw [h.1]; exact hasS_iff.1 h2)⟩
    | false =>
      rw [Bool.not_false, Bool.and_true, if_pos rfl, List.mem_append, List.mem_singleton]
      exact ⟨fun h => h.imp id (fun e => ⟨e, h3⟩), fun h => h.imp id (fun e => e.1)⟩
theorem addA_nodup {all out : List ByteArray} {p : ByteArray} (h : out.Nodup) : (addA all out p).Nodup := by
  unfold addA
  split
  · rename_i h1
    rw [Bool.and_eq_true, Bool.not_eq_true'] at h1
    rw [List.nodup_append]
    exact ⟨h, by simp, fun a ha b hb e => hasS_no.1 h1.2 (by rw [List.mem_singleton] at hb; rw [← hb, ← e]; exact ha)⟩
  · exact h
theorem foldA_mem {all : List ByteArray} {q : ByteArray} : ∀ {l out : List ByteArray}, q ∈ l.foldl (addA all) out ↔ q ∈ out ∨ (q ∈ l ∧ q ∈ all)
  | [], out => by simp
  | p :: l, out => by
    rw [List.foldl_cons, foldA_mem, addA_mem, List.mem_cons]
    constructor
    · rintro ((h | ⟨rfl, h⟩) | ⟨h, h2⟩)
      · exact Or.inl h
      · exact Or.inr ⟨Or.inl rfl, h⟩
      · exact Or.inr ⟨Or.inr h, h2⟩
    · rintro (h | ⟨rfl | h, h2⟩)
      · exact Or.inl (Or.inl h)
      · exact Or.inl (Or.inr ⟨rfl, h2⟩)
      · exact Or.inr ⟨h, h2⟩
theorem foldA_nodup {all : List ByteArray} : ∀ {l out : List ByteArray}, out.Nodup → (l.foldl (addA all) out).Nodup
  | [], _, h => h
  | p :: l, out, h => by rw [List.foldl_cons]; exact foldA_nodup (addA_nodup h)
theorem byA_mem {t : Tr} {acc : List ByteArray} {q : ByteArray} : q ∈ byA t acc ↔ q ∈ filesT t := by
  unfold byA
  rw [foldA_mem, List.mem_append, ← (byW_perm t).mem_iff]
  constructor
  · rintro (h | ⟨-, h⟩)
    · cases h
    · exact h
  · exact fun h => Or.inr ⟨Or.inr h, h⟩
theorem byA_perm (t : Tr) (acc : List ByteArray) : (byA t acc).Perm (filesT t) :=
  (List.perm_ext_iff_of_nodup (foldA_nodup List.nodup_nil) (files_nodup t)).2 fun _ => byA_mem
/-! Extents that follow each other. -/
def extsL (t : Tr) : List ByteArray → Int → List Ext
  | [], _ => []
  | p :: l, a => ⟨p, a, lenP t p⟩ :: extsL t l (a + blocksI (lenP t p))
theorem placeL_exts {t : Tr} : ∀ {l : List ByteArray} {a : Int} {out r : List Ext}, placeL t l a out = some r → r = out ++ extsL t l a
  | [], a, out, r, h => by
    rw [placeL] at h
    injection h with h
    rw [extsL, List.append_nil, h]
  | p :: l, a, out, r, h => by
    rw [placeL] at h
    split at h
    · cases h
    · rw [placeL_exts h, extsL, List.append_assoc]
      rfl
theorem blocks_nn {n : Int} (h : 0 ≤ n) : 0 ≤ blocksI n := by
  unfold blocksI
  split <;> omega
theorem placeL_extB {t : Tr} : ∀ {l : List ByteArray} {a : Int} {out r : List Ext}, placeL t l a out = some r → 0 ≤ a → out.all extB = true → r.all extB = true
  | [], a, out, r, h, _, ho => by
    rw [placeL] at h
    injection h with h
    rw [← h]; exact ho
  | p :: l, a, out, r, h, ha, ho => by
    rw [placeL] at h
    split at h
    · cases h
    · rename_i hn
      have hb := blocks_nn (n := (lenP t p : Int)) (by omega)
      refine placeL_extB h (by omega) ?_
      rw [List.all_append, ho, Bool.true_and]
      simp only [List.all_cons, List.all_nil, Bool.and_true]
      exact decide_eq_true ⟨ha, by show (0 : Int) ≤ (lenP t p : Int); omega, by show a ≤ 4096; omega, by show blocksI (lenP t p : Int) ≤ 4096 - a; omega⟩
theorem exts_len (t : Tr) : ∀ (l : List ByteArray) (a : Int), (extsL t l a).length = l.length
  | [], _ => rfl
  | p :: l, a => by rw [extsL, List.length_cons, exts_len t l, List.length_cons]
end Go.Proofs.YtocgindpjjolpaaGreatDoor
namespace Go.Proofs.YtocgindpjjolpaaGreatDoor
set_option linter.unusedSimpArgs false
set_option linter.unusedVariables false
open Go.RowKit
theorem few47_ct {t : Tr} {n : Nat} (h : few47 t n = true) : t.count ≤ 40 := by
  unfold few47 at h
  rw [Bool.and_eq_true] at h
  exact (few_sz h.1).1
end Go.Proofs.YtocgindpjjolpaaGreatDoor
