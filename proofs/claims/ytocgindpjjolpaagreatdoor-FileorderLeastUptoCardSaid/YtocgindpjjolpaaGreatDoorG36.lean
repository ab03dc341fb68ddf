/- Contracts and plain words for the laws of this chapter, part 36: Fp7. No condition. -/
import Derived.Test.YtocgindpjjolpaaGreatDoorG34
namespace Go.Proofs.YtocgindpjjolpaaGreatDoor
set_option linter.unusedSimpArgs false
set_option linter.unusedVariables false
theorem bestT_no {t : Tr} {acc : List ByteArray} (hv : validB t = false) : bestT t acc = ([], 1) := by unfold bestT; rw [if_pos hv]
theorem bestT_big {t : Tr} {acc : List ByteArray} (hv : validB t = true) (h : 6 < (filesT t).length ∨ 64 < acc.length) : bestT t acc = ([], 7) := by
  unfold bestT
  rw [if_neg (by rw [hv]; decide), if_pos h]
theorem bestT_nf {t : Tr} {acc : List ByteArray} (hv : validB t = true) (h : ¬ (6 < (filesT t).length ∨ 64 < acc.length)) (ha : acc.all (hasS (filesT t)) = false) : bestT t acc = ([], 6) := by
  unfold bestT
  rw [if_neg (by rw [hv]; decide), if_neg h, if_pos ha]
theorem ordersS_top {fs : List ByteArray} (hn : fs.Nodup) : ordersS fs fs.length [] = (ordersL fs.length fs.length []).map (namesAt fs) := ordersS_L hn fs.length [] (fun i hi => by cases hi)
theorem ordersS_perm {fs o : List ByteArray} (hn : fs.Nodup) (h : o ∈ ordersS fs fs.length []) : o.Perm fs := by
  rw [ordersS_top hn] at h
  obtain ⟨l, hl, rfl⟩ := List.mem_map.1 h
  exact names_perm hn (orders_ok hl).1 (orders_ok hl).2.1 (orders_ok hl).2.2
theorem bestT_few {t : Tr} {acc : List ByteArray} (hv : validB t = true) (h : ¬ (6 < (filesT t).length ∨ 64 < acc.length)) (ha : acc.all (hasS (filesT t)) = true) (hok : ∀ o : List ByteArray, o.Perm (filesT t) → (placeT t o 0).2 = 0) :
    bestT t acc = (((ordersS (filesT t) (filesT t).length []).foldl (bstep (costO t acc)) ([], -1)).1, 0) := by
  unfold bestT
  rw [if_neg (by rw [hv]; decide), if_neg h, if_neg (by rw [ha]; decide), bestF_fold _ _ _ (fun l hl => hok _ (names_perm (files_nodup t) (orders_ok hl).1 (orders_ok hl).2.1 (orders_ok hl).2.2)), ordersS_top (files_nodup t)]
def StF {α : Type} (c : α → Int) (LL : List α) (d : α) (i : Nat) (o : α) (m : Int) : Prop := (i = 0 ∧ o = d ∧ m = 0) ∨ (0 < i ∧ 0 ≤ m ∧ (LL.take i).foldl (bstep c) (d, -1) = (o, m))
theorem stF_new {α : Type} {c : α → Int} {LL : List α} {d o x : α} {i : Nat} {m : Int} (hc : ∀ x, 0 ≤ c x) (h : StF c LL d i o m) (hx : LL[i]? = some x) (hn : i = 0 ∨ c x < m) : StF c LL d (i + 1) x (c x) := by
  refine Or.inr ⟨by omega, hc x, ?_⟩
  rw [List.take_add_one, hx, List.foldl_append]
  rcases h with ⟨rfl, -, -⟩ | ⟨h0, h1, h2⟩
  · show bstep c (d, -1) x = _
    unfold bstep
    exact if_pos (Or.inl (show (-1 : Int) < 0 by decide))
  · rw [h2]
    show bstep c (o, m) x = _
    unfold bstep
    exact if_pos (Or.inr (by rcases hn with h | h; omega; exact h))
theorem stF_old {α : Type} {c : α → Int} {LL : List α} {d o x : α} {i : Nat} {m : Int} (h : StF c LL d i o m) (hx : LL[i]? = some x) (hn : ¬ (i = 0 ∨ c x < m)) : StF c LL d (i + 1) o m := by
  rcases h with ⟨h0, -, -⟩ | ⟨h0, h1, h2⟩
  · exact absurd (Or.inl h0) hn
  · refine Or.inr ⟨by omega, h1, ?_⟩
    rw [List.take_add_one, hx, List.foldl_append, h2]
    show bstep c (o, m) x = _
    unfold bstep
    exact if_neg (fun h => h.elim (fun h => absurd h (by show ¬ m < 0; omega)) (fun h => hn (Or.inr h)))
theorem stF_end {α : Type} {c : α → Int} {LL : List α} {d o : α} {m : Int} (h : StF c LL d LL.length o m) (h0 : 0 < LL.length) : (LL.foldl (bstep c) (d, -1)).1 = o := by
  rcases h with ⟨h1, -, -⟩ | ⟨_, _, h2⟩
  · omega
  · rw [List.take_length] at h2
    rw [h2]
end Go.Proofs.YtocgindpjjolpaaGreatDoor
