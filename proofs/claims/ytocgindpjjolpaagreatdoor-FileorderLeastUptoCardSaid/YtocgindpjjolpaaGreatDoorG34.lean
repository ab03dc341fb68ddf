/- Contracts and plain words for the laws of this chapter, part 34: Fp6. No condition. -/
import Derived.Test.YtocgindpjjolpaaGreatDoorG30
import Derived.Test.YtocgindpjjolpaaGreatDoorG22
namespace Go.Proofs.YtocgindpjjolpaaGreatDoor
set_option linter.unusedSimpArgs false
set_option linter.unusedVariables false
def ordersS (fs : List ByteArray) : Nat → List ByteArray → List (List ByteArray)
  | 0, l => if l.length = fs.length then [l] else []
  | k + 1, l => if l.length = fs.length then [l] else fs.flatMap fun p => if hasS l p then [] else ordersS fs k (l ++ [p])
theorem namesAt_app (fs : List ByteArray) (l m : List Nat) : namesAt fs (l ++ m) = namesAt fs l ++ namesAt fs m := List.map_append
theorem range_names (fs : List ByteArray) : fs = (List.range fs.length).map fun i => fs[i]?.getD eS := by
  apply List.ext_getElem?
  intro i
  rw [List.getElem?_map]
  by_cases hi : i < fs.length
  · rw [List.getElem?_range hi, Option.map_some, List.getElem?_eq_getElem hi]
    rfl
  · rw [List.getElem?_eq_none (by omega), List.getElem?_eq_none (by rw [List.length_range]; omega)]
    rfl
theorem has_names {fs : List ByteArray} (hn : fs.Nodup) {l : List Nat} (hl : ∀ i ∈ l, i < fs.length) {i : Nat} (hi : i < fs.length) : hasS (namesAt fs l) (fs[i]?.getD eS) = l.contains i := by
  rw [Bool.eq_iff_iff, hasS_iff, List.contains_iff_mem]
  unfold namesAt
  rw [List.mem_map]
  constructor
  · rintro ⟨j, hj, e⟩
    have hj2 := hl j hj
    rw [List.getElem?_eq_getElem hj2, List.getElem?_eq_getElem hi] at e
    have e2 : fs[j] = fs[i] := e
    have : j = i := by
      rcases Nat.lt_trichotomy j i with h | h | h
      · exact absurd e2 (List.pairwise_iff_getElem.1 hn j i hj2 hi h)
      · exact h
      · exact absurd e2.symm (List.pairwise_iff_getElem.1 hn i j hi hj2 h)
    exact this ▸ hj
  · exact fun h => ⟨i, h, rfl⟩
theorem flatMap_congr2 {α β : Type} {f g : α → List β} : ∀ {l : List α}, (∀ x ∈ l, f x = g x) → l.flatMap f = l.flatMap g
  | [], _ => rfl
  | x :: l, h => by
    rw [List.flatMap_cons, List.flatMap_cons, h x (List.mem_cons_self ..), flatMap_congr2 fun y hy => h y (List.mem_cons_of_mem _ hy)]
theorem ordersS_L {fs : List ByteArray} (hn : fs.Nodup) : ∀ (k : Nat) (l : List Nat), (∀ i ∈ l, i < fs.length) → ordersS fs k (namesAt fs l) = (ordersL fs.length k l).map (namesAt fs)
  | 0, l, hl => by
    rw [ordersS, ordersL, namesAt_len]
    split <;> rfl
  | k + 1, l, hl => by
    rw [ordersS, ordersL, namesAt_len]
    split
    · rfl
    · rw [List.map_flatMap]
      conv => lhs; arg 2; rw [range_names fs]
      rw [List.flatMap_map]
      refine flatMap_congr2 fun i hi => ?_
      have hi := List.mem_range.1 hi
      rw [has_names hn hl hi]
      cases l.contains i with
      | true => rfl
      | false =>
        rw [if_neg (by decide), if_neg (by decide)]
        have e : namesAt fs l ++ [fs[i]?.getD eS] = namesAt fs (l ++ [i]) := by rw [namesAt_app]; rfl
        rw [e]
        refine ordersS_L hn k (l ++ [i]) fun j hj => ?_
        rcases List.mem_append.1 hj with h | h
        · exact hl j h
        · rw [List.mem_singleton] at h; omega
/-! All orders, each once. -/
theorem ordersL_perm {n : Nat} : ∀ (k : Nat) (l : List Nat), l.Nodup → (∀ i ∈ l, i < n) → ∀ x ∈ ordersL n k l, x.Nodup ∧ ∃ r, x = l ++ r
  | 0, l, hn, hl, x, hx => by
    rw [ordersL] at hx
    split at hx
    · rw [List.mem_singleton] at hx; subst hx; exact ⟨hn, [], by simp⟩
    · cases hx
  | k + 1, l, hn, hl, x, hx => by
    rw [ordersL] at hx
    split at hx
    · rw [List.mem_singleton] at hx; subst hx; exact ⟨hn, [], by simp⟩
    · obtain ⟨i, hi, hx⟩ := List.mem_flatMap.1 hx
      cases hc : l.contains i with
      | true => rw [hc] at hx; cases hx
      | false =>
        rw [hc, if_neg (by decide)] at hx
        have hni : i ∉ l := fun h => by rw [List.contains_iff_mem.2 h] at hc; cases hc
        obtain ⟨h1, r, h2⟩ := ordersL_perm k (l ++ [i]) (List.nodup_append.2 ⟨hn, by simp, fun a ha b hb e => hni (by rw [List.mem_singleton] at hb; rw [← hb, ← e]; exact ha)⟩) (fun j hj => by
          rcases List.mem_append.1 hj with h | h
          · exact hl j h
          · rw [List.mem_singleton] at h; rw [h]; exact List.mem_range.1 hi) x hx
        exact ⟨h1, i :: r, by rw [h2, List.append_assoc]; rfl⟩
theorem ordersL_all {n : Nat} : ∀ (k : Nat) (l r : List Nat), (l ++ r).Nodup → (∀ i ∈ l ++ r, i < n) → (l ++ r).length = n → r.length ≤ k → l ++ r ∈ ordersL n k l
  | k, l, [], hn, hl, hz, _ => by
    rw [List.append_nil] at *
    cases k <;> (rw [ordersL, if_pos hz]; exact List.mem_singleton.2 rfl)
  | 0, l, i :: r, _, _, _, hk => absurd hk (by simp)
  | k + 1, l, i :: r, hn, hl, hz, hk => by
    have e : l ++ i :: r = (l ++ [i]) ++ r := by simp
    rw [ordersL, if_neg (by rw [List.length_append, List.length_cons] at hz; omega)]
    refine List.mem_flatMap.2 ⟨i, List.mem_range.2 (hl i (by simp)), ?_⟩
    have hc : l.contains i = false := by
      cases hc : l.contains i with
      | false => rfl
      | true => exact absurd rfl ((List.nodup_append.1 hn).2.2 i (List.contains_iff_mem.1 hc) i (List.mem_cons_self ..))
    rw [hc, if_neg (by decide), e]
    rw [e] at hn hl hz
    exact ordersL_all k (l ++ [i]) r hn hl hz (by rw [List.length_cons] at hk; omega)
def LexL (a b : List Nat) : Prop := ∃ p i j s s', a = p ++ i :: s ∧ b = p ++ j :: s' ∧ i < j
theorem ordersL_lex {n : Nat} : ∀ (k : Nat) (l : List Nat), l.Nodup → (∀ i ∈ l, i < n) → (ordersL n k l).Pairwise LexL
  | 0, l, _, _ => by
    rw [ordersL]
    split
    · exact List.pairwise_singleton _ _
    · exact List.Pairwise.nil
  | k + 1, l, hn, hl => by
    rw [ordersL]
    split
    · exact List.pairwise_singleton _ _
    · have step : ∀ i, i < n → l.contains i = false → (l ++ [i]).Nodup ∧ ∀ j ∈ l ++ [i], j < n := fun i hi hc => by
        have hni : i ∉ l := fun h => by rw [List.contains_iff_mem.2 h] at hc; cases hc
        refine ⟨List.nodup_append.2 ⟨hn, by simp, fun a ha b hb e => hni (by rw [List.mem_singleton] at hb; rw [← hb, ← e]; exact ha)⟩, fun j hj => ?_⟩
        rcases List.mem_append.1 hj with h | h
        · exact hl j h
        · rw [List.mem_singleton] at h; rw [h]; exact hi
      rw [List.pairwise_flatMap]
      constructor
      · intro i hi
        have hi := List.mem_range.1 hi
        cases hc : l.contains i with
        | true => exact List.Pairwise.nil
        | false =>
          rw [if_neg (by decide)]
          exact ordersL_lex k (l ++ [i]) (step i hi hc).1 (step i hi hc).2
      · refine List.Pairwise.imp_of_mem (R := fun a b => a < b) ?_ List.pairwise_lt_range
        intro i j hi hj hij x hx y hy
        have hi := List.mem_range.1 hi
        have hj := List.mem_range.1 hj
        cases hci : l.contains i with
        | true => rw [hci] at hx; cases hx
        | false =>
        cases hcj : l.contains j with
        | true => rw [hcj] at hy; cases hy
        | false =>
        rw [hci, if_neg (by decide)] at hx
        rw [hcj, if_neg (by decide)] at hy
        obtain ⟨-, r, e1⟩ := ordersL_perm k _ (step i hi hci).1 (step i hi hci).2 x hx
        obtain ⟨-, s, e2⟩ := ordersL_perm k _ (step j hj hcj).1 (step j hj hcj).2 y hy
        exact ⟨l, i, j, r, s, by rw [e1, List.append_assoc]; rfl, by rw [e2, List.append_assoc]; rfl, hij⟩
/-! The first of the cheapest. -/
def bstep {α : Type} (c : α → Int) (s : α × Int) (o : α) : α × Int := if s.2 < 0 ∨ c o < s.2 then (o, c o) else s
theorem bfold_least {α : Type} {c : α → Int} (hc : ∀ x, 0 ≤ c x) (d : α) : ∀ (l : List α), l ≠ [] → ∃ pre b suf, l = pre ++ b :: suf ∧ l.foldl (bstep c) (d, -1) = (b, c b) ∧ (∀ x ∈ pre, c b < c x) ∧ (∀ x ∈ suf, c b ≤ c x) := by
  intro l
  obtain ⟨m, rfl⟩ : ∃ m : List α, l = m.reverse := ⟨l.reverse, by simp⟩
  induction m with
  | nil => exact fun h => absurd rfl h
  | cons x l' ih =>
    intro _
    rw [List.reverse_cons]
    generalize l'.reverse = l at *
    rw [List.foldl_append, List.foldl_cons, List.foldl_nil]
    by_cases h0 : l = []
    · subst h0
      refine ⟨[], x, [], rfl, ?_, ⟨fun y hy => (by cases hy), fun y hy => (by cases hy)⟩⟩
      rw [List.foldl_nil]; unfold bstep; exact if_pos (Or.inl (show (-1 : Int) < 0 by decide))
    · obtain ⟨pre, b, suf, e, h1, h2, h3⟩ := ih h0
      rw [h1]
      have hb := hc b
      by_cases hx : c x < c b
      · refine ⟨l, x, [], rfl, by unfold bstep; rw [if_pos (Or.inr hx)], fun y hy => ?_, fun y hy => by cases hy⟩
        rw [e] at hy
        rcases List.mem_append.1 hy with hy | hy
        · have := h2 y hy; omega
        · rcases List.mem_cons.1 hy with hy | hy
          · rw [hy]; exact hx
          · have := h3 y hy; omega
      · refine ⟨pre, b, suf ++ [x], by rw [e]; simp, by unfold bstep; rw [if_neg (by show ¬ (c b < 0 ∨ c x < c b); omega)], h2, fun y hy => ?_⟩
        rcases List.mem_append.1 hy with hy | hy
        · exact h3 y hy
        · rw [List.mem_singleton] at hy; rw [hy]; omega
def costO (t : Tr) (acc o : List ByteArray) : Int := (costT (placeT t o 0).1 acc).1
theorem seek_nn {s : Int × Int} {f : Ext} (h : 0 ≤ s.1) : 0 ≤ (seek s f).1 := by
  unfold seek
  split
  · show 0 ≤ s.1 + max (f.start - s.2) (s.2 - f.start)
    omega
  · exact h
theorem seeks_nn : ∀ {l : List Ext} {s : Int × Int}, 0 ≤ s.1 → 0 ≤ (l.foldl seek s).1
  | [], _, h => h
  | f :: l, s, h => by rw [List.foldl_cons]; exact seeks_nn (seek_nn h)
theorem costL_nn {fs : List Ext} : ∀ {l : List ByteArray} {s r : Int × Int}, costL fs l s = some r → 0 ≤ s.1 → 0 ≤ r.1
  | [], s, r, h, hs => by
    rw [costL] at h
    injection h with h
    rw [← h]; exact hs
  | p :: l, s, r, h, hs => by
    rw [costL] at h
    split at h
    · cases h
    · exact costL_nn h (seeks_nn hs)
theorem costT_nn (fs : List Ext) (acc : List ByteArray) : 0 ≤ (costT fs acc).1 := by
  unfold costT
  split
  · exact Int.le_refl _
  · split
    · cases h : costL fs acc (0, 0) with
      | none => exact Int.le_refl _
      | some s => exact (costL_nn (s := (0, 0)) h (Int.le_refl (0 : Int)) : 0 ≤ s.1)
    · exact Int.le_refl _
theorem bestF_fold {t : Tr} {acc fs : List ByteArray} : ∀ (ls : List (List Nat)) (b : List ByteArray) (m : Int), (∀ l ∈ ls, (placeT t (namesAt fs l) 0).2 = 0) → bestF t acc fs ls b m = (((ls.map (namesAt fs)).foldl (bstep (costO t acc)) (b, m)).1, 0)
  | [], _, _, _ => rfl
  | l :: ls, b, m, h => by
    have h0 := h l (List.mem_cons_self ..)
    have hr := fun b m => bestF_fold (acc := acc) ls b m fun x hx => h x (List.mem_cons_of_mem _ hx)
    rw [bestF, if_neg (fun h => h h0), List.map_cons, List.foldl_cons]
    unfold bstep
    by_cases hc : m < 0 ∨ (costT (placeT t (namesAt fs l) 0).1 acc).1 < m
    · rw [if_pos hc, hr]
      show _ = (((ls.map (namesAt fs)).foldl (bstep (costO t acc)) (if m < 0 ∨ costO t acc (namesAt fs l) < m then _ else _)).1, 0)
      rw [if_pos (show m < 0 ∨ costO t acc (namesAt fs l) < m from hc)]
      rfl
    · rw [if_neg hc, hr]
      show _ = (((ls.map (namesAt fs)).foldl (bstep (costO t acc)) (if m < 0 ∨ costO t acc (namesAt fs l) < m then _ else _)).1, 0)
      rw [if_neg (show ¬ (m < 0 ∨ costO t acc (namesAt fs l) < m) from hc)]
/-! No order is cheaper, and none of the same cost comes before. -/
def cmpP (f : ByteArray → Int) : List ByteArray → List ByteArray → Int
  | [], [] => 0
  | [], _ :: _ => -1
  | _ :: _, [] => 1
  | a :: l, b :: m => if f a - f b = 0 then cmpP f l m else f a - f b
theorem cmpP_refl (f : ByteArray → Int) : ∀ l : List ByteArray, cmpP f l l = 0
  | [] => rfl
  | a :: l => by rw [cmpP, if_pos (by omega)]; exact cmpP_refl f l
theorem cmpP_pre (f : ByteArray → Int) : ∀ p l m : List ByteArray, cmpP f (p ++ l) (p ++ m) = cmpP f l m
  | [], _, _ => rfl
  | a :: p, l, m => by rw [List.cons_append, List.cons_append, cmpP, if_pos (by omega)]; exact cmpP_pre f p l m
theorem cmp_lex {fs : List ByteArray} (hn : fs.Nodup) {a b : List Nat} (ha : ∀ i ∈ a, i < fs.length) (hb : ∀ i ∈ b, i < fs.length) (h : LexL a b) : 0 < cmpP (fun p => (idxN fs p : Int)) (namesAt fs b) (namesAt fs a) := by
  obtain ⟨p, i, j, s, s', rfl, rfl, hij⟩ := h
  have hi := ha i (by simp)
  have hj := hb j (by simp)
  rw [namesAt_app, namesAt_app, cmpP_pre]
  have e1 : namesAt fs (j :: s') = fs[j]?.getD eS :: namesAt fs s' := rfl
  have e2 : namesAt fs (i :: s) = fs[i]?.getD eS :: namesAt fs s := rfl
  have i1 := idxN_at hn (List.getElem?_eq_getElem hi)
  have i2 := idxN_at hn (List.getElem?_eq_getElem hj)
  rw [e1, e2, cmpP, List.getElem?_eq_getElem hi, List.getElem?_eq_getElem hj, Option.getD_some, Option.getD_some, i1, i2, if_neg (by omega)]
  omega
theorem names_perm {fs : List ByteArray} (hn : fs.Nodup) {l : List Nat} (h1 : l.Nodup) (h2 : ∀ i ∈ l, i < fs.length) (h3 : l.length = fs.length) : (namesAt fs l).Perm fs := by
  refine perm_sub ?_ (fun p hp => namesAt_mem h2 hp) (by rw [namesAt_len]; omega)
  unfold namesAt
  rw [List.Nodup, List.pairwise_map]
  refine List.Pairwise.imp_of_mem (R := fun a b => a ≠ b) ?_ h1
  intro i j hi hj hij e
  have hi := h2 i hi
  have hj := h2 j hj
  rw [List.getElem?_eq_getElem hi, List.getElem?_eq_getElem hj] at e
  have e2 : fs[i] = fs[j] := e
  rcases Nat.lt_trichotomy i j with h | h | h
  · exact List.pairwise_iff_getElem.1 hn i j hi hj h e2
  · exact hij h
  · exact List.pairwise_iff_getElem.1 hn j i hj hi h e2.symm
theorem idxN_mem {fs : List ByteArray} {p : ByteArray} (h : p ∈ fs) : idxN fs p < fs.length ∧ fs[idxN fs p]? = some p := by
  have h1 : idxN fs p < fs.length := List.findIdx_lt_length_of_exists ⟨p, h, decide_eq_true rfl⟩
  have h2 := List.findIdx_getElem (w := h1)
  exact ⟨h1, by rw [List.getElem?_eq_getElem h1]; exact congrArg some (of_decide_eq_true h2)⟩
theorem names_of {fs o : List ByteArray} (h : o.Perm fs) (hn : fs.Nodup) : ∃ l : List Nat, o = namesAt fs l ∧ l.Nodup ∧ (∀ i ∈ l, i < fs.length) ∧ l.length = fs.length := by
  refine ⟨o.map (idxN fs), ?_, ?_, ?_, ?_⟩
  · unfold namesAt
    rw [List.map_map]
    conv => lhs; rw [← List.map_id o]
    refine List.map_congr_left fun p hp => ?_
    show p = (fs[idxN fs p]?).getD eS
    rw [(idxN_mem (h.mem_iff.1 hp)).2]
    rfl
  · rw [List.Nodup, List.pairwise_map]
    refine List.Pairwise.imp_of_mem (R := fun a b => a ≠ b) ?_ (h.nodup_iff.2 hn)
    intro a b ha hb hab e
    have h1 := (idxN_mem (h.mem_iff.1 ha)).2
    have h2 := (idxN_mem (h.mem_iff.1 hb)).2
    rw [e, h2] at h1
    injection h1 with h1
    exact hab h1.symm
  · intro i hi
    obtain ⟨p, hp, rfl⟩ := List.mem_map.1 hi
    exact (idxN_mem (h.mem_iff.1 hp)).1
  · rw [List.length_map]; exact h.length_eq
theorem orders_ok {n : Nat} {l : List Nat} (h : l ∈ ordersL n n []) : l.Nodup ∧ (∀ i ∈ l, i < n) ∧ l.length = n :=
  ⟨(ordersL_perm n [] List.nodup_nil (fun i hi => by cases hi) l h).1, (ordersL_lt n [] (fun i hi => by cases hi) l h).2, (ordersL_lt n [] (fun i hi => by cases hi) l h).1⟩
theorem orders_has {fs o : List ByteArray} (h : o.Perm fs) (hn : fs.Nodup) : ∃ l ∈ ordersL fs.length fs.length [], o = namesAt fs l := by
  obtain ⟨l, e, h1, h2, h3⟩ := names_of h hn
  exact ⟨l, ordersL_all fs.length [] l h1 h2 h3 (by omega), e⟩
theorem best_least {t : Tr} {acc b : List ByteArray} (hok : ∀ o : List ByteArray, o.Perm (filesT t) → (placeT t o 0).2 = 0) (h : bestT t acc = (b, 0)) :
    acc.all (hasS (filesT t)) = true ∧ b.Perm (filesT t) ∧ ∀ o : List ByteArray, o.Perm (filesT t) → costO t acc b ≤ costO t acc o ∧ (costO t acc o = costO t acc b → 0 ≤ cmpP (fun p => (idxN (filesT t) p : Int)) o b) := by
  unfold bestT at h
  have hn := files_nodup t
  split at h
  · exact absurd (congrArg Prod.snd h) (by simp)
  split at h
  · exact absurd (congrArg Prod.snd h) (by simp)
  split at h
  · exact absurd (congrArg Prod.snd h) (by simp)
  rename_i h6 hacc
  rw [bestF_fold _ _ _ (fun l hl => hok _ (names_perm hn (orders_ok hl).1 (orders_ok hl).2.1 (orders_ok hl).2.2))] at h
  have hb := congrArg Prod.fst h
  obtain ⟨lf, hlf, -⟩ := orders_has (List.Perm.refl (filesT t)) hn
  obtain ⟨pre, b2, suf, e, h1, h2, h3⟩ := bfold_least (c := costO t acc) (fun x => costT_nn _ _) ([] : List ByteArray) ((ordersL (filesT t).length (filesT t).length []).map (namesAt (filesT t))) (fun hnil => by
    rw [List.map_eq_nil_iff] at hnil
    rw [hnil] at hlf
    cases hlf)
  rw [h1] at hb
  have hb : b2 = b := hb
  subst hb
  have hP : ((ordersL (filesT t).length (filesT t).length []).map (namesAt (filesT t))).Pairwise fun x y => 0 < cmpP (fun p => (idxN (filesT t) p : Int)) y x := by
    rw [List.pairwise_map]
    exact List.Pairwise.imp_of_mem (fun ha hb hab => cmp_lex hn (orders_ok ha).2.1 (orders_ok hb).2.1 hab) (ordersL_lex (filesT t).length [] List.nodup_nil (fun i hi => by cases hi))
  rw [e] at hP
  have hbm : b2 ∈ (ordersL (filesT t).length (filesT t).length []).map (namesAt (filesT t)) := by rw [e]; simp
  obtain ⟨lb, hlb, rfl⟩ := List.mem_map.1 hbm
  refine ⟨by cases hh : acc.all (hasS (filesT t)) with | true => rfl | false => exact absurd hh hacc, names_perm hn (orders_ok hlb).1 (orders_ok hlb).2.1 (orders_ok hlb).2.2, fun o ho => ?_⟩
  obtain ⟨lo, hlo, eo⟩ := orders_has ho hn
  have hm : o ∈ (ordersL (filesT t).length (filesT t).length []).map (namesAt (filesT t)) := List.mem_map.2 ⟨lo, hlo, eo.symm⟩
  rw [e] at hm
  rcases List.mem_append.1 hm with hm | hm
  · have := h2 o hm
    exact ⟨by omega, fun e => by omega⟩
  · rcases List.mem_cons.1 hm with hm | hm
    · rw [hm]; exact ⟨Int.le_refl _, fun _ => by rw [cmpP_refl]; exact Int.le_refl _⟩
    · exact ⟨h3 o hm, fun _ => Int.le_of_lt ((List.pairwise_cons.1 (List.pairwise_append.1 hP).2.1).1 o hm)⟩
end Go.Proofs.YtocgindpjjolpaaGreatDoor
