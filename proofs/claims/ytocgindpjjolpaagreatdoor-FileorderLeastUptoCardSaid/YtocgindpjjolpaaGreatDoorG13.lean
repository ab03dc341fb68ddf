/- Contracts and plain words for the laws of this chapter, part 13: Ms, Fp1, Fa. No condition. -/
import Derived.Sort.Defs
import Derived.Test.YtocgindpjjolpaaGreatDoorG12
import Derived.Test.YtocgindpjjolpaaGreatDoorG9
namespace Go.Proofs.YtocgindpjjolpaaGreatDoor
set_option linter.unusedSimpArgs false
set_option linter.unusedVariables false
open Go.Sort
structure Swo {α : Type} (lt : α → α → Bool) : Prop where
  irr : ∀ x, lt x x = false
  tr : ∀ x y z, lt x y = true → lt y z = true → lt x z = true
  neg : ∀ x y z, lt x y = false → lt y z = false → lt x z = false
def ins {α : Type} (lt : α → α → Bool) (x : α) : List α → List α
  | [] => [x]
  | y :: l => if lt x y then x :: y :: l else y :: ins lt x l
def srt {α : Type} (lt : α → α → Bool) (l : List α) : List α := l.foldl (fun acc x => ins lt x acc) []
def mrg {α : Type} (lt : α → α → Bool) : List α → List α → List α
  | [], r => r
  | x :: l, [] => x :: l
  | x :: l, y :: r => if lt y x then y :: mrg lt (x :: l) r else x :: mrg lt l (y :: r)
termination_by l r => l.length + r.length
theorem mrg_nil {α : Type} (lt : α → α → Bool) (r : List α) : mrg lt [] r = r := by rw [mrg]
theorem mrg_right {α : Type} (lt : α → α → Bool) : ∀ l : List α, mrg lt l [] = l
  | [] => by rw [mrg]
  | x :: l => by rw [mrg]
theorem mrg_cons {α : Type} (lt : α → α → Bool) (x y : α) (l r : List α) : mrg lt (x :: l) (y :: r) = if lt y x then y :: mrg lt (x :: l) r else x :: mrg lt l (y :: r) := by rw [mrg]
theorem mrg_one {α : Type} (lt : α → α → Bool) (x : α) : ∀ l : List α, mrg lt l [x] = ins lt x l
  | [] => by rw [mrg_nil, ins]
  | y :: l => by
    rw [mrg_cons, ins, mrg_right, mrg_one lt x l]
theorem mrg_ins {α : Type} {lt : α → α → Bool} (h : Swo lt) (x : α) : ∀ (n : Nat) (l r : List α), l.length + r.length ≤ n → mrg lt l (ins lt x r) = ins lt x (mrg lt l r)
  | n, [], r, _ => by rw [mrg_nil, mrg_nil]
  | n, l, [], _ => by rw [ins, mrg_one, mrg_right]
  | 0, _ :: _, _ :: _, hn => by simp at hn
  | n + 1, x0 :: l, y :: r, hn => by
    simp only [List.length_cons] at hn
    rw [mrg_cons]
    cases hy : lt y x0 with
    | true =>
      rw [if_pos rfl]
      cases hx : lt x y with
      | true =>
        have e1 : lt x x0 = true := h.tr _ _ _ hx hy
        rw [ins, if_pos hx, mrg_cons, if_pos e1, mrg_cons, if_pos hy, ins, if_pos hx]
      | false =>
        rw [ins, if_neg (by rw [hx]; decide), mrg_cons, if_pos hy, mrg_ins h x n (x0 :: l) r (by simp only [List.length_cons]; omega), ins, if_neg (by rw [hx]; decide)]
    | false =>
      rw [if_neg (by decide)]
      cases hx : lt x x0 with
      | true =>
        have e1 : lt x y = true := by
          cases e : lt x y with
          | true => rfl
          | false => rw [h.neg _ _ _ e hy] at hx; cases hx
        rw [ins, if_pos e1, mrg_cons, if_pos hx, mrg_cons, if_neg (by rw [hy]; decide), ins, if_pos hx]
      | false =>
        have IH := mrg_ins h x n l (y :: r) (by simp only [List.length_cons]; omega)
        rw [ins] at IH ⊢
        cases hxy : lt x y with
        | true =>
          rw [hxy, if_pos rfl] at IH
          rw [if_pos rfl, mrg_cons, if_neg (by rw [hx]; decide), IH]
          show _ = ins lt x (x0 :: mrg lt l (y :: r))
          rw [ins, if_neg (by rw [hx]; decide)]
        | false =>
          rw [hxy, if_neg (by decide)] at IH
          rw [if_neg (by decide), mrg_cons, if_neg (by rw [hy]; decide), IH]
          show _ = ins lt x (x0 :: mrg lt l (y :: r))
          rw [ins, if_neg (by rw [hx]; decide)]
theorem mrg_fold {α : Type} {lt : α → α → Bool} (h : Swo lt) (l : List α) : ∀ (b acc : List α), b.foldl (fun acc x => ins lt x acc) (mrg lt l acc) = mrg lt l (b.foldl (fun acc x => ins lt x acc) acc)
  | [], acc => rfl
  | x :: b, acc => by
    rw [List.foldl_cons, List.foldl_cons, ← mrg_ins h x _ l acc (Nat.le_refl _), mrg_fold h l b]
theorem srt_app {α : Type} {lt : α → α → Bool} (h : Swo lt) (a b : List α) : srt lt (a ++ b) = mrg lt (srt lt a) (srt lt b) := by
  unfold srt
  rw [List.foldl_append]
  have := mrg_fold h (a.foldl (fun acc x => ins lt x acc) []) b []
  rw [mrg_right] at this
  exact this
theorem ins_len {α : Type} (lt : α → α → Bool) (x : α) : ∀ l : List α, (ins lt x l).length = l.length + 1
  | [] => rfl
  | y :: l => by
    rw [ins]
    split
    · rfl
    · rw [List.length_cons, ins_len lt x l, List.length_cons]
theorem srt_len {α : Type} (lt : α → α → Bool) (l : List α) : (srt lt l).length = l.length := by
  have : ∀ (l acc : List α), (l.foldl (fun acc x => ins lt x acc) acc).length = acc.length + l.length := by
    intro l
    induction l with
    | nil => intro acc; rfl
    | cons x l ih => intro acc; rw [List.foldl_cons, ih, ins_len, List.length_cons]; omega
  have e := this l []
  rw [List.length_nil, Nat.zero_add] at e
  exact e
theorem mrg_len {α : Type} (lt : α → α → Bool) : ∀ (n : Nat) (l r : List α), l.length + r.length ≤ n → (mrg lt l r).length = l.length + r.length
  | n, [], r, _ => by rw [mrg_nil]; simp
  | n, l, [], _ => by rw [mrg_right]; simp
  | 0, _ :: _, _ :: _, hn => by simp at hn
  | n + 1, x :: l, y :: r, hn => by
    simp only [List.length_cons] at hn
    rw [mrg_cons]
    split
    · rw [List.length_cons, mrg_len lt n (x :: l) r (by simp only [List.length_cons]; omega)]
      simp only [List.length_cons]; omega
    · rw [List.length_cons, mrg_len lt n l (y :: r) (by simp only [List.length_cons]; omega)]
      simp only [List.length_cons]; omega
def Srt {α : Type} (lt : α → α → Bool) (l : List α) : Prop := l.Pairwise (fun x y => lt y x = false)
theorem ins_mem {α : Type} {lt : α → α → Bool} {x z : α} : ∀ {l : List α}, z ∈ ins lt x l ↔ z = x ∨ z ∈ l
  | [] => by simp [ins]
  | y :: l => by
    rw [ins]
    split
    · simp
    · rw [List.mem_cons, ins_mem, List.mem_cons]
      constructor
      · rintro (h | h | h)
        · exact Or.inr (Or.inl h)
        · exact Or.inl h
        · exact Or.inr (Or.inr h)
      · rintro (h | h | h)
        · exact Or.inr (Or.inl h)
        · exact Or.inl h
        · exact Or.inr (Or.inr h)
theorem ins_sorted {α : Type} {lt : α → α → Bool} (h : Swo lt) (x : α) : ∀ {l : List α}, Srt lt l → Srt lt (ins lt x l)
  | [], _ => by unfold Srt; rw [ins]; exact List.pairwise_singleton ..
  | y :: l, hs => by
    have h1 := List.pairwise_cons.1 hs
    rw [ins]
    cases hx : lt x y with
    | true =>
      rw [if_pos rfl]
      refine List.pairwise_cons.2 ⟨fun z hz => ?_, hs⟩
      have hyx : lt y x = false := by
        cases e : lt y x with
        | false => rfl
        | true => have := h.irr x; rw [h.tr _ _ _ hx e] at this; cases this
      rcases List.mem_cons.1 hz with rfl | hz
      · exact hyx
      · exact h.neg _ _ _ (h1.1 z hz) hyx
    | false =>
      rw [if_neg (by decide)]
      refine List.pairwise_cons.2 ⟨fun z hz => ?_, ins_sorted h x h1.2⟩
      rcases ins_mem.1 hz with rfl | hz
      · exact hx
      · exact h1.1 z hz
theorem srt_sorted {α : Type} {lt : α → α → Bool} (h : Swo lt) (l : List α) : Srt lt (srt lt l) := by
  have : ∀ (l acc : List α), Srt lt acc → Srt lt (l.foldl (fun acc x => ins lt x acc) acc) := by
    intro l
    induction l with
    | nil => intro acc ha; exact ha
    | cons x l ih => intro acc ha; rw [List.foldl_cons]; exact ih _ (ins_sorted h x ha)
  exact this l [] List.Pairwise.nil
theorem ins_snoc {α : Type} {lt : α → α → Bool} {x y : α} (hy : lt x y = true) : ∀ l : List α, ins lt x (l ++ [y]) = ins lt x l ++ [y]
  | [] => by show ins lt x [y] = ins lt x [] ++ [y]; rw [ins, ins, if_pos hy]; rfl
  | z :: l => by
    rw [List.cons_append, ins, ins]
    split
    · rfl
    · rw [ins_snoc hy l]; rfl
theorem ins_end {α : Type} {lt : α → α → Bool} {x : α} : ∀ l : List α, (∀ z ∈ l, lt x z = false) → ins lt x l = l ++ [x]
  | [], _ => rfl
  | z :: l, h => by
    rw [ins, if_neg (by rw [h z (List.mem_cons_self ..)]; decide), ins_end l (fun y hy => h y (List.mem_cons_of_mem _ hy))]
    rfl
theorem mrg_split {α : Type} {lt : α → α → Bool} : ∀ (n : Nat) (l1 l2 r1 r2 : List α), l1.length + r1.length ≤ n → (∀ x ∈ l1, ∀ y ∈ r2, lt y x = false) → (∀ y ∈ r1, ∀ x ∈ l2, lt y x = true) → mrg lt (l1 ++ l2) (r1 ++ r2) = mrg lt l1 r1 ++ mrg lt l2 r2
  | n, [], l2, [], r2, _, _, _ => by rw [mrg_nil]; rfl
  | 0, _ :: _, _, _, _, hn, _, _ => by simp at hn
  | 0, [], _, _ :: _, _, hn, _, _ => by simp at hn
  | n + 1, [], l2, y :: r1, r2, hn, h1, h2 => by
    simp only [List.length_cons] at hn
    rw [mrg_nil]
    cases l2 with
    | nil => rw [List.nil_append, mrg_nil, mrg_nil]
    | cons x l2 =>
      have e := mrg_split n [] (x :: l2) r1 r2 (by omega) h1 (fun z hz => h2 z (List.mem_cons_of_mem _ hz))
      rw [mrg_nil] at e
      show mrg lt (x :: l2) (y :: (r1 ++ r2)) = _
      rw [mrg_cons, if_pos (h2 y (List.mem_cons_self ..) x (List.mem_cons_self ..))]
      rw [show x :: l2 = [] ++ (x :: l2) from rfl, e]
      rfl
  | n + 1, x :: l1, l2, [], r2, hn, h1, h2 => by
    simp only [List.length_cons] at hn
    rw [mrg_right]
    cases r2 with
    | nil => rw [List.append_nil, mrg_right, mrg_right]
    | cons y r2 =>
      have e := mrg_split n l1 l2 [] (y :: r2) (by omega) (fun z hz => h1 z (List.mem_cons_of_mem _ hz)) h2
      rw [mrg_right] at e
      show mrg lt (x :: (l1 ++ l2)) (y :: r2) = _
      rw [mrg_cons, if_neg (by rw [h1 x (List.mem_cons_self ..) y (List.mem_cons_self ..)]; decide)]
      rw [show y :: r2 = [] ++ (y :: r2) from rfl, e]
      rfl
  | n + 1, x :: l1, l2, y :: r1, r2, hn, h1, h2 => by
    simp only [List.length_cons] at hn
    show mrg lt (x :: (l1 ++ l2)) (y :: (r1 ++ r2)) = _
    rw [mrg_cons, mrg_cons]
    cases hy : lt y x with
    | true =>
      rw [if_pos rfl, if_pos rfl]
      have e := mrg_split n (x :: l1) l2 r1 r2 (by simp only [List.length_cons]; omega) h1 (fun z hz => h2 z (List.mem_cons_of_mem _ hz))
      rw [List.cons_append] at e
      rw [e]
      rfl
    | false =>
      rw [if_neg (by decide), if_neg (by decide)]
      have e := mrg_split n l1 l2 (y :: r1) r2 (by simp only [List.length_cons]; omega) (fun z hz => h1 z (List.mem_cons_of_mem _ hz)) h2
      rw [List.cons_append] at e
      rw [e]
      rfl
theorem mrg_cut {α : Type} {lt : α → α → Bool} (h : Swo lt) {l1 l2 r1 r2 : List α} (hl : Srt lt (l1 ++ l2)) (hr : Srt lt (r1 ++ r2)) (c1 : l1 = [] ∨ r2 = [] ∨ ∃ a u v b, l1 = a ++ [u] ∧ r2 = v :: b ∧ lt v u = false) (c2 : l2 = [] ∨ r1 = [] ∨ ∃ a u v b, r1 = a ++ [u] ∧ l2 = v :: b ∧ lt u v = true) :
    mrg lt (l1 ++ l2) (r1 ++ r2) = mrg lt l1 r1 ++ mrg lt l2 r2 := by
  have hl1 := List.pairwise_append.1 hl
  have hr1 := List.pairwise_append.1 hr
  refine mrg_split _ l1 l2 r1 r2 (Nat.le_refl _) (fun x hx y hy => ?_) (fun y hy x hx => ?_)
  · rcases c1 with rfl | rfl | ⟨a, u, v, b, rfl, rfl, e⟩
    · cases hx
    · cases hy
    · have e1 : lt u x = false := by
        rcases List.mem_append.1 hx with hx | hx
        · exact (List.pairwise_append.1 hl1.1).2.2 x hx u (List.mem_singleton.2 rfl)
        · rw [List.mem_singleton] at hx; subst hx; exact h.irr _
      have e2 : lt y v = false := by
        rcases List.mem_cons.1 hy with rfl | hy
        · exact h.irr _
        · exact (List.pairwise_cons.1 hr1.2.1).1 y hy
      exact h.neg _ _ _ e2 (h.neg _ _ _ e e1)
  · rcases c2 with rfl | rfl | ⟨a, u, v, b, rfl, rfl, e⟩
    · cases hx
    · cases hy
    · have e1 : lt u y = false := by
        rcases List.mem_append.1 hy with hy | hy
        · exact (List.pairwise_append.1 hr1.1).2.2 y hy u (List.mem_singleton.2 rfl)
        · rw [List.mem_singleton] at hy; subst hy; exact h.irr _
      have e2 : lt x v = false := by
        rcases List.mem_cons.1 hx with rfl | hx
        · exact h.irr _
        · exact (List.pairwise_cons.1 hl1.2.1).1 x hx
      cases e3 : lt y x with
      | true => rfl
      | false => rw [h.neg _ _ _ e1 (h.neg _ _ _ e3 e2)] at e; cases e
/-! Rows. -/
theorem swp_list {α : Type} [Inhabited α] {d : Array α} {p q r : List α} {x y : α} {i j : Nat} (e : d.toList = p ++ x :: (q ++ y :: r)) (hi : i = p.length) (hj : j = p.length + 1 + q.length) : (swp d i j).toList = p ++ y :: (q ++ x :: r) ∧ (swp d j i).toList = p ++ y :: (q ++ x :: r) := by
  have hd : d = (p ++ x :: (q ++ y :: r)).toArray := by rw [← e]
  have gi : d[i]! = x := by
    subst hi
    rw [hd, List.getElem!_toArray, List.getElem!_eq_getElem?_getD, List.getElem?_append_right (Nat.le_refl _), Nat.sub_self]
    rfl
  have gj : d[j]! = y := by
    subst hj
    rw [hd, List.getElem!_toArray, List.getElem!_eq_getElem?_getD, List.getElem?_append_right (by omega), show p.length + 1 + q.length - p.length = q.length + 1 by omega, List.getElem?_cons_succ, List.getElem?_append_right (Nat.le_refl _), Nat.sub_self]
    rfl
  have s1 : ∀ z, (p ++ x :: (q ++ y :: r)).set i z = p ++ z :: (q ++ y :: r) := fun z => by
    rw [List.set_append_right _ _ (by omega), hi, Nat.sub_self, List.set_cons_zero]
  have s2 : ∀ u z, (p ++ u :: (q ++ y :: r)).set j z = p ++ u :: (q ++ z :: r) := fun u z => by
    rw [List.set_append_right _ _ (by omega), hj, show p.length + 1 + q.length - p.length = q.length + 1 by omega, List.set_cons_succ, List.set_append_right _ _ (Nat.le_refl _), Nat.sub_self, List.set_cons_zero]
  have s3 : ∀ u z, (p ++ u :: (q ++ z :: r)).set i y = p ++ y :: (q ++ z :: r) := fun u z => by
    rw [List.set_append_right _ _ (by omega), hi, Nat.sub_self, List.set_cons_zero]
  constructor
  · unfold swp
    rw [gi, gj, Array.toList_setIfInBounds, Array.toList_setIfInBounds, e, s1, s2]
  · unfold swp
    rw [gi, gj, Array.toList_setIfInBounds, Array.toList_setIfInBounds, e, s2, s3]
theorem get_at {α : Type} [Inhabited α] {d : Array α} {p q : List α} {x : α} {i : Nat} (e : d.toList = p ++ x :: q) (hi : i = p.length) : d[i]! = x := by
  subst hi
  have hd : d = (p ++ x :: q).toArray := by rw [← e]
  rw [hd, List.getElem!_toArray, List.getElem!_eq_getElem?_getD, List.getElem?_append_right (Nat.le_refl _), Nat.sub_self]
  rfl
theorem swp_size {α : Type} [Inhabited α] (d : Array α) (i j : Nat) : (swp d i j).size = d.size := by
  unfold swp
  rw [Array.size_setIfInBounds, Array.size_setIfInBounds]
theorem inner_list {α : Type} [Inhabited α] {lt : α → α → Bool} (h : Swo lt) (x : α) (p : List α) : ∀ (n : Nat) (s : List α), s.length = n → Srt lt s → ∀ (q : List α) (d : Array α) (j : Nat), d.toList = p ++ (s ++ x :: q) → j = p.length + s.length → (insInner lt p.length j d).toList = p ++ (ins lt x s ++ q)
  | 0, s, hn, _, q, d, j, e, hj => by
    have : s = [] := List.eq_nil_of_length_eq_zero hn
    subst this
    have e2 : (p ++ (ins lt x [] ++ q)) = d.toList := by rw [e]; rfl
    rw [e2]
    cases j with
    | zero => rw [insInner]
    | succ j =>
      rw [insInner, if_neg]
      simp only [List.length_nil, Nat.add_zero] at hj
      simp only [hj, gt_iff_lt, Nat.lt_irrefl, decide_false, Bool.false_and, Bool.false_eq_true, not_false_eq_true]
  | n + 1, s, hn, hs, q, d, j, e, hj => by
    obtain ⟨s', y, rfl⟩ : ∃ s' y, s = s' ++ [y] := by
      have hne : s ≠ [] := fun e0 => by rw [e0] at hn; simp at hn
      exact ⟨s.dropLast, s.getLast hne, (List.dropLast_concat_getLast hne).symm⟩
    rw [List.length_append, List.length_singleton] at hn
    have hs' := List.pairwise_append.1 hs
    cases j with
    | zero => simp at hj
    | succ j =>
      rw [List.length_append, List.length_singleton] at hj
      have hj2 : j = p.length + s'.length := by omega
      have e1 : d.toList = (p ++ s') ++ y :: (([] : List α) ++ x :: q) := by rw [e]; simp
      have gx : d[j + 1]! = x := get_at (p := p ++ s' ++ [y]) (q := q) (by rw [e]; simp) (by simp; omega)
      have gy : d[j]! = y := get_at (p := p ++ s') (q := x :: q) (by rw [e]; simp) (by simp; omega)
      rw [insInner, gx, gy]
      cases hxy : lt x y with
      | true =>
        rw [if_pos (by simp; omega)]
        obtain ⟨_, e3⟩ := swp_list (i := j) (j := j + 1) e1 (by simp; omega) (by simp; omega)
        rw [inner_list h x p n s' (by omega) hs'.1 (y :: q) (swp d (j + 1) j) j (by rw [e3]; simp) hj2, ins_snoc hxy]
        simp
      | false =>
        rw [if_neg (by simp)]
        rw [ins_end (s' ++ [y])]
        · rw [e]; simp
        · intro z hz
          rcases List.mem_append.1 hz with hz | hz
          · exact h.neg _ _ _ hxy (hs'.2.2 z hz y (List.mem_singleton.2 rfl))
          · rw [List.mem_singleton] at hz; subst hz; exact hxy
theorem inner_size {α : Type} [Inhabited α] (lt : α → α → Bool) (a : Nat) : ∀ (j : Nat) (d : Array α), (insInner lt a j d).size = d.size
  | 0, d => rfl
  | j + 1, d => by
    rw [insInner]
    split
    · rw [inner_size lt a j, swp_size]
    · rfl
theorem outer_list {α : Type} [Inhabited α] {lt : α → α → Bool} (h : Swo lt) (p q : List α) : ∀ (n : Nat) (t s o : List α), t.length = n → s = srt lt o → ∀ (d : Array α) (i b : Nat), d.toList = p ++ (s ++ (t ++ q)) → i = p.length + s.length → b = i + n → (insOuter lt p.length b i d).toList = p ++ (srt lt (o ++ t) ++ q)
  | 0, t, s, o, hn, hs, d, i, b, e, hi, hb => by
    have : t = [] := List.eq_nil_of_length_eq_zero hn
    subst this
    rw [insOuter, if_neg (by omega), e, hs, List.append_nil, List.nil_append]
  | n + 1, t, s, o, hn, hs, d, i, b, e, hi, hb => by
    cases t with
    | nil => simp at hn
    | cons x t =>
      simp only [List.length_cons] at hn
      rw [insOuter, if_pos (by omega)]
      have e1 := inner_list h x p s.length s rfl (by rw [hs]; exact srt_sorted h o) (t ++ q) d i (by rw [e]; simp) hi
      have e2 : ins lt x s = srt lt (o ++ [x]) := by
        rw [hs]
        unfold srt
        rw [List.foldl_append]
        rfl
      have := outer_list h p q n t (ins lt x s) (o ++ [x]) (by omega) e2 (insInner lt p.length i d) (i + 1) b (by rw [e1]) (by rw [ins_len]; omega) (by omega)
      rw [this, List.append_assoc]
      rfl
theorem insertion_list {α : Type} [Inhabited α] {lt : α → α → Bool} (h : Swo lt) {p t q : List α} {d : Array α} {a b : Nat} (e : d.toList = p ++ (t ++ q)) (ha : a = p.length) (hb : b = a + t.length) : (insertionSort lt d a b).toList = p ++ (srt lt t ++ q) := by
  subst ha
  unfold insertionSort
  cases t with
  | nil =>
    rw [insOuter, if_neg (by simp at hb; omega), e]
    rfl
  | cons x t =>
    simp only [List.length_cons] at hb
    have := outer_list h p q t.length t [x] [x] rfl rfl d (p.length + 1) b (by rw [e]; simp) (by simp) (by omega)
    rw [this]
    rfl
theorem insertion_size {α : Type} [Inhabited α] (lt : α → α → Bool) (d : Array α) (a b : Nat) : (insertionSort lt d a b).size = d.size := by
  unfold insertionSort
  have : ∀ (n i : Nat) (d : Array α), b - i ≤ n → (insOuter lt a b i d).size = d.size := by
    intro n
    induction n with
    | zero => intro i d hn; rw [insOuter, if_neg (by omega)]
    | succ n ih =>
      intro i d hn
      rw [insOuter]
      split
      · rw [ih (i + 1) _ (by omega), inner_size]
      · rfl
  exact this _ _ _ (Nat.le_refl _)
/-! Exchanging two parts of a row. -/
def swr {α : Type} (p a m b s : List α) (i : Nat) : List α := p ++ (b.take i ++ (a.drop i ++ (m ++ (a.take i ++ (b.drop i ++ s)))))
theorem swr_zero {α : Type} (p a m b s : List α) : swr p a m b s 0 = p ++ (a ++ (m ++ (b ++ s))) := by simp [swr]
theorem swr_end {α : Type} {p a m b s : List α} {n : Nat} (ha : a.length = n) (hb : b.length = n) : swr p a m b s n = p ++ (b ++ (m ++ (a ++ s))) := by
  unfold swr
  rw [List.take_of_length_le (by omega), List.take_of_length_le (by omega), List.drop_of_length_le (by omega), List.drop_of_length_le (by omega)]
  rfl
theorem swr_step {α : Type} [Inhabited α] {p a m b s : List α} {n i ia ib : Nat} {d : Array α} (ha : a.length = n) (hb : b.length = n) (hi : i < n) (e : d.toList = swr p a m b s i) (hia : ia = p.length + i) (hib : ib = p.length + n + m.length + i) : (swp d ia ib).toList = swr p a m b s (i + 1) := by
  have ea : a.drop i = a[i]'(by omega) :: a.drop (i + 1) := List.drop_eq_getElem_cons (by omega)
  have eb : b.drop i = b[i]'(by omega) :: b.drop (i + 1) := List.drop_eq_getElem_cons (by omega)
  have ta : a.take (i + 1) = a.take i ++ [a[i]'(by omega)] := by rw [List.take_add_one, List.getElem?_eq_getElem (by omega)]; rfl
  have tb : b.take (i + 1) = b.take i ++ [b[i]'(by omega)] := by rw [List.take_add_one, List.getElem?_eq_getElem (by omega)]; rfl
  have e2 : d.toList = (p ++ b.take i) ++ a[i]'(by omega) :: ((a.drop (i + 1) ++ (m ++ a.take i)) ++ b[i]'(by omega) :: (b.drop (i + 1) ++ s)) := by
    rw [e, swr, ea, eb]
    simp only [List.append_assoc, List.cons_append]
  obtain ⟨h1, _⟩ := swp_list (i := ia) (j := ib) e2 (by rw [List.length_append, List.length_take]; omega) (by simp only [List.length_append, List.length_take, List.length_drop]; omega)
  rw [h1, swr, ta, tb]
  simp only [List.append_assoc, List.cons_append, List.nil_append]
/-! Rotating a part of a row. -/
def RotI {α : Type} (p l r s : List α) (m i j : Nat) (row : List α) : Prop := ∃ x y rd ld, row = p ++ (rd ++ (x ++ (y ++ (ld ++ s)))) ∧ r ++ l = rd ++ (y ++ (x ++ ld)) ∧ x.length = i ∧ y.length = j ∧ p.length + rd.length + i = m
theorem rot_start {α : Type} {p l r s : List α} : RotI p l r s (p.length + l.length) l.length r.length (p ++ (l ++ (r ++ s))) := ⟨l, r, [], [], by simp, by simp, rfl, rfl, by simp⟩
theorem rot_gt {α : Type} {p l r s row : List α} {m i j : Nat} (h : RotI p l r s m i j row) (hij : j < i) : ∃ p1 a1 m1 b1 s1 : List α, row = p1 ++ (a1 ++ (m1 ++ (b1 ++ s1))) ∧ p1.length + i = m ∧ a1.length = j ∧ b1.length = j ∧ m1.length + j = i ∧ RotI p l r s m (i - j) j (p1 ++ (b1 ++ (m1 ++ (a1 ++ s1)))) := by
  obtain ⟨x, y, rd, ld, h1, h2, h3, h4, h5⟩ := h
  refine ⟨p ++ rd, x.take j, x.drop j, y, ld ++ s, ?_, ?_, ?_, h4, ?_, x.drop j, x.take j, rd ++ y, ld, ?_, ?_, ?_, ?_, ?_⟩
  · rw [h1]
    conv => lhs; rw [← List.take_append_drop j x]
    simp only [List.append_assoc]
  · rw [List.length_append]; omega
  · rw [List.length_take]; omega
  · rw [List.length_drop]; omega
  · simp only [List.append_assoc]
  · rw [h2]
    conv => lhs; rw [← List.take_append_drop j x]
    simp only [List.append_assoc]
  · rw [List.length_drop]; omega
  · rw [List.length_take]; omega
  · rw [List.length_append]; omega
theorem rot_lt {α : Type} {p l r s row : List α} {m i j : Nat} (h : RotI p l r s m i j row) (hij : i < j) : ∃ p1 a1 m1 b1 s1 : List α, row = p1 ++ (a1 ++ (m1 ++ (b1 ++ s1))) ∧ p1.length + i = m ∧ a1.length = i ∧ b1.length = i ∧ m1.length + i = j ∧ RotI p l r s m i (j - i) (p1 ++ (b1 ++ (m1 ++ (a1 ++ s1)))) := by
  obtain ⟨x, y, rd, ld, h1, h2, h3, h4, h5⟩ := h
  refine ⟨p ++ rd, x, y.take (j - i), y.drop (j - i), ld ++ s, ?_, ?_, h3, ?_, ?_, y.drop (j - i), y.take (j - i), rd, x ++ ld, ?_, ?_, ?_, ?_, h5⟩
  · rw [h1]
    conv => lhs; rw [← List.take_append_drop (j - i) y]
    simp only [List.append_assoc]
  · rw [List.length_append]; omega
  · rw [List.length_drop]; omega
  · rw [List.length_take]; omega
  · simp only [List.append_assoc]
  · rw [h2]
    conv => lhs; rw [← List.take_append_drop (j - i) y]
    simp only [List.append_assoc]
  · rw [List.length_drop]; omega
  · rw [List.length_take]; omega
theorem rot_eq {α : Type} {p l r s row : List α} {m i j : Nat} (h : RotI p l r s m i j row) (hij : i = j) : ∃ p1 a1 b1 s1 : List α, row = p1 ++ (a1 ++ ([] ++ (b1 ++ s1))) ∧ p1.length + i = m ∧ a1.length = i ∧ b1.length = i ∧ p1 ++ (b1 ++ ([] ++ (a1 ++ s1))) = p ++ (r ++ (l ++ s)) := by
  obtain ⟨x, y, rd, ld, h1, h2, h3, h4, h5⟩ := h
  refine ⟨p ++ rd, x, y, ld ++ s, ?_, ?_, h3, by omega, ?_⟩
  · rw [h1]; simp only [List.append_assoc, List.nil_append]
  · rw [List.length_append]; omega
  · have : p ++ (r ++ (l ++ s)) = p ++ ((r ++ l) ++ s) := by simp only [List.append_assoc]
    rw [this, h2]
    simp only [List.append_assoc, List.nil_append]
/-! Merging in place. -/
theorem row_get {α : Type} [Inhabited α] {d : Array α} {p l q : List α} {i k : Nat} (e : d.toList = p ++ (l ++ q)) (hk : k < l.length) (hi : i = p.length + k) : d[i]! = l[k] := by
  refine get_at (p := p ++ l.take k) (q := l.drop (k + 1) ++ q) ?_ (by rw [List.length_append, List.length_take]; omega)
  rw [e]
  conv => lhs; rw [← List.take_append_drop k l, List.drop_eq_getElem_cons hk]
  simp only [List.append_assoc, List.cons_append]
theorem sym_cut {α : Type} [Inhabited α] {lt : α → α → Bool} (h : Swo lt) {d : Array α} {p l r q : List α} {a m b s t : Nat} (e : d.toList = p ++ (l ++ (r ++ q))) (ha : a = p.length) (hm : m = a + l.length) (hb : b = m + r.length) (hl : Srt lt l) (hr : Srt lt r) (hs : a ≤ s ∧ s ≤ m) (ht : m ≤ t ∧ t ≤ b)
    (c1 : s = a ∨ t = b ∨ lt d[t]! d[s - 1]! = false) (c2 : s = m ∨ t = m ∨ lt d[t - 1]! d[s]! = true) :
    mrg lt l r = mrg lt (l.take (s - a)) (r.take (t - m)) ++ mrg lt (l.drop (s - a)) (r.drop (t - m)) := by
  have e2 : d.toList = (p ++ l) ++ (r ++ q) := by rw [e]; simp only [List.append_assoc]
  have k1 := mrg_cut (lt := lt) h (l1 := l.take (s - a)) (l2 := l.drop (s - a)) (r1 := r.take (t - m)) (r2 := r.drop (t - m)) (by rw [List.take_append_drop]; exact hl) (by rw [List.take_append_drop]; exact hr) ?_ ?_
  · rw [List.take_append_drop, List.take_append_drop] at k1
    exact k1
  · by_cases s1 : s = a
    · left; rw [s1, Nat.sub_self]; rfl
    · by_cases t1 : t = b
      · right; left; rw [List.drop_of_length_le (by omega)]
      · right; right
        have hc : lt d[t]! d[s - 1]! = false := (c1.resolve_left s1).resolve_left t1
        have g1 : d[t]! = r[t - m]'(by omega) := row_get (k := t - m) e2 (by omega) (by rw [List.length_append]; omega)
        have g2 : d[s - 1]! = l[s - 1 - a]'(by omega) := row_get (k := s - 1 - a) e (by omega) (by omega)
        refine ⟨l.take (s - 1 - a), d[s - 1]!, d[t]!, r.drop (t - m + 1), ?_, ?_, hc⟩
        · rw [g2, show s - a = s - 1 - a + 1 by omega, List.take_add_one, List.getElem?_eq_getElem (by omega)]
          rfl
        · rw [g1]
          exact List.drop_eq_getElem_cons (by omega)
  · by_cases s1 : s = m
    · left; rw [List.drop_of_length_le (by omega)]
    · by_cases t1 : t = m
      · right; left; rw [t1, Nat.sub_self]; rfl
      · right; right
        have hc : lt d[t - 1]! d[s]! = true := (c2.resolve_left s1).resolve_left t1
        have g1 : d[t - 1]! = r[t - 1 - m]'(by omega) := row_get (k := t - 1 - m) e2 (by omega) (by rw [List.length_append]; omega)
        have g2 : d[s]! = l[s - a]'(by omega) := row_get (k := s - a) e (by omega) (by omega)
        refine ⟨r.take (t - 1 - m), d[t - 1]!, d[s]!, l.drop (s - a + 1), ?_, ?_, hc⟩
        · rw [g1, show t - m = t - 1 - m + 1 by omega, List.take_add_one, List.getElem?_eq_getElem (by omega)]
          rfl
        · rw [g2]
          exact List.drop_eq_getElem_cons (by omega)
theorem sym_left {α : Type} [Inhabited α] {lt : α → α → Bool} (h : Swo lt) {d : Array α} {p r q : List α} {x : α} {a m b i : Nat} (e : d.toList = p ++ (x :: (r ++ q))) (ha : a = p.length) (hm : m = a + 1) (hb : b = m + r.length) (hr : Srt lt r) (hi : m ≤ i ∧ i ≤ b) (c1 : i = m ∨ lt d[i - 1]! d[a]! = true) (c2 : i = b ∨ lt d[i]! d[a]! = false) :
    mrg lt [x] r = r.take (i - m) ++ x :: r.drop (i - m) := by
  have e1 : d.toList = p ++ ([x] ++ (r ++ q)) := e
  have e2 : d.toList = (p ++ [x]) ++ (r ++ q) := by rw [e]; simp
  have k1 := sym_cut h (s := a) (t := i) e1 ha (by simpa using hm) hb (by unfold Srt; exact List.pairwise_singleton ..) hr ⟨Nat.le_refl _, by omega⟩ hi (Or.inl rfl) (by
    rcases c1 with c | c
    · exact Or.inr (Or.inl c)
    · exact Or.inr (Or.inr c))
  rw [k1, Nat.sub_self, List.take_zero, List.drop_zero, mrg_nil]
  congr 1
  cases hd : r.drop (i - m) with
  | nil => rw [mrg_right]
  | cons v w =>
    have hib : i - m < r.length := by
      have := congrArg List.length hd
      rw [List.length_drop, List.length_cons] at this
      omega
    have hv : d[i]! = v := by
      rw [row_get (k := i - m) e2 hib (by simp; omega)]
      rw [List.drop_eq_getElem_cons hib] at hd
      exact (List.cons.inj hd).1
    have gx : d[a]! = x := get_at e ha
    have hc : lt v x = false := by
      have := c2.resolve_left (by omega)
      rwa [hv, gx] at this
    rw [mrg_cons, if_neg (by rw [hc]; decide), mrg_nil]
theorem sym_right {α : Type} [Inhabited α] {lt : α → α → Bool} (h : Swo lt) {d : Array α} {p l q : List α} {y : α} {a m i : Nat} (e : d.toList = p ++ (l ++ y :: q)) (ha : a = p.length) (hm : m = a + l.length) (hl : Srt lt l) (hi : a ≤ i ∧ i ≤ m) (c1 : i = a ∨ lt d[m]! d[i - 1]! = false) (c2 : i = m ∨ lt d[m]! d[i]! = true) :
    mrg lt l [y] = l.take (i - a) ++ y :: l.drop (i - a) := by
  have e1 : d.toList = p ++ (l ++ ([y] ++ q)) := e
  have k1 := sym_cut h (s := i) (t := m) e1 ha hm (b := m + 1) rfl hl (by unfold Srt; exact List.pairwise_singleton ..) hi ⟨Nat.le_refl _, by omega⟩ (by
    rcases c1 with c | c
    · exact Or.inl c
    · exact Or.inr (Or.inr c)) (Or.inr (Or.inl rfl))
  have k2 := sym_cut h (s := i) (t := m + 1) e1 ha hm (b := m + 1) rfl hl (by unfold Srt; exact List.pairwise_singleton ..) hi ⟨by omega, Nat.le_refl _⟩ (Or.inr (Or.inl rfl)) (by
    rcases c2 with c | c
    · exact Or.inl c
    · exact Or.inr (Or.inr c))
  rw [Nat.sub_self, List.take_zero, List.drop_zero, mrg_right] at k1
  rw [show m + 1 - m = 1 by omega] at k2
  have k3 : mrg lt l [y] = mrg lt (l.take (i - a)) [y] ++ l.drop (i - a) := by
    rw [k2]
    show mrg lt (l.take (i - a)) [y] ++ mrg lt (l.drop (i - a)) [] = _
    rw [mrg_right]
  rw [k3]
  have k4 : mrg lt (l.take (i - a)) [y] = l.take (i - a) ++ [y] := by
    rw [mrg_one]
    refine ins_end _ (fun z hz => ?_)
    have gy : d[m]! = y := get_at (p := p ++ l) (q := q) (by rw [e]; simp) (by rw [List.length_append]; omega)
    rcases c1 with c | c
    · rw [c, Nat.sub_self] at hz
      cases hz
    · by_cases ia : i = a
      · rw [ia, Nat.sub_self] at hz
        cases hz
      · have g2 : d[i - 1]! = l[i - 1 - a]'(by omega) := row_get (k := i - 1 - a) e (by omega) (by omega)
        rw [gy, g2] at c
        obtain ⟨j, hj, rfl⟩ := List.getElem_of_mem hz
        rw [List.length_take] at hj
        rw [List.getElem_take]
        by_cases hj2 : j = i - 1 - a
        · subst hj2; exact c
        · exact h.neg _ _ _ c (List.pairwise_iff_getElem.1 hl j (i - 1 - a) (by omega) (by omega) (by omega))
  rw [k4, List.append_assoc]
  rfl
/-! Rows sorted in parts of k. -/
inductive Chk {α : Type} (lt : α → α → Bool) (k : Nat) : List α → List α → Prop
  | one {c : List α} (h : c.length ≤ k) : Chk lt k c (srt lt c)
  | cons {c l r : List α} (h : c.length = k) (t : Chk lt k l r) : Chk lt k (c ++ l) (srt lt c ++ r)
inductive Full {α : Type} (lt : α → α → Bool) (k : Nat) : List α → List α → Prop
  | nil : Full lt k [] []
  | cons {c l r : List α} (h : c.length = k) (t : Full lt k l r) : Full lt k (c ++ l) (srt lt c ++ r)
theorem Full.snoc {α : Type} {lt : α → α → Bool} {k : Nat} {l r c : List α} (h : Full lt k l r) (hc : c.length = k) : Full lt k (l ++ c) (r ++ srt lt c) := by
  induction h with
  | nil =>
    have := Full.cons hc (Full.nil (lt := lt) (k := k))
    simpa using this
  | cons h t ih =>
    rw [List.append_assoc, List.append_assoc]
    exact Full.cons h ih
theorem Full.fin {α : Type} {lt : α → α → Bool} {k : Nat} {l r l2 r2 : List α} (h : Full lt k l r) (h2 : Chk lt k l2 r2) : Chk lt k (l ++ l2) (r ++ r2) := by
  induction h with
  | nil => exact h2
  | cons h t ih =>
    rw [List.append_assoc, List.append_assoc]
    exact Chk.cons h ih
theorem Full.len {α : Type} {lt : α → α → Bool} {k : Nat} {l r : List α} (h : Full lt k l r) : r.length = l.length := by
  induction h with
  | nil => rfl
  | cons h t ih => rw [List.length_append, List.length_append, srt_len, ih]
theorem Chk.len {α : Type} {lt : α → α → Bool} {k : Nat} {l r : List α} (h : Chk lt k l r) : r.length = l.length := by
  induction h with
  | one h => rw [srt_len]
  | cons h t ih => rw [List.length_append, List.length_append, srt_len, ih]
theorem Chk.small {α : Type} {lt : α → α → Bool} {k : Nat} {l r : List α} (h : Chk lt k l r) (hl : l.length ≤ k) : r = srt lt l := by
  cases h with
  | one h => rfl
  | @cons c l r h t =>
    rw [List.length_append] at hl
    have e : l = [] := List.eq_nil_of_length_eq_zero (by omega)
    subst e
    have e2 : r = [] := List.eq_nil_of_length_eq_zero (by rw [t.len]; rfl)
    subst e2
    simp
theorem Chk.big {α : Type} {lt : α → α → Bool} {k : Nat} {l r : List α} (h : Chk lt k l r) (hl : k < l.length) : ∃ c l2 r2, l = c ++ l2 ∧ r = srt lt c ++ r2 ∧ c.length = k ∧ Chk lt k l2 r2 := by
  cases h with
  | one h => omega
  | cons h t => exact ⟨_, _, _, rfl, rfl, h, t⟩
theorem Chk.two {α : Type} {lt : α → α → Bool} {k : Nat} {l r : List α} (h : Chk lt k l r) (hk : 0 < k) (hl : 2 * k ≤ l.length) : ∃ c1 c2 l2 r2, l = c1 ++ (c2 ++ l2) ∧ r = srt lt c1 ++ (srt lt c2 ++ r2) ∧ c1.length = k ∧ c2.length = k ∧ Chk lt k l2 r2 := by
  obtain ⟨c, l2, r2, rfl, rfl, hc, t⟩ := h.big (by omega)
  rw [List.length_append] at hl
  by_cases h2 : k < l2.length
  · obtain ⟨c2, l3, r3, rfl, rfl, hc2, t2⟩ := t.big h2
    exact ⟨c, c2, l3, r3, rfl, rfl, hc, hc2, t2⟩
  · have := t.small (by omega)
    subst this
    exact ⟨c, l2, [], [], by simp, by simp, hc, by omega, Chk.one (Nat.zero_le _)⟩
theorem Chk.last {α : Type} {lt : α → α → Bool} {k : Nat} {l r : List α} (h : Chk lt k l r) (h1 : k < l.length) (h2 : l.length < 2 * k) : ∃ c1 c2, l = c1 ++ c2 ∧ r = srt lt c1 ++ srt lt c2 ∧ c1.length = k ∧ 0 < c2.length := by
  obtain ⟨c, l2, r2, rfl, rfl, hc, t⟩ := h.big h1
  rw [List.length_append] at h1 h2
  have := t.small (by omega)
  subst this
  exact ⟨c, l2, rfl, rfl, hc, by omega⟩
theorem srt_take {α : Type} {lt : α → α → Bool} {l : List α} (n : Nat) (h : Srt lt l) : Srt lt (l.take n) := List.Pairwise.sublist (List.take_sublist n l) h
theorem srt_drop {α : Type} {lt : α → α → Bool} {l : List α} (n : Nat) (h : Srt lt l) : Srt lt (l.drop n) := List.Pairwise.sublist (List.drop_sublist n l) h
end Go.Proofs.YtocgindpjjolpaaGreatDoor
namespace Go.Proofs.YtocgindpjjolpaaGreatDoor
set_option linter.unusedSimpArgs false
set_option linter.unusedVariables false
def fileB (x : Tr) : Bool := decide (x.h.kind = 1 ∧ x.h.data ≠ eS)
def isF (t : Tr) (p : ByteArray) : Bool := match findT t (partsP p) with
  | some x => fileB x
  | none => false
def filesT (t : Tr) : List ByteArray := (pathsT t).filter (isF t)
def lenP (t : Tr) (p : ByteArray) : Nat := (getT t p).1.h.data.size
def wF : Tr → List ByteArray → Int → Int
  | _, [], o => o
  | t, n :: l, o => match kidF t.ks n with
    | some k => wF k l (if k.h.weight = 0 then o else k.h.weight)
    | none => o
def weightP (t : Tr) (p : ByteArray) : Int := wF t (partsP p) t.h.weight
def weightT (t : Tr) (p : ByteArray) : Int × Int := if validB t then (if (findT t (partsP p)).isSome then (weightP t p, 0) else (0, 6)) else (0, 1)
def ltW (t : Tr) (a b : ByteArray) : Bool := decide (weightP t b < weightP t a)
def byW (t : Tr) : List ByteArray := srt (ltW t) (filesT t)
def hasS (l : List ByteArray) (p : ByteArray) : Bool := l.any fun q => decide (q = p)
theorem hasS_iff {l : List ByteArray} {p : ByteArray} : hasS l p = true ↔ p ∈ l := by
  unfold hasS
  rw [List.any_eq_true]
  constructor
  · rintro ⟨q, h1, h2⟩
    have e := of_decide_eq_true h2
    exact e ▸ h1
  · exact fun h => ⟨p, h, decide_eq_true rfl⟩
theorem hasS_no {l : List ByteArray} {p : ByteArray} : hasS l p = false ↔ p ∉ l := by
  rw [← hasS_iff]
  cases hasS l p <;> simp
def addA (all out : List ByteArray) (p : ByteArray) : List ByteArray := if hasS all p && !hasS out p then out ++ [p] else out
def byA (t : Tr) (acc : List ByteArray) : List ByteArray := (acc ++ byW t).foldl (addA (byW t)) []
def blocksI (n : Int) : Int := if n ≤ 0 then 0 else (n - 1) / 2048 + 1
structure Ext where
  path : ByteArray
  start : Int
  len : Int
deriving DecidableEq
def placeL (t : Tr) : List ByteArray → Int → List Ext → Option (List Ext)
  | [], _, out => some out
  | p :: l, a, out => if 4096 - blocksI (lenP t p) < a then none else placeL t l (a + blocksI (lenP t p)) (out ++ [⟨p, a, lenP t p⟩])
def nodB : List ByteArray → Bool
  | [] => true
  | p :: l => !hasS l p && nodB l
theorem nodB_iff : ∀ {l : List ByteArray}, nodB l = true ↔ l.Nodup
  | [] => by simp [nodB]
  | p :: l => by
    rw [nodB, Bool.and_eq_true, Bool.not_eq_true', hasS_no, nodB_iff, List.nodup_cons]
def sameB (l m : List ByteArray) : Bool := decide (l.length = m.length) && l.all (hasS m) && nodB l
def placeT (t : Tr) (order : List ByteArray) (start : Int) : List Ext × Int :=
  if validB t = true ∧ 0 ≤ start ∧ sameB order (filesT t) = true then match placeL t order start [] with
    | some l => (l, 0)
    | none => ([], 12)
  else ([], 1)
def extB (f : Ext) : Bool := decide (0 ≤ f.start ∧ 0 ≤ f.len ∧ f.start ≤ 4096 ∧ blocksI f.len ≤ 4096 - f.start)
def seek (s : Int × Int) (f : Ext) : Int × Int := if 0 < f.len then (s.1 + max (f.start - s.2) (s.2 - f.start), f.start + blocksI f.len) else s
def at47 (fs : List Ext) (p : ByteArray) : List Ext := fs.filter fun f => decide (f.path = p)
def costL (fs : List Ext) : List ByteArray → Int × Int → Option (Int × Int)
  | [], s => some s
  | p :: l, s => if at47 fs p = [] then none else costL fs l ((at47 fs p).foldl seek s)
def costT (fs : List Ext) (acc : List ByteArray) : Int × Int :=
  if 1024 < fs.length ∨ 1024 < acc.length then (0, 7) else if fs.all extB = true then match costL fs acc (0, 0) with
    | some s => (s.1, 0)
    | none => (0, 6)
  else (0, 1)
def ordersL (n : Nat) : Nat → List Nat → List (List Nat)
  | 0, l => if l.length = n then [l] else []
  | k + 1, l => if l.length = n then [l] else (List.range n).flatMap fun i => if l.contains i then [] else ordersL n k (l ++ [i])
def namesAt (fs : List ByteArray) (l : List Nat) : List ByteArray := l.map fun i => fs[i]?.getD eS
def bestF (t : Tr) (acc fs : List ByteArray) : List (List Nat) → List ByteArray → Int → List ByteArray × Int
  | [], b, _ => (b, 0)
  | l :: ls, b, m =>
    if (placeT t (namesAt fs l) 0).2 ≠ 0 then ([], (placeT t (namesAt fs l) 0).2)
    else if m < 0 ∨ (costT (placeT t (namesAt fs l) 0).1 acc).1 < m then bestF t acc fs ls (namesAt fs l) (costT (placeT t (namesAt fs l) 0).1 acc).1
    else bestF t acc fs ls b m
def bestT (t : Tr) (acc : List ByteArray) : List ByteArray × Int :=
  if validB t = false then ([], 1) else if 6 < (filesT t).length ∨ 64 < acc.length then ([], 7) else if acc.all (hasS (filesT t)) = false then ([], 6)
  else bestF t acc (filesT t) (ordersL (filesT t).length (filesT t).length []) [] (-1)
end Go.Proofs.YtocgindpjjolpaaGreatDoor
namespace Go.Proofs.YtocgindpjjolpaaGreatDoor
set_option linter.unusedSimpArgs false
set_option linter.unusedVariables false
open Go.RowKit
def Nd (w : World) (b : Nat) (c : Array Value) (t : Tr) : Prop := Blk w b c 25 ∧ TreeR w w.heap.size (.agg c) t ∧ c.size = 12
theorem Nd.below {w w' : World} {b : Nat} {c : Array Value} {t : Tr} (h : Nd w b c t) (hb : Below w.heap.size w w') : Nd w' b c t := ⟨Blk.below hb h.1, h.2.1.later hb, h.2.2⟩
theorem Nd.new {w : World} {c : Array Value} {t : Tr} (h : TreeR w w.heap.size (.agg c) t) (hz : c.size = 12) : Nd (w.alloc (.cells c 25)) w.heap.size c t :=
  ⟨Blk.newAt rfl, h.later ((Below.refl _ _).alloc (Nat.le_refl _) _), hz⟩
theorem Nd.lt {w : World} {b : Nat} {c : Array Value} {t : Tr} (h : Nd w b c t) : b < w.heap.size := h.1.lt
theorem store_tree {P : Program} {ops : Array Oper} {rest : List Oper} {o : Oper} {a : Act} {W : World} {Q : Exit → Act → World → Prop} (hgd : o.guard = none) (x y : Operand) (ho : o.op = .store 25 x y)
    (v : Value) (t : Tr) (hx : a.eval x = .pointer (some ⟨W.heap.size, 0, none⟩)) (hy : a.eval y = v) (hP : P = Tryz.prog) (hv : TreeR W W.heap.size v t)
    (h : ∀ cells : Array Value, v = .agg cells → cells.size = 12 → cells.all (·.oneCell') = true → wpList P ops Q rest (a.put o.dst undef) (W.alloc (.cells cells 25))) : wpList P ops Q (o :: rest) a (W.alloc (.cells zeroN 25)) := by
  subst hP
  obtain ⟨cells, e, hz, h1⟩ := hv.cells
  exact wpList_store_new hgd 25 x y ho cells hx (hy.trans e) 25 zeroN (infN hz) (by rw [hz]; rfl) h1 (h cells e hz h1)
theorem SlR.later2 {w w' : World} {v : Value} {l : List ByteArray} (h : SlR w w.heap.size v l) (hb : Below w.heap.size w w') : SlR w' w'.heap.size v l := (h.below hb).mono hb.size
theorem Below.one (w : World) (o : Obj) : Below w.heap.size w (w.alloc o) := (Below.refl _ _).alloc (Nat.le_refl _) _
theorem pathsF_size : ∀ (f : Fo) (p : ByteArray) (l : Nat) (q : ByteArray), q ∈ pathsF f p l → q.size ≤ p.size + f.wt
  | .nil, _, _, _, h => by cases h
  | .node h ss ks nx, p, l, q, hq => by
    have hb := bel_size p h.name l
    rw [Fo.wt_node]
    unfold pathsF at hq
    rcases List.mem_append.1 hq with h1 | h1
    · rcases List.mem_cons.1 h1 with rfl | h2
      · omega
      · have := pathsF_size ks _ _ _ h2
        omega
    · have := pathsF_size nx _ _ _ h1
      omega
theorem pathsT_size {t : Tr} {q : ByteArray} (h : q ∈ pathsT t) : q.size ≤ t.sz := by
  unfold pathsT at h
  split at h
  · rcases List.mem_cons.1 h with rfl | h2
    · exact Nat.zero_le _
    · have h3 := pathsF_size t.ks eS 1 q h2
      have h4 := t.ks.wt_sz
      have h5 : (eS : ByteArray).size = 0 := rfl
      unfold Tr.sz
      omega
  · cases h
theorem filt_next {f : ByteArray → Bool} {ps : List ByteArray} {k : Nat} {q : ByteArray} (h : ps[k]? = some q) : (ps.take (k + 1)).filter f = (ps.take k).filter f ++ if f q then [q] else [] := by
  rw [List.take_add_one, h, List.filter_append]
  congr 1
  simp only [Option.toList]
  cases hf : f q <;> simp [List.filter, hf]
theorem few_sz {t : Tr} {n : Nat} (h : fewB t n = true) : t.count ≤ 40 ∧ t.sz ≤ n := by unfold fewB at h; have := of_decide_eq_true h; omega
theorem Nd.cells {w : World} {B : Nat} {v : Value} {t : Tr} (h : TreeR w B v t) : ∃ c : Array Value, v = .agg c ∧ c.size = 12 := by
  obtain ⟨c, h1, h2, _⟩ := h.cells
  exact ⟨c, h1, h2⟩
theorem Nd.stored {W w2 : World} {cells : Array Value} {t : Tr} (h : TreeR w2 w2.heap.size (.agg cells) t) (hz : cells.size = 12) (hb : Below W.heap.size W w2) : Nd (w2.alloc (.cells cells 25)) w2.heap.size cells t ∧ Below W.heap.size W (w2.alloc (.cells cells 25)) :=
  ⟨Nd.new h hz, hb.alloc hb.size _⟩
theorem kidF_sz : ∀ {f : Fo} {n : ByteArray} {k : Tr}, kidF f n = some k → k.sz ≤ f.sz
  | .nil, _, _, h => by cases h
  | .node h ss ks nx, n, k, e => by
    rw [kidF] at e
    split at e
    · injection e with e
      rw [← e]
      show h.sz + szS ss + ks.sz ≤ h.sz + szS ss + ks.sz + nx.sz
      omega
    · have := kidF_sz e
      show k.sz ≤ h.sz + szS ss + ks.sz + nx.sz
      omega
theorem findT_sz : ∀ (l : List ByteArray) (t x : Tr), findT t l = some x → x.sz ≤ t.sz
  | [], t, x, h => by injection h with h; rw [h]; exact Nat.le_refl _
  | n :: l, t, x, h => by
    cases hk : kidF t.ks n with
    | none => rw [findT_miss hk] at h; cases h
    | some k =>
      rw [findT_hit hk] at h
      have h1 := findT_sz l k x h
      have h2 := kidF_sz hk
      unfold Tr.sz at h1 h2 ⊢
      omega
theorem getT_sz {t : Tr} {p : ByteArray} {n : Nat} (h : t.sz ≤ n) (h20 : 20 ≤ n) : (getT t p).1.sz ≤ n := by
  unfold getT
  split
  · split
    · rename_i x hx
      exact Nat.le_trans (findT_sz _ _ _ hx) h
    · exact h20
  · exact h20
end Go.Proofs.YtocgindpjjolpaaGreatDoor
