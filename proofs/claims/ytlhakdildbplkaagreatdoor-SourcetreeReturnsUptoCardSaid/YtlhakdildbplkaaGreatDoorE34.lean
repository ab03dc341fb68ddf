/- Contracts and plain words for the laws of this chapter, part 34: Pl8. No condition. -/
import Derived.Test.YtlhakdildbplkaaGreatDoorE33
import Derived.Test.YtlhakdildbplkaaGreatDoorE31
namespace Go.Proofs.YtlhakdildbplkaaGreatDoor
set_option linter.unusedSimpArgs false
set_option linter.unusedVariables false
theorem linesI_cons (x : St ⊕ (Hd × Int)) (xs : List (St ⊕ (Hd × Int))) : linesI (x :: xs) = itemL x ++ 10 :: linesI xs := by
  show itemL x ++ [10] ++ linesI xs = _
  rw [List.append_assoc]
  rfl
theorem pieces_items : ∀ xs : List (St ⊕ (Hd × Int)), piecesC 10 (linesI xs) = xs.map itemL ++ [[]]
  | [] => rfl
  | x :: xs => by
    rw [linesI_cons, piecesC_hit 10 _ _ (item_ten x), pieces_items xs]
    rfl
theorem lines_fwd : ∀ (xs : List (St ⊕ (Hd × Int))) (i : Nat) (st st2 : List Tr), (∀ x ∈ xs, okI x) → foldI xs st = some st2 → linesS (xs.map itemL) i st = .ok st2
  | [], i, st, st2, _, h => by
    injection h with h
    subst h
    rfl
  | x :: xs, i, st, st2, hx, h => by
    rw [foldI] at h
    rw [List.map_cons, linesS, stepS_item, item_words, line_fwd (hx x (List.mem_cons_self ..)), Option.bind_some]
    cases e : stepI st x with
    | none => rw [e] at h; cases h
    | some s1 =>
      rw [e] at h
      exact lines_fwd xs (i + 1) s1 st2 (fun y hy => hx y (List.mem_cons_of_mem _ hy)) h
theorem lines_back : ∀ (ls : List (List UInt8)) (i : Nat) (st st2 : List Tr), linesS ls i st = .ok st2 → ∃ xs, ls = xs.map itemL ∧ foldI xs st = some st2 ∧ ∀ x ∈ xs, okK x
  | [], i, st, st2, h => by
    injection h with h
    subst h
    exact ⟨[], rfl, rfl, fun x hx => by cases hx⟩
  | l :: ls, i, st, st2, h => by
    rw [linesS, stepS_item] at h
    cases e : lineW (wordsOf l) with
    | none => rw [e] at h; cases h
    | some x =>
      rw [e, Option.bind_some] at h
      cases e1 : stepI st x with
      | none => rw [e1] at h; cases h
      | some s1 =>
        rw [e1] at h
        obtain ⟨xs, h1, h2, h3⟩ := lines_back ls (i + 1) s1 st2 h
        obtain ⟨h4, h5⟩ := item_back e
        refine ⟨x :: xs, by rw [List.map_cons, h1, h4], by rw [foldI, e1]; exact h2, fun y hy => ?_⟩
        rcases List.mem_cons.1 hy with rfl | hy
        · exact h5
        · exact h3 y hy
theorem lines_err : ∀ (ls : List (List UInt8)) (i : Nat) (st : List Tr) (k : Nat), linesS ls i st = .error k → i + 1 ≤ k ∧ k ≤ i + ls.length
  | [], i, st, k, h => by cases h
  | l :: ls, i, st, k, h => by
    rw [linesS] at h
    rw [List.length_cons]
    split at h
    · have := lines_err ls (i + 1) _ k h
      omega
    · injection h with h
      omega
/-! Valid trees. -/
theorem ranged_i64 {h : Hd} (e : numE h = 0) : N64 h.mode ∧ N64 h.uid ∧ N64 h.gid ∧ N64 h.time ∧ N64 h.weight ∧ N64 h.hidden := by
  unfold numE at e
  split at e
  · rename_i hr
    unfold rangedB at hr
    have := of_decide_eq_true hr
    unfold N64
    omega
  · cases e
theorem kind_ok {t : Tr} {l : Nat} (h1 : kindE t.h l = 0) (h2 : partsE t = 0) : okK (.inr (t.h, (l : Int))) ∧ (t.h.kind ≠ 1 → t.ss = []) ∧ (t.h.kind ≠ 0 → t.ks = .nil) := by
  unfold kindE at h1
  split at h1
  · cases h1
  · rename_i hk
    unfold partsE at h2
    split at h2
    · cases h2
    · rename_i hp
      have p1 : t.h.kind ≠ 1 → t.h.data = eS ∧ t.ss.length = 0 := fun e => Classical.byContradiction fun hn => hp (Or.inl ⟨e, by
        by_cases hd : t.h.data = eS
        · right
          by_cases hs : t.ss.length = 0
          · exact absurd ⟨hd, hs⟩ hn
          · omega
        · exact Or.inl hd⟩)
      have p2 : t.h.kind ≠ 2 → t.h.target = eS := fun e => Classical.byContradiction fun hn => hp (Or.inr (Or.inl ⟨e, hn⟩))
      have p3 : t.h.kind ≠ 0 → t.ks.len = 0 := fun e => Classical.byContradiction fun hn => hp (Or.inr (Or.inr ⟨e, by omega⟩))
      refine ⟨?_, fun e => List.eq_nil_of_length_eq_zero (p1 e).2, fun e => ?_⟩
      · have hc : t.h.kind = 0 ∨ t.h.kind = 1 ∨ t.h.kind = 2 := by omega
        rcases hc with e | e | e
        · exact Or.inl ⟨e, (p1 (by omega)).1, p2 (by omega)⟩
        · exact Or.inr (Or.inl ⟨e, p2 (by omega)⟩)
        · exact Or.inr (Or.inr ⟨e, (p1 (by omega)).1⟩)
      · have := p3 e
        cases hks : t.ks with
        | nil => rfl
        | node h ss ks nx => rw [hks, Fo.len_node] at this; omega
theorem size_lev {t : Tr} {l : Nat} (h : oneE t l = 0) : l ≤ 16 := by
  have := oneE_size h
  unfold largeB at this
  rw [Bool.or_eq_false_iff] at this
  have h2 := of_decide_eq_false this.1
  omega
theorem item_ok {t : Tr} {l : Nat} (h : oneE t l = 0) : okI (.inr (t.h, (l : Int))) := by
  obtain ⟨h1, _, h3, _, h5, _⟩ := oneE_iff.1 h
  obtain ⟨k1, _, _⟩ := kind_ok h1 h3
  have := size_lev h
  exact ⟨k1, ⟨by omega, by omega⟩, ranged_i64 h5⟩
theorem itemsF_ok : ∀ {f : Fo} {l : Nat}, okF f l → (∀ x ∈ itemsF f l, okI x) ∧ OKF f
  | .nil, _, _ => ⟨fun x hx => (by cases hx), trivial⟩
  | .node h ss ks nx, l, ⟨h1, h2, h3⟩ => by
    obtain ⟨a1, a2⟩ := itemsF_ok h2
    obtain ⟨b1, b2⟩ := itemsF_ok h3
    obtain ⟨i1, _, i3, _⟩ := oneE_iff.1 h1
    obtain ⟨_, k2, k3⟩ := kind_ok (t := ⟨h, ss, ks⟩) i1 i3
    refine ⟨fun x hx => ?_, k2, k3, a2, b2⟩
    rw [itemsF] at hx
    rcases List.mem_cons.1 hx with rfl | hx
    · exact item_ok (t := ⟨h, ss, ks⟩) h1
    · rcases List.mem_append.1 hx with hx | hx
      · rcases List.mem_append.1 hx with hx | hx
        · obtain ⟨s, _, rfl⟩ := List.mem_map.1 hx
          exact trivial
        · exact a1 x hx
      · exact b1 x hx
theorem tr_items {t : Tr} (h : validB t = true) : (∀ x ∈ itemsT t, okI x) ∧ ∃ st, foldI (itemsT t) [] = some st ∧ leaveS 1 st.length st = [t] := by
  obtain ⟨_, h1, h2⟩ := valid_chk h
  obtain ⟨a1, a2⟩ := itemsF_ok (okF_of h2)
  obtain ⟨i1, _, i3, _⟩ := oneE_iff.1 h1
  obtain ⟨_, k2, _⟩ := kind_ok i1 i3
  have hk : t.h.kind = 0 := by
    unfold kindE at i1
    split at i1
    · cases i1
    · rename_i hk
      exact Classical.byContradiction fun hn => hk (Or.inr (Or.inr ⟨rfl, hn⟩))
  have hs : t.ss = [] := k2 (by omega)
  refine ⟨fun x hx => ?_, ?_⟩
  · unfold itemsT at hx
    rw [hs] at hx
    rcases List.mem_cons.1 hx with rfl | hx
    · exact item_ok h1
    · exact a1 x hx
  · obtain ⟨st, e1, e2⟩ := foldI_forest t.ks 1 [⟨t.h, [], .nil⟩] ⟨t.h, [], .nil⟩ [] a2 (lv_done (Nat.le_refl _)) rfl (Or.inr hk)
    refine ⟨st, ?_, ?_⟩
    · unfold itemsT
      rw [hs, foldI]
      have e : stepI [] (.inr (t.h, 1)) = some [⟨t.h, [], .nil⟩] := by
        show (if ((mostP [] : Nat) : Int) < 1 ∨ ((1 : Int) < 2 ∧ ([] : List Tr) ≠ []) ∨ (1 : Int) < 1 then none else some (⟨t.h, [], .nil⟩ :: leaveS ((1 : Int).toNat - 1) ([] : List Tr).length [])) = _
        rw [if_neg]
        · rfl
        · rintro (h | ⟨_, h⟩ | h)
          · revert h; decide
          · exact h rfl
          · revert h; decide
      rw [e, Option.bind_some]
      exact e1
    · have : leaveS 1 st.length st = ⟨t.h, [], (Fo.nil).app t.ks⟩ :: [] := e2
      rw [this]
      show [(⟨t.h, [], t.ks⟩ : Tr)] = [t]
      rw [← hs]
theorem text_pieces {xs : List (St ⊕ (Hd × Int))} {s : ByteArray} (h : s.data.toList = linesI xs) : piecesC 10 s.data.toList = xs.map itemL ++ [[]] := by
  rw [h, pieces_items]
theorem checkT_ok {t : Tr} (h : validB t = true) : (checkT t).2 = 0 := of_decide_eq_true h
theorem format_parse {t : Tr} {s : ByteArray} (h : formatT t = (s, 0)) : parseT s = (t, 0, 0) := by
  unfold formatT at h
  split at h
  · cases h
  · rename_i hv
    have hv : validB t = true := by simpa using hv
    split at h
    · cases h
    · rename_i hl
      injection h with h _
      subst h
      obtain ⟨ho, st, e1, e2⟩ := tr_items hv
      have ht : (⟨(linesT t).toArray⟩ : ByteArray).data.toList = linesI (itemsT t) := linesT_items t
      unfold parseT
      have hsz : ¬ 65536 < (⟨(linesT t).toArray⟩ : ByteArray).size := hl
      rw [if_neg hsz, text_pieces ht, List.dropLast_concat, lines_fwd _ 0 [] st ho e1]
      simp only []
      rw [if_neg, e2]
      · simp only []
        rw [if_neg (by rw [checkT_ok hv]; exact fun h => h rfl)]
      · rintro (h | h)
        · revert h
          unfold itemsT
          rw [List.length_append, List.length_map, List.length_cons, List.length_singleton]
          omega
        · exact h List.getLast?_concat
theorem itemsS_one (t : Tr) : itemsS [t] = itemsT t := rfl
theorem parse_items {s : ByteArray} {st : List Tr} {t : Tr} (h1 : linesS (piecesC 10 s.data.toList).dropLast 0 [] = .ok st) (h2 : leaveS 1 st.length st = [t]) : (piecesC 10 s.data.toList).dropLast = (itemsT t).map itemL ∧ ∀ x ∈ itemsT t, okK x := by
  obtain ⟨xs, e1, e2, e3⟩ := lines_back _ _ _ _ h1
  obtain ⟨e4, _⟩ := foldI_items xs [] st trivial e2
  have e5 := itemsS_leave 1 st.length st
  rw [h2, itemsS_one, e4] at e5
  have e6 : itemsT t = xs := e5
  rw [e6]
  exact ⟨e1, e3⟩
theorem flat_items (xs : List (St ⊕ (Hd × Int))) : (xs.map itemL).flatMap (· ++ [10]) = linesI xs := by
  unfold linesI
  rw [List.flatMap_map]
theorem parse_lines {s : ByteArray} {st : List Tr} {t : Tr} (h1 : linesS (piecesC 10 s.data.toList).dropLast 0 [] = .ok st) (h2 : leaveS 1 st.length st = [t]) : ∃ r, s.data.toList = linesT t ++ r ∧ (piecesC 10 s.data.toList).getLast? = some r := by
  obtain ⟨cl, pl, hp⟩ : ∃ cl pl, piecesC 10 s.data.toList = cl ++ [pl] := ⟨_, _, (List.dropLast_concat_getLast (piecesC_ne 10 s.data.toList)).symm⟩
  obtain ⟨h3, _⟩ := parse_items h1 h2
  refine ⟨pl, ?_, by rw [hp]; exact List.getLast?_concat⟩
  rw [hp, List.dropLast_concat] at h3
  have := pieces_join 10 _ _ _ hp
  rw [h3, flat_items, ← linesT_items] at this
  exact this
/-! Sizes. -/
def itSz : St ⊕ (Hd × Int) → Nat
  | .inl s => 20 + s.1.size + s.2.size
  | .inr (h, _) => h.sz
def sumI (xs : List (St ⊕ (Hd × Int))) : Nat := (xs.map itSz).sum
theorem sumI_app (a b : List (St ⊕ (Hd × Int))) : sumI (a ++ b) = sumI a + sumI b := by unfold sumI; rw [List.map_append, List.sum_append]
theorem sumI_cons (x : St ⊕ (Hd × Int)) (xs : List (St ⊕ (Hd × Int))) : sumI (x :: xs) = itSz x + sumI xs := by unfold sumI; rw [List.map_cons, List.sum_cons]
theorem sumI_str : ∀ ss : List St, sumI (ss.map Sum.inl) = szS ss
  | [] => rfl
  | s :: ss => by rw [List.map_cons, sumI_cons, sumI_str ss]; rfl
theorem sumI_F : ∀ (f : Fo) (l : Nat), sumI (itemsF f l) = f.sz
  | .nil, _ => rfl
  | .node h ss ks nx, l => by
    rw [itemsF, sumI_cons, sumI_app, sumI_app, sumI_str, sumI_F ks, sumI_F nx, Fo.sz]
    show h.sz + _ = _
    omega
theorem sumI_T (t : Tr) : sumI (itemsT t) = t.sz := by
  unfold itemsT
  rw [sumI_cons, sumI_app, sumI_str, sumI_F, Tr.sz]
  show t.h.sz + _ = _
  omega
theorem wd_len (s : ByteArray) : s.size ≤ (Wd s).length ∧ 1 ≤ (Wd s).length := by
  unfold Wd wordS
  split
  · rename_i h
    rw [h]
    exact ⟨Nat.zero_le _, Nat.le_refl _⟩
  · rename_i h
    have h1 := (wordL_len s.data.toList).1
    have e : (⟨(wordL s.data.toList).toArray⟩ : ByteArray).data.toList = wordL s.data.toList := by simp
    have e2 : s.data.toList.length = s.size := by rw [Array.length_toList]; rfl
    rw [e]
    omega
theorem itoa_pos (n : Int) : 1 ≤ (Lib.itoa n).length := by
  unfold Lib.itoa
  split
  · simp
  · have := dec_ne n.toNat
    exact List.length_pos_iff.2 this
theorem kindW_len (k : Int) : 4 ≤ (kindW k).length := by
  unfold kindW
  split
  · decide
  · split <;> decide
theorem item_size {x : St ⊕ (Hd × Int)} (h : okK x) : itSz x ≤ 3 * ((itemL x).length + 1) := by
  rw [itemL_sp, List.length_append]
  cases x with
  | inl s =>
    have h1 := wd_len s.1
    have h2 := wd_len s.2
    show 20 + s.1.size + s.2.size ≤ 3 * (6 + (sp [Wd s.1, Wd s.2]).length + 1)
    rw [sp_cons, sp_cons]
    simp only [List.length_cons, List.length_append, sp, List.flatMap_nil, List.length_nil]
    omega
  | inr p =>
    obtain ⟨hd, l⟩ := p
    have h0 := kindW_len hd.kind
    have h1 := wd_len hd.name
    have i0 := itoa_pos l
    have i1 := itoa_pos hd.mode
    have i2 := itoa_pos hd.uid
    have i3 := itoa_pos hd.gid
    have i4 := itoa_pos hd.time
    have i5 := itoa_pos hd.weight
    have i6 := itoa_pos hd.hidden
    show hd.sz ≤ 3 * ((kindW hd.kind).length + (sp (headA hd l ++ tailA hd)).length + 1)
    rw [sp_app, List.length_append]
    have e : (sp (headA hd l)).length = 8 + (Lib.itoa l).length + (Wd hd.name).length + (Lib.itoa hd.mode).length + (Lib.itoa hd.uid).length + (Lib.itoa hd.gid).length + (Lib.itoa hd.time).length + (Lib.itoa hd.weight).length + (Lib.itoa hd.hidden).length := by
      unfold headA
      simp only [sp_cons, List.length_cons, List.length_append]
      simp only [sp, List.flatMap_nil, List.length_nil]
      omega
    have e2 : hd.data.size + hd.target.size ≤ (sp (tailA hd)).length := by
      rcases h with ⟨hk, h2, h3⟩ | ⟨hk, h3⟩ | ⟨hk, h2⟩
      · rw [h2, h3]
        exact Nat.zero_le _
      · unfold tailA
        rw [if_pos hk, h3, sp_cons]
        have := wd_len hd.data
        have e0 : (eS : ByteArray).size = 0 := rfl
        simp only [List.length_cons, List.length_append]
        omega
      · unfold tailA
        rw [if_neg (by omega), if_pos hk, h2, sp_cons]
        have := wd_len hd.target
        have e0 : (eS : ByteArray).size = 0 := rfl
        simp only [List.length_cons, List.length_append]
        omega
    rw [Hd.sz, e]
    omega
theorem items_size : ∀ xs : List (St ⊕ (Hd × Int)), (∀ x ∈ xs, okK x) → sumI xs ≤ 3 * (linesI xs).length
  | [], _ => Nat.zero_le _
  | x :: xs, h => by
    have h1 := item_size (h x (List.mem_cons_self ..))
    have h2 := items_size xs (fun y hy => h y (List.mem_cons_of_mem _ hy))
    rw [sumI_cons, linesI_cons, List.length_append, List.length_cons]
    omega
theorem parse_small {s : ByteArray} (hs : s.size ≤ 20000) : ∀ st t, linesS (piecesC 10 s.data.toList).dropLast 0 [] = .ok st → leaveS 1 st.length st = [t] → t.sz ≤ 60000 := by
  intro st t h1 h2
  obtain ⟨_, h3⟩ := parse_items h1 h2
  obtain ⟨r, h4, _⟩ := parse_lines h1 h2
  have h5 := items_size _ h3
  rw [sumI_T, ← linesT_items] at h5
  have h6 : s.data.toList.length = s.size := by rw [Array.length_toList]; rfl
  rw [h4, List.length_append] at h6
  omega
theorem parse_as {s : ByteArray} {x t : Tr} {st : List Tr} (h : parseT s = (x, 0, 0)) (h1 : linesS (piecesC 10 s.data.toList).dropLast 0 [] = .ok st) (h2 : leaveS 1 st.length st = [t]) : t = x := by
  unfold parseT at h
  split at h
  · simp at h
  · rw [h1] at h
    dsimp only at h
    split at h
    · simp at h
    · rw [h2] at h
      dsimp only at h
      split at h
      · rename_i h3
        exact absurd (by simpa using (Prod.mk.inj (Prod.mk.inj h).2).2) h3
      · exact (Prod.mk.inj h).1
theorem parse_small_of {s : ByteArray} {t : Tr} (h : formatT t = (s, 0)) (hz : t.sz ≤ 60000) : ∀ st t', linesS (piecesC 10 s.data.toList).dropLast 0 [] = .ok st → leaveS 1 st.length st = [t'] → t'.sz ≤ 60000 := by
  intro st t' h1 h2
  rw [parse_as (format_parse h) h1 h2]
  exact hz
/-! What is read is written as the same text. -/
theorem step_ne {st st2 : List Tr} {x : St ⊕ (Hd × Int)} (h : stepI st x = some st2) : st2 ≠ [] := by
  cases x with
  | inl s =>
    cases st with
    | nil => cases h
    | cons t r =>
      unfold stepI at h
      dsimp only at h
      split at h
      · injection h with h
        subst h
        simp
      · cases h
  | inr p =>
    obtain ⟨hd, l⟩ := p
    have e0 : stepI st (.inr (hd, l)) = if (mostP st : Int) < l ∨ (l < 2 ∧ st ≠ []) ∨ l < 1 then none else some (⟨hd, [], .nil⟩ :: leaveS (l.toNat - 1) st.length st) := rfl
    rw [e0] at h
    split at h
    · cases h
    · injection h with h
      subst h
      simp
theorem fold_ne : ∀ (xs : List (St ⊕ (Hd × Int))) (st st2 : List Tr), foldI xs st = some st2 → xs ≠ [] → st2 ≠ []
  | [], _, _, _, h => absurd rfl h
  | [x], st, st2, h, _ => by
    rw [foldI] at h
    cases e : stepI st x with
    | none => rw [e] at h; cases h
    | some s1 =>
      rw [e] at h
      injection h with h
      subst h
      exact step_ne e
  | x :: y :: xs, st, st2, h, _ => by
    rw [foldI] at h
    cases e : stepI st x with
    | none => rw [e] at h; cases h
    | some s1 =>
      rw [e] at h
      exact fold_ne (y :: xs) s1 st2 h (by simp)
theorem parse_format {s : ByteArray} {t : Tr} {i : Int} (h : parseT s = (t, i, 0)) : i = 0 ∧ formatT t = (s, 0) ∧ validB t = true := by
  unfold parseT at h
  split at h
  · cases h
  · rename_i hsz
    cases e : linesS (piecesC 10 s.data.toList).dropLast 0 [] with
    | error k => rw [e] at h; cases h
    | ok st =>
      rw [e] at h
      simp only [] at h
      split at h
      · cases h
      · rename_i hc
        obtain ⟨xs, x1, x2, _⟩ := lines_back _ _ _ _ e
        have hne : st ≠ [] := by
          refine fold_ne xs [] st x2 fun e0 => ?_
          subst e0
          have : (piecesC 10 s.data.toList).dropLast.length = 0 := by rw [x1]; rfl
          rw [List.length_dropLast] at this
          exact hc (Or.inl (by omega))
        obtain ⟨t', ht'⟩ := leave_one st.length st hne (Nat.le_refl _)
        rw [ht'] at h
        simp only [] at h
        split at h
        · rename_i hk
          injection h with _ h
          injection h with _ h
          exact absurd h hk
        · rename_i hk
          injection h with h1 h2
          injection h2 with h2 _
          subst h1; subst h2
          have hv : validB t' = true := decide_eq_true (Classical.byContradiction hk)
          obtain ⟨r, p1, p2⟩ := parse_lines e ht'
          have hr : r = [] := by
            have : (piecesC 10 s.data.toList).getLast? = some [] := Classical.byContradiction fun hn => hc (Or.inr hn)
            rw [this] at p2
            exact (Option.some.inj p2).symm
          subst hr
          rw [List.append_nil] at p1
          refine ⟨rfl, ?_, hv⟩
          have h6 : s.data.toList.length = s.size := by rw [Array.length_toList]; rfl
          unfold formatT
          rw [if_neg (by rw [hv]; decide), if_neg (by rw [← p1]; omega), ← p1]
theorem parse_error {s : ByteArray} {t : Tr} {i e : Int} (h : parseT s = (t, i, e)) (he : e ≠ 0) : i = 0 ∨ (e = 3 ∧ 1 ≤ i ∧ i ≤ ((piecesC 10 s.data.toList).length : Int)) := by
  unfold parseT at h
  split at h
  · injection h with _ h
    injection h with h _
    exact Or.inl h.symm
  · cases e1 : linesS (piecesC 10 s.data.toList).dropLast 0 [] with
    | error k =>
      rw [e1] at h
      injection h with _ h
      injection h with h h2
      have := lines_err _ _ _ _ e1
      rw [List.length_dropLast] at this
      subst h; subst h2
      exact Or.inr ⟨rfl, by omega, by omega⟩
    | ok st =>
      rw [e1] at h
      simp only [] at h
      split at h
      · injection h with _ h
        injection h with h h2
        subst h; subst h2
        have := List.length_pos_iff.2 (piecesC_ne 10 s.data.toList)
        exact Or.inr ⟨rfl, by omega, by omega⟩
      · split at h
        · split at h
          · injection h with _ h
            injection h with h _
            exact Or.inl h.symm
          · injection h with _ h
            injection h with h _
            exact Or.inl h.symm
        · injection h with _ h
          injection h with h _
          exact Or.inl h.symm
theorem format_error {t : Tr} {s : ByteArray} {e : Int} (h : formatT t = (s, e)) (he : e ≠ 0) (hv : validB t = true) : e = 7 := by
  unfold formatT at h
  split at h
  · rename_i h1
    rw [hv] at h1
    cases h1
  · split at h
    · injection h with _ h
      exact h.symm
    · injection h with _ h
      exact absurd h.symm he
end Go.Proofs.YtlhakdildbplkaaGreatDoor
