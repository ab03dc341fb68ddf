/- Contracts and plain words for the laws of this chapter, part 36: Pl1, Pl2. No condition. -/
import Derived.Test.YtlhakdildbplkaaGreatDoorC13
namespace Go.Proofs.YtlhakdildbplkaaGreatDoor
set_option linter.unusedSimpArgs false
set_option linter.unusedVariables false
/-- The names down to each node of a forest. -/
def nlF : Fo → List ByteArray → List (List ByteArray)
  | .nil, _ => []
  | .node h _ ks nx, p => (p ++ [h.name]) :: nlF ks (p ++ [h.name]) ++ nlF nx p
def joinP : List ByteArray → ByteArray
  | [] => eS
  | [n] => n
  | n :: m :: l => n ++ ⟨#[47]⟩ ++ joinP (m :: l)
theorem joinP_cons (n : ByteArray) (l : List ByteArray) (h : l ≠ []) : joinP (n :: l) = n ++ ⟨#[47]⟩ ++ joinP l := by
  cases l with
  | nil => exact absurd rfl h
  | cons m l => rfl
theorem joinP_snoc (n : ByteArray) : ∀ pre : List ByteArray, pre ≠ [] → joinP (pre ++ [n]) = joinP pre ++ ⟨#[47]⟩ ++ n
  | [], h => absurd rfl h
  | [a], _ => rfl
  | a :: b :: l, _ => by
    have ih := joinP_snoc n (b :: l) (by simp)
    rw [List.cons_append, joinP_cons a _ (by simp), ih, joinP_cons a (b :: l) (by simp)]
    simp only [ByteArray.append_assoc]
theorem joinP_app : ∀ (a b : List ByteArray), a ≠ [] → b ≠ [] → joinP (a ++ b) = joinP a ++ ⟨#[47]⟩ ++ joinP b
  | [], _, h, _ => absurd rfl h
  | [a], b, _, hb => by rw [List.singleton_append, joinP_cons a b hb]; rfl
  | a :: a2 :: l, b, _, hb => by
    have ih := joinP_app (a2 :: l) b (by simp) hb
    rw [List.cons_append, joinP_cons a _ (by simp), ih, joinP_cons a (a2 :: l) (by simp)]
    simp only [ByteArray.append_assoc]
theorem below_join (pre : List ByteArray) (n : ByteArray) : belowP (joinP pre) n (pre.length + 1) = joinP (pre ++ [n]) := by
  unfold belowP
  cases pre with
  | nil => rfl
  | cons a l => rw [if_neg (by simp), joinP_snoc n _ (by simp)]
theorem paths_names : ∀ (f : Fo) (pre : List ByteArray), pathsF f (joinP pre) (pre.length + 1) = (nlF f pre).map joinP
  | .nil, _ => rfl
  | .node h ss ks nx, pre => by
    have h1 := paths_names ks (pre ++ [h.name])
    rw [List.length_append, List.length_singleton] at h1
    rw [pathsF, nlF, below_join, h1, paths_names nx pre, List.map_append, List.map_cons]
theorem pathsT_names {t : Tr} (h : validB t = true) : pathsT t = eS :: (nlF t.ks []).map joinP := by
  unfold pathsT
  rw [if_pos h]
  exact congrArg _ (paths_names t.ks [])
/-! Joined and cut again. -/
def NoSls (l : List ByteArray) : Prop := ∀ n ∈ l, ∀ c ∈ n.data.toList, c ≠ 47
theorem bytes_app (a b : ByteArray) : (a ++ b).data.toList = a.data.toList ++ b.data.toList := by simp [ByteArray.data_append]
theorem join_bytes (n : ByteArray) (pre : List ByteArray) (h : pre ≠ []) : (joinP (pre ++ [n])).data.toList = (joinP pre).data.toList ++ 47 :: n.data.toList := by
  rw [joinP_snoc n pre h, bytes_app, bytes_app, List.append_assoc]
  rfl
theorem words_joinR : ∀ r : List ByteArray, r ≠ [] → NoSls r → words (joinP r.reverse) = r.reverse
  | [], h, _ => absurd rfl h
  | [a], _, h => words_one (h a (by simp))
  | a :: b :: r, _, h => by
    have ih := words_joinR (b :: r) (by simp) (fun n hn => h n (List.mem_cons_of_mem _ hn))
    rw [List.reverse_cons]
    rw [words_cut (join_bytes a _ (by simp)) (h a (by simp)), ih]
theorem words_join {l : List ByteArray} (h : l ≠ []) (hs : NoSls l) : words (joinP l) = l := by
  have := words_joinR l.reverse (by simpa using h) (fun n hn => hs n (List.mem_reverse.1 hn))
  rwa [List.reverse_reverse] at this
theorem join_inj {a b : List ByteArray} (ha : a ≠ []) (hb : b ≠ []) (sa : NoSls a) (sb : NoSls b) (h : joinP a = joinP b) : a = b := by
  rw [← words_join ha sa, h, words_join hb sb]
theorem partsL_app : ∀ (a r p : List UInt8), partsL (a ++ 47 :: r) p = partsL a p ++ partsL r []
  | [], r, p => by rw [List.nil_append, partsL, partsL, if_pos rfl]; rfl
  | c :: a, r, p => by
    rw [List.cons_append, partsL, partsL]
    split
    · rw [partsL_app a r []]; rfl
    · rw [partsL_app a r (p ++ [c])]
theorem partsL_ne : ∀ (a p : List UInt8), partsL a p ≠ []
  | [], p => by simp [partsL]
  | c :: a, p => by
    rw [partsL]
    split
    · simp
    · exact partsL_ne a _
/-- What stands below a path. -/
theorem under_iff {a b : List ByteArray} (ha : a ≠ []) (hb : b ≠ []) (sa : NoSls a) (sb : NoSls b) : ((joinP a).data.toList ++ [47]) <+: (joinP b).data.toList ↔ ∃ r, r ≠ [] ∧ b = a ++ r := by
  constructor
  · rintro ⟨r, hr⟩
    have e : (words (joinP b)).map (·.data.toList) = (words (joinP a)).map (·.data.toList) ++ partsL r [] := by
      rw [words_bytes, words_bytes, ← hr, List.append_assoc]
      exact partsL_app _ _ _
    rw [words_join ha sa, words_join hb sb] at e
    refine ⟨b.drop a.length, ?_, ?_⟩
    · intro h0
      have h1 := congrArg List.length e
      rw [List.length_append, List.length_map, List.length_map] at h1
      have h2 : (partsL r []).length ≠ 0 := fun h => partsL_ne r [] (List.eq_nil_of_length_eq_zero h)
      have h3 := congrArg List.length h0
      rw [List.length_drop, List.length_nil] at h3
      omega
    · have h1 : (b.take a.length).map (·.data.toList) = a.map (·.data.toList) := by
        rw [List.map_take, e, List.take_left' (by rw [List.length_map])]
      have h2 := map_bytes_inj h1
      conv => lhs; rw [← List.take_append_drop a.length b]
      rw [h2]
  · rintro ⟨r, hr, rfl⟩
    rw [joinP_app a r ha hr, bytes_app, bytes_app]
    exact ⟨(joinP r).data.toList, by simp⟩
/-! Members. -/
theorem nlF_mem : ∀ {f : Fo} {pre m : List ByteArray}, m ∈ nlF f pre → ∃ n r, m = pre ++ n :: r ∧ n ∈ f.names
  | .nil, _, _, h => by cases h
  | .node h ss ks nx, pre, m, hm => by
    rw [nlF, List.mem_append, List.mem_cons] at hm
    rcases hm with (rfl | hm) | hm
    · exact ⟨h.name, [], rfl, by simp [Fo.names]⟩
    · obtain ⟨n, r, rfl, _⟩ := nlF_mem hm
      exact ⟨h.name, n :: r, by simp, by simp [Fo.names]⟩
    · obtain ⟨n, r, rfl, hn⟩ := nlF_mem hm
      exact ⟨n, r, rfl, by simp [Fo.names, hn]⟩
/-- Whether a list of names does not begin with another one. -/
def offB : List ByteArray → List ByteArray → Bool
  | [], _ => false
  | _ :: _, [] => true
  | a :: l, b :: m => decide (a ≠ b) || offB l m
theorem off_iff : ∀ (a m : List ByteArray), offB a m = true ↔ ¬ a <+: m
  | [], m => by
    rw [offB]
    exact ⟨fun h => Bool.noConfusion h, fun h => absurd List.nil_prefix h⟩
  | a :: l, [] => by
    rw [offB]
    refine ⟨fun _ h => ?_, fun _ => rfl⟩
    have := h.length_le
    simp at this
  | a :: l, b :: m => by
    rw [offB, Bool.or_eq_true, decide_eq_true_iff, off_iff l m, List.cons_prefix_cons]
    constructor
    · rintro (h | h) ⟨h1, h2⟩
      · exact h h1
      · exact h h2
    · intro h
      by_cases e : a = b
      · exact Or.inr fun h2 => h ⟨e, h2⟩
      · exact Or.inl e
theorem off_other {pre r l : List ByteArray} {n b : ByteArray} (h : n ≠ b) : offB (pre ++ b :: l) (pre ++ n :: r) = true := by
  rw [off_iff, List.prefix_append_right_inj]
  rintro ⟨z, hz⟩
  rw [List.cons_append, List.cons.injEq] at hz
  exact h hz.1.symm
theorem filter_all {p : List ByteArray → Bool} {l : List (List ByteArray)} (h : ∀ m ∈ l, p m = true) : l.filter p = l := List.filter_eq_self.2 h
theorem nlF_drop : ∀ {f : Fo} {i : Nat} {pre : List ByteArray} {b : ByteArray}, SortedN f.names → kidI f b = some i → nlF (f.dropAt i) pre = (nlF f pre).filter (offB (pre ++ [b]))
  | .nil, _, _, _, _, h => by cases h
  | .node h ss ks nx, i, pre, b, hs, hk => by
    have hs1 : ∀ n ∈ nx.names, n ≠ h.name := fun n hn e => by
      have := List.rel_of_pairwise_cons hs hn
      rw [e, blt_irrefl] at this
      cases this
    by_cases q : h.name = b
    · rw [kidI_hit q] at hk
      injection hk with hk
      subst hk
      have e1 : (nlF (.node h ss ks nx) pre).filter (offB (pre ++ [b])) = nlF nx pre := by
        rw [nlF, List.filter_append, filter_all (l := nlF nx pre), List.filter_eq_nil_iff.2, List.nil_append]
        · intro m hm
          rw [off_iff, Classical.not_not]
          rw [List.mem_cons] at hm
          rcases hm with rfl | hm
          · rw [q]; exact List.prefix_refl _
          · obtain ⟨n, r, rfl, _⟩ := nlF_mem hm
            rw [q]
            exact ⟨n :: r, rfl⟩
        · intro m hm
          obtain ⟨n, r, rfl, hn⟩ := nlF_mem hm
          exact off_other (fun e => hs1 n hn (e.trans q.symm))
      rw [e1]
      rfl
    · rw [kidI_miss q] at hk
      cases hj : kidI nx b with
      | none => rw [hj] at hk; cases hk
      | some j =>
        rw [hj] at hk
        injection hk with hk
        subst hk
        rw [Fo.dropAt, nlF, nlF, List.filter_append, nlF_drop (List.Pairwise.of_cons hs) hj]
        congr 1
        refine (filter_all fun m hm => ?_).symm
        rw [List.mem_cons] at hm
        rcases hm with rfl | hm
        · exact off_other q
        · obtain ⟨n, r, rfl, _⟩ := nlF_mem hm
          rw [List.append_assoc]
          exact off_other q
theorem nlF_set : ∀ {f : Fo} {j : Nat} {k k' : Tr} {pre l : List ByteArray}, SortedN f.names → f.list[j]? = some k → k'.h.name = k.h.name → l ≠ [] → nlF k'.ks (pre ++ [k.h.name]) = (nlF k.ks (pre ++ [k.h.name])).filter (offB (pre ++ k.h.name :: l)) →
    nlF (f.setAt j k') pre = (nlF f pre).filter (offB (pre ++ k.h.name :: l))
  | .nil, _, _, _, _, _, _, h, _, _, _ => by simp [Fo.list] at h
  | .node h ss ks nx, 0, k, k', pre, l, hs, hi, hn, hl, ih => by
    have e2 : (⟨h, ss, ks⟩ : Tr) = k := by simpa [Fo.list] using hi
    subst e2
    have hs1 : ∀ n ∈ nx.names, n ≠ h.name := fun n hn e => by
      have := List.rel_of_pairwise_cons hs hn
      rw [e, blt_irrefl] at this
      cases this
    dsimp only at *
    rw [Fo.setAt, nlF, nlF, hn, ih, List.filter_append, filter_all (l := nlF nx pre), List.filter_cons_of_pos]
    · rw [off_iff, List.prefix_append_right_inj]
      rintro ⟨z, hz⟩
      rw [List.cons_append, List.cons.injEq] at hz
      have := congrArg List.length hz.2
      rw [List.length_append, List.length_nil] at this
      exact hl (List.eq_nil_of_length_eq_zero (by omega))
    · intro m hm
      obtain ⟨n, r, rfl, hn⟩ := nlF_mem hm
      exact off_other (hs1 n hn)
  | .node h ss ks nx, j + 1, k, k', pre, l, hs, hi, hn, hl, ih => by
    have hi2 : nx.list[j]? = some k := by simpa [Fo.list] using hi
    have hne : h.name ≠ k.h.name := fun e => by
      have hm : k.h.name ∈ nx.names := List.mem_of_getElem? (Fo.names_at hi2)
      have := List.rel_of_pairwise_cons hs hm
      rw [e, blt_irrefl] at this
      cases this
    rw [Fo.setAt, nlF, nlF, List.filter_append, nlF_set (List.Pairwise.of_cons hs) hi2 hn hl ih]
    congr 1
    refine (filter_all fun m hm => ?_).symm
    rw [List.mem_cons] at hm
    rcases hm with rfl | hm
    · exact off_other hne
    · obtain ⟨n, r, rfl, _⟩ := nlF_mem hm
      rw [List.append_assoc]
      exact off_other hne
end Go.Proofs.YtlhakdildbplkaaGreatDoor
namespace Go.Proofs.YtlhakdildbplkaaGreatDoor
set_option linter.unusedSimpArgs false
set_option linter.unusedVariables false
/-- All nodes of a forest are right by themselves. -/
def okF : Fo → Nat → Prop
  | .nil, _ => True
  | .node h ss ks nx, l => oneE ⟨h, ss, ks⟩ (l + 1) = 0 ∧ okF ks (l + 1) ∧ okF nx l
theorem okF_of : ∀ {f : Fo} {p : ByteArray} {l : Nat}, chkF f p l = none → okF f l
  | .nil, _, _, _ => trivial
  | .node h ss ks nx, p, l, e => by
    obtain ⟨h1, h2, h3⟩ := chkF_none e
    exact ⟨h1, okF_of h2, okF_of h3⟩
theorem chkF_of : ∀ {f : Fo} {l : Nat}, okF f l → ∀ p, chkF f p l = none
  | .nil, _, _, _ => rfl
  | .node h ss ks nx, l, ⟨h1, h2, h3⟩, p => by
    rw [chkF, if_neg (by rw [h1]; decide), chkF_of h2]
    exact chkF_of h3 p
theorem valid_of {t : Tr} (hc : t.count ≤ 256) (h1 : oneE t 1 = 0) (h2 : okF t.ks 1) : validB t = true := by
  have hk : chkT t = none := by
    unfold chkT
    rw [if_neg (by rw [h1]; decide), chkF_of h2]
  unfold validB checkT
  rw [if_neg (by omega), hk]
  rfl
theorem okF_at : ∀ {f : Fo} {l i : Nat} {k : Tr}, okF f l → f.list[i]? = some k → oneE k (l + 1) = 0 ∧ okF k.ks (l + 1)
  | .nil, _, _, _, _, h => by simp [Fo.list] at h
  | .node h ss ks nx, l, 0, k, e, hi => by
    have e2 : (⟨h, ss, ks⟩ : Tr) = k := by simpa [Fo.list] using hi
    subst e2
    exact ⟨e.1, e.2.1⟩
  | .node h ss ks nx, l, i + 1, k, e, hi => okF_at e.2.2 (show nx.list[i]? = some k by simpa [Fo.list] using hi)
theorem okF_drop : ∀ {f : Fo} {l : Nat} (i : Nat), okF f l → okF (f.dropAt i) l
  | .nil, _, _, _ => trivial
  | .node h ss ks nx, l, 0, e => e.2.2
  | .node h ss ks nx, l, i + 1, e => ⟨e.1, e.2.1, okF_drop i e.2.2⟩
theorem okF_set : ∀ {f : Fo} {l i : Nat} {k : Tr}, okF f l → oneE k (l + 1) = 0 → okF k.ks (l + 1) → okF (f.setAt i k) l
  | .nil, _, _, _, _, _, _ => trivial
  | .node h ss ks nx, l, 0, k, e, h1, h2 => ⟨h1, h2, e.2.2⟩
  | .node h ss ks nx, l, i + 1, k, e, h1, h2 => ⟨e.1, e.2.1, okF_set e.2.2 h1 h2⟩
theorem firstE_of {l : List Int} (h : ∀ e ∈ l, e = 0) : firstE l = 0 := by
  induction l with
  | nil => rfl
  | cons a l ih =>
    rw [firstE, if_neg (by rw [h a (by simp)]; decide)]
    exact ih fun e he => h e (List.mem_cons_of_mem _ he)
theorem oneE_iff {t : Tr} {l : Nat} : oneE t l = 0 ↔ kindE t.h l = 0 ∧ nameE t.h l = 0 ∧ partsE t = 0 ∧ targetE t.h = 0 ∧ numE t.h = 0 ∧ sizeE t l = 0 ∧ strE none t.ss = 0 ∧ kidsE t.ks.names = 0 := by
  constructor
  · intro h
    have := firstE_zero h
    exact ⟨this _ (by simp), this _ (by simp), this _ (by simp), this _ (by simp), this _ (by simp), this _ (by simp), this _ (by simp), this _ (by simp)⟩
  · rintro ⟨h1, h2, h3, h4, h5, h6, h7, h8⟩
    refine firstE_of fun e he => ?_
    simp only [List.mem_cons, List.not_mem_nil, or_false] at he
    rcases he with rfl | rfl | rfl | rfl | rfl | rfl | rfl | rfl <;> assumption
/-- A node with fewer kids is right, too. -/
theorem oneE_less {h : Hd} {ss : List St} {ks ks' : Fo} {l : Nat} (h0 : oneE ⟨h, ss, ks⟩ l = 0) (hl : ks'.len ≤ ks.len) (hs : SortedN ks'.names) : oneE ⟨h, ss, ks'⟩ l = 0 := by
  rw [oneE_iff] at *
  obtain ⟨h1, h2, h3, h4, h5, h6, h7, h8⟩ := h0
  refine ⟨h1, h2, ?_, h4, h5, ?_, h7, sorted_kidsE hs⟩
  · unfold partsE at h3 ⊢
    dsimp only at h3 ⊢
    split at h3
    · cases h3
    · rename_i hn
      rw [if_neg]
      intro hh
      apply hn
      rcases hh with hh | hh | hh
      · exact Or.inl hh
      · exact Or.inr (Or.inl hh)
      · exact Or.inr (Or.inr ⟨hh.1, by omega⟩)
  · unfold sizeE at h6 ⊢
    cases hb : largeB ⟨h, ss, ks'⟩ l with
    | false => rfl
    | true =>
      have : largeB ⟨h, ss, ks⟩ l = true := by
        unfold largeB at hb ⊢
        rw [Bool.or_eq_true] at hb ⊢
        rcases hb with hb | hb
        · left
          have hb := of_decide_eq_true hb
          apply decide_eq_true
          dsimp only at hb ⊢
          omega
        · exact Or.inr hb
      rw [this] at h6
      cases h6
theorem oneE_same {h : Hd} {ss : List St} {ks ks' : Fo} {l : Nat} (h0 : oneE ⟨h, ss, ks⟩ l = 0) (hn : ks'.names = ks.names) : oneE ⟨h, ss, ks'⟩ l = 0 := by
  have hl : ks'.len = ks.len := by rw [← Fo.names_len, hn, Fo.names_len]
  exact oneE_less h0 (Nat.le_of_eq hl) (by rw [hn]; exact kidsE_sorted (oneE_kids h0))
theorem names_set : ∀ {f : Fo} {i : Nat} {k k' : Tr}, f.list[i]? = some k → k'.h.name = k.h.name → (f.setAt i k').names = f.names
  | .nil, _, _, _, h, _ => by simp [Fo.list] at h
  | .node h ss ks nx, 0, k, k', hi, hn => by
    have e2 : (⟨h, ss, ks⟩ : Tr) = k := by simpa [Fo.list] using hi
    subst e2
    rw [Fo.setAt, Fo.names, Fo.names, hn]
  | .node h ss ks nx, i + 1, k, k', hi, hn => by rw [Fo.setAt, Fo.names, Fo.names, names_set (f := nx) (by simpa [Fo.list] using hi) hn]
theorem names_drop : ∀ (f : Fo) (i : Nat), (f.dropAt i).names = f.names.eraseIdx i
  | .nil, _ => rfl
  | .node _ _ _ nx, 0 => rfl
  | .node h ss ks nx, i + 1 => by rw [Fo.dropAt, Fo.names, Fo.names, List.eraseIdx_cons_succ, names_drop nx]
theorem sorted_drop {f : Fo} (i : Nat) (h : SortedN f.names) : SortedN (f.dropAt i).names := by
  rw [names_drop]
  exact List.Pairwise.sublist (List.eraseIdx_sublist _ _) h
theorem dropAt_le (f : Fo) (i : Nat) : (f.dropAt i).len ≤ f.len := by
  rw [← Fo.names_len, ← Fo.names_len, names_drop]
  exact (List.eraseIdx_sublist _ _).length_le
theorem dropAt_count : ∀ (f : Fo) (i : Nat), (f.dropAt i).count ≤ f.count
  | .nil, _ => Nat.le_refl _
  | .node h ss ks nx, 0 => by rw [Fo.dropAt, Fo.count]; omega
  | .node h ss ks nx, i + 1 => by
    have := dropAt_count nx i
    rw [Fo.dropAt, Fo.count, Fo.count]; omega
theorem updT_h : ∀ (l : List ByteArray) (t : Tr) (f : Fo), (updT l t f).h = t.h
  | [], _, _ => rfl
  | n :: l, t, f => by
    unfold updT
    split
    · split <;> rfl
    · rfl
theorem setAt_count : ∀ {f : Fo} {i : Nat} {k k' : Tr}, f.list[i]? = some k → (f.setAt i k').count + k.count = f.count + k'.count
  | .nil, _, _, _, h => by simp [Fo.list] at h
  | .node h ss ks nx, 0, k, k', e => by
    have e2 : (⟨h, ss, ks⟩ : Tr) = k := by simpa [Fo.list] using e
    subst e2
    rw [Fo.setAt, Fo.count, Fo.count, Tr.count, Tr.count]
    dsimp only
    omega
  | .node h ss ks nx, i + 1, k, k', e => by
    have := setAt_count (f := nx) (i := i) (k := k) (k' := k') (by simpa [Fo.list] using e)
    rw [Fo.setAt, Fo.count, Fo.count]
    omega
theorem updT_count : ∀ {l : List ByteArray} {t x : Tr} {f : Fo}, findT t l = some x → (updT l t f).count + x.ks.count = t.count + f.count
  | [], t, x, f, h => by
    rw [findT_nil] at h
    injection h with h
    subst h
    show f.count + 1 + t.ks.count = t.ks.count + 1 + f.count
    omega
  | n :: l, t, x, f, h => by
    cases hk : kidI t.ks n with
    | none => rw [findT_miss (kid_none hk)] at h; cases h
    | some i =>
      obtain ⟨k, e1, e2, -⟩ := kid_some hk
      rw [findT_hit e2] at h
      have ih := updT_count (f := f) h
      have hs := setAt_count (k' := updT l k f) e1
      rw [updT_cons hk e1]
      show (t.ks.setAt i (updT l k f)).count + 1 + x.ks.count = t.ks.count + 1 + f.count
      omega
/-- Other kids at a path: right where they are right there. -/
theorem upd_ok : ∀ {l : List ByteArray} {t x : Tr} {f : Fo} {lv : Nat}, oneE t lv = 0 → okF t.ks lv → findT t l = some x → (∀ m, oneE x m = 0 → oneE ⟨x.h, x.ss, f⟩ m = 0) → (∀ m, okF x.ks m → okF f m) → oneE (updT l t f) lv = 0 ∧ okF (updT l t f).ks lv
  | [], t, x, f, lv, h1, h2, h, hA, hB => by
    rw [findT_nil] at h
    injection h with h
    subst h
    exact ⟨hA _ h1, hB _ h2⟩
  | n :: l, t, x, f, lv, h1, h2, h, hA, hB => by
    cases hk : kidI t.ks n with
    | none => rw [findT_miss (kid_none hk)] at h; cases h
    | some i =>
      obtain ⟨k, e1, e2, -⟩ := kid_some hk
      rw [findT_hit e2] at h
      obtain ⟨a1, a2⟩ := okF_at h2 e1
      obtain ⟨b1, b2⟩ := upd_ok a1 a2 h hA hB
      rw [updT_cons hk e1]
      exact ⟨oneE_same (ks := t.ks) h1 (names_set e1 (by rw [updT_h])), okF_set h2 b1 b2⟩
theorem upd_names : ∀ {l : List ByteArray} {t x : Tr} {f : Fo} {lv : Nat} {b : ByteArray} {pre : List ByteArray}, oneE t lv = 0 → okF t.ks lv → findT t l = some x → (∀ pre, nlF f pre = (nlF x.ks pre).filter (offB (pre ++ [b]))) → nlF (updT l t f).ks pre = (nlF t.ks pre).filter (offB (pre ++ (l ++ [b])))
  | [], t, x, f, lv, b, pre, h1, h2, h, hA => by
    rw [findT_nil] at h
    injection h with h
    subst h
    exact hA pre
  | n :: l, t, x, f, lv, b, pre, h1, h2, h, hA => by
    cases hk : kidI t.ks n with
    | none => rw [findT_miss (kid_none hk)] at h; cases h
    | some i =>
      obtain ⟨k, e1, e2, e3⟩ := kid_some hk
      rw [findT_hit e2] at h
      obtain ⟨a1, a2⟩ := okF_at h2 e1
      have ih := upd_names (b := b) (pre := pre ++ [k.h.name]) a1 a2 h hA
      rw [updT_cons hk e1]
      have := nlF_set (f := t.ks) (k := k) (k' := updT l k f) (l := l ++ [b]) (pre := pre) (kidsE_sorted (oneE_kids h1)) e1 (by rw [updT_h]) (by simp) (by rw [ih, List.append_assoc]; rfl)
      rw [e3] at this
      exact this
/-! Names without a slash. -/
theorem nameB_slash {n : ByteArray} (h : nameB n = true) : ∀ c ∈ n.data.toList, c ≠ 47 := by
  have h2 : hasC n 47 = false := by
    unfold nameB at h
    rw [Bool.and_eq_true, Bool.and_eq_true] at h
    simpa using h.1.2
  intro c hc e
  subst e
  have h3 : hasC n 47 = true := by
    unfold hasC
    simpa using hc
  rw [h2] at h3
  cases h3
theorem names_noSl : ∀ {f : Fo} {l : Nat} {pre m : List ByteArray}, okF f l → 1 ≤ l → NoSls pre → m ∈ nlF f pre → NoSls m
  | .nil, _, _, _, _, _, _, h => by cases h
  | .node h ss ks nx, l, pre, m, ⟨h1, h2, h3⟩, hl, hp, hm => by
    have hpre : NoSls (pre ++ [h.name]) := by
      intro n hn
      rw [List.mem_append, List.mem_singleton] at hn
      rcases hn with hn | rfl
      · exact hp n hn
      · exact nameB_slash (oneE_name h1 (by omega))
    rw [nlF, List.mem_append, List.mem_cons] at hm
    rcases hm with (rfl | hm) | hm
    · exact hpre
    · exact names_noSl h2 (by omega) hpre hm
    · exact names_noSl h3 hl hp hm
theorem find_noSl : ∀ {p : List ByteArray} {t x : Tr} {l : Nat}, okF t.ks l → 1 ≤ l → findT t p = some x → NoSls p
  | [], _, _, _, _, _, _ => fun n hn => by cases hn
  | n :: p, t, x, l, h, hl, hf => by
    cases hk : kidI t.ks n with
    | none => rw [findT_miss (kid_none hk)] at hf; cases hf
    | some i =>
      obtain ⟨k, e1, e2, e3⟩ := kid_some hk
      rw [findT_hit e2] at hf
      obtain ⟨a1, a2⟩ := okF_at h e1
      intro z hz
      rw [List.mem_cons] at hz
      rcases hz with rfl | hz
      · rw [← e3]; exact nameB_slash (oneE_name a1 (by omega))
      · exact find_noSl a2 (by omega) hf z hz
theorem kidF_skip {h : Hd} {ss : List St} {ks nx : Fo} {n : ByteArray} (e : h.name ≠ n) : kidF (.node h ss ks nx) n = kidF nx n := by rw [kidF, if_neg e]
/-- Each list of names leads to its node. -/
theorem nlF_find : ∀ {f : Fo} {l : Nat} {pre m : List ByteArray}, SortedN f.names → okF f l → m ∈ nlF f pre → ∃ r, r ≠ [] ∧ m = pre ++ r ∧ ∀ h ss, ∃ x, findT ⟨h, ss, f⟩ r = some x
  | .nil, _, _, _, _, _, h => by cases h
  | .node h ss ks nx, l, pre, m, hs, ⟨h1, h2, h3⟩, hm => by
    rw [nlF, List.mem_append, List.mem_cons] at hm
    have hit : kidF (.node h ss ks nx) h.name = some ⟨h, ss, ks⟩ := by rw [kidF, if_pos rfl]
    rcases hm with (rfl | hm) | hm
    · exact ⟨[h.name], by simp, rfl, fun h' ss' => ⟨⟨h, ss, ks⟩, by rw [findT_hit (t := ⟨h', ss', _⟩) hit]; rfl⟩⟩
    · obtain ⟨r, hr, rfl, hx⟩ := nlF_find (kidsE_sorted (oneE_kids h1)) h2 hm
      obtain ⟨x, hx⟩ := hx h ss
      exact ⟨h.name :: r, by simp, by simp, fun h' ss' => ⟨x, by rw [findT_hit (t := ⟨h', ss', _⟩) hit]; exact hx⟩⟩
    · obtain ⟨n, r2, e2, hn⟩ := nlF_mem hm
      obtain ⟨r, hr, e, hx⟩ := nlF_find (List.Pairwise.of_cons hs) h3 hm
      have er : r = n :: r2 := by rw [e2] at e; exact (List.append_cancel_left e).symm
      subst er
      have hne : h.name ≠ n := fun e3 => by
        have := List.rel_of_pairwise_cons hs hn
        rw [e3, blt_irrefl] at this
        cases this
      refine ⟨n :: r2, by simp, e, fun h' ss' => ?_⟩
      obtain ⟨x, hx⟩ := hx h' ss'
      refine ⟨x, ?_⟩
      rw [findT] at hx ⊢
      dsimp only at hx ⊢
      rw [kidF_skip hne]
      exact hx
/-- Neither a path nor below it. -/
def underB (p q : ByteArray) : Bool := (p.data.toList ++ [47]).isPrefixOf q.data.toList
def keepB (p q : ByteArray) : Bool := decide (q ≠ p) && !underB p q
theorem keep_off {a b : List ByteArray} (ha : a ≠ []) (hb : b ≠ []) (sa : NoSls a) (sb : NoSls b) : keepB (joinP a) (joinP b) = offB a b := by
  rw [Bool.eq_iff_iff, off_iff]
  unfold keepB underB
  rw [Bool.and_eq_true, decide_eq_true_iff]
  have hu := under_iff ha hb sa sb
  rw [← List.isPrefixOf_iff_prefix] at hu
  constructor
  · rintro ⟨h1, h2⟩ ⟨r, rfl⟩
    cases r with
    | nil => exact h1 (by rw [List.append_nil])
    | cons n r =>
      have := hu.2 ⟨n :: r, by simp, rfl⟩
      rw [this] at h2
      cases h2
  · intro h
    refine ⟨fun e => h ?_, ?_⟩
    · rw [join_inj hb ha sb sa e]; exact List.prefix_refl _
    · cases hp : List.isPrefixOf ((joinP a).data.toList ++ [47]) (joinP b).data.toList with
      | false => rfl
      | true =>
        obtain ⟨r, _, rfl⟩ := hu.1 hp
        exact absurd ⟨r, rfl⟩ h
theorem keep_root {p : ByteArray} (h : p ≠ eS) : keepB p eS = true := by
  unfold keepB underB
  rw [Bool.and_eq_true]
  refine ⟨decide_eq_true (Ne.symm h), ?_⟩
  cases hp : List.isPrefixOf (p.data.toList ++ [47]) eS.data.toList with
  | false => rfl
  | true =>
    rw [List.isPrefixOf_iff_prefix] at hp
    have := hp.length_le
    rw [List.length_append] at this
    simp [eS] at this
theorem nlF_ne {f : Fo} {m : List ByteArray} (h : m ∈ nlF f []) : m ≠ [] := by
  obtain ⟨n, r, rfl, _⟩ := nlF_mem h
  simp
theorem root_noSl : NoSls [] := fun n hn => by cases hn
/-- Without a node its path and all paths below it are gone, and no others. -/
theorem rem_law {t : Tr} {p : ByteArray} (hv : validB t = true) (hp : p ∈ pathsT t) (h0 : p ≠ eS) : ∃ m, remQ t p = (m, 0) ∧ validB m = true ∧ pathsT m = (pathsT t).filter (keepB p) := by
  obtain ⟨hc, h1, h2⟩ := valid_chk hv
  have hok := okF_of h2
  have hso := kidsE_sorted (oneE_kids h1)
  rw [pathsT_names hv, List.mem_cons, List.mem_map] at hp
  rcases hp with hp | ⟨ms, hms, rfl⟩
  · exact absurd hp h0
  obtain ⟨r, hr, e, hx⟩ := nlF_find hso hok hms
  rw [List.nil_append] at e
  subst e
  obtain ⟨k, hk⟩ := hx t.h t.ss
  have hns := names_noSl hok (Nat.le_refl _) root_noSl hms
  have ew := words_join hr hns
  obtain ⟨ds, b, rfl⟩ : ∃ ds b, ms = ds ++ [b] := ⟨_, _, (List.dropLast_concat_getLast hr).symm⟩
  have ed : dirs (joinP (ds ++ [b])) = ds := by unfold dirs; rw [ew, List.dropLast_concat]
  have eb : base (joinP (ds ++ [b])) = b := by unfold base; rw [ew]; simp
  have hk2 : findT t (ds ++ [b]) = some k := hk
  rw [findT_snoc] at hk2
  cases hf : findT t ds with
  | none => rw [hf] at hk2; cases hk2
  | some x =>
    rw [hf, Option.bind_some] at hk2
    cases hi : kidI x.ks b with
    | none => rw [kid_none hi] at hk2; cases hk2
    | some i =>
      have hsx := find_sorted hv hf
      have hR := remQ_hit hv h0 (by rw [ed]; exact hf) (by rw [eb]; exact hi)
      rw [ed] at hR
      have hV := upd_ok (f := x.ks.dropAt i) h1 hok hf (fun m hm => oneE_less (ks := x.ks) hm (dropAt_le _ _) (sorted_drop i hsx)) (fun m hm => okF_drop i hm)
      have hC := updT_count (f := x.ks.dropAt i) hf
      have hD := dropAt_count x.ks i
      have hVV := valid_of (by omega) hV.1 hV.2
      refine ⟨_, hR, hVV, ?_⟩
      rw [pathsT_names hVV, pathsT_names hv, List.filter_cons_of_pos (keep_root h0), List.filter_map]
      have hN := upd_names (b := b) (pre := []) h1 hok hf (fun pre => nlF_drop hsx hi)
      rw [hN, List.nil_append]
      congr 2
      refine List.filter_congr fun m hm => ?_
      exact (keep_off hr (nlF_ne hm) hns (names_noSl hok (Nat.le_refl _) root_noSl hm)).symm
end Go.Proofs.YtlhakdildbplkaaGreatDoor
