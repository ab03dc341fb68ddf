/- Contracts and plain words for the laws of this chapter, part 36: Pl1, Pl2. No condition. -/
import Derived.Test.YtlhakdildbplkaaGreatDoorD13
namespace Go.Proofs.YtlhakdildbplkaaGreatDoor
set_option linter.unusedSimpArgs false
set_option linter.unusedVariables false
def nlF : Fo → List ByteArray → List (List ByteArray)
  | .nil, _ => []
  | .node h _ ks nx, p => (p ++ [h.name]) :: nlF ks (p ++ [h.name]) ++ nlF nx p
def joinP : List ByteArray → ByteArray
  | [] => eS
  | [n] => n
  | n :: m :: l => n ++ ⟨#[47]⟩ ++ joinP (m :: l)
theorem joinP_cons (n : ByteArray) (l : List ByteArray) (h : l ≠ []) : joinP (n :: l) = n ++ ⟨#[47]⟩ ++ joinP l := by
  cases l with
  | nil => exact absurd rfl h
  | cons m l => rfl
theorem joinP_snoc (n : ByteArray) : ∀ pre : List ByteArray, pre ≠ [] → joinP (pre ++ [n]) = joinP pre ++ ⟨#[47]⟩ ++ n
  | [], h => absurd rfl h
  | [a], _ => rfl
  | a :: b :: l, _ => by
    have ih := joinP_snoc n (b :: l) (by simp)
    rw [List.cons_append, joinP_cons a _ (by simp), ih, joinP_cons a (b :: l) (by simp)]
    simp only [ByteArray.append_assoc]
theorem joinP_app : ∀ (a b : List ByteArray), a ≠ [] → b ≠ [] → joinP (a ++ b) = joinP a ++ ⟨#[47]⟩ ++ joinP b
  | [], _, h, _ => absurd rfl h
  | [a], b, _, hb => by rw [List.singleton_append, joinP_cons a b hb]; rfl
  | a :: a2 :: l, b, _, hb => by
    have ih := joinP_app (a2 :: l) b (by simp) hb
    rw [List.cons_append, joinP_cons a _ (by simp), ih, joinP_cons a (a2 :: l) (by simp)]
    simp only [ByteArray.append_assoc]
theorem below_join (pre : List ByteArray) (n : ByteArray) : belowP (joinP pre) n (pre.length + 1) = joinP (pre ++ [n]) := by
  unfold belowP
  cases pre with
  | nil => rfl
  | cons a l => rw [if_neg (by simp), joinP_snoc n _ (by simp)]
theorem paths_names : ∀ (f : Fo) (pre : List ByteArray), pathsF f (joinP pre) (pre.length + 1) = (nlF f pre).map joinP
  | .nil, _ => rfl
  | .node h ss ks nx, pre => by
    have h1 := paths_names ks (pre ++ [h.name])
    rw [List.length_append, List.length_singleton] at h1
    rw [pathsF, nlF, below_join, h1, paths_names nx pre, List.map_append, List.map_cons]
theorem pathsT_names {t : Tr} (h : validB t = true) : pathsT t = eS :: (nlF t.ks []).map joinP := by
  unfold pathsT
  rw [if_pos h]
  exact congrArg _ (paths_names t.ks [])
/-! Joined and cut again. -/
def NoSls (l : List ByteArray) : Prop := ∀ n ∈ l, ∀ c ∈ n.data.toList, c ≠ 47
theorem bytes_app (a b : ByteArray) : (a ++ b).data.toList = a.data.toList ++ b.data.toList := by simp [ByteArray.data_append]
theorem join_bytes (n : ByteArray) (pre : List ByteArray) (h : pre ≠ []) : (joinP (pre ++ [n])).data.toList = (joinP pre).data.toList ++ 47 :: n.data.toList := by
  rw [joinP_snoc n pre h, bytes_app, bytes_app, List.append_assoc]
  rfl
theorem words_joinR : ∀ r : List ByteArray, r ≠ [] → NoSls r → words (joinP r.reverse) = r.reverse
  | [], h, _ => absurd rfl h
  | [a], _, h => words_one (h a (by simp))
  | a :: b :: r, _, h => by
    have ih := words_joinR (b :: r) (by simp) (fun n hn => h n (List.mem_cons_of_mem _ hn))
    rw [List.reverse_cons]
    rw [words_cut (join_bytes a _ (by simp)) (h a (by simp)), ih]
theorem words_join {l : List ByteArray} (h : l ≠ []) (hs : NoSls l) : words (joinP l) = l := by
  have := words_joinR l.reverse (by simpa using h) (fun n hn => hs n (List.mem_reverse.1 hn))
  rwa [List.reverse_reverse] at this
theorem join_inj {a b : List ByteArray} (ha : a ≠ []) (hb : b ≠ []) (sa : NoSls a) (sb : NoSls b) (h : joinP a = joinP b) : a = b := by
  rw [← words_join ha sa, h, words_join hb sb]
theorem partsL_app : ∀ (a r p : List UInt8), partsL (a ++ 47 :: r) p = partsL a p ++ partsL r []
  | [], r, p => by rw [List.nil_append, partsL, partsL, if_pos rfl]; rfl
  | c :: a, r, p => by
    rw [List.cons_append, partsL, partsL]
    split
    · rw [partsL_app a r []]; rfl
    · rw [partsL_app a r (p ++ [c])]
theorem partsL_ne : ∀ (a p : List UInt8), partsL a p ≠ []
  | [], p => by simp [partsL]
  | c :: a, p => by
    rw [partsL]
    split
    · simp
    · exact partsL_ne a _
theorem under_iff {a b : List ByteArray} (ha : a ≠ []) (hb : b ≠ []) (sa : NoSls a) (sb : NoSls b) : ((joinP a).data.toList ++ [47]) <+: (joinP b).data.toList ↔ ∃ r, r ≠ [] ∧ b = a ++ r := by
  constructor
  · rintro ⟨r, hr⟩
    have e : (words (joinP b)).map (·.data.toList) = (words (joinP a)).map (·.data.toList) ++ partsL r [] := by
      rw [words_bytes, words_bytes, ← hr, List.append_assoc]
      exact partsL_app _ _ _
    rw [words_join ha sa, words_join hb sb] at e
    refine ⟨b.drop a.length, ?_, ?_⟩
    · intro h0
      have h1 := congrArg List.length e
      rw [List.length_append, List.length_map, List.length_map] at h1
      have h2 : (partsL r []).length ≠ 0 := fun h => partsL_ne r [] (List.eq_nil_of_length_eq_zero h)
      have h3 := congrArg List.length h0
      rw [List.length_drop, List.length_nil] at h3
      omega
    · have h1 : (b.take a.length).map (·.data.toList) = a.map (·.data.toList) := by
        rw [List.map_take, e, List.take_left' (by rw [List.length_map])]
      have h2 := map_bytes_inj h1
      conv => lhs; rw [← List.take_append_drop a.length b]
      rw [h2]
  · rintro ⟨r, hr, rfl⟩
    rw [joinP_app a r ha hr, bytes_app, bytes_app]
    exact ⟨(joinP r).data.toList, by simp⟩
/-! Members. -/
theorem nlF_mem : ∀ {f : Fo} {pre m : List ByteArray}, m ∈ nlF f pre → ∃ n r, m = pre ++ n :: r ∧ n ∈ f.names
  | .nil, _, _, h => by cases h
  | .node h ss ks nx, pre, m, hm => by
    rw [nlF, List.mem_append, List.mem_cons] at hm
    rcases hm with (rfl | hm) | hm
    · exact ⟨h.name, [], rfl, by simp [Fo.names]⟩
    · obtain ⟨n, r, rfl, _⟩ := nlF_mem hm
      exact ⟨h.name, n :: r, by simp, by simp [Fo.names]⟩
    · obtain ⟨n, r, rfl, hn⟩ := nlF_mem hm
      exact ⟨n, r, rfl, by simp [Fo.names, hn]⟩
def offB : List ByteArray → List ByteArray → Bool
  | [], _ => false
  | _ :: _, [] => true
  | a :: l, b :: m => decide (a ≠ b) || offB l m
theorem off_iff : ∀ (a m : List ByteArray), offB a m = true ↔ ¬ a <+: m
  | [], m => by
    rw [offB]
    exact ⟨fun h => Bool.noConfusion h, fun h => absurd List.nil_prefix h⟩
  | a :: l, [] => by
    rw [offB]
    refine ⟨fun _ h => ?_, fun _ => rfl⟩
    have := h.length_le
    simp at this
  | a :: l, b :: m => by
    rw [offB, Bool.or_eq_true, decide_eq_true_iff, off_iff l m, List.cons_prefix_cons]
    constructor
    · rintro (h | h) ⟨h1, h2⟩
      · exact h h1
      · exact h h2
    · intro h
      by_cases e : a = b
      · exact Or.inr fun h2 => h ⟨e, h2⟩
      · exact Or.inl e
def okF : Fo → Nat → Prop
  | .nil, _ => True
  | .node h ss ks nx, l => oneE ⟨h, ss, ks⟩ (l + 1) = 0 ∧ okF ks (l + 1) ∧ okF nx l
theorem okF_of : ∀ {f : Fo} {p : ByteArray} {l : Nat}, chkF f p l = none → okF f l
  | .nil, _, _, _ => trivial
  | .node h ss ks nx, p, l, e => by
    obtain ⟨h1, h2, h3⟩ := chkF_none e
    exact ⟨h1, okF_of h2, okF_of h3⟩
theorem okF_at : ∀ {f : Fo} {l i : Nat} {k : Tr}, okF f l → f.list[i]? = some k → oneE k (l + 1) = 0 ∧ okF k.ks (l + 1)
  | .nil, _, _, _, _, h => by simp [Fo.list] at h
  | .node h ss ks nx, l, 0, k, e, hi => by
    have e2 : (⟨h, ss, ks⟩ : Tr) = k := by simpa [Fo.list] using hi
    subst e2
    exact ⟨e.1, e.2.1⟩
  | .node h ss ks nx, l, i + 1, k, e, hi => okF_at e.2.2 (show nx.list[i]? = some k by simpa [Fo.list] using hi)
theorem firstE_of {l : List Int} (h : ∀ e ∈ l, e = 0) : firstE l = 0 := by
  induction l with
  | nil => rfl
  | cons a l ih =>
    rw [firstE, if_neg (by rw [h a (by simp)]; decide)]
    exact ih fun e he => h e (List.mem_cons_of_mem _ he)
theorem oneE_iff {t : Tr} {l : Nat} : oneE t l = 0 ↔ kindE t.h l = 0 ∧ nameE t.h l = 0 ∧ partsE t = 0 ∧ targetE t.h = 0 ∧ numE t.h = 0 ∧ sizeE t l = 0 ∧ strE none t.ss = 0 ∧ kidsE t.ks.names = 0 := by
  constructor
  · intro h
    have := firstE_zero h
    exact ⟨this _ (by simp), this _ (by simp), this _ (by simp), this _ (by simp), this _ (by simp), this _ (by simp), this _ (by simp), this _ (by simp)⟩
  · rintro ⟨h1, h2, h3, h4, h5, h6, h7, h8⟩
    refine firstE_of fun e he => ?_
    simp only [List.mem_cons, List.not_mem_nil, or_false] at he
    rcases he with rfl | rfl | rfl | rfl | rfl | rfl | rfl | rfl <;> assumption
theorem updT_h : ∀ (l : List ByteArray) (t : Tr) (f : Fo), (updT l t f).h = t.h
  | [], _, _ => rfl
  | n :: l, t, f => by
    unfold updT
    split
    · split <;> rfl
    · rfl
/-! Names without a slash. -/
theorem nameB_slash {n : ByteArray} (h : nameB n = true) : ∀ c ∈ n.data.toList, c ≠ 47 := by
  have h2 : hasC n 47 = false := by
    unfold nameB at h
    rw [Bool.and_eq_true, Bool.and_eq_true] at h
    simpa using h.1.2
  intro c hc e
  subst e
  have h3 : hasC n 47 = true := by
    unfold hasC
    simpa using hc
  rw [h2] at h3
  cases h3
theorem names_noSl : ∀ {f : Fo} {l : Nat} {pre m : List ByteArray}, okF f l → 1 ≤ l → NoSls pre → m ∈ nlF f pre → NoSls m
  | .nil, _, _, _, _, _, _, h => by cases h
  | .node h ss ks nx, l, pre, m, ⟨h1, h2, h3⟩, hl, hp, hm => by
    have hpre : NoSls (pre ++ [h.name]) := by
      intro n hn
      rw [List.mem_append, List.mem_singleton] at hn
      rcases hn with hn | rfl
      · exact hp n hn
      · exact nameB_slash (oneE_name h1 (by omega))
    rw [nlF, List.mem_append, List.mem_cons] at hm
    rcases hm with (rfl | hm) | hm
    · exact hpre
    · exact names_noSl h2 (by omega) hpre hm
    · exact names_noSl h3 hl hp hm
theorem find_noSl : ∀ {p : List ByteArray} {t x : Tr} {l : Nat}, okF t.ks l → 1 ≤ l → findT t p = some x → NoSls p
  | [], _, _, _, _, _, _ => fun n hn => by cases hn
  | n :: p, t, x, l, h, hl, hf => by
    cases hk : kidI t.ks n with
    | none => rw [findT_miss (kid_none hk)] at hf; cases hf
    | some i =>
      obtain ⟨k, e1, e2, e3⟩ := kid_some hk
      rw [findT_hit e2] at hf
      obtain ⟨a1, a2⟩ := okF_at h e1
      intro z hz
      rw [List.mem_cons] at hz
      rcases hz with rfl | hz
      · rw [← e3]; exact nameB_slash (oneE_name a1 (by omega))
      · exact find_noSl a2 (by omega) hf z hz
theorem kidF_skip {h : Hd} {ss : List St} {ks nx : Fo} {n : ByteArray} (e : h.name ≠ n) : kidF (.node h ss ks nx) n = kidF nx n := by rw [kidF, if_neg e]
theorem nlF_find : ∀ {f : Fo} {l : Nat} {pre m : List ByteArray}, SortedN f.names → okF f l → m ∈ nlF f pre → ∃ r, r ≠ [] ∧ m = pre ++ r ∧ ∀ h ss, ∃ x, findT ⟨h, ss, f⟩ r = some x
  | .nil, _, _, _, _, _, h => by cases h
  | .node h ss ks nx, l, pre, m, hs, ⟨h1, h2, h3⟩, hm => by
    rw [nlF, List.mem_append, List.mem_cons] at hm
    have hit : kidF (.node h ss ks nx) h.name = some ⟨h, ss, ks⟩ := by rw [kidF, if_pos rfl]
    rcases hm with (rfl | hm) | hm
    · exact ⟨[h.name], by simp, rfl, fun h' ss' => ⟨⟨h, ss, ks⟩, by rw [findT_hit (t := ⟨h', ss', _⟩) hit]; rfl⟩⟩
    · obtain ⟨r, hr, rfl, hx⟩ := nlF_find (kidsE_sorted (oneE_kids h1)) h2 hm
      obtain ⟨x, hx⟩ := hx h ss
      exact ⟨h.name :: r, by simp, by simp, fun h' ss' => ⟨x, by rw [findT_hit (t := ⟨h', ss', _⟩) hit]; exact hx⟩⟩
    · obtain ⟨n, r2, e2, hn⟩ := nlF_mem hm
      obtain ⟨r, hr, e, hx⟩ := nlF_find (List.Pairwise.of_cons hs) h3 hm
      have er : r = n :: r2 := by rw [e2] at e; exact (List.append_cancel_left e).symm
      subst er
      have hne : h.name ≠ n := fun e3 => by
        have := List.rel_of_pairwise_cons hs hn
        rw [e3, blt_irrefl] at this
        cases this
      refine ⟨n :: r2, by simp, e, fun h' ss' => ?_⟩
      obtain ⟨x, hx⟩ := hx h' ss'
      refine ⟨x, ?_⟩
      rw [findT] at hx ⊢
      dsimp only at hx ⊢
      rw [kidF_skip hne]
      exact hx
def underB (p q : ByteArray) : Bool := (p.data.toList ++ [47]).isPrefixOf q.data.toList
def keepB (p q : ByteArray) : Bool := decide (q ≠ p) && !underB p q
theorem keep_off {a b : List ByteArray} (ha : a ≠ []) (hb : b ≠ []) (sa : NoSls a) (sb : NoSls b) : keepB (joinP a) (joinP b) = offB a b := by
  rw [Bool.eq_iff_iff, off_iff]
  unfold keepB underB
  rw [Bool.and_eq_true, decide_eq_true_iff]
  have hu := under_iff ha hb sa sb
  rw [← List.isPrefixOf_iff_prefix] at hu
  constructor
  · rintro ⟨h1, h2⟩ ⟨r, rfl⟩
    cases r with
    | nil => exact h1 (by rw [List.append_nil])
    | cons n r =>
      have := hu.2 ⟨n :: r, by simp, rfl⟩
      rw [this] at h2
      cases h2
  · intro h
    refine ⟨fun e => h ?_, ?_⟩
    · rw [join_inj hb ha sb sa e]; exact List.prefix_refl _
    · cases hp : List.isPrefixOf ((joinP a).data.toList ++ [47]) (joinP b).data.toList with
      | false => rfl
      | true =>
        obtain ⟨r, _, rfl⟩ := hu.1 hp
        exact absurd ⟨r, rfl⟩ h
theorem root_noSl : NoSls [] := fun n hn => by cases hn
end Go.Proofs.YtlhakdildbplkaaGreatDoor
