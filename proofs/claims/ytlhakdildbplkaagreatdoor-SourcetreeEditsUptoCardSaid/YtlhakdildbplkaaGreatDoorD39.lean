/- Contracts and plain words for the laws of this chapter, part 39: Lw4, Ed1, Ed2. No condition. -/
import Derived.Test.YtlhakdildbplkaaGreatDoorD38
import Derived.Test.YtlhakdildbplkaaGreatDoorD27
import Derived.Test.YtlhakdildbplkaaGreatDoorD22
namespace Go.Proofs.YtlhakdildbplkaaGreatDoor
set_option linter.unusedSimpArgs false
set_option linter.unusedVariables false
open Go.RowKit
theorem put_small {t k m : Tr} {d : ByteArray} (h : putQ t d k = (m, 0)) : m.sz ≤ t.sz + k.sz := by
  have hv : validB t = true := (put_law h).1
  cases hf : findT t (partsP d) with
  | none => rw [putQ_none hv hf] at h; injection h with _ h2; cases h2
  | some x =>
    by_cases hk : x.h.kind = 0
    · rw [putQ_go hv hf hk] at h
      split at h
      · rename_i h0
        injection h with _ h2
        exact absurd h2 h0
      · injection h with h1 _
        have e1 := updT_sz (f := putK x.ks k) hf
        have e2 := putK_sz x.ks k
        rw [h1] at e1
        omega
    · rw [putQ_kind hv hf hk] at h; injection h with _ h2; cases h2
theorem Nd.tree {w : World} {b : Nat} {c : Array Value} {t : Tr} (h : Nd w b c t) : TreeR w w.heap.size (.agg c) t := h.2.1
def Nc (w : World) (b : Nat) (x : Tr) (kv sv : Value) : Prop := Blk w b (x.h.cells kv sv) 25 ∧ (∃ A n c, kv = .slice A n c) ∧ StR w w.heap.size sv x.ss
theorem strs_set {w : World} {b : Nat} {sv v : Value} {ss : List St} {A : Option Addr} {n c : Nat} (hc : w.cell? ⟨b, 10, none⟩ = some (.slice A n c)) (h : StR w w.heap.size sv ss) : StR (w.setCell ⟨b, 10, none⟩ v) (w.setCell ⟨b, 10, none⟩ v).heap.size sv ss := by
  obtain ⟨A2, c2, e, h⟩ := h
  refine ⟨A2, c2, e, fun h0 => ?_⟩
  obtain ⟨g, o, e2, hg, hh⟩ := h h0
  have key : ∀ q s, w.cell? ⟨g, q, none⟩ = some (.string s) → (w.setCell ⟨b, 10, none⟩ v).cell? ⟨g, q, none⟩ = some (.string s) := fun q s hq => by
    by_cases hgb : g = b
    · subst hgb
      have hne : q ≠ 10 := fun e => by subst e; rw [hc] at hq; cases hq
      exact (World.cell?_setCell_other w ⟨g, 10, none⟩ ⟨g, q, none⟩ v (by intro e; injection e with _ e; exact hne e.symm)).trans hq
    · exact (World.cell?_setCell_other w ⟨b, 10, none⟩ ⟨g, q, none⟩ v (by intro e; injection e with e _; exact hgb e.symm)).trans hq
  exact ⟨g, o, e2, by rw [World.size_setCell]; exact hg, fun j s hs => ⟨key _ _ (hh j s hs).1, key _ _ (hh j s hs).2⟩⟩
theorem Nc.other {w : World} {b b' : Nat} {x y : Tr} {kv sv kv' sv' : Value} (hne : b ≠ b') (h : Nc w b x kv sv) (h' : Nc w b' y kv' sv') : Nc (w.setCell ⟨b', 10, none⟩ (.slice none 0 0)) b x kv sv := by
  obtain ⟨hb, hk, hs⟩ := h
  obtain ⟨hb', ⟨A, n, c, rfl⟩, _⟩ := h'
  exact ⟨hb.other hne, hk, strs_set ((hb'.cells 10).trans rfl) hs⟩
theorem Nc.node {w : World} {b : Nat} {x : Tr} {sv : Value} (h : Nc w b x (.slice none 0 0) sv) : Nd w b (x.h.cells (.slice none 0 0) sv) ⟨x.h, x.ss, .nil⟩ :=
  ⟨h.1, ⟨_, _, rfl, h.2.2, none, 0, rfl, fun h0 => absurd h0 (Nat.lt_irrefl _)⟩, rfl⟩
end Go.Proofs.YtlhakdildbplkaaGreatDoor
namespace Go.Proofs.YtlhakdildbplkaaGreatDoor
set_option linter.unusedSimpArgs false
set_option linter.unusedVariables false
theorem withF_true : ∀ (f : Fo) (k : Tr), (∀ n ∈ f.names, n ≠ k.h.name) → withF f k true = f
  | .nil, _, _ => rfl
  | .node h ss ks nx, k, hn => by
    have h1 : h.name ≠ k.h.name := hn h.name (by simp [Fo.names])
    have ih := withF_true nx k (fun n hm => hn n (by simp [Fo.names, hm]))
    unfold withF
    simp [h1, ih]
theorem withF_sorted : ∀ (f : Fo) (k : Tr), SortedN f.names → withF f k false = putR f k
  | .nil, _, _ => rfl
  | .node h ss ks nx, k, hs => by
    have hs' : SortedN nx.names := List.Pairwise.of_cons hs
    unfold withF putR
    cases hb : bltB h.name k.h.name with
    | true =>
      have hne : h.name ≠ k.h.name := by
        intro e
        rw [e, blt_irrefl] at hb
        cases hb
      simp [hne, withF_sorted nx k hs']
    | false =>
      have hgt : ∀ n ∈ nx.names, n ≠ k.h.name := by
        intro n hn e
        have h1 : bltB h.name n = true := List.rel_of_pairwise_cons hs hn
        rw [e, hb] at h1
        cases h1
      have := withF_true nx k hgt
      by_cases q : h.name = k.h.name <;> simp [q, this]
theorem kidI_mem : ∀ {f : Fo} {n : ByteArray} {i : Nat}, kidI f n = some i → n ∈ f.names
  | .nil, _, _, h => by cases h
  | .node h ss ks nx, n, i, e => by
    by_cases q : h.name = n
    · simp [Fo.names, q]
    · rw [kidI_miss q] at e
      cases hk : kidI nx n with
      | none => rw [hk] at e; cases e
      | some j => simp [Fo.names, kidI_mem hk]
theorem putR_set : ∀ {f : Fo} {i : Nat} {k : Tr}, SortedN f.names → kidI f k.h.name = some i → putR f k = f.setAt i k
  | .nil, _, _, _, h => by cases h
  | .node h ss ks nx, i, k, hs, e => by
    by_cases q : h.name = k.h.name
    · rw [kidI_hit q] at e
      injection e with e
      subst e
      unfold putR
      rw [q, blt_irrefl]
      simp [Fo.setAt]
    · rw [kidI_miss q] at e
      cases hk : kidI nx k.h.name with
      | none => rw [hk] at e; cases e
      | some j =>
        rw [hk] at e
        injection e with e
        subst e
        have hb : bltB h.name k.h.name = true := List.rel_of_pairwise_cons hs (kidI_mem hk)
        unfold putR
        rw [if_pos hb, putR_set (List.Pairwise.of_cons hs) hk]
        rfl
theorem kid_both {f : Fo} {n : ByteArray} {k : Tr} (h : kidF f n = some k) : ∃ i, kidI f n = some i ∧ f.list[i]? = some k ∧ k.h.name = n := by
  cases hi : kidI f n with
  | none => rw [kid_none hi] at h; cases h
  | some i =>
    obtain ⟨k', h1, h2, h3⟩ := kid_some hi
    rw [h] at h2
    injection h2 with h2
    subst h2
    exact ⟨i, rfl, h1, h3⟩
theorem one_sorted {t : Tr} {l : Nat} (h : oneE t l = 0) : SortedN t.ks.names := kidsE_sorted (oneE_iff.1 h).2.2.2.2.2.2.2
theorem putP_is : ∀ {l : List ByteArray} {t x : Tr} {k : Tr} {lv : Nat}, oneE t lv = 0 → okF t.ks lv → findT t l = some x → putP t l k = updT l t (putR x.ks k)
  | [], t, x, k, lv, h1, _, h => by
    injection h with h
    subst h
    show withT t k = ⟨t.h, t.ss, putR t.ks k⟩
    unfold withT
    rw [withF_sorted _ _ (one_sorted h1)]
  | n :: l, t, x, k, lv, h1, h2, h => by
    cases hk : kidF t.ks n with
    | none => rw [findT_miss hk] at h; cases h
    | some kk =>
      rw [findT_hit hk] at h
      obtain ⟨i, hi, hl, hn⟩ := kid_both hk
      obtain ⟨a1, a2⟩ := okF_at h2 hl
      have ih := putP_is (k := k) a1 a2 h
      rw [updT_cons hi hl]
      have e : putP t (n :: l) k = withT t (putP kk l k) := by
        show (match kidF t.ks n with | some x => withT t (putP x l k) | none => t) = _
        rw [hk]
      rw [e, ih]
      unfold withT
      rw [withF_sorted _ _ (one_sorted h1), putR_set (one_sorted h1) (by rw [updT_h, hn]; exact hi)]
theorem remP_cons (t : Tr) (n : ByteArray) : ∀ r : List ByteArray, r ≠ [] → remP t (n :: r) = match kidF t.ks n with | some x => withT t (remP x r) | none => t
  | [], h => absurd rfl h
  | m :: l, _ => rfl
theorem remP_is : ∀ {l : List ByteArray} {t x : Tr} {b : ByteArray} {i lv : Nat}, oneE t lv = 0 → okF t.ks lv → findT t l = some x → kidI x.ks b = some i → remP t (l ++ [b]) = updT l t (x.ks.dropAt i)
  | [], t, x, b, i, lv, _, _, h, hi => by
    injection h with h
    subst h
    show (⟨t.h, t.ss, dropK t.ks b⟩ : Tr) = ⟨t.h, t.ss, t.ks.dropAt i⟩
    rw [dropK_at hi]
  | n :: l, t, x, b, i, lv, h1, h2, h, hi => by
    cases hk : kidF t.ks n with
    | none => rw [findT_miss hk] at h; cases h
    | some kk =>
      rw [findT_hit hk] at h
      obtain ⟨j, hj, hl, hn⟩ := kid_both hk
      obtain ⟨a1, a2⟩ := okF_at h2 hl
      have ih := remP_is a1 a2 h hi
      rw [List.cons_append, remP_cons _ _ _ (by simp), hk]
      dsimp only
      rw [ih, updT_cons hj hl]
      unfold withT
      rw [withF_sorted _ _ (one_sorted h1), putR_set (one_sorted h1) (by rw [updT_h, hn]; exact hj)]
theorem findT_app : ∀ (a b : List ByteArray) (t : Tr), findT t (a ++ b) = (findT t a).bind fun x => findT x b
  | [], b, t => rfl
  | n :: a, b, t => by
    rw [List.cons_append]
    cases hk : kidF t.ks n with
    | none => rw [findT_miss hk, findT_miss hk]; rfl
    | some k => rw [findT_hit hk, findT_hit hk, findT_app a b k]
theorem putT_is (t k : Tr) (d : ByteArray) : putT t d k = putQ t d k := by
  cases hv : validB t with
  | false =>
    rw [putQ_no hv]
    have hg : getT t d = (Tr.zero, 1) := by unfold getT; rw [if_neg (by rw [hv]; decide)]
    unfold putT
    rw [hg]
    rfl
  | true =>
    obtain ⟨_, m1, m2⟩ := valid_chk hv
    cases hf : findT t (partsP d) with
    | none =>
      rw [putQ_none hv hf]
      have hg : getT t d = (Tr.zero, 6) := by unfold getT; rw [if_pos hv, hf]
      unfold putT
      rw [hg]
      rfl
    | some x =>
      have hg := getT_at hv hf
      unfold putT
      rw [hg]
      dsimp only
      rw [if_neg (by decide)]
      by_cases hk : x.h.kind = 0
      · rw [if_neg (fun h => h hk), putQ_go hv hf hk, putP_is m1 (okF_of m2) hf, putK_is]
      · rw [if_pos hk, putQ_kind hv hf hk]
theorem words_last (p : ByteArray) : words p = dirs p ++ [base p] := by
  have hne : words p ≠ [] := by
    intro e
    have := words_pos p
    rw [e] at this
    simp at this
  unfold dirs base
  rw [List.getLast?_eq_some_getLast hne, Option.getD_some, List.dropLast_concat_getLast]
theorem remT_is (t : Tr) (p : ByteArray) : remT t p = remQ t p := by
  unfold remT remQ
  cases hv : validB t with
  | false => rfl
  | true =>
    rw [if_neg (show ¬ (true = false) by decide), if_neg (show ¬ (true = false) by decide)]
    by_cases hp : p = eS
    · rw [if_pos hp, if_pos hp]
    · rw [if_neg hp, if_neg hp]
      obtain ⟨_, m1, m2⟩ := valid_chk hv
      have hpp : partsP p = words p := by unfold partsP; rw [if_neg hp]
      have hfd : findT t (partsP p) = (findT t (dirs p)).bind fun x => findT x [base p] := by rw [hpp, words_last, findT_app]
      have hone : ∀ x : Tr, findT x [base p] = kidF x.ks (base p) := fun x => by
        cases hk : kidF x.ks (base p) with
        | none => rw [findT_miss hk]
        | some k => rw [findT_hit hk]; rfl
      cases hd : findT t (dirs p) with
      | none =>
        rw [hd] at hfd
        have hg : getT t p = (Tr.zero, 6) := by unfold getT; rw [if_pos hv, hfd]; rfl
        rw [hg]
        rfl
      | some x =>
        rw [hd] at hfd
        dsimp only
        have hfd2 : findT t (partsP p) = kidF x.ks (base p) := hfd.trans (hone x)
        cases hi : kidI x.ks (base p) with
        | none =>
          rw [kid_none hi] at hfd2
          have hg : getT t p = (Tr.zero, 6) := by unfold getT; rw [if_pos hv, hfd2]
          rw [hg]
          rfl
        | some i =>
          obtain ⟨y, -, hy, -⟩ := kid_some hi
          rw [hy] at hfd2
          rw [getT_at hv hfd2, if_neg (by simp)]
          rw [words_last, remP_is m1 (okF_of m2) hd hi]
end Go.Proofs.YtlhakdildbplkaaGreatDoor
namespace Go.Proofs.YtlhakdildbplkaaGreatDoor
set_option linter.unusedSimpArgs false
set_option linter.unusedVariables false
open Go.RowKit
def RowV (w : World) (B : Nat) : List Tr → List Value → Prop
  | [], xs => xs = []
  | t :: l, xs => ∃ (cs : Array Value) (xs' : List Value), xs = cs.toList ++ xs' ∧ TreeR w B (.agg cs) t ∧ RowV w B l xs'
theorem TreeR.size12 {w : World} {B : Nat} {cs : Array Value} {t : Tr} (h : TreeR w B (.agg cs) t) : cs.size = 12 := by
  obtain ⟨c, e, hz, _⟩ := h.cells
  injection e with e
  rw [e]; exact hz
theorem RowV.snoc {w : World} {B : Nat} {cs : Array Value} {t : Tr} (ht : TreeR w B (.agg cs) t) : ∀ {l : List Tr} {xs : List Value}, RowV w B l xs → RowV w B (l ++ [t]) (xs ++ cs.toList)
  | [], xs, h => by
    have h : xs = [] := h
    subst h
    exact ⟨cs, [], by simp, ht, rfl⟩
  | _ :: l, xs, ⟨cs0, xs', e, h1, h2⟩ => ⟨cs0, xs' ++ cs.toList, by rw [e, List.append_assoc], h1, RowV.snoc ht h2⟩
theorem RowV.later {w w' : World} {B B' : Nat} (hb : Below B w w') (hB : B ≤ B') : ∀ {l : List Tr} {xs : List Value}, RowV w B l xs → RowV w' B' l xs
  | [], _, h => h
  | _ :: _, _, ⟨cs0, xs', e, h1, h2⟩ => ⟨cs0, xs', e, (h1.below hb).mono hB, RowV.later hb hB h2⟩
theorem RowV.forR {w : World} {B g : Nat} : ∀ {l : List Tr} {xs : List Value} (o : Nat), RowV w B l xs → (∀ j u, xs[j]? = some u → w.cell? ⟨g, o + j, none⟩ = some u) → ForR w B (Fo.of l) g o
  | [], _, _, _, _ => trivial
  | t :: l, xs, o, ⟨cs, xs', e, h1, h2⟩, hc => by
    have hz : cs.toList.length = 12 := by rw [Array.length_toList]; exact h1.size12
    subst e
    obtain ⟨kv, sv, e2, hs, hk⟩ := h1
    injection e2 with e2
    subst e2
    refine ⟨⟨kv, sv, rangeAt_of fun j u hj => hc j u ?_, hs, hk⟩, RowV.forR (o + 12) h2 fun j u hj => ?_⟩
    · rw [List.getElem?_append_left (List.getElem?_eq_some_iff.1 hj).1]
      exact hj
    · rw [show o + 12 + j = o + (12 + j) by omega]
      refine hc (12 + j) u ?_
      rw [List.getElem?_append_right (by omega), hz, Nat.add_sub_cancel_left]
      exact hj
theorem RowV.kids {w : World} {B lo : Nat} {v : Value} {l : List Tr} {xs : List Value} (hr : RowV w B l xs) (hB : B ≤ w.heap.size) (ho : w.ownsRow lo 25 12 v l.length xs) : KidR w w.heap.size v (Fo.of l) := by
  obtain ⟨A, c, rfl⟩ := own_slice ho
  refine ⟨A, c, by rw [Fo.of_len], fun h0 => ?_⟩
  rw [Fo.of_len] at h0
  obtain ⟨g, cap, e, _, hl, _, hc⟩ := own_at ho h0
  injection e with e1 _ _
  exact ⟨g, 0, e1, hl, RowV.forR 0 (hr.later (Below.refl _ _) hB) fun j u hj => by rw [Nat.zero_add]; exact hc j u hj⟩
def TreeX (O : Nat → Prop) (w : World) (v : Value) (t : Tr) : Prop := ∀ w', FrO O w w' → TreeR w' w'.heap.size v t
def LeftX (O : Nat → Prop) (w : World) (A : Option Addr) (r : Fo) (k : Nat) : Prop := ∀ w', FrO O w w' → Left w' w'.heap.size A r k
theorem FrO.refl (O : Nat → Prop) (w : World) : FrO O w w := FrO.of (Below.refl _ _)
theorem TreeX.here {O : Nat → Prop} {w : World} {v : Value} {t : Tr} (h : TreeX O w v t) : TreeR w w.heap.size v t := h w (FrO.refl O w)
theorem TreeX.later {O : Nat → Prop} {w w' : World} {v : Value} {t : Tr} (h : TreeX O w v t) (hb : Below w.heap.size w w') (hO : ∀ j, O j → j < w.heap.size) : TreeX O w' v t := fun w2 hf => h w2 ((FrO.of hb).trans hf fun j hj => Or.inl hj)
theorem TreeX.of {O : Nat → Prop} {w : World} {B : Nat} {v : Value} {t : Tr} (h : TreeR w B v t) (hB : B ≤ w.heap.size) (hO : ∀ j, O j → B ≤ j) : TreeX O w v t := fun w2 hf => (h.below (hf.below hB hO)).mono (Nat.le_trans hB hf.size)
theorem TreeX.left {O : Nat → Prop} {w : World} {A : Option Addr} {c : Nat} {sv : Value} {t : Tr} (h : TreeX O w (.agg (t.h.cells (.slice A t.ks.len c) sv)) t) : LeftX O w A t.ks 0 := fun w2 hf => by
  obtain ⟨A', c', A2, c2, e, hk, _⟩ := (h w2 hf).openL
  injection e with e
  have e2 := congrArg (fun a : Array Value => a[10]?) e
  have e3 : Value.slice A t.ks.len c = Value.slice A' t.ks.len c' := by injection e2
  injection e3 with e4 _ _
  rw [e4]
  exact hk
theorem cell_gone (w : World) (g p : Nat) : (w.setRow g #[]).cell? ⟨g, p, none⟩ = none := by
  unfold World.cell? World.setRow
  simp only [Array.getElem?_modify]
  cases h : w.heap[g]? with
  | none => simp
  | some o => cases o <;> simp
theorem TreeX.parts {O : Nat → Prop} {w : World} {h : Hd} {ss : List St} {ks nx : Fo} {A : Option Addr} {k : Nat} (hl : LeftX O w A (.node h ss ks nx) k) :
    ∃ g o kv sv, A = some ⟨g, o, none⟩ ∧ g < w.heap.size ∧ ¬ O g ∧ w.rangeAt g (o + k * 12) (h.cells kv sv).toList ∧ (h.cells kv sv).all (·.oneCell') = true ∧ TreeX O w (.agg (h.cells kv sv)) ⟨h, ss, ks⟩ ∧ LeftX O w A nx (k + 1) := by
  have hpos : 0 < (Fo.node h ss ks nx).len := by unfold Fo.len; omega
  obtain ⟨g, o, rfl, hg, ⟨kv, sv, hr, hs, A1, c1, rfl, hk⟩, hn⟩ := hl w (FrO.refl O w) hpos
  have hgo : ¬ O g := fun ho => by
    obtain ⟨g', o', e, _, ⟨kv', sv', hr', _⟩, _⟩ := hl (w.setRow g #[]) (FrO.setRow ho) hpos
    injection e with e
    injection e with e1 e2 _
    subst e1; subst e2
    have := hr' 0 (.string h.name) rfl
    rw [cell_gone] at this
    cases this
  have key : ∀ w', FrO O w w' → TreeR w' w'.heap.size (.agg (h.cells (.slice A1 ks.len c1) sv)) ⟨h, ss, ks⟩ ∧ Left w' w'.heap.size (some ⟨g, o, none⟩) nx (k + 1) := fun w' hf => by
    obtain ⟨g', o', e, hg', ⟨kv', sv', hr', hs', hk'⟩, hn'⟩ := hl w' hf hpos
    injection e with e
    injection e with e1 e2 _
    subst e1; subst e2
    have hcell : ∀ p, w'.cell? ⟨g, p, none⟩ = w.cell? ⟨g, p, none⟩ := fun p => World.cell?_of_block (hf.block g hg hgo)
    have h10 := (hr' 10 kv' rfl).symm.trans ((hcell _).trans (hr 10 (.slice A1 ks.len c1) rfl))
    have h11 := (hr' 11 sv' rfl).symm.trans ((hcell _).trans (hr 11 sv rfl))
    injection h10 with h10
    injection h11 with h11
    rw [← h10, ← h11]
    exact ⟨⟨kv', sv', rfl, hs', hk'⟩, fun _ => ⟨g, o, rfl, hg', by rw [show o + (k + 1) * 12 = o + k * 12 + 12 by omega]; exact hn'⟩⟩
  obtain ⟨A2, c2, rfl, _⟩ := hs
  exact ⟨g, o, _, _, rfl, hg, hgo, hr, nodeLit _ _ _ _ _ _ _, fun w' hf => (key w' hf).1, fun w' hf => (key w' hf).2⟩
def RowX (O : Nat → Prop) (w : World) : List Tr → List Value → Prop
  | [], xs => xs = []
  | t :: l, xs => ∃ (cs : Array Value) (xs' : List Value), xs = cs.toList ++ xs' ∧ TreeX O w (.agg cs) t ∧ RowX O w l xs'
theorem RowX.snoc {O : Nat → Prop} {w : World} {cs : Array Value} {t : Tr} (ht : TreeX O w (.agg cs) t) : ∀ {l : List Tr} {xs : List Value}, RowX O w l xs → RowX O w (l ++ [t]) (xs ++ cs.toList)
  | [], xs, h => by
    have h : xs = [] := h
    subst h
    exact ⟨cs, [], by simp, ht, rfl⟩
  | _ :: l, xs, ⟨cs0, xs', e, h1, h2⟩ => ⟨cs0, xs' ++ cs.toList, by rw [e, List.append_assoc], h1, RowX.snoc ht h2⟩
theorem RowX.at {O : Nat → Prop} {w w' : World} (hf : FrO O w w') : ∀ {l : List Tr} {xs : List Value}, RowX O w l xs → RowV w' w'.heap.size l xs
  | [], _, h => h
  | _ :: _, _, ⟨cs0, xs', e, h1, h2⟩ => ⟨cs0, xs', e, h1 w' hf, RowX.at hf h2⟩
theorem Fo.of_app (a b : List Tr) : Fo.of (a ++ b) = (Fo.of a).app (Fo.of b) := by
  induction a with
  | nil => rfl
  | cons x a ih => rw [List.cons_append, Fo.of, ih, Fo.of, Fo.app]
theorem Fo.app_assoc (a b c : Fo) : (a.app b).app c = a.app (b.app c) := by
  induction a with
  | nil => rfl
  | node h ss ks nx _ ih => rw [Fo.app, Fo.app, Fo.app, ih]
theorem withF_node (h : Hd) (ss : List St) (ks nx : Fo) (k : Tr) (d : Bool) : withF (.node h ss ks nx) k d =
    if (!d && !bltB h.name k.h.name) = true then .node k.h k.ss k.ks (if h.name ≠ k.h.name then .node h ss ks (withF nx k (d || !bltB h.name k.h.name)) else withF nx k (d || !bltB h.name k.h.name))
    else if h.name ≠ k.h.name then .node h ss ks (withF nx k (d || !bltB h.name k.h.name)) else withF nx k (d || !bltB h.name k.h.name) := rfl
theorem withF_step (h : Hd) (ss : List St) (ks nx : Fo) (k : Tr) (d ins : Bool) (hi : ins = (!d && !bltB h.name k.h.name)) : withF (.node h ss ks nx) k d = (Fo.of ((if ins then [k] else []) ++ (if h.name = k.h.name then [] else [⟨h, ss, ks⟩]))).app (withF nx k (d || ins)) := by
  subst hi
  rw [withF_node]
  generalize bltB h.name k.h.name = b
  by_cases q : h.name = k.h.name <;> cases d <;> cases b <;> simp [q, Fo.of, Fo.app]
theorem wpList_buildNodeA {ops : Array Oper} {rest : List Oper} {o : Oper} {a : Act} {w : World} {Q : Exit → Act → World → Prop} (hgd : o.guard = none) (x : Operand) (ho : o.op = .buildSlice 22 1 #[(0, x)]) (AC : Array Value) (hz : AC.size = 12) (hx : a.eval x = .agg AC)
    (hK : wpList Tryz.prog ops Q rest (a.put o.dst (.slice (some ⟨w.heap.size, 0, none⟩) 1 1)) (w.alloc (.cells AC 25))) : wpList Tryz.prog ops Q (o :: rest) a w := by
  refine wpList_plain hgd fun K hKK => ?_
  have h := step_buildNodeA (ops := ops) (Q := Q) (E := True) (K := K) hgd x ho AC hz hx (hKK _ _ hK)
  rwa [if_pos (by simp [Region.wanted, hgd])] at h
set_option maxRecDepth 100000 in
set_option maxHeartbeats 8000000 in
theorem with_gen (O : Nat → Prop) (t k : Tr) (hsz : t.sz ≤ 500000) (v vk : Value) (w : World) (hO : ∀ j, O j → j < w.heap.size) (hv : TreeX O w v t) (hvk : TreeX O w vk k) :
    Calls Tryz.prog 126 #[v, vk] w fun e w' => ∃ r, e = .returned r ∧ TreeX O w' r (withT t k) ∧ Below w.heap.size w w' := by
  obtain ⟨A, c, A2, c2, rfl, hkl, hst⟩ := hv.here.openL
  obtain ⟨ck, rfl, hzk, h1k⟩ := hvk.here.cells
  have HV := hide hv
  have HVK := hide hvk
  have HL0 := hide hv.left
  have hlk2 : t.ks.len ≤ 500000 := by have h1 := t.ks.len_sz; unfold Tr.sz at hsz; omega
  have HZK := hide (And.intro hzk h1k)
  have ck0' : ck[0]? = some (.string k.h.name) := hvk.here.c0
  have HST := hide hst
  clear hv hvk hkl hst hzk h1k hsz
  have HL : Live w [] := trivial
  go_enter Tryz.func126, Tryz.ntmps126
  go_upto_region 1 with fail
  have hz3 : (((w.alloc (.cells (t.h.cells (.slice A t.ks.len c) (.slice A2 t.ss.length c2)) 25)).alloc (.cells ck 25)).alloc (.cells zeroN 25)).heap.size = w.heap.size + 3 := by simp only [World.size_alloc]
  have hbel3 : Below w.heap.size w (((w.alloc (.cells (t.h.cells (.slice A t.ks.len c) (.slice A2 t.ss.length c2)) 25)).alloc (.cells ck 25)).alloc (.cells zeroN 25)) := by (exact bl)
  have HBn := hide (show Blk (((w.alloc (.cells (t.h.cells (.slice A t.ks.len c) (.slice A2 t.ss.length c2)) 25)).alloc (.cells ck 25)).alloc (.cells zeroN 25)) w.heap.size (t.h.cells (.slice A t.ks.len c) (.slice A2 t.ss.length c2)) 25 from ((Blk.newAt rfl).alloc _).alloc _)
  have HBk := hide (show Blk (((w.alloc (.cells (t.h.cells (.slice A t.ks.len c) (.slice A2 t.ss.length c2)) 25)).alloc (.cells ck 25)).alloc (.cells zeroN 25)) (w.heap.size + 1) ck 25 from (Blk.newAt (by simp only [World.size_alloc])).alloc _)
  have HBr := hide (show Blk (((w.alloc (.cells (t.h.cells (.slice A t.ks.len c) (.slice A2 t.ss.length c2)) 25)).alloc (.cells ck 25)).alloc (.cells zeroN 25)) (w.heap.size + 1 + 1) zeroN 25 from Blk.newAt (by simp only [World.size_alloc]))
  unfold zeroN at hz3 hbel3 HBn HBk
  generalize hW : ((w.alloc (.cells (t.h.cells (.slice A t.ks.len c) (.slice A2 t.ss.length c2)) 25)).alloc (.cells ck 25)).alloc (.cells #[.string ⟨#[]⟩, .int .i64 0, .string ⟨#[]⟩, .string ⟨#[]⟩, .int .i64 0, .int .i64 0, .int .i64 0, .int .i64 0, .int .i64 0, .int .i64 0, .slice none 0 0, .slice none 0 0] 25) = W3 at *
  (try rw [show (((w.alloc (.cells (t.h.cells (.slice A t.ks.len c) (.slice A2 t.ss.length c2)) 25)).alloc (.cells ck 25)).alloc (.cells zeroN 25)) = W3 from hW] at HBr)
  clear hW
  obtain ⟨bn, hbn⟩ : ∃ b, b = w.heap.size := ⟨_, rfl⟩
  obtain ⟨bk, hbk⟩ : ∃ b, b = w.heap.size + 1 := ⟨_, rfl⟩
  obtain ⟨br, hbr⟩ : ∃ b, b = w.heap.size + 1 + 1 := ⟨_, rfl⟩
  rw [← hbr, ← hbk, ← hbn]
  rw [← hbn] at HBn
  rw [← hbk] at HBk
  rw [← hbr] at HBr
  have hn3 : w.heap.size ≤ bn ∧ bn < W3.heap.size := by omega
  have hk3 : w.heap.size ≤ bk ∧ bk < W3.heap.size := by omega
  have hr3 : w.heap.size ≤ br ∧ br < W3.heap.size ∧ br ≠ bn ∧ br ≠ bk := by omega
  have hw3 : w.heap.size ≤ W3.heap.size := by omega
  clear hbn hbk hbr hz3
  go_upto_region 2 with fail
  have HO4 := hide (show (W3.alloc (.cells #[] 25)).ownsRow W3.heap.size 25 12 (.slice (some ⟨W3.heap.size, 0, none⟩) 0 0) 0 [] from World.ownsRow_lit W3 #[] 0 (Nat.le_refl _) (by decide) rfl)
  have hb34 : Below W3.heap.size W3 (W3.alloc (.cells #[] 25)) := (Below.refl _ _).alloc (Nat.le_refl _) _
  generalize W3.alloc (.cells #[] 25) = W4 at *
  have hz4 : W3.heap.size ≤ W4.heap.size := hb34.size
  obtain ⟨lo, hlo⟩ : ∃ lo, lo = W3.heap.size := ⟨_, rfl⟩
  have HLO := hide hlo
  rw [← hlo] at HO4 hb34 hn3 hk3 hr3 hw3 hz4 ⊢
  clear hlo
  go_wp2_with fail
  go_loopw [5, 6, 7] (fun pv dv iv wr => ∃ (j : Nat) (acc : List Tr) (xs : List Value) (r : Fo) (d : Bool), iv = .int .i64 (j : Int) ∧ dv = .bool d ∧ j + r.len = t.ks.len ∧ LeftX O w A r j ∧ (Fo.of acc).app (withF r k d) = withF t.ks k false ∧ RowX O w acc xs ∧ wr.ownsRow lo 25 12 pv acc.length xs ∧ acc.length ≤ 2 * j ∧ Below lo W3 wr) (fun _ _ iv _ => t.ks.len - (intOf iv).toNat)
  case atStart => exact ⟨0, [], [], t.ks, false, rfl, rfl, by omega, HL0.out, rfl, rfl, HO4.out, by simp, hb34⟩
  case round =>
    clear HL0 HO4
    obtain ⟨j, acc, xs, r, d, rfl, rfl, hjr, hl, hsp, hrv, hown, hacc, hbr⟩ := hrel
    have HLr := hide hl
    have HSP := hide hsp
    have HRV := hide hrv
    have HO := hide hown
    have hbel : Below w.heap.size w wr := hbel3.trans (hbr.mono hw3)
    have HNr := hide (show Blk wr bn (t.h.cells (.slice A t.ks.len c) (.slice A2 t.ss.length c2)) 25 from (hbr.block bn hn3.2).trans HBn.out)
    have HKr := hide (show Blk wr bk ck 25 from (hbr.block bk hk3.2).trans HBk.out)
    have HRr := hide (show Blk wr br zeroN 25 from (hbr.block br hr3.2.1).trans HBr.out)
    have c10 : wr.cell? ⟨bn, 10, none⟩ = some (.slice A t.ks.len c) := HNr.out.cells 10
    have k0 : wr.cell? ⟨bk, 0, none⟩ = some (.string k.h.name) := (HKr.out.cells 0).trans ck0'
    have hszr : lo ≤ wr.heap.size := by have h1 := hbr.size; have h2 := HLO.out; omega
    have HBR := hide hbr
    clear hl hsp hrv hown hbr
    have hal : acc.length ≤ 1000000 := by omega
    cases r with
    | nil =>
      rw [Fo.len_nil] at hjr
      obtain rfl : j = t.ks.len := by omega
      have hjl : ¬ ((t.ks.len : Int) < (t.ks.len : Int)) := by omega
      go_upto_region 11 with fail
      go_upto_if 51 with fail
      go_cut [5] from 52 to 55 (fun pv wz => ∃ (acc' : List Tr) (xs' : List Value), Fo.of acc' = withF t.ks k false ∧ RowX O w acc' xs' ∧ wz.ownsRow lo 25 12 pv acc'.length xs' ∧ Below lo wr wz)
      case first =>
        cases d with
        | true =>
          go_wp2_with fail
          go_meet
          exact ⟨acc, xs, by rw [← HSP.out]; exact (Fo.app_nil _).symm, HRV.out, HO.out, Below.refl _ _⟩
        | false =>
          go_wp2_with (first | ((with_reducible show wpList _ _ _ _ _ _); refine wpList_load_row rfl 25 (.tmp 3) rfl bk rfl 25 ck (0, 0) _ HKr.out Tryz.underlying25 rfl (infN HZK.out.1) ?_) | ((with_reducible show wpList _ _ _ _ _ _); refine wpList_buildNodeA rfl (.tmp 53) rfl ck HZK.out.1 rfl ?_) | (at_builtin; refine wpList_append_one _ rfl _ _ 22 rfl lo 25 nodeInfo Tryz.underlying22 rfl (by decide) _ acc.length xs HO.out ck rfl rfl HZK.out.1 (fun u hu => List.all_eq_true.1 ((Array.all_toList ..).trans HZK.out.2) u hu) (by unfold maxLen; omega) (by omega) (by omega) ?_; intro v2 w2 hown2 hb2 hot2 hz2))
          go_meet
          exact ⟨acc ++ [k], xs ++ ck.toList, by rw [← HSP.out, Fo.of_app]; rfl, RowX.snoc HVK.out HRV.out, by rw [List.length_append]; exact hown2, hb2⟩
      case rest =>
      obtain ⟨acc', xs', hsp', hrv', hown', hbq⟩ := hcut
      obtain ⟨A5, c5, rfl⟩ := own_slice hown'
      have HN5 := hide (show Blk wc bn (t.h.cells (.slice A t.ks.len c) (.slice A2 t.ss.length c2)) 25 from (hbq.block bn hn3.2).trans HNr.out)
      have HR5 := hide (show Blk wc br zeroN 25 from (hbq.block br hr3.2.1).trans HRr.out)
      have hbel5 : Below w.heap.size w wc := hbel.trans (hbq.mono hw3)
      have HK5 := hide (And.intro hsp' (And.intro hrv' hown'))
      have d10 : wc.cell? ⟨bn, 10, none⟩ = some (.slice A t.ks.len c) := HN5.out.cells 10
      have f10 : wc.frozen? ⟨bn, 10, none⟩ = false := HN5.out.free 10
      clear hsp' hrv' hown' hbq HO HNr HKr HRr HRV c10 k0 HBR
      go_upto_region 14 with fail
      have HN6 := hide (show Blk (wc.setCell ⟨bn, 10, none⟩ (.slice A5 acc'.length c5)) bn (t.h.cells (.slice A5 acc'.length c5) (.slice A2 t.ss.length c2)) 25 from HN5.out.put rfl)
      have HR6 := hide (show Blk (wc.setCell ⟨bn, 10, none⟩ (.slice A5 acc'.length c5)) br zeroN 25 from HR5.out.other hr3.2.2.1)
      have hf6 : FrO (fun j => j = bn ∨ j = br) wc ((wc.setCell ⟨bn, 10, none⟩ (.slice A5 acc'.length c5)).setRow br (t.h.cells (.slice A5 acc'.length c5) (.slice A2 t.ss.length c2))) := (FrO.set (O := fun j => j = bn ∨ j = br) (Or.inl rfl)).trans (FrO.setRow (O := fun j => j = bn ∨ j = br) (Or.inr rfl)) (fun j h => Or.inl h)
      have HF6 := hide hf6
      clear hf6 d10 f10
      go_wp2_with (first | ((with_reducible show wpList _ _ _ _ _ _); refine wpList_load_row rfl 25 (.tmp 2) rfl bn rfl 25 (t.h.cells (.slice A5 acc'.length c5) (.slice A2 t.ss.length c2)) (0, 0) _ HN6.out Tryz.underlying25 rfl (infN rfl) ?_) | ((with_reducible show wpList _ _ _ _ _ _); refine wpList_store_row rfl 25 (.tmp 4) (.tmp 58) rfl br (t.h.cells (.slice A5 acc'.length c5) (.slice A2 t.ss.length c2)) rfl rfl 25 zeroN HR6.out (infN rfl) rfl (nodeLit _ _ _ _ _ _ _) ?_))
      refine bodyPost_ret (results_cell_row Tryz.results126 _ _ br 25 (t.h.cells (.slice A5 acc'.length c5) (.slice A2 t.ss.length c2)) (0, 0) _ rfl (setRow_heap _ _ _ _ _ _ HR6.out) Tryz.underlying25 rfl (infN rfl)) rfl ?_
      have hbf : Below w.heap.size w ((wc.setCell ⟨bn, 10, none⟩ (.slice A5 acc'.length c5)).setRow br (t.h.cells (.slice A5 acc'.length c5) (.slice A2 t.ss.length c2))) := hbel5.trans (HF6.out.below hbel5.size fun j hj => by rcases hj with rfl | rfl; exact hn3.1; exact hr3.1)
      obtain ⟨h1, h2, h3⟩ := HK5.out
      have h4 := own_fr HF6.out h3 fun g hg hj => by
        have := (h3.lt g hg).1
        rcases hj with rfl | rfl <;> omega
      refine ⟨_, rfl, fun w2 hf2 => ?_, hbf⟩
      have hf3 : FrO O w w2 := (FrO.of hbf).trans hf2 fun j hj => Or.inl hj
      obtain ⟨kv2, sv2, e2, hs2, _⟩ := HV.out w2 hf3
      injection e2 with e2
      have e3 := congrArg (fun a : Array Value => a[11]?) e2
      have e4 : Value.slice A2 t.ss.length c2 = sv2 := by injection e3
      rw [← e4] at hs2
      refine ⟨_, _, rfl, hs2, ?_⟩
      show KidR _ _ _ (withF t.ks k false)
      rw [← h1]
      exact RowV.kids (h2.at hf3) (Nat.le_refl _) (own_fr hf2 h4 fun g hg hj => by
        have h5 := (h3.lt g hg).1
        have h6 := hO g hj
        omega)
    | node h ss ks nx =>
      rw [Fo.len_node] at hjr
      have hlt : j < t.ks.len := by omega
      obtain ⟨g, o, kv, sv, rfl, hg, -, hr, h1c, htr, hln⟩ := TreeX.parts HLr.out
      have hz : (h.cells kv sv).size = 12 := rfl
      generalize h.cells kv sv = kc at *
      have R1 := hide (range_below hbel hg hr)
      have HR0 := hide hr
      have HT := hide htr
      have HLn := hide hln
      have HZ := hide (And.intro hz h1c)
      have s1 : wr.cell? ⟨g, o + j * 12, none⟩ = some (.string h.name) := by
        have h1 := R1.out 0 (.string h.name) (by rw [Array.getElem?_toList]; exact htr.here.c0)
        simpa using h1
      clear hr hz h1c htr hln HLr
      go_upto_region 6 with fail
      go_cut [28] from 16 to 28 (fun pv wz => pv = .bool (!d && !bltB h.name k.h.name) ∧ Below wr.heap.size wr wz)
      case first =>
        cases hb : bltB h.name k.h.name with
        | true =>
          have hb2 : Op.bytesLess h.name.toList k.h.name.toList = true := hb
          cases d with
          | true =>
            go_quiet (fail)
            go_wp2_with fail
            go_meet
            exact ⟨by simp [hb], below_drewN' (Below.refl _ _)⟩
          | false =>
            go_quiet (fail)
            go_wp2_with fail
            go_meet
            exact ⟨by simp [hb], below_drewN' (Below.refl _ _)⟩
        | false =>
          have hb2 : Op.bytesLess h.name.toList k.h.name.toList = false := hb
          cases d with
          | true =>
            go_quiet (fail)
            go_wp2_with fail
            go_meet
            exact ⟨by simp [hb], below_drewN' (Below.refl _ _)⟩
          | false =>
            go_quiet (fail)
            go_wp2_with fail
            go_meet
            exact ⟨by simp [hb], below_drewN' (Below.refl _ _)⟩
      case rest =>
      obtain ⟨rfl, hbd⟩ := hcut
      obtain ⟨ins, hins⟩ : ∃ ins, ins = (!d && !bltB h.name k.h.name) := ⟨_, rfl⟩
      rw [← hins]
      have HO2 := hide (below_row' HO.out hbd)
      have HN2 := hide (Blk.below hbd HNr.out)
      have HK2 := hide (Blk.below hbd HKr.out)
      have HR2 := hide (Blk.below hbd HRr.out)
      have hbr2 : Below lo W3 wc := HBR.out.trans (hbd.mono hszr)
      have hbel2 : Below w.heap.size w wc := hbel.trans (hbd.mono hbel.size)
      have hsz2 : lo ≤ wc.heap.size := Nat.le_trans hszr hbd.size
      have HINS := hide hins
      clear hins hbd HO HNr HKr HRr HBR c10 k0 s1
      generalize wc = wq at *
      have c10 : wq.cell? ⟨bn, 10, none⟩ = some (.slice (some ⟨g, o, none⟩) t.ks.len c) := HN2.out.cells 10
      have k0 : wq.cell? ⟨bk, 0, none⟩ = some (.string k.h.name) := (HK2.out.cells 0).trans ck0'
      go_upto_if 28 with fail
      go_cut [5, 6] from 29 to 32 (fun pv dv wz => ∃ (acc' : List Tr) (xs' : List Value), dv = .bool (d || ins) ∧ acc' = acc ++ (if ins then [k] else []) ∧ RowX O w acc' xs' ∧ wz.ownsRow lo 25 12 pv acc'.length xs' ∧ Below lo wq wz)
      case first =>
        cases ins with
        | false =>
          go_wp2_with fail
          go_meet
          exact ⟨acc, xs, by simp, by simp, HRV.out, HO2.out, Below.refl _ _⟩
        | true =>
          go_wp2_with (first | ((with_reducible show wpList _ _ _ _ _ _); refine wpList_load_row rfl 25 (.tmp 3) rfl bk rfl 25 ck (0, 0) _ HK2.out Tryz.underlying25 rfl (infN HZK.out.1) ?_) | ((with_reducible show wpList _ _ _ _ _ _); refine wpList_buildNodeA rfl (.tmp 30) rfl ck HZK.out.1 rfl ?_) | (at_builtin; refine wpList_append_one _ rfl _ _ 22 rfl lo 25 nodeInfo Tryz.underlying22 rfl (by decide) _ acc.length xs HO2.out ck rfl rfl HZK.out.1 (fun u hu => List.all_eq_true.1 ((Array.all_toList ..).trans HZK.out.2) u hu) (by unfold maxLen; omega) (by omega) (by omega) ?_; intro v2 w2 hown2 hb2 hot2 hz2))
          go_meet
          exact ⟨acc ++ [k], xs ++ ck.toList, by simp, by simp, RowX.snoc HVK.out HRV.out, by rw [List.length_append]; exact hown2, hb2⟩
      case rest =>
      obtain ⟨acc', xs', rfl, hacc', hrv', hown', hbq⟩ := hcut
      have HRV2 := hide hrv'
      have HO3 := hide hown'
      have hal2 : acc'.length ≤ acc.length + 1 := by
        rw [hacc', List.length_append]
        cases ins <;> simp
      have HN3 := hide (show Blk wc bn (t.h.cells (.slice (some ⟨g, o, none⟩) t.ks.len c) (.slice A2 t.ss.length c2)) 25 from (hbq.block bn hn3.2).trans HN2.out)
      have HK3 := hide (show Blk wc bk ck 25 from (hbq.block bk hk3.2).trans HK2.out)
      have hbr3 : Below lo W3 wc := hbr2.trans hbq
      have hbel3' : Below w.heap.size w wc := hbel2.trans (hbq.mono hw3)
      have hsz3 : lo ≤ wc.heap.size := Nat.le_trans hsz2 hbq.size
      have HACC := hide hacc'
      have d10 : wc.cell? ⟨bn, 10, none⟩ = some (.slice (some ⟨g, o, none⟩) t.ks.len c) := HN3.out.cells 10
      have e0 : wc.cell? ⟨bk, 0, none⟩ = some (.string k.h.name) := (HK3.out.cells 0).trans ck0'
      have R3 := hide (range_below hbel3' hg (show w.rangeAt g (o + j * 12) kc.toList from HR0.out))
      have s3 : wc.cell? ⟨g, o + j * 12, none⟩ = some (.string h.name) := by
        have h1 := R3.out 0 (.string h.name) (by rw [Array.getElem?_toList]; exact HT.out.here.c0)
        simpa using h1
      clear hacc' hrv' hown' hbq HN2 HK2 HR2 hbr2 hbel2 hsz2 c10 k0 HRV HO2 R1
      generalize wc = wu at *
      go_upto_region 9 with fail
      go_cut [41] from 33 to 41 (fun pv wz => pv = .bool (decide (h.name ≠ k.h.name)) ∧ Below wu.heap.size wu wz)
      case first =>
        by_cases q : h.name = k.h.name
        case pos =>
          have q1 : (h.name.toList == k.h.name.toList) = true := seq_y q
          have HQ := hide (decide_eq_false (fun h1 : h.name ≠ k.h.name => h1 q))
          clear q
          go_quiet (fail)
          go_wp2_with fail
          go_meet
          exact ⟨by rw [HQ.out], below_drewN' (Below.refl _ _)⟩
        case neg =>
          have q1 : (h.name.toList == k.h.name.toList) = false := seq_n q
          have HQ := hide (decide_eq_true q)
          clear q
          go_quiet (fail)
          go_wp2_with fail
          go_meet
          exact ⟨by rw [HQ.out], below_drewN' (Below.refl _ _)⟩
      case rest =>
      obtain ⟨rfl, hbu⟩ := hcut
      obtain ⟨nq, hnq⟩ : ∃ nq, nq = decide (h.name ≠ k.h.name) := ⟨_, rfl⟩
      rw [← hnq]
      have HO4 := hide (below_row' HO3.out hbu)
      have HN4 := hide (Blk.below hbu HN3.out)
      have hbr4 : Below lo W3 wc := hbr3.trans (hbu.mono hsz3)
      have hbel4 : Below w.heap.size w wc := hbel3'.trans (hbu.mono hbel3'.size)
      have hsz4 : lo ≤ wc.heap.size := Nat.le_trans hsz3 hbu.size
      have R4 := hide (range_below hbel4 hg (show w.rangeAt g (o + j * 12) kc.toList from HR0.out))
      have f10 : wc.cell? ⟨bn, 10, none⟩ = some (.slice (some ⟨g, o, none⟩) t.ks.len c) := HN4.out.cells 10
      have HNQ := hide hnq
      clear hnq hbu HO3 HN3 HK3 hbr3 hbel3' hsz3 R3 d10 e0 s3
      have HSPN := hide (show (Fo.of (acc' ++ (if h.name = k.h.name then [] else [⟨h, ss, ks⟩]))).app (withF nx k (d || ins)) = withF t.ks k false from by
        rw [← HSP.out, withF_step h ss ks nx k d ins HINS.out, HACC.out, ← Fo.app_assoc, ← Fo.of_app, List.append_assoc])
      go_upto_if 41 with fail
      cases nq with
      | false =>
        have hq : h.name = k.h.name := by
          have := HNQ.out
          simpa using this.symm
        rw [if_pos hq, List.append_nil] at HSPN
        clear hq
        go_wp2_with fail
        go_roundw
        case rel => exact ⟨j + 1, acc', xs', nx, d || ins, by go_num, rfl, by omega, HLn.out, HSPN.out, HRV2.out, HO4.out, by omega, hbr4⟩
        case measure => simp [intOf]; omega
      | true =>
        have hq : h.name ≠ k.h.name := by
          have := HNQ.out
          simpa using this.symm
        rw [if_neg hq] at HSPN
        clear hq
        go_wp2_with (first | ((with_reducible show wpList _ _ _ (Oper.mk (some 47) _ _ _ _ _ :: _) _ _); refine wpList_load_midA rfl 25 (.tmp 46) rfl g (o + j * 12) rfl kc _ R4.out Tryz.underlying25 rfl (infNl HZ.out.1) ?_) | ((with_reducible show wpList _ _ _ _ _ _); refine wpList_buildNodeA rfl (.tmp 47) rfl kc HZ.out.1 rfl ?_) | (at_builtin; refine wpList_append_one _ rfl _ _ 22 rfl lo 25 nodeInfo Tryz.underlying22 rfl (by decide) _ acc'.length xs' HO4.out kc rfl rfl HZ.out.1 (fun u hu => List.all_eq_true.1 ((Array.all_toList ..).trans HZ.out.2) u hu) (by unfold maxLen; omega) (by omega) (by omega) ?_; intro v2 w2 hown2 hb2 hot2 hz2))
        go_roundw
        case rel => exact ⟨j + 1, acc' ++ [⟨h, ss, ks⟩], xs' ++ kc.toList, nx, d || ins, by go_num, rfl, by omega, HLn.out, HSPN.out, RowX.snoc HT.out HRV2.out, by rw [List.length_append]; exact hown2, by rw [List.length_append, List.length_singleton]; omega, hbr4.trans hb2⟩
        case measure => simp [intOf]; omega
end Go.Proofs.YtlhakdildbplkaaGreatDoor
