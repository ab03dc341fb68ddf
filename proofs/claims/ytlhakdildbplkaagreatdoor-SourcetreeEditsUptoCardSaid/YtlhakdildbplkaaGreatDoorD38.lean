/- Contracts and plain words for the laws of this chapter, part 38: Lw2, Pl3. No condition. -/
import Derived.Test.YtlhakdildbplkaaGreatDoorD37
import Derived.Test.YtlhakdildbplkaaGreatDoorD27
import Derived.Test.YtlhakdildbplkaaGreatDoorD9
import Derived.Test.YtlhakdildbplkaaGreatDoorD34
import Derived.Test.YtlhakdildbplkaaGreatDoorD36
namespace Go.Proofs.YtlhakdildbplkaaGreatDoor
set_option linter.unusedSimpArgs false
set_option linter.unusedVariables false
open Go.RowKit
theorem Nd.stored {W w2 : World} {cells : Array Value} {t : Tr} (h : TreeR w2 w2.heap.size (.agg cells) t) (hz : cells.size = 12) (hb : Below W.heap.size W w2) : Nd (w2.alloc (.cells cells 25)) w2.heap.size cells t ∧ Below W.heap.size W (w2.alloc (.cells cells 25)) :=
  ⟨Nd.new h hz, hb.alloc hb.size _⟩
theorem req_true (t : Tr) (hz : t.sz ≤ 500000) (a b : Value) (W : World) (h1 : TreeR W W.heap.size a t) (h2 : TreeR W W.heap.size b t) : Calls Tryz.prog 29 #[a, b] W fun e w' => e = .returned (.bool true) ∧ Below W.heap.size W w' := by
  have h3 := requal_any t.count t t (Nat.le_refl _) hz hz a b W h1 h2
  rwa [decide_eq_true rfl] at h3
end Go.Proofs.YtlhakdildbplkaaGreatDoor
namespace Go.Proofs.YtlhakdildbplkaaGreatDoor
set_option linter.unusedSimpArgs false
set_option linter.unusedVariables false
def putR : Fo → Tr → Fo
  | .nil, k => .node k.h k.ss k.ks .nil
  | .node h ss ks nx, k => if bltB h.name k.h.name then .node h ss ks (putR nx k) else if h.name = k.h.name then .node k.h k.ss k.ks nx else .node k.h k.ss k.ks (.node h ss ks nx)
theorem kidF_node (h : Hd) (ss : List St) (ks nx : Fo) (n : ByteArray) : kidF (.node h ss ks nx) n = if h.name = n then some ⟨h, ss, ks⟩ else kidF nx n := rfl
theorem dropK_node (h : Hd) (ss : List St) (ks nx : Fo) (n : ByteArray) : dropK (.node h ss ks nx) n = if h.name = n then nx else .node h ss ks (dropK nx n) := rfl
theorem putK_is : ∀ (f : Fo) (k : Tr), putK f k = putR f k
  | .nil, k => rfl
  | .node h ss ks nx, k => by
    have ih := putK_is nx k
    unfold putK foundB at ih ⊢
    rw [lowI, putR]
    cases hb : bltB h.name k.h.name with
    | true =>
      rw [if_pos rfl, if_pos rfl, ← ih, Fo.list, List.getElem?_cons_succ]
      cases hl : nx.list[lowI nx k.h.name]? with
      | none => rfl
      | some k2 =>
        dsimp only
        by_cases q : k2.h.name = k.h.name
        · rw [if_pos (decide_eq_true q), if_pos (decide_eq_true q)]; rfl
        · rw [if_neg (by simpa using q), if_neg (by simpa using q)]; rfl
    | false =>
      by_cases q : h.name = k.h.name
      · simp [q, Fo.list, Fo.setAt]
      · simp [q, Fo.list, Fo.insAt]
theorem kidF_put : ∀ (f : Fo) (k : Tr) (n : ByteArray), kidF (putR f k) n = if n = k.h.name then some k else kidF f n
  | .nil, k, n => by
    rw [putR, kidF_node]
    by_cases q : k.h.name = n
    · rw [if_pos q, if_pos q.symm]
    · rw [if_neg q, if_neg (Ne.symm q)]
  | .node h ss ks nx, k, n => by
    have ih := kidF_put nx k n
    rw [putR]
    cases hb : bltB h.name k.h.name with
    | true =>
      have hne : h.name ≠ k.h.name := fun e => by rw [e, blt_irrefl] at hb; cases hb
      rw [if_pos rfl, kidF_node, kidF_node, ih]
      by_cases q : h.name = n
      · rw [if_pos q, if_pos q, if_neg (by rw [← q]; exact hne)]
      · rw [if_neg q, if_neg q]
    | false =>
      rw [if_neg (by decide)]
      by_cases q : h.name = k.h.name
      · rw [if_pos q, kidF_node, kidF_node]
        by_cases q2 : k.h.name = n
        · rw [if_pos q2, if_pos q2.symm]
        · rw [if_neg q2, if_neg (Ne.symm q2), if_neg (by rw [q]; exact q2)]
      · rw [if_neg q, kidF_node]
        by_cases q2 : k.h.name = n
        · rw [if_pos q2, if_pos q2.symm]
        · rw [if_neg q2, if_neg (Ne.symm q2)]
theorem dropK_put : ∀ {f : Fo} {k : Tr}, kidF f k.h.name = none → dropK (putR f k) k.h.name = f
  | .nil, k, _ => by rw [putR, dropK_node, if_pos rfl]
  | .node h ss ks nx, k, hn => by
    rw [kidF_node] at hn
    by_cases q : h.name = k.h.name
    · rw [if_pos q] at hn; cases hn
    · rw [if_neg q] at hn
      rw [putR]
      split
      · rw [dropK_node, if_neg q, dropK_put hn]
      · rw [dropK_node, if_pos rfl]
/-! Other kids at a path: what is found. -/
theorem kidI_set : ∀ {f : Fo} {n : ByteArray} {i : Nat} {k' : Tr}, kidI f n = some i → k'.h.name = n → kidI (f.setAt i k') n = some i ∧ (f.setAt i k').list[i]? = some k' ∧ ∀ n', n' ≠ n → kidF (f.setAt i k') n' = kidF f n'
  | .nil, _, _, _, h, _ => by cases h
  | .node h ss ks nx, n, i, k', hk, hn => by
    by_cases q : h.name = n
    · rw [kidI_hit q] at hk
      injection hk with hk
      subst hk
      refine ⟨by rw [Fo.setAt, kidI_hit hn], rfl, fun n' hn' => ?_⟩
      rw [Fo.setAt, kidF_node, kidF_node, if_neg (by rw [hn]; exact Ne.symm hn'), if_neg (by rw [q]; exact Ne.symm hn')]
    · rw [kidI_miss q] at hk
      cases hj : kidI nx n with
      | none => rw [hj] at hk; cases hk
      | some j =>
        rw [hj] at hk
        injection hk with hk
        subst hk
        obtain ⟨a1, a2, a3⟩ := kidI_set hj hn
        refine ⟨by rw [Fo.setAt, kidI_miss q, a1]; rfl, by rw [Fo.setAt, Fo.list]; simpa using a2, fun n' hn' => ?_⟩
        rw [Fo.setAt, kidF_node, kidF_node]
        by_cases q2 : h.name = n'
        · rw [if_pos q2, if_pos q2]
        · rw [if_neg q2, if_neg q2, a3 n' hn']
theorem setAt_set : ∀ (f : Fo) (i : Nat) (a b : Tr), (f.setAt i a).setAt i b = f.setAt i b
  | .nil, _, _, _ => rfl
  | .node _ _ _ _, 0, _, _ => rfl
  | .node h ss ks nx, i + 1, a, b => by rw [Fo.setAt, Fo.setAt, Fo.setAt, setAt_set nx]
theorem setAt_self : ∀ {f : Fo} {i : Nat} {k : Tr}, f.list[i]? = some k → f.setAt i k = f
  | .nil, _, _, _ => rfl
  | .node h ss ks nx, 0, k, e => by
    have e2 : (⟨h, ss, ks⟩ : Tr) = k := by simpa [Fo.list] using e
    subst e2
    rfl
  | .node h ss ks nx, i + 1, k, e => by rw [Fo.setAt, setAt_self (f := nx) (by simpa [Fo.list] using e)]
theorem kidF_ofI {f : Fo} {n : ByteArray} {i : Nat} {k : Tr} (h : kidI f n = some i) (hl : f.list[i]? = some k) : kidF f n = some k := by
  obtain ⟨k2, e1, e2, _⟩ := kid_some h
  rw [hl] at e1
  injection e1 with e1
  rw [e2, e1]
theorem upd_find : ∀ {ds : List ByteArray} {t x : Tr} {f : Fo} (r : List ByteArray), findT t ds = some x → findT (updT ds t f) (ds ++ r) = findT ⟨x.h, x.ss, f⟩ r
  | [], t, x, f, r, h => by
    rw [findT_nil] at h
    injection h with h
    subst h
    rfl
  | n :: ds, t, x, f, r, h => by
    cases hk : kidI t.ks n with
    | none => rw [findT_miss (kid_none hk)] at h; cases h
    | some i =>
      obtain ⟨k, e1, e2, e3⟩ := kid_some hk
      rw [findT_hit e2] at h
      have ih := upd_find (f := f) r h
      obtain ⟨a1, a2, _⟩ := kidI_set (k' := updT ds k f) hk (by rw [updT_h]; exact e3)
      rw [updT_cons hk e1, List.cons_append, findT_hit (t := ⟨t.h, t.ss, _⟩) (kidF_ofI a1 a2), ih]
def hsO (o : Option Tr) : Option (Hd × List St) := o.map fun y => (y.h, y.ss)
theorem upd_else : ∀ {ds q : List ByteArray} {t x : Tr} {f : Fo} {b : ByteArray}, findT t ds = some x → (∀ n, n ≠ b → kidF f n = kidF x.ks n) → ¬ (ds ++ [b]) <+: q → hsO (findT (updT ds t f) q) = hsO (findT t q)
  | [], [], t, x, f, b, h, hf, hq => rfl
  | [], n :: q, t, x, f, b, h, hf, hq => by
    rw [findT_nil] at h
    injection h with h
    subst h
    have hn : n ≠ b := fun e => hq ⟨q, by rw [e]; rfl⟩
    show hsO (findT ⟨t.h, t.ss, f⟩ (n :: q)) = _
    rw [findT, findT]
    dsimp only
    rw [hf n hn]
  | n :: ds, q, t, x, f, b, h, hf, hq => by
    cases hk : kidI t.ks n with
    | none => rw [findT_miss (kid_none hk)] at h; cases h
    | some i =>
      obtain ⟨k, e1, e2, e3⟩ := kid_some hk
      rw [findT_hit e2] at h
      obtain ⟨a1, a2, a3⟩ := kidI_set (k' := updT ds k f) hk (by rw [updT_h]; exact e3)
      rw [updT_cons hk e1]
      cases q with
      | nil => rfl
      | cons n' q =>
        by_cases e : n' = n
        · subst e
          have ih := upd_else (q := q) h hf (fun hp => hq (by rw [List.cons_append, List.prefix_cons_inj]; exact hp))
          rw [findT_hit (t := ⟨t.h, t.ss, _⟩) (kidF_ofI a1 a2), findT_hit e2, ih]
        · rw [findT, findT]
          dsimp only
          rw [a3 n' e]
theorem upd_self : ∀ {ds : List ByteArray} {t x : Tr} {f : Fo}, findT t ds = some x → updT ds (updT ds t f) x.ks = t
  | [], t, x, f, h => by
    rw [findT_nil] at h
    injection h with h
    subst h
    rfl
  | n :: ds, t, x, f, h => by
    cases hk : kidI t.ks n with
    | none => rw [findT_miss (kid_none hk)] at h; cases h
    | some i =>
      obtain ⟨k, e1, e2, e3⟩ := kid_some hk
      rw [findT_hit e2] at h
      have ih := upd_self (f := f) h
      obtain ⟨a1, a2, a3⟩ := kidI_set (k' := updT ds k f) hk (by rw [updT_h]; exact e3)
      rw [updT_cons hk e1, updT_cons (t := ⟨t.h, t.ss, _⟩) a1 a2, ih]
      dsimp only
      rw [setAt_set, setAt_self e1]
/-! Joined words. -/
def joinB : List (List UInt8) → List UInt8
  | [] => []
  | [n] => n
  | n :: m :: l => n ++ 47 :: joinB (m :: l)
theorem joinP_bytes : ∀ l : List ByteArray, (joinP l).data.toList = joinB (l.map (·.data.toList))
  | [] => rfl
  | [n] => rfl
  | n :: m :: l => by
    have ih := joinP_bytes (m :: l)
    rw [joinP_cons n _ (by simp), bytes_app, bytes_app, ih, List.append_assoc]
    rfl
theorem joinB_parts : ∀ (l p : List UInt8), joinB (partsL l p) = p ++ l
  | [], p => by rw [partsL]; simp [joinB]
  | c :: l, p => by
    rw [partsL]
    split
    · rename_i h
      subst h
      have ih := joinB_parts l []
      cases hp : partsL l [] with
      | nil => exact absurd hp (partsL_ne l [])
      | cons a r =>
        rw [hp] at ih
        rw [joinB, ih]
        rfl
    · rw [joinB_parts l (p ++ [c])]
      simp
theorem join_words (d : ByteArray) : joinP (words d) = d := by
  apply bytes_inj
  rw [joinP_bytes, words_bytes, joinB_parts]
  rfl
theorem join_parts (d : ByteArray) : joinP (partsP d) = d := by
  unfold partsP
  split
  · rename_i h; rw [h]; rfl
  · exact join_words d
def putPath (d n : ByteArray) : ByteArray := if d = eS then n else d ++ ⟨#[47]⟩ ++ n
theorem putPath_is (d n : ByteArray) : putPath d n = joinP (partsP d ++ [n]) := by
  unfold putPath
  by_cases h : d = eS
  · rw [if_pos h]; unfold partsP; rw [if_pos h]; rfl
  · rw [if_neg h]
    have : partsP d ≠ [] := by
      unfold partsP
      rw [if_neg h]
      intro e
      have h2 := words_bytes d
      rw [e] at h2
      exact partsL_ne _ _ h2.symm
    rw [joinP_snoc n _ this, join_parts]
theorem putQ_bad {t k m : Tr} {d : ByteArray} {e : Int} (h : putQ t d k = (m, e)) (he : e ≠ 0) : m = Tr.zero := by
  cases hv : validB t with
  | false => rw [putQ_no hv] at h; injection h with h1 h2; exact h1.symm
  | true =>
    cases hf : findT t (partsP d) with
    | none => rw [putQ_none hv hf] at h; injection h with h1 h2; exact h1.symm
    | some x =>
      by_cases hk : x.h.kind = 0
      · rw [putQ_go hv hf hk] at h
        split at h
        · injection h with h1 h2; exact h1.symm
        · injection h with h1 h2; exact absurd h2.symm he
      · rw [putQ_kind hv hf hk] at h; injection h with h1 h2; exact h1.symm
theorem getT_at {t x : Tr} {p : ByteArray} (hv : validB t = true) (h : findT t (partsP p) = some x) : getT t p = (x, 0) := (getT_yes hv).1 x h
theorem getT_none {t : Tr} {p : ByteArray} (hv : validB t = true) (h : (getT t p).2 ≠ 0) : findT t (partsP p) = none := by
  cases hf : findT t (partsP p) with
  | none => rfl
  | some x => rw [getT_at hv hf] at h; exact absurd rfl h
theorem put_law {t k m : Tr} {d : ByteArray} (h : putQ t d k = (m, 0)) : validB t = true ∧ validB m = true ∧ getT m (putPath d k.h.name) = (k, 0) ∧
    (∀ q ∈ pathsT t, keepB (putPath d k.h.name) q = true → ∃ a b, getT t q = (a, 0) ∧ getT m q = (b, 0) ∧ a.h = b.h ∧ a.ss = b.ss) ∧
    ∃ back, remQ m (putPath d k.h.name) = (back, 0) ∧ ((getT t (putPath d k.h.name)).2 ≠ 0 → back = t) := by
  have hv : validB t = true := by
    cases hv : validB t with
    | true => rfl
    | false => rw [putQ_no hv] at h; injection h with _ h2; cases h2
  cases hf : findT t (partsP d) with
  | none => rw [putQ_none hv hf] at h; injection h with _ h2; cases h2
  | some x =>
  have hkd : x.h.kind = 0 := by
    by_cases hk : x.h.kind = 0
    · exact hk
    · rw [putQ_kind hv hf hk] at h; injection h with _ h2; cases h2
  rw [putQ_go hv hf hkd] at h
  have hm : m = updT (partsP d) t (putK x.ks k) ∧ validB m = true := by
    split at h
    · rename_i h0
      injection h with _ h2
      exact absurd h2 h0
    · rename_i h0
      injection h with h1 _
      refine ⟨h1.symm, ?_⟩
      unfold validB
      rw [← h1]
      exact decide_eq_true (Classical.not_not.1 h0)
  obtain ⟨hm, hvm⟩ := hm
  rw [putK_is] at hm
  obtain ⟨_, m1, m2⟩ := valid_chk hvm
  have mok := okF_of m2
  have hkid : kidF (putR x.ks k) k.h.name = some k := by rw [kidF_put, if_pos rfl]
  have hfm : findT m (partsP d ++ [k.h.name]) = some k := by
    rw [hm, upd_find [k.h.name] hf]
    rw [findT_hit (t := ⟨x.h, x.ss, putR x.ks k⟩) hkid]
    rfl
  have hnS := find_noSl mok (Nat.le_refl _) hfm
  obtain ⟨p', l', b1, _, hl⟩ := find_chk m1 m2 hfm
  have hnm : nameB k.h.name = true := oneE_name b1 (by rw [hl, List.length_append, List.length_singleton]; omega)
  have hne : partsP d ++ [k.h.name] ≠ [] := by simp
  have hW := words_join hne hnS
  rw [← putPath_is] at hW
  have hp0 : putPath d k.h.name ≠ eS := by
    intro e
    rw [e, words_nil2] at hW
    have e2 : k.h.name = eS := by
      have := congrArg List.getLast? hW
      simp at this
      exact this.symm
    rw [e2, nameB_empty] at hnm
    cases hnm
  have hpp : partsP (putPath d k.h.name) = partsP d ++ [k.h.name] := by
    unfold partsP at hW ⊢
    rw [if_neg hp0]
    exact hW
  refine ⟨hv, hvm, getT_at hvm (by rw [hpp]; exact hfm), fun q hq hkeep => ?_, ?_⟩
  · obtain ⟨_, h1, h2⟩ := valid_chk hv
    have hok := okF_of h2
    have hso := kidsE_sorted (oneE_kids h1)
    have hqq : ∃ ms : List ByteArray, partsP q = ms ∧ (∃ a, findT t ms = some a) ∧ ¬ (partsP d ++ [k.h.name]) <+: ms := by
      rw [pathsT_names hv, List.mem_cons, List.mem_map] at hq
      rcases hq with rfl | ⟨ms, hms, rfl⟩
      · refine ⟨[], by unfold partsP; rw [if_pos rfl], ⟨t, rfl⟩, fun hp => ?_⟩
        have := hp.length_le
        simp at this
      · obtain ⟨r, hr, e, hx⟩ := nlF_find hso hok hms
        rw [List.nil_append] at e
        subst e
        have hns := names_noSl hok (Nat.le_refl _) root_noSl hms
        have ew := words_join hr hns
        have hq0 : joinP ms ≠ eS := by
          intro e
          rw [e, words_nil2] at ew
          obtain ⟨a, ha⟩ := hx t.h t.ss
          rw [← ew, findT_miss (kidF_empty (l := 1) h2 (Nat.le_refl _))] at ha
          cases ha
        refine ⟨ms, by unfold partsP; rw [if_neg hq0]; exact ew, hx t.h t.ss, ?_⟩
        rw [putPath_is, keep_off hne hr hnS hns, off_iff] at hkeep
        exact hkeep
    obtain ⟨ms, e1, ⟨a, ha⟩, e3⟩ := hqq
    have he := upd_else (f := putR x.ks k) hf (fun n hn => by rw [kidF_put, if_neg hn]) e3
    rw [← hm, ha] at he
    cases hb : findT m ms with
    | none => rw [hb] at he; cases he
    | some b =>
      rw [hb] at he
      injection he with he
      injection he with he1 he2
      exact ⟨a, b, getT_at hv (by rw [e1]; exact ha), getT_at hvm (by rw [e1]; exact hb), he1.symm, he2.symm⟩
  · have ed : dirs (putPath d k.h.name) = partsP d := by unfold dirs; rw [hW, List.dropLast_concat]
    have eb : base (putPath d k.h.name) = k.h.name := by unfold base; rw [hW]; simp
    have hfd : findT m (partsP d) = some ⟨x.h, x.ss, putR x.ks k⟩ := by
      have := upd_find (f := putR x.ks k) [] hf
      rw [List.append_nil, ← hm] at this
      exact this
    cases hi : kidI (putR x.ks k) k.h.name with
    | none => rw [kid_none hi] at hkid; cases hkid
    | some i =>
      have hR := remQ_hit (x := ⟨x.h, x.ss, putR x.ks k⟩) hvm hp0 (by rw [ed]; exact hfd) (by rw [eb]; exact hi)
      rw [ed] at hR
      refine ⟨_, hR, fun hg => ?_⟩
      have hn := getT_none hv hg
      rw [hpp, findT_snoc, hf, Option.bind_some] at hn
      dsimp only
      rw [← dropK_at hi, dropK_put hn, hm]
      exact upd_self hf
end Go.Proofs.YtlhakdildbplkaaGreatDoor
