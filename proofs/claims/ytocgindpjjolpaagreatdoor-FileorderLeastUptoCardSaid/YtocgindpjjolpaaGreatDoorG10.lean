/- Contracts and plain words for the laws of this chapter, part 10: T9, X4. No condition. -/
import Derived.Test.YtocgindpjjolpaaGreatDoorG9
import Derived.Great.BuildSlice
namespace Go.Proofs.YtocgindpjjolpaaGreatDoor
set_option linter.unusedSimpArgs false
set_option linter.unusedVariables false
open Go.RowKit
def stV (ss : List St) : List Value := ss.flatMap fun s => [.string s.1, .string s.2]
theorem stV_len (ss : List St) : (stV ss).length = ss.length * 2 := by
  induction ss with
  | nil => rfl
  | cons s l ih => show (stV l).length + 2 = _; rw [ih, List.length_cons]; omega
theorem stV_get : ∀ (ss : List St) (j : Nat) (s : St), ss[j]? = some s → (stV ss)[j * 2]? = some (.string s.1) ∧ (stV ss)[j * 2 + 1]? = some (.string s.2)
  | [], _, _, h => by simp at h
  | a :: l, 0, s, h => by
    have e : a = s := by simpa using h
    subst e
    exact ⟨rfl, rfl⟩
  | a :: l, j + 1, s, h => by
    have ih := stV_get l j s (by simpa using h)
    have e1 : (j + 1) * 2 = j * 2 + 2 := by omega
    have e2 : (j + 1) * 2 + 1 = j * 2 + 1 + 2 := by omega
    show (Value.string a.1 :: Value.string a.2 :: stV l)[_]? = _ ∧ (Value.string a.1 :: Value.string a.2 :: stV l)[_]? = _
    rw [e2, e1]
    exact ih
theorem stV_one (ss : List St) : ∀ u ∈ stV ss, u.oneCell' = true := by
  intro u hu
  unfold stV at hu
  obtain ⟨s, _, hs⟩ := List.mem_flatMap.1 hu
  simp at hs
  rcases hs with rfl | rfl <;> rfl
theorem StR.of_own {w : World} {lo B : Nat} {sv : Value} {ss : List St} (hB : w.heap.size ≤ B) (h : w.ownsRow lo 136 2 sv ss.length (stV ss)) : StR w B sv ss := by
  obtain ⟨A, c, rfl⟩ := own_slice h
  refine ⟨A, c, rfl, fun h0 => ?_⟩
  obtain ⟨g, cap, e, _, hl, _, hc⟩ := own_at h h0
  injection e with e1 e2 e3
  subst e1
  refine ⟨g, 0, rfl, by omega, fun j s hs => ?_⟩
  have := stV_get ss j s hs
  rw [Nat.zero_add, Nat.zero_add]
  exact ⟨hc _ _ this.1, hc _ _ this.2⟩
def RowR (w : World) (B : Nat) : Fo → List Value → Prop
  | .nil, xs => xs = []
  | .node h ss ks nx, xs => ∃ kv sv xs', xs = (h.cells kv sv).toList ++ xs' ∧ StR w B sv ss ∧ KidR w B kv ks ∧ RowR w B nx xs'
theorem RowR.len {w : World} {B : Nat} : ∀ {f : Fo} {xs : List Value}, RowR w B f xs → xs.length = f.len * 12
  | .nil, _, h => by
    have h' : _ = [] := h
    rw [h']; rfl
  | .node h ss ks nx, _, ⟨kv, sv, xs', e, _, _, hn⟩ => by
    have := RowR.len hn
    rw [e, List.length_append, this, Fo.len]
    show 12 + _ = _
    omega
theorem RowR.for {w : World} {B : Nat} {g : Nat} : ∀ {f : Fo} {xs : List Value} {o : Nat}, RowR w B f xs → (∀ j u, xs[j]? = some u → w.cell? ⟨g, o + j, none⟩ = some u) → ForR w B f g o
  | .nil, _, _, _, _ => trivial
  | .node h ss ks nx, xs, o, ⟨kv, sv, xs', e, hs, hk, hn⟩, hc => by
    subst e
    refine ⟨⟨kv, sv, fun j u hu => hc j u ?_, hs, hk⟩, RowR.for hn fun j u hu => ?_⟩
    · have hj : j < (h.cells kv sv).toList.length := (List.getElem?_eq_some_iff.1 hu).1
      rw [List.getElem?_append_left hj]; exact hu
    · have := hc (12 + j) u (by rw [List.getElem?_append_right (show (h.cells kv sv).toList.length ≤ 12 + j from Nat.le_add_right _ _)]; show xs'[12 + j - 12]? = _; rw [Nat.add_sub_cancel_left]; exact hu)
      rw [show o + 12 + j = o + (12 + j) by omega]
      exact this
theorem KidR.of_own {w : World} {lo B : Nat} {kv : Value} {ks : Fo} {xs : List Value} (hB : w.heap.size ≤ B) (h : w.ownsRow lo 25 12 kv ks.len xs) (hr : RowR w B ks xs) : KidR w B kv ks := by
  obtain ⟨A, c, rfl⟩ := own_slice h
  refine ⟨A, c, rfl, fun h0 => ?_⟩
  obtain ⟨g, cap, e, _, hl, _, hc⟩ := own_at h h0
  injection e with e1 e2 e3
  subst e1
  exact ⟨g, 0, rfl, by omega, hr.for fun j u hu => by rw [Nat.zero_add]; exact hc j u hu⟩
def RowS (w : World) (lo : Nat) : Fo → List Value → (Nat → Prop) → Prop
  | .nil, xs, _ => xs = []
  | .node h ss ks nx, xs, O => ∃ (kv sv : Value) (xs' : List Value) (O1 On : Nat → Prop), xs = (h.cells kv sv).toList ++ xs' ∧ w.ownsRow lo 136 2 sv ss.length (stV ss) ∧
      (∃ (xk : List Value) (Ok : Nat → Prop), w.ownsRow lo 25 12 kv ks.len xk ∧ RowS w lo ks xk Ok ∧ (∀ j, Ok j → O1 j ∧ kv.ownBlock ≠ some j) ∧ (∀ j, kv.ownBlock = some j → O1 j)) ∧
      RowS w lo nx xs' On ∧ (∀ j, O1 j → O j ∧ ¬ On j) ∧ (∀ j, On j → O j)
def KidS (w : World) (lo : Nat) (kv : Value) (ks : Fo) (O : Nat → Prop) : Prop := ∃ xk Ok, w.ownsRow lo 25 12 kv ks.len xk ∧ RowS w lo ks xk Ok ∧ (∀ j, Ok j → O j ∧ kv.ownBlock ≠ some j) ∧ (∀ j, kv.ownBlock = some j → O j)
theorem RowS.len {w : World} {lo : Nat} : ∀ {f : Fo} {xs : List Value} {O : Nat → Prop}, RowS w lo f xs O → xs.length = f.len * 12
  | .nil, _, _, h => by
    have h' : _ = [] := h
    rw [h']; rfl
  | .node h ss ks nx, _, _, ⟨kv, sv, xs', O1, On, e, _, _, hn, _, _⟩ => by
    have := RowS.len hn
    rw [e, List.length_append, this, Fo.len]
    show 12 + _ = _
    omega
def StrK (w w' : World) : Prop := ∀ (j : Nat) (cs : Array Value) (fr : Nat × Nat), w.heap[j]? = some (Obj.cells cs 136 fr) → w'.heap[j]? = w.heap[j]?
theorem own_keep {w w' : World} {B : Nat} {T : TypeId} {v : Value} {n k : Nat} {xs : List Value} (h : w.ownsRow B T k v n xs) (he : ∀ (g : Nat) (cs : Array Value), v.ownBlock = some g → w.heap[g]? = some (Obj.cells cs T (0, 0)) → w'.heap[g]? = w.heap[g]?) : w'.ownsRow B T k v n xs := by
  refine ⟨h.1, ?_⟩
  rcases h.2 with h2 | ⟨g', cap, cur, hv, hg, hh, r⟩
  · exact Or.inl h2
  · exact Or.inr ⟨g', cap, cur, hv, hg, (he g' cur (by rw [hv]; rfl) hh).trans hh, r⟩
theorem RowS.frame {w w' : World} {lo : Nat} (hS : StrK w w') : ∀ {f : Fo} {xs : List Value} {O : Nat → Prop}, (∀ j, j < w.heap.size → O j → w'.heap[j]? = w.heap[j]?) → RowS w lo f xs O → RowS w' lo f xs O
  | .nil, _, _, _, h => h
  | .node h ss ks nx, _, O, hO, ⟨kv, sv, xs', O1, On, e, hs, ⟨xk, Ok, hk, hr, h1, h2⟩, hn, h3, h4⟩ =>
    ⟨kv, sv, xs', O1, On, e, own_keep hs fun g cs _ hg => hS g cs _ hg, ⟨xk, Ok, own_keep hk fun g cs hg hh => hO g (by
      rcases Nat.lt_or_ge g w.heap.size with h' | h'
      · exact h'
      · rw [Array.getElem?_eq_none h'] at hh; cases hh) (h3 g (h2 g hg)).1, RowS.frame hS (fun j hj hoj => hO j hj (h3 j (h1 j hoj).1).1) hr, h1, h2⟩,
      RowS.frame hS (fun j hj hoj => hO j hj (h4 j hoj)) hn, h3, h4⟩
theorem KidS.frame {w w' : World} {lo : Nat} {kv : Value} {ks : Fo} {O : Nat → Prop} (hS : StrK w w') (hO : ∀ j, j < w.heap.size → O j → w'.heap[j]? = w.heap[j]?) (h : KidS w lo kv ks O) : KidS w' lo kv ks O := by
  obtain ⟨xk, Ok, hk, hr, h1, h2⟩ := h
  exact ⟨xk, Ok, own_keep hk fun g cs hg hh => hO g (by
      rcases Nat.lt_or_ge g w.heap.size with h' | h'
      · exact h'
      · rw [Array.getElem?_eq_none h'] at hh; cases hh) (h2 g hg), hr.frame hS (fun j hj hoj => hO j hj (h1 j hoj).1), h1, h2⟩
theorem StrK.below {w w' : World} (h : Below w.heap.size w w') : StrK w w' := fun j cs fr hj => h.block j (by
  rcases Nat.lt_or_ge j w.heap.size with h' | h'
  · exact h'
  · rw [Array.getElem?_eq_none h'] at hj; cases hj)
theorem RowS.below {w w' : World} {lo : Nat} {f : Fo} {xs : List Value} {O : Nat → Prop} (hb : Below w.heap.size w w') (h : RowS w lo f xs O) : RowS w' lo f xs O := h.frame (StrK.below hb) fun j hj _ => hb.block j hj
theorem KidS.below {w w' : World} {lo : Nat} {kv : Value} {ks : Fo} {O : Nat → Prop} (hb : Below w.heap.size w w') (h : KidS w lo kv ks O) : KidS w' lo kv ks O := h.frame (StrK.below hb) fun j hj _ => hb.block j hj
theorem RowS.sub {w : World} {lo : Nat} : ∀ {f : Fo} {xs : List Value} {O O' : Nat → Prop}, (∀ j, O j → O' j) → RowS w lo f xs O → RowS w lo f xs O'
  | .nil, _, _, _, _, h => h
  | .node _ _ _ _, _, _, _, hO, ⟨kv, sv, xs', O1, On, e, hs, hk, hn, h3, h4⟩ => ⟨kv, sv, xs', O1, On, e, hs, hk, hn, fun j hj => ⟨hO j (h3 j hj).1, (h3 j hj).2⟩, fun j hj => hO j (h4 j hj)⟩
theorem RowS.base {w : World} {lo lo' : Nat} (hl : lo' ≤ lo) : ∀ {f : Fo} {xs : List Value} {O : Nat → Prop}, RowS w lo f xs O → RowS w lo' f xs O
  | .nil, _, _, h => h
  | .node _ _ _ _, _, _, ⟨kv, sv, xs', O1, On, e, hs, ⟨xk, Ok, hk, hr, h1, h2⟩, hn, h3, h4⟩ => ⟨kv, sv, xs', O1, On, e, own_base hs hl, ⟨xk, Ok, own_base hk hl, RowS.base hl hr, h1, h2⟩, RowS.base hl hn, h3, h4⟩
theorem KidS.base {w : World} {lo lo' : Nat} {kv : Value} {ks : Fo} {O : Nat → Prop} (hl : lo' ≤ lo) (h : KidS w lo kv ks O) : KidS w lo' kv ks O := by
  obtain ⟨xk, Ok, hk, hr, h1, h2⟩ := h
  exact ⟨xk, Ok, own_base hk hl, hr.base hl, h1, h2⟩
theorem RowS.read {w : World} {lo B : Nat} (hB : w.heap.size ≤ B) : ∀ {f : Fo} {xs : List Value} {O : Nat → Prop}, RowS w lo f xs O → RowR w B f xs
  | .nil, _, _, h => h
  | .node _ _ _ _, _, _, ⟨kv, sv, xs', O1, On, e, hs, ⟨xk, Ok, hk, hr, h1, h2⟩, hn, h3, h4⟩ => ⟨kv, sv, xs', e, StR.of_own hB hs, KidR.of_own hB hk (RowS.read hB hr), RowS.read hB hn⟩
theorem KidS.read {w : World} {lo B : Nat} {kv : Value} {ks : Fo} {O : Nat → Prop} (hB : w.heap.size ≤ B) (h : KidS w lo kv ks O) : KidR w B kv ks := by
  obtain ⟨xk, Ok, hk, hr, h1, h2⟩ := h
  exact KidR.of_own hB hk (hr.read hB)
theorem Fo.len_app : ∀ a b : Fo, (a.app b).len = a.len + b.len
  | .nil, b => (Nat.zero_add _).symm
  | .node h ss ks nx, b => by rw [Fo.app, Fo.len, Fo.len, Fo.len_app nx b]; omega
theorem RowS.snoc {w : World} {lo : Nat} {h : Hd} {ss : List St} {ks : Fo} {kv sv : Value} {O1 : Nat → Prop} (hs : w.ownsRow lo 136 2 sv ss.length (stV ss)) (hk : KidS w lo kv ks O1) :
    ∀ {f : Fo} {xs : List Value} {O : Nat → Prop}, (∀ j, O1 j → ¬ O j) → RowS w lo f xs O → RowS w lo (f.app (.node h ss ks .nil)) (xs ++ (h.cells kv sv).toList) (fun j => O j ∨ O1 j)
  | .nil, xs, O, hd, e => by
    have e' : xs = [] := e
    subst e'
    exact ⟨kv, sv, [], O1, fun _ => False, by simp, hs, hk, rfl, fun j hj => ⟨Or.inr hj, id⟩, fun _ h => h.elim⟩
  | .node h' ss' ks' nx, xs, O, hd, ⟨kv', sv', xs', P1, Pn, e, hs', hk', hn, h3, h4⟩ => by
    subst e
    refine ⟨kv', sv', xs' ++ (h.cells kv sv).toList, P1, fun j => Pn j ∨ O1 j, by rw [List.append_assoc], hs', hk', RowS.snoc hs hk (fun j hj hp => hd j hj (h4 j hp)) hn, fun j hj => ⟨Or.inl (h3 j hj).1, fun e => e.elim (h3 j hj).2 fun e => hd j e (h3 j hj).1⟩, fun j hj => hj.elim (fun e => Or.inl (h4 j e)) Or.inr⟩
def Fo.setAt : Fo → Nat → Tr → Fo
  | .nil, _, _ => .nil
  | .node _ _ _ nx, 0, k => .node k.h k.ss k.ks nx
  | .node h ss ks nx, i + 1, k => .node h ss ks (nx.setAt i k)
theorem RowS.at {w : World} {lo : Nat} : ∀ {f : Fo} {i : Nat} {k : Tr} {xs : List Value} {O : Nat → Prop}, RowS w lo f xs O → f.list[i]? = some k → ∃ kv sv O1 xa xb, xs = xa ++ (k.h.cells kv sv).toList ++ xb ∧ xa.length = i * 12 ∧
      w.ownsRow lo 136 2 sv k.ss.length (stV k.ss) ∧ KidS w lo kv k.ks O1 ∧ (∀ j, O1 j → O j) ∧
      ∀ (w' : World) (B' : Nat) (k' : Tr) (kv' sv' : Value), StrK w w' → (∀ j, j < w.heap.size → O j → ¬ O1 j → w'.heap[j]? = w.heap[j]?) → w'.heap.size ≤ B' → StR w' B' sv' k'.ss → KidR w' B' kv' k'.ks → RowR w' B' (f.setAt i k') (xa ++ (k'.h.cells kv' sv').toList ++ xb)
  | .nil, _, _, _, _, _, hi => by simp [Fo.list] at hi
  | .node h ss ks nx, 0, k, xs, O, ⟨kv, sv, xs', O1, On, e, hs, hk, hn, h3, h4⟩, hi => by
    have e2 : (⟨h, ss, ks⟩ : Tr) = k := by simpa [Fo.list] using hi
    subst e2
    refine ⟨kv, sv, O1, [], xs', by rw [e]; rfl, rfl, hs, hk, fun j hj => (h3 j hj).1, fun w' B' k' kv' sv' hS hO hB hs' hk' => ?_⟩
    exact ⟨kv', sv', xs', rfl, hs', hk', (hn.frame hS fun j hj hoj => hO j hj (h4 j hoj) fun e => (h3 j e).2 hoj).read hB⟩
  | .node h ss ks nx, i + 1, k, xs, O, ⟨kv, sv, xs', O1, On, e, hs, hk, hn, h3, h4⟩, hi => by
    obtain ⟨kv2, sv2, O2, xa, xb, e2, hl, hs2, hk2, ho2, hw⟩ := RowS.at hn (i := i) (k := k) (by simpa [Fo.list] using hi)
    subst e2
    refine ⟨kv2, sv2, O2, (h.cells kv sv).toList ++ xa, xb, by rw [e]; simp only [List.append_assoc], by rw [List.length_append, hl]; show 12 + _ = _; omega, hs2, hk2, fun j hj => h4 j (ho2 j hj), fun w' B' k' kv' sv' hS hO hB hs' hk' => ?_⟩
    refine ⟨kv, sv, xa ++ (k'.h.cells kv' sv').toList ++ xb, by simp only [List.append_assoc], ?_, ?_, hw w' B' k' kv' sv' hS (fun j hj hoj hn2 => hO j hj (h4 j hoj) hn2) hB hs' hk'⟩
    · exact StR.of_own hB (own_keep hs fun g cs _ hg => hS g cs _ hg)
    · exact KidS.read hB (KidS.frame hS (fun j hj hoj => hO j hj (h3 j hoj).1 (fun e => (h3 j hoj).2 (ho2 j e))) hk)
theorem strmInfo : (Tryz.prog.info? 136).map (fun i => (i.zero, i.size, i.bytes)) = some (some (.agg #[.string ByteArray.empty, .string ByteArray.empty]), 2, 32) := by kernel_rfl
theorem nodeInfo : (Tryz.prog.info? 25).map (fun i => (i.zero, i.size, i.bytes)) = some (some (.agg #[.string ByteArray.empty, .int .i64 0, .string ByteArray.empty, .string ByteArray.empty, .int .i64 0, .int .i64 0, .int .i64 0, .int .i64 0, .int .i64 0, .int .i64 0, .slice none 0 0, .slice none 0 0]), 12, 152) := by kernel_rfl
theorem fillN (h : Hd) (kv sv : Value) : Instr.fill (fun i => some (i * 12, 12)) ((Array.range (1 * 12)).map ((Value.agg #[.string ByteArray.empty, .int .i64 0, .string ByteArray.empty, .string ByteArray.empty, .int .i64 0, .int .i64 0, .int .i64 0, .int .i64 0, .int .i64 0, .int .i64 0, .slice none 0 0, .slice none 0 0]).cells[· % (Value.agg #[.string ByteArray.empty, .int .i64 0, .string ByteArray.empty, .string ByteArray.empty, .int .i64 0, .int .i64 0, .int .i64 0, .int .i64 0, .int .i64 0, .int .i64 0, .slice none 0 0, .slice none 0 0]).cells.size]!)) [(0, .agg (h.cells kv sv))] = some (h.cells kv sv) := by kernel_rfl
theorem wp_buildNode {o : Oper} {a : Act} {w : World} {K : Act → World → Prop} {Q : Exit → Act → World → Prop} (x : Operand) (ho : o.op = .buildSlice 22 1 #[(0, x)]) (h : Hd) (kv sv : Value) (hx : a.eval x = .agg (h.cells kv sv))
    (hK : K (a.put o.dst (.slice (some ⟨w.heap.size, 0, none⟩) 1 1)) (w.alloc (.cells (h.cells kv sv) 25))) : o.wp Tryz.prog a w K Q := by
  obtain ⟨i, hi, hz0, hz1, hz2⟩ := info_parts nodeInfo
  refine wp_buildSlice 22 25 1 _ ho _ i _ Tryz.underlying22 hi hz0 (by rw [hz1]; omega) (by rw [hz1]; omega) ?_ hK
  rw [hz1]
  have e : (#[(0, x)].map fun (i, x) => (i, a.eval x)).toList = [(0, Value.agg (h.cells kv sv))] := by
    rw [← hx]; simp
  rw [e]
  exact fillN h kv sv
theorem step_buildNode {ops : Array Oper} {o : Oper} {a : Act} {w : World} {K : Act → World → Prop} {Q : Exit → Act → World → Prop} {E : Prop} (hgd : o.guard = none) (x : Operand) (ho : o.op = .buildSlice 22 1 #[(0, x)]) (h : Hd) (kv sv : Value) (hx : a.eval x = .agg (h.cells kv sv))
    (hK : K (a.put o.dst (.slice (some ⟨w.heap.size, 0, none⟩) 1 1)) (w.alloc (.cells (h.cells kv sv) 25))) : if Region.wanted o (yielded ops a.tmps) = true then Oper.wp Tryz.prog o a w K Q else E := by
  have hw : Region.wanted o (yielded ops a.tmps) = true := by simp [Region.wanted, hgd]
  rw [if_pos hw]
  exact wp_buildNode x ho h kv sv hx hK
theorem wpList_buildNode {ops : Array Oper} {rest : List Oper} {o : Oper} {a : Act} {w : World} {Q : Exit → Act → World → Prop} (hgd : o.guard = none) (x : Operand) (ho : o.op = .buildSlice 22 1 #[(0, x)]) (h : Hd) (kv sv : Value) (hx : a.eval x = .agg (h.cells kv sv))
    (hK : wpList Tryz.prog ops Q rest (a.put o.dst (.slice (some ⟨w.heap.size, 0, none⟩) 1 1)) (w.alloc (.cells (h.cells kv sv) 25))) : wpList Tryz.prog ops Q (o :: rest) a w :=
  wpList_plain hgd fun _ hk => wp_buildNode x ho h kv sv hx (hk _ _ hK)
theorem addr_add (g o j : Nat) : (⟨g, o, none⟩ : Addr).add j = ⟨g, o + j, none⟩ := by
  unfold Addr.add
  split
  · rename_i h0; rw [h0, Nat.add_zero]
  · rfl
theorem stV_at : ∀ (ss : List St) (j : Nat) (u : Value), (stV ss)[j]? = some u → ∃ q s, ss[q]? = some s ∧ ((j = q * 2 ∧ u = .string s.1) ∨ (j = q * 2 + 1 ∧ u = .string s.2))
  | [], j, u, h => by simp [stV] at h
  | a :: l, 0, u, h => ⟨0, a, rfl, Or.inl ⟨rfl, (show Value.string a.1 = u by simpa [stV] using h).symm⟩⟩
  | a :: l, 1, u, h => ⟨0, a, rfl, Or.inr ⟨rfl, (show Value.string a.2 = u by simpa [stV] using h).symm⟩⟩
  | a :: l, j + 2, u, h => by
    obtain ⟨q, s, h1, h2⟩ := stV_at l j u h
    exact ⟨q + 1, s, by simpa using h1, h2.elim (fun e => Or.inl ⟨by omega, e.2⟩) fun e => Or.inr ⟨by omega, e.2⟩⟩
theorem cell_alloc_some {w : World} {a : Addr} {v : Value} (h : w.cell? a = some v) (o : Obj) : (w.alloc o).cell? a = some v := (World.cell?_alloc_lt w o a (World.block_lt_of_cell? w a h)).trans h
set_option maxRecDepth 100000 in
set_option maxHeartbeats 2000000 in
theorem sclone_any (ss : List St) (sv : Value) (hl : ss.length ≤ 1000000) (w : World) (hs : StR w w.heap.size sv ss) : Calls Tryz.prog 113 #[sv] w fun e w' => ∃ r, e = .returned r ∧ w'.ownsRow w.heap.size 136 2 r ss.length (stV ss) ∧ Below w.heap.size w w' := by
  obtain ⟨A, c, rfl, hc⟩ := hs
  cases A with
  | none =>
    have h0 : ss.length = 0 := by
      rcases Nat.eq_zero_or_pos ss.length with h | h
      · exact h
      · obtain ⟨g, o, e, _⟩ := hc h
        cases e
    have e0 : ss = [] := List.eq_nil_of_length_eq_zero h0
    subst e0
    clear hc
    have nq := fun W : World => Lib.run_eql_slice_nil (P := Tryz.prog) W 23 136 none 0 c 0 0 Tryz.underlying23
    have HL : Live w [] := trivial
    go_enter Tryz.func113, Tryz.ntmps113
    go_wp2_with fail
    go_ret
    exact ⟨_, rfl, World.ownsRow_nil _ _ _ _, Below.refl _ _⟩
  | some ad =>
    have HC := hide (show ∀ j u, (stV ss)[j]? = some u → w.cell? (ad.add j) = some u from fun j u hj => by
      obtain ⟨q, s, h1, h2⟩ := stV_at ss j u hj
      obtain ⟨g, o, e, _, hcc⟩ := hc (Nat.lt_of_le_of_lt (Nat.zero_le _) (List.getElem?_eq_some_iff.1 h1).1)
      injection e with e
      subst e
      rw [addr_add]
      rcases h2 with ⟨rfl, rfl⟩ | ⟨rfl, rfl⟩
      · exact (hcc q s h1).1
      · exact (hcc q s h1).2)
    clear hc
    have nq := fun W : World => Lib.run_eql_slice_nil (P := Tryz.prog) W 23 136 (some ad) ss.length c 0 0 Tryz.underlying23
    have HL : Live w [] := trivial
    go_enter Tryz.func113, Tryz.ntmps113
    go_upto_region 3 with fail
    go_wp2_with (at_builtin; refine wpList_append_rows _ rfl _ _ 23 rfl w.heap.size 136 strmInfo Tryz.underlying23 rfl (by decide) _ 0 [] (World.ownsRow_lit w #[] 0 (Nat.le_refl _) (by decide) rfl) ad ss.length c (stV ss) rfl rfl (stV_len ss) (fun j u hj => (cell_alloc_some (HC.out j u hj) _)) (stV_one ss) (by unfold maxLen; omega) (by omega) (by rw [World.size_alloc]; omega) ?_; intro v2 w2 hown2 hnb2 hg2)
    go_ret
    rw [Nat.zero_add, List.nil_append] at hown2
    refine ⟨_, rfl, hown2, ((Below.refl w.heap.size w).alloc (Nat.le_refl _) _).grown hg2 (by rw [World.size_alloc]; omega) fun q hq => ?_⟩
    injection hq with hq
    exact Nat.le_of_eq hq
end Go.Proofs.YtocgindpjjolpaaGreatDoor
