/- Contracts and plain words for the laws of this chapter, part 41: X44, Rs1. No condition. -/
import Derived.Test.YtlhakdildbplkaaGreatDoorF20
import Derived.Test.YtlhakdildbplkaaGreatDoorF40
import Derived.Test.YtlhakdildbplkaaGreatDoorF22
namespace Go.Proofs.YtlhakdildbplkaaGreatDoor
set_option linter.unusedSimpArgs false
set_option linter.unusedVariables false
open Go.RowKit
theorem fillS (a b : ByteArray) : Instr.fill (fun i => some (i * 2, 2)) ((Array.range (1 * 2)).map ((Value.agg #[.string ByteArray.empty, .string ByteArray.empty]).cells[· % (Value.agg #[.string ByteArray.empty, .string ByteArray.empty]).cells.size]!)) [(0, .agg #[.string a, .string b])] = some #[.string a, .string b] := by kernel_rfl
theorem step_buildStrm {ops : Array Oper} {o : Oper} {a : Act} {w : World} {K : Act → World → Prop} {Q : Exit → Act → World → Prop} {E : Prop} (hgd : o.guard = none) (x : Operand) (ho : o.op = .buildSlice 23 1 #[(0, x)]) (sa sb : ByteArray) (hx : a.eval x = .agg #[.string sa, .string sb])
    (hK : K (a.put o.dst (.slice (some ⟨w.heap.size, 0, none⟩) 1 1)) (w.alloc (.cells #[.string sa, .string sb] 69))) : if Region.wanted o (yielded ops a.tmps) = true then Oper.wp Tryz.prog o a w K Q else E := by
  have hw : Region.wanted o (yielded ops a.tmps) = true := by simp [Region.wanted, hgd]
  rw [if_pos hw]
  obtain ⟨i, hi, hz0, hz1, hz2⟩ := info_parts strmInfo
  refine wp_buildSlice 23 69 1 _ ho _ i _ Tryz.underlying23 hi hz0 (by rw [hz1]; omega) (by rw [hz1]; omega) ?_ hK
  rw [hz1]
  have e : (#[(0, x)].map fun (i, x) => (i, a.eval x)).toList = [(0, Value.agg #[.string sa, .string sb])] := by
    rw [← hx]; simp
  rw [e]
  exact fillS sa sb
theorem wp_append_full {P : Program} (w : World) {o : Oper} {a : Act} {K : Act → World → Prop} {Q : Exit → Act → World → Prop} (s x : Operand) (t : TypeId)
    (ho : o.op = .call { callee := .builtin .append, args := #[s, x], argTypes := #[t, t] })
    (base : Nat) (e : TypeId) {z : Value} {size bytes : Nat} (hinfo : (P.info? e).map (fun i => (i.zero, i.size, i.bytes)) = some (some z, size, bytes)) (ht : P.underlying t = some (.slice e))
    (hzs : z.cells.size = size) (s0 : Addr) (n : Nat) (xs : List Value) (hxl : xs.length = n * size) (hxs : ∀ j u, xs[j]? = some u → w.cell? (s0.add j) = some u)
    (ad : Addr) (m c : Nat) (news : List Value) (hs : a.eval s = .slice (some s0) n n) (hx : a.eval x = .slice (some ad) m c) (hl : news.length = m * size) (hnews : ∀ j u, news[j]? = some u → w.cell? (ad.add j) = some u) (hm : 0 < m)
    (h63 : n + m ≤ maxLen) (hbytes : ((n + m) + (n + m) / 4 + 192) * bytes ≤ 281474976710656) (hbase : base ≤ w.heap.size)
    (h : ∀ c' w', w'.ownsRow base e size (.slice (some ⟨w.heap.size, 0, none⟩) (n + m) c') (n + m) (xs ++ news) → Below w.heap.size w w' → K (a.put o.dst (.slice (some ⟨w.heap.size, 0, none⟩) (n + m) c')) w') : o.wp P a w K Q := by
  obtain ⟨i, hi, hz0, hz1, hz2⟩ := info_parts hinfo
  subst hz1
  subst hz2
  have hsmall : n + m ≤ 9223372036854775807 := by simp only [maxLen] at h63; omega
  have hlen : (xs ++ news).length = (n + m) * i.size := by rw [List.length_append, hxl, hl, Nat.add_mul]
  have hr := run_append_grow (P := P) w t o.type e i z ht hi hz0 s0 n n xs hxl hxs ad m c news hl hnews (by omega) (by omega) (growslice_fits_wide (by omega) hbytes)
  have hge := grownCap_ge w (n + m) n e
  have hcm : grownCap w (n + m) n e ≤ maxLen := grownCap_le_maxLen w (n + m) n e h63
  have hown : (w.drew.alloc (.cells (xs.toArray ++ news.toArray ++ Builtin.zeroCells z.cells (grownCap w (n + m) n e - (n + m))) e)).ownsRow base e i.size (.slice (some ⟨w.heap.size, 0, none⟩) (n + m) (grownCap w (n + m) n e)) (n + m) (xs ++ news) := by
    refine ⟨hlen, .inr ⟨w.heap.size, _, _, rfl, hbase, heap_alloc_new w.drew _, hge, hcm, ?_, ?_⟩⟩
    · simp only [Array.size_append, List.size_toArray, size_zeroCells, hzs, hxl, hl, ← Nat.add_mul]
      congr 1
      omega
    · simp only [Array.toList_append, List.append_assoc]
      rw [← List.append_assoc, ← hlen]
      exact List.take_left
  unfold Oper.wp execOp
  simp only [ho, resolve, invoke, builtin, Sem.run_bind, Sem.run_pure, Result.andThen_ok, List.map_toArray, List.map_cons, List.map_nil, hs, hx, hr]
  exact h _ _ hown ((Below.refl _ _).drew.alloc (Nat.le_refl _) _)
theorem step_append_full {P : Program} (w : World) {ops : Array Oper} {o : Oper} {a : Act} {K : Act → World → Prop} {Q : Exit → Act → World → Prop} {E : Prop} (hgd : o.guard = none) (s x : Operand) (t : TypeId)
    (ho : o.op = .call { callee := .builtin .append, args := #[s, x], argTypes := #[t, t] })
    (base : Nat) (e : TypeId) {z : Value} {size bytes : Nat} (hinfo : (P.info? e).map (fun i => (i.zero, i.size, i.bytes)) = some (some z, size, bytes)) (ht : P.underlying t = some (.slice e))
    (hzs : z.cells.size = size) (s0 : Addr) (n : Nat) (xs : List Value) (hxl : xs.length = n * size) (hxs : ∀ j u, xs[j]? = some u → w.cell? (s0.add j) = some u)
    (ad : Addr) (m c : Nat) (news : List Value) (hs : a.eval s = .slice (some s0) n n) (hx : a.eval x = .slice (some ad) m c) (hl : news.length = m * size) (hnews : ∀ j u, news[j]? = some u → w.cell? (ad.add j) = some u) (hm : 0 < m)
    (h63 : n + m ≤ maxLen) (hbytes : ((n + m) + (n + m) / 4 + 192) * bytes ≤ 281474976710656) (hbase : base ≤ w.heap.size)
    (h : ∀ c' w', w'.ownsRow base e size (.slice (some ⟨w.heap.size, 0, none⟩) (n + m) c') (n + m) (xs ++ news) → Below w.heap.size w w' → K (a.put o.dst (.slice (some ⟨w.heap.size, 0, none⟩) (n + m) c')) w') :
    if Region.wanted o (yielded ops a.tmps) = true then Oper.wp P o a w K Q else E := by
  have hw : Region.wanted o (yielded ops a.tmps) = true := by simp [Region.wanted, hgd]
  rw [if_pos hw]
  exact wp_append_full w s x t ho base e hinfo ht hzs s0 n xs hxl hxs ad m c news hs hx hl hnews hm h63 hbytes hbase h
/-! Insertion, plain. -/
theorem insR_past {β : Type} (key : β → ByteArray) (x : β) : ∀ (a b : List β), (∀ y ∈ a, bltB (key x) (key y) = true) → insR key x (a ++ b) = a ++ insR key x b
  | [], _, _ => rfl
  | y :: a, b, h => by
    rw [List.cons_append, insR, if_pos (h y (List.mem_cons_self ..)), insR_past key x a b (fun z hz => h z (List.mem_cons_of_mem _ hz))]
    rfl
theorem ins_at {β : Type} (key : β → ByteArray) (x : β) (l : List β) (i : Nat) (hi : i ≤ l.length) (h1 : ∀ y ∈ l.drop i, bltB (key x) (key y) = true) (h2 : i = 0 ∨ ∀ y, l[i - 1]? = some y → bltB (key x) (key y) = false) : (insR key x l.reverse).reverse = l.take i ++ x :: l.drop i := by
  have e : l.reverse = (l.drop i).reverse ++ (l.take i).reverse := by rw [← List.reverse_append, List.take_append_drop]
  rw [e, insR_past key x _ _ (fun y hy => h1 y (List.mem_reverse.1 hy))]
  have e2 : insR key x (l.take i).reverse = x :: (l.take i).reverse := by
    rcases Nat.eq_zero_or_pos i with h0 | h0
    · subst h0; rfl
    · have h3 := h2.resolve_left (by omega)
      cases hr : (l.take i).reverse with
      | nil => rfl
      | cons y r =>
        have hy : l[i - 1]? = some y := by
          have h5 : (l.take i) = r.reverse ++ [y] := by rw [← List.reverse_reverse (l.take i), hr, List.reverse_cons]
          have h6 : (l.take i).length = r.length + 1 := by rw [h5]; simp
          have h7 : (l.take i)[r.length]? = some y := by rw [h5, List.getElem?_append_right (by simp), List.length_reverse, Nat.sub_self]; rfl
          rw [List.length_take] at h6
          rw [List.getElem?_take] at h7
          split at h7
          · rw [show i - 1 = r.length by omega]; exact h7
          · cases h7
        rw [insR, if_neg (by rw [h3 y hy]; decide)]
  rw [e2, List.reverse_append, List.reverse_cons, List.reverse_reverse, List.reverse_reverse, List.append_assoc]
  rfl
theorem sortL_snoc {β : Type} (key : β → ByteArray) (l : List β) (x : β) : sortL key (l ++ [x]) = (insR key x (sortL key l).reverse).reverse := by
  unfold sortL
  rw [List.foldl_append, List.reverse_reverse]
  rfl
def RdL (w : World) (B : Nat) (l : List It) : Prop := ∀ x ∈ l, StR w B x.sv x.t.ss ∧ KidR w B x.kv x.t.ks
theorem RdL.below {w w' : World} {l : List It} (hb : Below w.heap.size w w') (h : RdL w w.heap.size l) : RdL w' w'.heap.size l := fun x hx => ⟨((h x hx).1.below hb).mono hb.size, ((h x hx).2.below hb).mono hb.size⟩
theorem RdL.row {w : World} {B : Nat} : ∀ {l : List It}, RdL w B l → RowR w B (Fo.of (l.map (·.t))) (l.flatMap encI)
  | [], _ => rfl
  | x :: l, h => ⟨x.kv, x.sv, l.flatMap encI, rfl, (h x (List.mem_cons_self ..)).1, (h x (List.mem_cons_self ..)).2, RdL.row (fun y hy => h y (List.mem_cons_of_mem _ hy))⟩
theorem flat_get {α : Type} (enc : α → List Value) (k : Nat) (hk : ∀ x, (enc x).length = k) : ∀ (l : List α) (i : Nat) (x : α), l[i]? = some x → ∀ j u, (enc x)[j]? = some u → (l.flatMap enc)[i * k + j]? = some u
  | [], _, _, h, _, _, _ => by simp at h
  | a :: l, 0, x, h, j, u, hu => by
    have e : a = x := by simpa using h
    subst e
    rw [List.flatMap_cons, Nat.zero_mul, Nat.zero_add, List.getElem?_append_left (List.getElem?_eq_some_iff.1 hu).1]
    exact hu
  | a :: l, i + 1, x, h, j, u, hu => by
    have e : l[i]? = some x := by simpa using h
    rw [List.flatMap_cons, List.getElem?_append_right (by rw [hk, Nat.add_mul, Nat.one_mul]; omega), hk, show (i + 1) * k + j - k = i * k + j by rw [Nat.add_mul, Nat.one_mul]; omega]
    exact flat_get enc k hk l i x e j u hu
theorem flat_take {α : Type} (enc : α → List Value) (k : Nat) (hk : ∀ x, (enc x).length = k) (l : List α) (i : Nat) (hi : i ≤ l.length) : (l.take i).flatMap enc = (l.flatMap enc).take (i * k) ∧ (l.drop i).flatMap enc = (l.flatMap enc).drop (i * k) := by
  have e : l.flatMap enc = (l.take i).flatMap enc ++ (l.drop i).flatMap enc := by rw [← List.flatMap_append, List.take_append_drop]
  have hl : ((l.take i).flatMap enc).length = i * k := by rw [flat_len enc k hk, List.length_take, Nat.min_eq_left hi]
  constructor
  · rw [e, ← hl, List.take_left]
  · rw [e, ← hl, List.drop_left]
end Go.Proofs.YtlhakdildbplkaaGreatDoor
