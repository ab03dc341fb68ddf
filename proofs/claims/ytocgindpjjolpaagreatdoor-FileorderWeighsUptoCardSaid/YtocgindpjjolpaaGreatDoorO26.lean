/- Contracts and plain words for the laws of this chapter, part 26: Fp4, Lc, Fp5, Ld0, Ld, Fp6. No condition. -/
import Derived.Test.YtocgindpjjolpaaGreatDoorO19
import Derived.Test.YtocgindpjjolpaaGreatDoorO24
import Derived.Test.YtocgindpjjolpaaGreatDoorO25
import Derived.Test.YtocgindpjjolpaaGreatDoorO22
import Derived.Test.YtocgindpjjolpaaGreatDoorO21
import Derived.Test.YtocgindpjjolpaaGreatDoorO14
import Derived.Shelf.Slices.CompactS
namespace Go.Proofs.YtocgindpjjolpaaGreatDoor
set_option linter.unusedSimpArgs false
set_option linter.unusedVariables false
theorem ins_perm {α : Type} (lt : α → α → Bool) (x : α) : ∀ l : List α, (ins lt x l).Perm (x :: l)
  | [] => by rw [ins]
  | y :: l => by
    rw [ins]
    split
    · exact List.Perm.refl _
    · exact ((ins_perm lt x l).cons y).trans (List.Perm.swap _ _ _)
theorem srt_perm {α : Type} (lt : α → α → Bool) (l : List α) : (srt lt l).Perm l := by
  have h : ∀ (l acc : List α), (l.foldl (fun acc x => ins lt x acc) acc).Perm (l ++ acc) := by
    intro l
    induction l with
    | nil => exact fun acc => List.Perm.refl _
    | cons x l ih => exact fun acc => (ih _).trans (((ins_perm lt x acc).append_left l).trans List.perm_middle)
  have := h l []
  rwa [List.append_nil] at this
theorem byW_perm (t : Tr) : (byW t).Perm (filesT t) := srt_perm _ _
theorem addA_mem {all out : List ByteArray} {p q : ByteArray} : q ∈ addA all out p ↔ q ∈ out ∨ (q = p ∧ p ∈ all) := by
  unfold addA
  cases h1 : hasS all p with
  | false =>
    rw [Bool.false_and, if_neg (by decide)]
    exact ⟨Or.inl, fun h => h.elim id (fun h => absurd h.2 (hasS_no.1 h1))⟩
  | true =>
    have h3 := hasS_iff.1 h1
    cases h2 : hasS out p with
    | true =>
      rw [Bool.not_true, Bool.and_false, if_neg (by decide)]
      exact ⟨Or.inl, fun h => h.elim id (fun h => by rw [h.1]; exact hasS_iff.1 h2)⟩
    | false =>
      rw [Bool.not_false, Bool.and_true, if_pos rfl, List.mem_append, List.mem_singleton]
      exact ⟨fun h => h.imp id (fun e => ⟨e, h3⟩), fun h => h.imp id (fun e => e.1)⟩
theorem addA_nodup {all out : List ByteArray} {p : ByteArray} (h : out.Nodup) : (addA all out p).Nodup := by
  unfold addA
  split
  · rename_i h1
    rw [Bool.and_eq_true, Bool.not_eq_true'] at h1
    rw [List.nodup_append]
    exact ⟨h, by simp, fun a ha b hb e => hasS_no.1 h1.2 (by rw [List.mem_singleton] at hb; rw [← hb, ← e]; exact ha)⟩
  · exact h
theorem foldA_mem {all : List ByteArray} {q : ByteArray} : ∀ {l out : List ByteArray}, q ∈ l.foldl (addA all) out ↔ q ∈ out ∨ (q ∈ l ∧ q ∈ all)
  | [], out => by simp
  | p :: l, out => by
    rw [List.foldl_cons, foldA_mem, addA_mem, List.mem_cons]
    constructor
    · rintro ((h | ⟨rfl, h⟩) | ⟨h, h2⟩)
      · exact Or.inl h
      · exact Or.inr ⟨Or.inl rfl, h⟩
      · exact Or.inr ⟨Or.inr h, h2⟩
    · rintro (h | ⟨rfl | h, h2⟩)
      · exact Or.inl (Or.inl h)
      · exact Or.inl (Or.inr ⟨rfl, h2⟩)
      · exact Or.inr ⟨h, h2⟩
theorem foldA_nodup {all : List ByteArray} : ∀ {l out : List ByteArray}, out.Nodup → (l.foldl (addA all) out).Nodup
  | [], _, h => h
  | p :: l, out, h => by rw [List.foldl_cons]; exact foldA_nodup (addA_nodup h)
theorem byA_mem {t : Tr} {acc : List ByteArray} {q : ByteArray} : q ∈ byA t acc ↔ q ∈ filesT t := by
  unfold byA
  rw [foldA_mem, List.mem_append, ← (byW_perm t).mem_iff]
  constructor
  · rintro (h | ⟨-, h⟩)
    · cases h
    · exact h
  · exact fun h => Or.inr ⟨Or.inr h, h⟩
theorem byA_perm (t : Tr) (acc : List ByteArray) : (byA t acc).Perm (filesT t) :=
  (List.perm_ext_iff_of_nodup (foldA_nodup List.nodup_nil) (files_nodup t)).2 fun _ => byA_mem
/-! Extents that follow each other. -/
def extsL (t : Tr) : List ByteArray → Int → List Ext
  | [], _ => []
  | p :: l, a => ⟨p, a, lenP t p⟩ :: extsL t l (a + blocksI (lenP t p))
def endA (t : Tr) : List ByteArray → Int → Int
  | [], a => a
  | p :: l, a => endA t l (a + blocksI (lenP t p))
theorem placeL_exts {t : Tr} : ∀ {l : List ByteArray} {a : Int} {out r : List Ext}, placeL t l a out = some r → r = out ++ extsL t l a
  | [], a, out, r, h => by
    rw [placeL] at h
    injection h with h
    rw [extsL, List.append_nil, h]
  | p :: l, a, out, r, h => by
    rw [placeL] at h
    split at h
    · cases h
    · rw [placeL_exts h, extsL, List.append_assoc]
      rfl
theorem exts_len (t : Tr) : ∀ (l : List ByteArray) (a : Int), (extsL t l a).length = l.length
  | [], _ => rfl
  | p :: l, a => by rw [extsL, List.length_cons, exts_len t l, List.length_cons]
theorem endA_snoc (t : Tr) : ∀ (l : List ByteArray) (p : ByteArray) (a : Int), endA t (l ++ [p]) a = endA t l a + blocksI (lenP t p)
  | [], _, _ => rfl
  | q :: l, p, a => by rw [List.cons_append, endA, endA_snoc t l]; rfl
theorem file_len {t : Tr} {p : ByteArray} (h : p ∈ filesT t) : 0 < lenP t p := by
  unfold filesT at h
  obtain ⟨h1, h2⟩ := List.mem_filter.1 h
  unfold isF at h2
  have hv : validB t = true := by
    unfold pathsT at h1
    split at h1
    · assumption
    · cases h1
  unfold lenP getT
  rw [if_pos hv]
  cases hx : findT t (partsP p) with
  | none => rw [hx] at h2; cases h2
  | some x =>
    rw [hx] at h2
    have h3 := of_decide_eq_true h2
    show 0 < x.h.data.size
    rcases Nat.eq_zero_or_pos x.h.data.size with h4 | h4
    · exact absurd (ByteArray.ext (Array.eq_empty_of_size_eq_zero h4)) h3.2
    · exact h4
end Go.Proofs.YtocgindpjjolpaaGreatDoor
namespace Go.Proofs.YtocgindpjjolpaaGreatDoor
set_option linter.unusedSimpArgs false
set_option linter.unusedVariables false
open Go.RowKit
theorem few47_ct {t : Tr} {n : Nat} (h : few47 t n = true) : t.count ≤ 40 := by
  unfold few47 at h
  rw [Bool.and_eq_true] at h
  exact (few_sz h.1).1
theorem files_small {t : Tr} (h : t.sz ≤ 2000000) (p : ByteArray) (hp : p ∈ filesT t) : p.size ≤ 2000000 := Nat.le_trans (files_mem hp).2.1 h
end Go.Proofs.YtocgindpjjolpaaGreatDoor
namespace Go.Proofs.YtocgindpjjolpaaGreatDoor
set_option linter.unusedSimpArgs false
set_option linter.unusedVariables false
theorem swo_ltW (t : Tr) : Swo (ltW t) := ⟨fun x => by unfold ltW; simp, fun x y z h1 h2 => by
  unfold ltW at *
  have h3 := of_decide_eq_true h1
  have h4 := of_decide_eq_true h2
  exact decide_eq_true (by omega), fun x y z h1 h2 => by
  unfold ltW at *
  have h3 := of_decide_eq_false h1
  have h4 := of_decide_eq_false h2
  exact decide_eq_false (by omega)⟩
def Bef {α : Type} (lt : α → α → Bool) (pos : α → Nat) (a b : α) : Prop := lt a b = true ∨ (lt b a = false ∧ pos a < pos b)
theorem ins_pairs {α : Type} {lt : α → α → Bool} (h : Swo lt) (pos : α → Nat) (x : α) : ∀ {l : List α}, l.Pairwise (Bef lt pos) → (∀ y ∈ l, pos y < pos x) → (ins lt x l).Pairwise (Bef lt pos)
  | [], _, _ => List.pairwise_singleton _ _
  | y :: l, hp, hx => by
    rw [ins]
    have hp2 := List.pairwise_cons.1 hp
    cases hxy : lt x y with
    | true =>
      rw [if_pos rfl]
      refine List.pairwise_cons.2 ⟨fun z hz => ?_, hp⟩
      rcases List.mem_cons.1 hz with rfl | hz
      · exact Or.inl hxy
      · left
        rcases hp2.1 z hz with h1 | ⟨h1, -⟩
        · exact h.tr _ _ _ hxy h1
        · cases hxz : lt x z with
          | true => rfl
          | false => rw [h.neg _ _ _ hxz h1] at hxy; cases hxy
    | false =>
      rw [if_neg (by decide)]
      refine List.pairwise_cons.2 ⟨fun z hz => ?_, ins_pairs h pos x hp2.2 (fun z hz => hx z (List.mem_cons_of_mem _ hz))⟩
      rcases ins_mem.1 hz with e | hz
      · rw [e]; exact Or.inr ⟨hxy, hx y (List.mem_cons_self ..)⟩
      · exact hp2.1 z hz
theorem fold_pairs {α : Type} {lt : α → α → Bool} (h : Swo lt) (pos : α → Nat) : ∀ {l acc : List α}, l.Pairwise (fun a b => pos a < pos b) → acc.Pairwise (Bef lt pos) → (∀ a ∈ acc, ∀ x ∈ l, pos a < pos x) → (l.foldl (fun acc x => ins lt x acc) acc).Pairwise (Bef lt pos)
  | [], _, _, ha, _ => ha
  | x :: l, acc, hl, ha, hx => by
    rw [List.foldl_cons]
    have hl2 := List.pairwise_cons.1 hl
    refine fold_pairs h pos hl2.2 (ins_pairs h pos x ha fun y hy => hx y hy x (List.mem_cons_self ..)) fun a hA z hz => ?_
    rcases ins_mem.1 hA with e | hA
    · rw [e]; exact hl2.1 z hz
    · exact hx a hA z (List.mem_cons_of_mem _ hz)
def idxN (l : List ByteArray) (p : ByteArray) : Nat := l.findIdx fun q => decide (q = p)
theorem idxN_at {l : List ByteArray} (hn : l.Nodup) {i : Nat} {p : ByteArray} (h : l[i]? = some p) : idxN l p = i := by
  obtain ⟨hi, e⟩ := List.getElem?_eq_some_iff.1 h
  unfold idxN
  rw [List.findIdx_eq hi]
  refine ⟨decide_eq_true e, fun j hj => decide_eq_false fun e2 => ?_⟩
  have h2 := List.pairwise_iff_getElem.1 hn j i (by omega) hi hj
  exact h2 (e2.trans e.symm)
theorem idxN_pairs {l : List ByteArray} (hn : l.Nodup) : l.Pairwise fun a b => idxN l a < idxN l b := by
  rw [List.pairwise_iff_getElem]
  intro i j hi hj hij
  rw [idxN_at hn (List.getElem?_eq_getElem hi), idxN_at hn (List.getElem?_eq_getElem hj)]
  exact hij
theorem byW_pairs (t : Tr) : (byW t).Pairwise (Bef (ltW t) (idxN (filesT t))) := fold_pairs (swo_ltW t) _ (idxN_pairs (files_nodup t)) List.Pairwise.nil (fun a h => by cases h)
theorem byW_next {t : Tr} {i : Nat} {p q : ByteArray} (hp : (byW t)[i]? = some p) (hq : (byW t)[i + 1]? = some q) : weightP t q ≤ weightP t p ∧ (weightP t q = weightP t p → idxN (filesT t) p < idxN (filesT t) q) := by
  obtain ⟨h1, e1⟩ := List.getElem?_eq_some_iff.1 hp
  obtain ⟨h2, e2⟩ := List.getElem?_eq_some_iff.1 hq
  have h := List.pairwise_iff_getElem.1 (byW_pairs t) i (i + 1) h1 h2 (by omega)
  rw [e1, e2] at h
  rcases h with h | ⟨h, h3⟩
  · have h4 : weightP t q < weightP t p := of_decide_eq_true h
    exact ⟨by omega, fun e => by omega⟩
  · have h4 : ¬ weightP t p < weightP t q := of_decide_eq_false h
    exact ⟨by omega, fun _ => h3⟩
/-! Small trees are placed without a gap. -/
theorem placeL_some {t : Tr} (hp : ∀ p, lenP t p ≤ 100000) : ∀ (l : List ByteArray) (a : Int) (out : List Ext), 0 ≤ a → a + 49 * (l.length : Int) ≤ 4096 → ∃ r, placeL t l a out = some r
  | [], _, _, _, _ => ⟨_, rfl⟩
  | p :: l, a, out, ha, hl => by
    have hb : blocksI (lenP t p : Int) ≤ 49 ∧ 0 ≤ blocksI (lenP t p : Int) := by
      have := hp p
      unfold blocksI
      split <;> omega
    rw [List.length_cons] at hl
    rw [placeL, if_neg (by omega)]
    exact placeL_some hp l _ _ (by omega) (by omega)
theorem gaps_place {t : Tr} (hv : validB t = true) (hp : ∀ p, lenP t p ≤ 100000) (hc : (filesT t).length ≤ 40) {l : List ByteArray} (hl : l.Perm (filesT t)) {a : Int} (h0 : 0 ≤ a) (h1 : a ≤ 255) : placeT t l a = (extsL t l a, 0) := by
  unfold placeT
  rw [if_pos ⟨hv, h0, (sameB_iff (files_nodup t)).2 hl⟩]
  obtain ⟨r, hr⟩ := placeL_some hp l a [] h0 (by have := hl.length_eq; omega)
  rw [hr, placeL_exts hr, List.nil_append]
theorem file_get {t : Tr} {p : ByteArray} (h : p ∈ filesT t) : (getT t p).2 = 0 ∧ (getT t p).1.h.kind = 1 := by
  unfold filesT at h
  obtain ⟨h1, h2⟩ := List.mem_filter.1 h
  unfold isF at h2
  have hv : validB t = true := by
    unfold pathsT at h1
    split at h1
    · assumption
    · cases h1
  unfold getT
  rw [if_pos hv]
  cases hx : findT t (partsP p) with
  | none => rw [hx] at h2; cases h2
  | some x =>
    rw [hx] at h2
    have h3 := of_decide_eq_true h2
    exact ⟨rfl, h3.1⟩
theorem exts_get {t : Tr} : ∀ {l : List ByteArray} {a : Int} {i : Nat} {p : ByteArray}, l[i]? = some p → (extsL t l a)[i]? = some ⟨p, endA t (l.take i) a, lenP t p⟩
  | [], _, _, _, h => by cases h
  | q :: l, a, 0, p, h => by
    have e : q = p := by simpa using h
    subst e
    rfl
  | q :: l, a, i + 1, p, h => by
    have h1 : l[i]? = some p := by simpa using h
    rw [extsL, List.getElem?_cons_succ, exts_get h1, List.take_succ_cons, endA]
theorem endA_next {t : Tr} {l : List ByteArray} {a : Int} {i : Nat} {p : ByteArray} (h : l[i]? = some p) : endA t (l.take (i + 1)) a = endA t (l.take i) a + blocksI (lenP t p) := by
  obtain ⟨hi, e⟩ := List.getElem?_eq_some_iff.1 h
  rw [List.take_succ_eq_append_getElem hi, e, endA_snoc]
end Go.Proofs.YtocgindpjjolpaaGreatDoor
namespace Go.Proofs.YtocgindpjjolpaaGreatDoor
set_option linter.unusedSimpArgs false
set_option linter.unusedVariables false
open Go.RowKit Go.Shelf Go.Sort
theorem compact_id {zs : List (List UInt8)} (h : zs.Nodup) : Lib.compact zs = zs := by
  unfold Lib.compact
  have hz : zs.length = zs.toArray.size := by simp
  rw [Lib.compactUpTo_all _ _ (fun j hj => ?_), hz, Lib.range_map_get]
  by_cases h0 : j = 0
  · subst h0
    exact Lib.keeps_lt_one _ 0 (by decide)
  · refine Lib.keeps_pos ?_
    rw [getElem!_pos zs.toArray j (by simpa using hj), getElem!_pos zs.toArray (j - 1) (by have := hj; simp; omega)]
    simp only [List.getElem_toArray]
    exact fun e => List.pairwise_iff_getElem.1 h (j - 1) j (by omega) hj (by omega) e.symm
theorem below_ahead (w : World) : ∀ n : Nat, Below w.heap.size w (Sort.ahead w n)
  | 0 => Below.refl _ _
  | n + 1 => by rw [← ahead_drew]; exact (below_ahead w n).drew
theorem compact_same (l : List ByteArray) (hn : l.Nodup) (hl : l.length ≤ 100000) (lo : Nat) (v : Value) (w : World) (h : StrsR w lo v l) : Calls Tryz.prog 44 #[v] w fun e w' => ∃ A c, e = .returned (.slice A l.length c) ∧ Below w.heap.size w w' := by
  rcases h.2 with ⟨rfl, h0⟩ | ⟨gb, cap, cur, rfl, hbase, hgb, r1, r2, r3, r4⟩
  · obtain rfl := List.length_eq_zero_iff.1 h0
    exact (Any.slices_Compact_string_empty Tryz.lays194 none 0 w).mono fun e w' ⟨h1, h2⟩ => by subst h2; exact ⟨_, _, h1, Below.refl _ _⟩
  · rw [strV_encStr, Nat.mul_one] at r4
    have hll : (l.map fun s : ByteArray => s.data.toList).length = l.length := List.length_map _
    have hH : Holds encStr w gb 0 (l.map fun s : ByteArray => s.data.toList).toArray := holds_of_block hgb (by rw [hll]; exact r4)
    have hnd : (l.map fun s : ByteArray => s.data.toList).Nodup := by
      rw [List.Nodup, List.pairwise_map]
      exact List.Pairwise.imp (fun hab e => hab (ByteArray.ext (Array.toList_inj.1 e))) hn
    have cS := Any.slices_Compact_string Tryz.lays194 gb 0 cap (l.map fun s : ByteArray => s.data.toList) w hH (by rw [hll]; omega) (by rw [hll]; exact r1)
    rw [compact_id hnd, hll, Nat.sub_self, List.replicate_zero, List.append_nil] at cS
    refine cS.mono fun e w' ⟨h1, q, h2⟩ => ⟨_, _, h1, ?_⟩
    rw [h2, putRow_self encStr (Sort.ahead w q) gb 0 _ (holds_ahead encStr w q gb 0 _ hH)]
    exact below_ahead w q
theorem endA_rng {t : Tr} (hp : ∀ p, lenP t p ≤ 100000) : ∀ (l : List ByteArray) (a : Int), 0 ≤ a → a ≤ endA t l a ∧ endA t l a ≤ a + 49 * (l.length : Int)
  | [], a, _ => ⟨Int.le_refl _, by show a ≤ _; simp⟩
  | p :: l, a, h => by
    have hb : blocksI (lenP t p : Int) ≤ 49 ∧ 0 ≤ blocksI (lenP t p : Int) := by
      have := hp p
      unfold blocksI
      split <;> omega
    have ih := endA_rng hp l (a + blocksI (lenP t p : Int)) (by omega)
    rw [endA, List.length_cons]
    omega
set_option maxRecDepth 100000 in
set_option maxHeartbeats 8000000 in
theorem law_gaps (v : Value) (t : Tr) (va : Value) (acc : List ByteArray) (w : World) (hT : TabV w) (hv : TreeR w w.heap.size v t) (hz : t.sz ≤ 20971520) (ha : SlR w w.heap.size va acc) (s : Int) (hs0 : 0 ≤ s ∧ s ≤ 255) :
    Calls Tryz.prog 10 #[v, va, .int .u8 s] w fun e w' => e = .returned (.bool true) ∧ Below w.heap.size w w' := by
  have AW := hide (fun W (h : Below w.heap.size w W) => awake_any W (hT.below h))
  have HTV := hide hT
  obtain ⟨cn, rfl, hzc⟩ := Nd.cells hv
  have HV := hide hv
  have HA := hide ha
  obtain ⟨aA, cA, rfl, -⟩ := ha
  clear hv hT
  have HL : Live w [] := trivial
  go_enter Tryz.func10, Tryz.ntmps10
  go_upto_region 1 with fail
  have HN1 := hide (Nd.new HV.out hzc)
  have hbel1 : Below w.heap.size w (w.alloc (.cells cn 25)) := (Below.refl _ _).alloc (Nat.le_refl _) _
  generalize w.alloc (.cells cn 25) = W1 at *
  obtain ⟨b, hb⟩ : ∃ b, b = w.heap.size := ⟨_, rfl⟩
  rw [← hb] at HN1 ⊢
  clear hb HV hzc
  have HA1 := hide (HA.out.later2 hbel1)
  have A1 := hide (AW.out W1 hbel1)
  clear AW HA
  go_upto_region 3 with (go_at_call 11; refine A1.out.mono ?_; rintro e w2 ⟨rfl, hb2⟩)
  have HN2 := hide (HN1.out.below hb2)
  have HA2 := hide (HA1.out.later2 hb2)
  have hbel2 := hbel1.trans (hb2.mono hbel1.size)
  clear HN1 HA1 A1 hb2
  have FF := hide (few47_any t acc.length (by omega) (.agg cn) (.slice aA acc.length cA) w2 HN2.out.2.1 ⟨_, _, rfl⟩)
  cases hf : few47 t acc.length with
  | false =>
    rw [hf] at FF
    clear hf
    go_wp2_with (first | ((with_reducible show wpList _ _ _ (Oper.mk (some 20) _ _ _ _ _ :: _) _ _); refine wpList_load_row rfl 25 (.tmp 3) rfl b rfl 25 cn (0, 0) _ HN2.out.1 Tryz.underlying25 rfl (infN HN2.out.2.2) ?_) | (go_at_call 12; refine FF.out.mono ?_; rintro e w3 ⟨rfl, hb3⟩))
    go_ret
    exact ⟨rfl, hbel2.trans (hb3.mono hbel2.size)⟩
  | true =>
  obtain ⟨hs1, hs2⟩ := few47_sz hf
  have hct : t.count ≤ 40 := few47_ct hf
  rw [hf] at FF
  clear hf
  have RV := hide (fun W hW => rvalid_any t (Or.inl (by omega)) (.agg cn) W hW)
  cases hvd : validB t with
  | false =>
    rw [hvd] at RV
    clear hvd
    go_wp2_with (first | ((with_reducible show wpList _ _ _ (Oper.mk (some 20) _ _ _ _ _ :: _) _ _); refine wpList_load_row rfl 25 (.tmp 3) rfl b rfl 25 cn (0, 0) _ HN2.out.1 Tryz.underlying25 rfl (infN HN2.out.2.2) ?_) | (go_at_call 12; refine FF.out.mono ?_; rintro e w3 ⟨rfl, hb3⟩; have HN3 := hide (HN2.out.below hb3)) | ((with_reducible show wpList _ _ _ (Oper.mk (some 25) _ _ _ _ _ :: _) _ _); refine wpList_load_rowG 25 (.tmp 3) rfl rfl b rfl 25 cn (0, 0) _ HN3.out.1 Tryz.underlying25 rfl (infN HN3.out.2.2) ?_) | (go_at_call 31; refine (RV.out _ HN3.out.2.1).mono ?_; rintro e w4 ⟨rfl, hb4⟩))
    go_ret
    exact ⟨rfl, hbel2.trans ((hb3.trans (hb4.mono hb3.size)).mono hbel2.size)⟩
  | true =>
  rw [hvd] at RV
  go_upto_region 5 with (first | ((with_reducible show wpList _ _ _ (Oper.mk (some 20) _ _ _ _ _ :: _) _ _); refine wpList_load_row rfl 25 (.tmp 3) rfl b rfl 25 cn (0, 0) _ HN2.out.1 Tryz.underlying25 rfl (infN HN2.out.2.2) ?_) | (go_at_call 12; refine FF.out.mono ?_; rintro e w3 ⟨rfl, hb3⟩; have HN3 := hide (HN2.out.below hb3)) | ((with_reducible show wpList _ _ _ (Oper.mk (some 25) _ _ _ _ _ :: _) _ _); refine wpList_load_rowG 25 (.tmp 3) rfl rfl b rfl 25 cn (0, 0) _ HN3.out.1 Tryz.underlying25 rfl (infN HN3.out.2.2) ?_) | (go_at_call 31; refine (RV.out _ HN3.out.2.1).mono ?_; rintro e w4 ⟨rfl, hb4⟩))
  have HN4 := hide (HN3.out.below hb4)
  have HA4 := hide ((HA2.out.later2 hb3).later2 hb4)
  have hbel4 := hbel2.trans ((hb3.trans (hb4.mono hb3.size)).mono hbel2.size)
  have HT4 := hide (HTV.out.below hbel4)
  clear HN2 HA2 FF hb3 HN3 hb4 RV HTV hbel1 hbel2
  have FN := hide (files_any t (by omega) (.agg cn) w4 HT4.out HN4.out.2.1)
  have hfl : (filesT t).length ≤ 40 := by have h1 := files_len t; omega
  have HFS := hide (fun p (hp : p ∈ filesT t) => files_small (t := t) (by omega) p hp)
  have SO := hide (fun v W (h : W.ownsRow w4.heap.size 9 1 v (filesT t).length (strV (filesT t))) => sortS_any w4.heap.size (filesT t) (by omega) v W h)
  go_upto_region 7 with (first | ((with_reducible show wpList _ _ _ (Oper.mk (some 29) _ _ _ _ _ :: _) _ _); refine wpList_load_row rfl 25 (.tmp 3) rfl b rfl 25 cn (0, 0) _ HN4.out.1 Tryz.underlying25 rfl (infN HN4.out.2.2) ?_) | (go_at_call 16; (with_reducible refine FN.out.mono ?_); rintro e w5 ⟨r5, rfl, hr5, hb5⟩; have HR5 := hide hr5; have HB5 := hide hb5; obtain ⟨A5, c5, hv5⟩ := own_slice hr5; subst hv5; clear hr5 hb5) | (go_at_call 41; refine (SO.out (.slice A5 (filesT t).length c5) w5 (show w5.ownsRow w4.heap.size 9 1 (.slice A5 (filesT t).length c5) (filesT t).length (strV (filesT t)) from HR5.out)).mono ?_; rintro e w6 ⟨rfl, hr6, hg6⟩; have HR6 := hide hr6; have HG6 := hide hg6; clear hr6 hg6))
  have hb6 : Below w4.heap.size w4 w6 := HB5.out.grown HG6.out HB5.out.size (fun q hq => (HR5.out.lt q hq).1)
  have HALL := hide (show SlR w6 w6.heap.size (.slice A5 (sortB (filesT t)).length c5) (sortB (filesT t)) from SlR.of (show StrsR w6 w4.heap.size (.slice A5 (sortB (filesT t)).length c5) (sortB (filesT t)) by unfold StrsR; rw [sortB_len]; exact HR6.out))
  have HN6 := hide (HN4.out.below hb6)
  have HA6 := hide (HA4.out.later2 hb6)
  have HT6 := hide (HT4.out.below hb6)
  have hbel6 := hbel4.trans (hb6.mono hbel4.size)
  clear FN SO HR5 HB5 HR6 HG6 HN4 HA4 HT4 hb6 hbel4
  have GBW := hide (show ∀ W, Below w6.heap.size w6 W → Calls Tryz.prog 18 #[.agg cn] W fun e w' => ∃ r, e = .returned r ∧ StrsR w' W.heap.size r (byW t) ∧ Below W.heap.size W w' from fun W hW => byWeight_any t (by omega) _ W (HT6.out.below hW) (HN6.out.2.1.later hW))
  have GBA := hide (show ∀ W, Below w6.heap.size w6 W → Calls Tryz.prog 20 #[.agg cn, .slice aA acc.length cA] W fun e w' => ∃ r, e = .returned r ∧ StrsR w' W.heap.size r (byA t acc) ∧ Below W.heap.size W w' from fun W hW => byAccess_any t acc (by omega) (by omega) _ _ W (HT6.out.below hW) (HN6.out.2.1.later hW) (HA6.out.later2 hW))
  have HPW := hide (byW_perm t)
  have HPA := hide (byA_perm t acc)
  have HGP := hide (fun (L : List ByteArray) (hL : L.Perm (filesT t)) => gaps_place hvd (fun p => lenP_le hs1 (by omega) p) hfl hL hs0.1 hs0.2)
  have hk0 : Below w6.heap.size w6 w6 ∧ True := ⟨Below.refl _ _, trivial⟩
  have hk0d : Below w6.heap.size w6 w6.drew ∧ True := ⟨(Below.refl w6.heap.size w6).drew, trivial⟩
  clear hvd
  generalize byW t = l1 at *
  generalize byA t acc = l2 at *
  refine wp_region_noPanic ?_
  refine wp_region_held_drew (S := (fun z => Below w6.heap.size w6 z ∧ True)) (by kernel_rfl) kp (fun hHeld => ?_)
  refine tkZ 0 ⟨some 33, .load 25 (.tmp 3), 25, "law.go:115", #[], none⟩ ?_ (by intro w hSw; (try dsimp only at hSw); refine (exec_load_row 25 (.tmp 3) (by rfl) b (by rfl) 25 cn (0, 0) _ (Blk.below hSw.1 HN6.out.1) Tryz.underlying25 (by rfl) (infN HN6.out.2.2)).trans ?_; with_reducible rfl)
  refine tkZ 2 ⟨some 35, .load 25 (.tmp 3), 25, "law.go:115", #[], none⟩ ?_ (by intro w hSw; (try dsimp only at hSw); refine (exec_load_row 25 (.tmp 3) (by rfl) b (by rfl) 25 cn (0, 0) _ (Blk.below hSw.1 HN6.out.1) Tryz.underlying25 (by rfl) (infN HN6.out.2.2)).trans ?_; with_reducible rfl)
  refine tkZ 3 ⟨some 36, .move (.tmp 1), 26, "law.go:115", #[], none⟩ ?_
  refine tkZ 7 ⟨some 40, .move (.const (.int .i64 0)), 3, "law.go:115", #[], none⟩ ?_
  refine rqS [1] (rqC ⟨some 34, .call ⟨.value (.func 18), #[.tmp 33], #[25]⟩, 26, "law.go:115", #[⟨0, .data⟩], none⟩ (fun K hK => ?_) rq0)
  go_simp
  (go_at_call 18; (with_reducible refine (GBW.out _ hHeld.1).mono ?_); rintro e w8 ⟨r8, rfl, hr8, hb8⟩; have hk8 : Below w6.heap.size w6 w8 ∧ True := ⟨hHeld.1.trans (hb8.mono hHeld.1.size), trivial⟩; have HR8 := hide (SlR.of hr8); obtain ⟨A8, c8, hv8⟩ := own_slice hr8; subst hv8)
  go_wp2_with fail
  refine hK.out _ _ kp (fun hHeld => ?_)
  clear hK K
  try simp only [PT]
  refine rqS [4] (rqC ⟨some 37, .call ⟨.value (.func 20), #[.tmp 35, .tmp 36], #[25, 26]⟩, 26, "law.go:115", #[⟨2, .data⟩, ⟨3, .data⟩, ⟨1, .chain⟩], none⟩ (fun K hK => ?_) rq0)
  go_simp
  (go_at_call 20; (with_reducible refine (GBA.out _ hHeld.1).mono ?_); rintro e w9 ⟨r9, rfl, hr9, hb9⟩; have hk9 : Below w6.heap.size w6 w9 ∧ True := ⟨hHeld.1.trans (hb9.mono hHeld.1.size), trivial⟩; have HR89 := hide (HR8.out.later2 hb9); have HR9 := hide (SlR.of hr9); obtain ⟨A9, c9, hv9⟩ := own_slice hr9; subst hv9; have hk9a : Below w6.heap.size w6 (w9.alloc (.cells #[.slice A8 l1.length c8, .slice A9 l2.length c9] 26)) ∧ True := ⟨hk9.1.alloc hk9.1.size _, trivial⟩)
  go_wp2_with fail
  refine hK.out _ _ kp (fun hHeld => ?_)
  clear hK K
  try simp only [PT]
  refine rqS [5] (rqC ⟨some 38, .buildSlice 63 2 #[(0, .tmp 34), (1, .tmp 37)], 63, "law.go:115", #[⟨1, .data⟩, ⟨4, .data⟩], none⟩ (fun K hK => ?_) rq0)
  go_simp
  refine hK.out _ _ kp (fun hHeld => ?_)
  clear hK K
  try simp only [PT]
  refine tkZ 6 ⟨some 39, .call ⟨.builtin .len, #[.tmp 38], #[63]⟩, 3, "law.go:115", #[⟨5, .data⟩], none⟩ ?_
  refine wpAnyH_done (by kernel_rfl) ?_ _
  refine NoPanic.normal ?_
  have HBB := hide (show Blk (w9.alloc (.cells #[.slice A8 l1.length c8, .slice A9 l2.length c9] 26)) w9.heap.size #[.slice A8 l1.length c8, .slice A9 l2.length c9] 26 from Blk.newAt rfl)
  have hb10 : Below w9.heap.size w9 (w9.alloc (.cells #[.slice A8 l1.length c8, .slice A9 l2.length c9] 26)) := (Below.refl _ _).alloc (Nat.le_refl _) _
  generalize w9.alloc (.cells #[.slice A8 l1.length c8, .slice A9 l2.length c9] 26) = W5 at *
  obtain ⟨bb, hbb⟩ : ∃ bb, bb = w9.heap.size := ⟨_, rfl⟩
  rw [← hbb] at HBB ⊢
  have H1 := hide (HR89.out.later2 hb10)
  have H2 := hide (HR9.out.later2 hb10)
  have HN5 := hide (HN6.out.below hk9a.1)
  have HT5 := hide (HT6.out.below hk9a.1)
  have HAL5 := hide (HALL.out.later2 hk9a.1)
  have hbel5 := hbel6.trans (hk9a.1.mono hbel6.size)
  rw [sortB_len] at HAL5
  clear hbb hb10 HR89 HR9 hr9 hr8 hb9 hb8 HR8 hk8 hk9 hk9a hk0 hk0d GBW GBA HN6 HT6 HALL hbel6 HA6
  go_wp2_with fail
  go_loopw [40] (fun i wr => ∃ (k : Nat), i = .int .i64 (k : Int) ∧ k ≤ 2 ∧ Below W5.heap.size W5 wr) (fun i _ => 2 - (intOf i).toNat)
  case atStart => exact ⟨0, rfl, Nat.zero_le _, Below.refl _ _⟩
  case round =>
    obtain ⟨k, rfl, hk, hbr⟩ := hrel
    by_cases hlt : k < 2
    · obtain ⟨L, A0, c0, hc0, hL0, hPL⟩ : ∃ (L : List ByteArray) (A0 : Option Addr) (c0 : Nat), wr.cell? ⟨bb, k, none⟩ = some (.slice A0 L.length c0) ∧ SlR wr wr.heap.size (.slice A0 L.length c0) L ∧ L.Perm (filesT t) := by
        rcases (show k = 0 ∨ k = 1 by omega) with rfl | rfl
        · exact ⟨l1, A8, c8, (Blk.below hbr HBB.out).cells 0, H1.out.later2 hbr, HPW.out⟩
        · exact ⟨l2, A9, c9, (Blk.below hbr HBB.out).cells 1, H2.out.later2 hbr, HPA.out⟩
      have HL := hide hL0
      have HPL := hide hPL
      have hln := hPL.length_eq
      have HNr := hide (HN5.out.below hbr)
      have HALr := hide (HAL5.out.later2 hbr)
      have HTr := hide (HT5.out.below hbr)
      have HBr := hide hbr
      have HND := hide (show (sortB L).Nodup from (sortB_perm L).nodup_iff.2 (hPL.nodup_iff.2 (files_nodup t)))
      have HSE := hide (show sortB L = sortB (filesT t) from sortB_eq.2 hPL)
      have HGL := hide (HGP.out L hPL)
      have HFL := hide (fun p (hp : p ∈ L) => (hPL.mem_iff (a := p)).1 hp)
      clear hL0 hPL hbr
      have VC := hide (fun W => valuesC A0 L.length c0 W)
      have SV := hide (fun c W (hW : Below wr.heap.size wr W) hc hB => sortedV_any L (by omega) (.slice A0 L.length c0) wr W HL.out hW c hc hB)
      have EQ := hide (fun W v (hW : Below wr.heap.size wr W) (hv : SlR W W.heap.size v (sortB L)) => (by have h := sequal_any (sortB L) (sortB (filesT t)) v (.slice A5 (filesT t).length c5) W.heap.size (by rw [sortB_len]; omega) (by rw [sortB_len]; omega) W hv (HALr.out.later2 hW); rw [decide_eq_true HSE.out] at h; exact h : Calls Tryz.prog 15 #[v, .slice A5 (filesT t).length c5] W fun e w' => e = .returned (.bool true) ∧ Below W.heap.size W w'))
      have CS := hide (fun lo v W h => compact_same (sortB L) HND.out (by rw [sortB_len]; omega) lo v W h)
      have PL := hide (show ∀ W, Below wr.heap.size wr W → Calls Tryz.prog 22 #[.agg cn, .slice A0 L.length c0, .int .i64 s] W fun e w' => ∃ A c, e = .returned (.tuple #[.slice A L.length c, .int .i64 0]) ∧ SlF w' w'.heap.size (.slice A (extsL t L s).length c) (extsL t L s) ∧ Below W.heap.size W w' from fun W hW =>
        (place_any t L s (by omega) (by omega) (fun p hp => HFS.out p (HFL.out p hp)) (by omega) (.agg cn) (.slice A0 L.length c0) W (HTr.out.below hW) (HNr.out.2.1.later hW) (HL.out.later2 hW)).mono fun e w' ⟨r, h1, h2, h3⟩ => by
          rw [HGL.out] at h1 h2
          obtain ⟨A, c, e1⟩ := own_slice h2
          subst e1
          refine ⟨A, c, ?_, SlF.of (own_base h2 (Nat.le_refl _)), h3⟩
          rw [h1]
          show Ending.returned (.tuple #[.slice A (extsL t L s).length c, _]) = _
          rw [exts_len])
      have hne2 : ((L.length : Int) != (L.length : Int)) = false := by simp
      have hne3 : (((sortB L).length : Int) != ((filesT t).length : Int)) = false := by rw [sortB_len, hln]; simp
      have HLN := hide hln
      have hl40 : L.length ≤ 40 := by omega
      clear hln
      go_upto_region 17 with (first | (go_at_call 43; refine (VC.out _).mono ?_; rintro e w10 ⟨c10, rfl, hc10, hB10, hb10⟩) | (go_at_call 42; refine (SV.out c10 w10 hb10 hc10 hB10).mono ?_; rintro e w11 ⟨r11, rfl, hr11, hb11⟩; have HR11 := hide hr11; have HB11 := hide (hb10.trans (hb11.mono hb10.size)); obtain ⟨A11, c11, hv11⟩ := own_slice hr11; subst hv11; clear hr11 hb11 hB10 hc10 hb10) | (go_at_call 15; refine (EQ.out w11 _ HB11.out (SlR.of HR11.out)).mono ?_; rintro e w12 ⟨rfl, hb12⟩; have HR12 := hide (below_row' HR11.out hb12); have HB12 := hide (HB11.out.trans (hb12.mono HB11.out.size)); clear hb12) | (go_at_call 44; refine (CS.out _ (.slice A11 (sortB L).length c11) w12 HR12.out).mono ?_; rintro e w13 ⟨A13, c13, rfl, hb13⟩; have HB13 := hide (HB12.out.trans (hb13.mono HB12.out.size)); have HN13 := hide (HNr.out.below HB13.out); clear hb13) | ((with_reducible show wpList _ _ _ (Oper.mk (some 60) _ _ _ _ _ :: _) _ _); refine wpList_load_row rfl 25 (.tmp 3) rfl b rfl 25 cn (0, 0) _ HN13.out.1 Tryz.underlying25 rfl (infN HN13.out.2.2) ?_) | (go_at_call 22; refine (PL.out w13 HB13.out).mono ?_; rintro e w14 ⟨A14, c14, rfl, hf14, hb14⟩; have HF14 := hide hf14; have HB14 := hide (HB13.out.trans (hb14.mono HB13.out.size)); clear hf14 hb14))
      have HL14 := hide (HL.out.later2 HB14.out)
      have HN14 := hide (HNr.out.below HB14.out)
      have hbel14 := hbel5.trans ((HBr.out.trans (HB14.out.mono HBr.out.size)).mono hbel5.size)
      have HB14r := hide (HBr.out.trans (HB14.out.mono HBr.out.size))
      obtain ⟨Af, cf, ev, hfs⟩ := HF14.out
      injection ev with ev1 ev2 ev3
      subst ev1; subst ev3
      obtain ⟨Al, cl, evl, hls⟩ := HL14.out
      injection evl with evl1 evl2 evl3
      subst evl1; subst evl3
      have HFR := hide hfs
      have HLR := hide hls
      clear VC SV EQ CS PL HR11 HB11 HR12 HB12 HB13 HN13 HB14 HF14 HL14 hfs hls ev2 evl2 HGL HSE HND HLN HALr HTr HNr HL HBr hne2 hne3 hc0
      go_wp2_with fail
      go_loopw [13, 80] (fun a i wi => ∃ j : Nat, i = .int .i64 (j : Int) ∧ j ≤ L.length ∧ a = .int .i64 (endA t (L.take j) s) ∧ Below w14.heap.size w14 wi) (fun _ i _ => L.length - (intOf i).toNat)
      case atStart => exact ⟨0, rfl, Nat.zero_le _, rfl, Below.refl _ _⟩
      case round =>
        obtain ⟨j, rfl, hj, rfl, hbi⟩ := hrel
        by_cases hjl : j < L.length
        · obtain ⟨p, hp⟩ : ∃ p, L[j]? = some p := ⟨_, List.getElem?_eq_getElem hjl⟩
          have hpf := HFL.out p (List.mem_of_getElem? hp)
          have hx := exts_get (t := t) (a := s) hp
          obtain ⟨gF, oF, rfl, hgF, hclF⟩ := HFR.out (by rw [exts_len]; omega)
          obtain ⟨gL, oL, rfl, hgL, hclL⟩ := HLR.out (by omega)
          have hRF := range_below hbi hgF (hclF j _ hx)
          have cp : wr.cell? ⟨gL, oL + j, none⟩ = some (.string p) := (hbi.cell (p := ⟨gL, oL + j, none⟩) hgL).trans (hclL j p hp)
          have hE := endA_next (t := t) (a := s) hp
          have hnn := file_len hpf
          have hfg := file_get hpf
          have hps := HFS.out p hpf
          have hrg := endA_rng (t := t) (fun p => lenP_le hs1 (by omega) p) (L.take j) s hs0.1
          have hlen : lenP t p = (getT t p).1.h.data.size := rfl
          have hle := lenP_le hs1 (by omega) p
          have HNi := hide (HN14.out.below hbi)
          have HBi := hide hbi
          have hszi := hbi.size
          have hgL2 : gL < wr.heap.size := by omega
          have RG := hide (fun W hW => rget_any t p (by omega) (by omega) (.agg cn) W hW)
          obtain ⟨x, er, hxe⟩ : ∃ x er, getT t p = (x, er) := ⟨_, _, rfl⟩
          rw [hxe] at hlen hfg RG
          dsimp only at hlen hfg RG
          obtain ⟨her, hkd⟩ := hfg
          subst her
          rw [hlen] at hRF hE hnn hle
          rw [List.length_take] at hrg
          generalize endA t (L.take j) s = at0 at *
          have hat : 0 ≤ at0 ∧ at0 ≤ 4096 := by omega
          have hbk : 0 ≤ blocksI (x.h.data.size : Int) ∧ blocksI (x.h.data.size : Int) ≤ 49 := by
            unfold blocksI
            split <;> omega
          have HE := hide hE
          have HKD := hide hkd
          have RF := hide (show wr.rangeAt gF (oF + j * 3) (extA ⟨p, at0, (x.h.data.size : Int)⟩).toList from hRF)
          have n0 : ((x.h.data.size : Int) == 0) = false := by rw [beq_eq_false_iff_ne]; omega
          have BL := hide (fun W => blocks_any (x.h.data.size : Int) (by omega) W)
          clear hrg hE hkd hRF hx hpf hclF hclL hxe hlen hbi hp hgF
          go_upto_region 20 with (first | ((with_reducible show wpList _ _ _ (Oper.mk (some 84) _ _ _ _ _ :: _) _ _); refine wpList_load_midA rfl 69 (.tmp 83) rfl gF (oF + j * 3) rfl (extA ⟨p, at0, (x.h.data.size : Int)⟩) _ RF.out Tryz.underlying69 rfl (by rw [Array.length_toList]; exact infF rfl) ?_) | ((with_reducible show wpList _ _ _ (Oper.mk none _ _ _ _ _ :: _) _ _); refine wpList_store_new rfl 69 (.tmp 15) (.tmp 84) rfl (extA ⟨p, at0, (x.h.data.size : Int)⟩) rfl rfl 69 _ (infF rfl) rfl (by kernel_rfl) ?_))
          have HFB := hide (show Blk (wr.alloc (.cells (extA ⟨p, at0, (x.h.data.size : Int)⟩) 69)) wr.heap.size (extA ⟨p, at0, (x.h.data.size : Int)⟩) 69 from Blk.newAt rfl)
          have hb15 : Below wr.heap.size wr (wr.alloc (.cells (extA ⟨p, at0, (x.h.data.size : Int)⟩) 69)) := (Below.refl _ _).alloc (Nat.le_refl _) _
          have d15 : (wr.alloc (.cells (extA ⟨p, at0, (x.h.data.size : Int)⟩) 69)).cell? ⟨gL, oL + j, none⟩ = some (.string p) := (hb15.cell (p := ⟨gL, oL + j, none⟩) hgL2).trans cp
          have HN15 := hide (HNi.out.below hb15)
          have d0 : (wr.alloc (.cells (extA ⟨p, at0, (x.h.data.size : Int)⟩) 69)).cell? ⟨wr.heap.size, 0, none⟩ = some (.string p) := HFB.out.cells 0
          generalize wr.alloc (.cells (extA ⟨p, at0, (x.h.data.size : Int)⟩) 69) = W15 at *
          obtain ⟨fb, hfb⟩ : ∃ fb, fb = wr.heap.size := ⟨_, rfl⟩
          rw [← hfb] at HFB d0 ⊢
          have hgL3 : gL < W15.heap.size := by have := hb15.size; omega
          clear hfb RF cp HNi
          go_upto_region 21 with (first | ((with_reducible show wpList _ _ _ (Oper.mk (some 86) _ _ _ _ _ :: _) _ _); refine wpList_load_row rfl 25 (.tmp 3) rfl b rfl 25 cn (0, 0) _ HN15.out.1 Tryz.underlying25 rfl (infN HN15.out.2.2) ?_) | (go_at_call 35; refine (RG.out _ HN15.out.2.1).mono ?_; rintro e w16 ⟨v4, rfl, hv4, hb16⟩; have HV4 := hide hv4; have HB16 := hide hb16; clear hv4 hb16) | ((with_reducible show wpList _ _ _ (Oper.mk none _ _ _ _ _ :: _) _ _); refine store_tree rfl (.tmp 16) (.tmp 90) rfl v4 _ rfl rfl rfl HV4.out ?_; rintro ca rfl hzca h1ca))
          obtain ⟨A4, c4, A2, c2, e4, -, -⟩ := HV4.out.open
          injection e4 with e4
          subst e4
          have HNB := hide (NodeB.new w16 x.h (.slice A4 x.ks.len c4) (.slice A2 x.ss.length c2))
          have hb17 : Below W15.heap.size W15 (w16.alloc (.cells (x.h.cells (.slice A4 x.ks.len c4) (.slice A2 x.ss.length c2)) 25)) := HB16.out.alloc HB16.out.size _
          clear RG HN15 HV4 HB16 hzca h1ca d0
          generalize w16.alloc (.cells (x.h.cells (.slice A4 x.ks.len c4) (.slice A2 x.ss.length c2)) 25) = W17 at *
          generalize w16.heap.size = nb at *
          have HF17 := hide (Blk.below hb17 HFB.out)
          have d17 : W17.cell? ⟨gL, oL + j, none⟩ = some (.string p) := (hb17.cell (p := ⟨gL, oL + j, none⟩) hgL3).trans d15
          have hbi17 := HBi.out.trans ((hb15.trans (hb17.mono hb15.size)).mono hszi)
          clear d15 HFB hb15 hb17 HBi
          have hk0 : (Blk W17 fb (extA ⟨p, at0, (x.h.data.size : Int)⟩) 69 ∧ NodeB W17 nb x.h (.slice A4 x.ks.len c4) (.slice A2 x.ss.length c2) ∧ W17.cell? ⟨gL, oL + j, none⟩ = some (.string p)) ∧ True := ⟨⟨HF17.out, HNB.out, d17⟩, trivial⟩
          have hk0d : (Blk W17.drew fb (extA ⟨p, at0, (x.h.data.size : Int)⟩) 69 ∧ NodeB W17.drew nb x.h (.slice A4 x.ks.len c4) (.slice A2 x.ss.length c2) ∧ W17.drew.cell? ⟨gL, oL + j, none⟩ = some (.string p)) ∧ True := ⟨⟨HF17.out, ⟨HNB.out.blk⟩, d17⟩, trivial⟩
          refine wp_region_noPanic ?_
          refine wp_region_held_drew (S := (fun z => (Blk z fb (extA ⟨p, at0, (x.h.data.size : Int)⟩) 69 ∧ NodeB z nb x.h (.slice A4 x.ks.len c4) (.slice A2 x.ss.length c2) ∧ z.cell? ⟨gL, oL + j, none⟩ = some (.string p)) ∧ True)) (by kernel_rfl) kp (fun hHeld => ?_)
          refine tkZ 0 ⟨some 92, .fieldAddr 69 (.tmp 15) 0, 0, "law.go:127", #[], none⟩ ?_
          refine tkZ 1 ⟨some 93, .load 9 (.tmp 92), 9, "law.go:127", #[⟨0, .data⟩], none⟩ ?_ (by intro w hSw; (try dsimp only at hSw); have c1 := hSw.1.1.cells 0; go_simp; (try with_reducible rfl))
          refine tkZ 2 ⟨some 94, .move (.tmp 9), 26, "law.go:127", #[], none⟩ ?_
          refine tkZ 3 ⟨some 95, .move (.tmp 14), 3, "law.go:127", #[], none⟩ ?_
          refine tkZ 4 ⟨some 96, .indexAddr 26 (.tmp 94) (.tmp 95), 0, "law.go:127", #[⟨2, .data⟩, ⟨3, .data⟩], none⟩ ?_
          refine tkZ 5 ⟨some 97, .load 9 (.tmp 96), 9, "law.go:127", #[⟨4, .data⟩], none⟩ ?_ (by intro w hSw; (try dsimp only at hSw); have c1 := hSw.1.2.2; go_simp; (try with_reducible rfl))
          refine tkZ 6 ⟨some 98, .binOp .neq 9 (.tmp 93) (.tmp 97) 9, 4, "law.go:127", #[⟨1, .data⟩, ⟨5, .data⟩], none⟩ ?_
          refine tkZ 7 ⟨some 99, .move (.tmp 98), 4, "law.go:127", #[⟨6, .data⟩], none⟩ ?_
          refine tkZ 8 ⟨some 100, .fieldAddr 69 (.tmp 15) 1, 0, "law.go:127", #[⟨7, .guard⟩], some (7, false)⟩ ?_
          refine tkZ 9 ⟨some 101, .load 3 (.tmp 100), 3, "law.go:127", #[⟨8, .data⟩, ⟨7, .guard⟩], some (7, false)⟩ ?_ (by intro w hSw; (try dsimp only at hSw); have c1 := hSw.1.1.cells 1; go_simp; (try with_reducible rfl))
          refine tkZ 10 ⟨some 102, .move (.tmp 13), 3, "law.go:127", #[⟨7, .guard⟩], some (7, false)⟩ ?_
          refine tkZ 11 ⟨some 103, .binOp .neq 3 (.tmp 101) (.tmp 102) 3, 4, "law.go:127", #[⟨9, .data⟩, ⟨10, .data⟩, ⟨7, .guard⟩], some (7, false)⟩ ?_
          refine tkZ 12 ⟨some 104, .pick (.tmp 99) (.const (.bool true)) (.tmp 103), 4, "law.go:127", #[⟨7, .data⟩, ⟨11, .data⟩], none⟩ ?_
          refine tkZ 13 ⟨some 105, .move (.tmp 104), 4, "law.go:127", #[⟨12, .data⟩, ⟨7, .chain⟩], none⟩ ?_
          refine tkZ 14 ⟨some 106, .move (.tmp 17), 29, "law.go:127", #[⟨13, .guard⟩], some (13, false)⟩ ?_
          refine tkZ 15 ⟨some 107, .binOp .neq 29 (.tmp 106) (.const (.int .i64 0)) 29, 4, "law.go:127", #[⟨14, .data⟩, ⟨13, .guard⟩], some (13, false)⟩ ?_
          refine tkZ 16 ⟨some 108, .pick (.tmp 105) (.const (.bool true)) (.tmp 107), 4, "law.go:127", #[⟨13, .data⟩, ⟨15, .data⟩], none⟩ ?_
          refine tkZ 17 ⟨some 109, .move (.tmp 108), 4, "law.go:127", #[⟨16, .data⟩, ⟨13, .chain⟩], none⟩ ?_
          refine tkZ 18 ⟨some 110, .fieldAddr 25 (.tmp 16) 1, 0, "law.go:127", #[⟨17, .guard⟩], some (17, false)⟩ ?_
          refine tkZ 19 ⟨some 111, .load 3 (.tmp 110), 3, "law.go:127", #[⟨18, .data⟩, ⟨17, .guard⟩], some (17, false)⟩ ?_ (by intro w hSw; (try dsimp only at hSw); have c1 := hSw.1.2.1.c1; rw [HKD.out] at c1; go_simp; (try with_reducible rfl))
          refine tkZ 20 ⟨some 112, .binOp .neq 3 (.tmp 111) (.const (.int .i64 1)) 3, 4, "law.go:127", #[⟨19, .data⟩, ⟨17, .guard⟩], some (17, false)⟩ ?_
          refine tkZ 21 ⟨some 113, .pick (.tmp 109) (.const (.bool true)) (.tmp 112), 4, "law.go:127", #[⟨17, .data⟩, ⟨20, .data⟩], none⟩ ?_
          refine tkZ 22 ⟨some 114, .move (.tmp 113), 4, "law.go:127", #[⟨21, .data⟩, ⟨17, .chain⟩], none⟩ ?_
          refine tkZ 23 ⟨some 115, .fieldAddr 69 (.tmp 15) 2, 0, "law.go:127", #[⟨22, .guard⟩], some (22, false)⟩ ?_
          refine tkZ 24 ⟨some 116, .load 3 (.tmp 115), 3, "law.go:127", #[⟨23, .data⟩, ⟨22, .guard⟩], some (22, false)⟩ ?_ (by intro w hSw; (try dsimp only at hSw); have c1 := hSw.1.1.cells 2; go_simp; (try with_reducible rfl))
          refine tkZ 25 ⟨some 117, .fieldAddr 25 (.tmp 16) 2, 0, "law.go:127", #[⟨22, .guard⟩], some (22, false)⟩ ?_
          refine tkZ 26 ⟨some 118, .load 9 (.tmp 117), 9, "law.go:127", #[⟨25, .data⟩, ⟨22, .guard⟩], some (22, false)⟩ ?_ (by intro w hSw; (try dsimp only at hSw); have c1 := hSw.1.2.1.c2; go_simp; (try with_reducible rfl))
          refine tkZ 27 ⟨some 119, .call ⟨.builtin .len, #[.tmp 118], #[9]⟩, 3, "law.go:127", #[⟨26, .data⟩, ⟨22, .guard⟩], some (22, false)⟩ ?_
          refine tkZ 28 ⟨some 120, .binOp .neq 3 (.tmp 116) (.tmp 119) 3, 4, "law.go:127", #[⟨24, .data⟩, ⟨27, .data⟩, ⟨22, .guard⟩], some (22, false)⟩ ?_
          refine tkZ 29 ⟨some 121, .pick (.tmp 114) (.const (.bool true)) (.tmp 120), 4, "law.go:127", #[⟨22, .data⟩, ⟨28, .data⟩], none⟩ ?_
          refine tkZ 30 ⟨some 122, .move (.tmp 121), 4, "law.go:127", #[⟨29, .data⟩, ⟨22, .chain⟩], none⟩ ?_
          refine tkZ 31 ⟨some 123, .fieldAddr 69 (.tmp 15) 2, 0, "law.go:127", #[⟨30, .guard⟩], some (30, false)⟩ ?_
          refine tkZ 32 ⟨some 124, .load 3 (.tmp 123), 3, "law.go:127", #[⟨31, .data⟩, ⟨30, .guard⟩], some (30, false)⟩ ?_ (by intro w hSw; (try dsimp only at hSw); have c1 := hSw.1.1.cells 2; go_simp; (try with_reducible rfl))
          refine tkZ 33 ⟨some 125, .binOp .eql 3 (.tmp 124) (.const (.int .i64 0)) 3, 4, "law.go:127", #[⟨32, .data⟩, ⟨30, .guard⟩], some (30, false)⟩ ?_
          refine tkZ 34 ⟨some 126, .pick (.tmp 122) (.const (.bool true)) (.tmp 125), 4, "law.go:127", #[⟨30, .data⟩, ⟨33, .data⟩], none⟩ ?_
          refine wpAnyH_done (by kernel_rfl) ?_ _
          refine NoPanic.normal ?_
          have HF18 := hide (show Blk W17.drew fb (extA ⟨p, at0, (x.h.data.size : Int)⟩) 69 from HF17.out)
          have e2 : W17.drew.cell? ⟨fb, 2, none⟩ = some (.int .i64 (x.h.data.size : Int)) := HF18.out.cells 2
          have hbi18 := hbi17.drew
          clear hk0 hk0d HF17 HNB d17 hbi17
          generalize W17.drew = W18 at *
          go_wp2_with (go_at_call 24; refine (BL.out _).mono ?_; rintro e w19 ⟨rfl, hw19⟩; subst hw19)
          go_roundw
          case rel => exact ⟨j + 1, by go_num, by omega, by rw [HE.out], hbi18⟩
          case measure => simp [intOf]; omega
        · obtain rfl : j = L.length := by omega
          go_wp2_with fail
          go_roundw
          case rel => exact ⟨k + 1, by go_num, by omega, HB14r.out.trans (hbi.mono HB14r.out.size)⟩
          case measure => simp [intOf]; omega
    · obtain rfl : k = 2 := by omega
      go_wp2_with fail
      go_ret
      exact ⟨rfl, hbel5.trans (hbr.mono hbel5.size)⟩
end Go.Proofs.YtocgindpjjolpaaGreatDoor
namespace Go.Proofs.YtocgindpjjolpaaGreatDoor
set_option linter.unusedSimpArgs false
set_option linter.unusedVariables false
theorem idxN_mem {fs : List ByteArray} {p : ByteArray} (h : p ∈ fs) : idxN fs p < fs.length ∧ fs[idxN fs p]? = some p := by
  have h1 : idxN fs p < fs.length := List.findIdx_lt_length_of_exists ⟨p, h, decide_eq_true rfl⟩
  have h2 := List.findIdx_getElem (w := h1)
  exact ⟨h1, by rw [List.getElem?_eq_getElem h1]; exact congrArg some (of_decide_eq_true h2)⟩
end Go.Proofs.YtocgindpjjolpaaGreatDoor
