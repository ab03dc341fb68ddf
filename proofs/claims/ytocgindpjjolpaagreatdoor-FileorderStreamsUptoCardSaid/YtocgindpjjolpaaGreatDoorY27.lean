/- Contracts and plain words for the laws of this chapter, part 27: Lb, Fp4, Lc. No condition. -/
import Derived.Test.YtocgindpjjolpaaGreatDoorY24
import Derived.Test.YtocgindpjjolpaaGreatDoorY26
import Derived.Test.YtocgindpjjolpaaGreatDoorY19
import Derived.Test.YtocgindpjjolpaaGreatDoorY22
import Derived.Test.YtocgindpjjolpaaGreatDoorY21
import Derived.Test.YtocgindpjjolpaaGreatDoorY14
namespace Go.Proofs.YtocgindpjjolpaaGreatDoor
set_option linter.unusedSimpArgs false
set_option linter.unusedVariables false
open Go.RowKit
set_option maxRecDepth 100000 in
set_option maxHeartbeats 4000000 in
theorem law_places (v : Value) (t : Tr) (vo : Value) (order : List ByteArray) (start len : Int) (w : World) (hT : TabV w) (hv : TreeR w w.heap.size v t) (hz : t.sz ≤ 20971520) (ho : SlR w w.heap.size vo order) (hcp : CapS vo order) (hos : ∀ p ∈ order, p.size ≤ 2000000)
    (hst : -9223372036854775808 ≤ start ∧ start ≤ 9223372036854775807) (hln : -9223372036854775808 ≤ len ∧ len ≤ 9223372036854775807) :
    Calls Tryz.prog 4 #[v, vo, .int .i64 start, .int .i64 len] w fun e w' => e = .returned (.bool true) ∧ Below w.heap.size w w' := by
  have AW := hide (fun W (h : Below w.heap.size w W) => awake_any W (hT.below h))
  have HTV := hide hT
  obtain ⟨cn, rfl, hzc⟩ := Nd.cells hv
  have HV := hide hv
  have HO := hide ho
  obtain ⟨aO, cO, rfl, -⟩ := ho
  have HCP := hide hcp
  have HOS := hide hos
  clear hv hcp hos hT
  have HL : Live w [] := trivial
  go_enter Tryz.func4, Tryz.ntmps4
  go_upto_region 1 with fail
  have HN1 := hide (Nd.new HV.out hzc)
  have hbel1 : Below w.heap.size w (w.alloc (.cells cn 25)) := (Below.refl _ _).alloc (Nat.le_refl _) _
  generalize w.alloc (.cells cn 25) = W1 at *
  obtain ⟨b, hb⟩ : ∃ b, b = w.heap.size := ⟨_, rfl⟩
  rw [← hb] at HN1 ⊢
  clear hb HV hzc
  have HO1 := hide (HO.out.later2 hbel1)
  have A1 := hide (AW.out W1 hbel1)
  clear AW HO
  go_upto_region 3 with (go_at_call 11; refine A1.out.mono ?_; rintro e w2 ⟨rfl, hb2⟩)
  have HN2 := hide (HN1.out.below hb2)
  have HO2 := hide (HO1.out.later2 hb2)
  have hbel2 := hbel1.trans (hb2.mono hbel1.size)
  clear HN1 HO1 A1 hb2
  have FF := hide (few47_any t order.length (by omega) (.agg cn) (.slice aO order.length cO) w2 HN2.out.2.1 ⟨_, _, rfl⟩)
  cases hf : few47 t order.length with
  | false =>
    rw [hf] at FF
    clear hf
    go_wp2_with (first | ((with_reducible show wpList _ _ _ (Oper.mk (some 15) _ _ _ _ _ :: _) _ _); refine wpList_load_row rfl 25 (.tmp 4) rfl b rfl 25 cn (0, 0) _ HN2.out.1 Tryz.underlying25 rfl (infN HN2.out.2.2) ?_) | (go_at_call 12; refine FF.out.mono ?_; rintro e w3 ⟨rfl, hb3⟩))
    go_ret
    exact ⟨rfl, hbel2.trans (hb3.mono hbel2.size)⟩
  | true =>
  obtain ⟨hs1, hs2⟩ := few47_sz hf
  rw [hf] at FF
  clear hf
  go_upto_region 5 with (first | ((with_reducible show wpList _ _ _ (Oper.mk (some 15) _ _ _ _ _ :: _) _ _); refine wpList_load_row rfl 25 (.tmp 4) rfl b rfl 25 cn (0, 0) _ HN2.out.1 Tryz.underlying25 rfl (infN HN2.out.2.2) ?_) | (go_at_call 12; refine FF.out.mono ?_; rintro e w3 ⟨rfl, hb3⟩))
  have HN3 := hide (HN2.out.below hb3)
  have HO3 := hide (HO2.out.later2 hb3)
  have hbel3 := hbel2.trans (hb3.mono hbel2.size)
  clear HN2 HO2 FF hb3
  have PL := hide (place_any t order start (by omega) (by omega) HOS.out hst (.agg cn) (.slice aO order.length cO) w3 (HTV.out.below hbel3) HN3.out.2.1 HO3.out)
  have RP := hide (fun W (h : Below w3.heap.size w3 W) => rPlace_any t order start (by omega) (by omega) HOS.out hst (.agg cn) (.slice aO order.length cO) W (HN3.out.2.1.later h) (HO3.out.later2 h) HCP.out)
  generalize hpt : placeT t order start = pt at *
  have hptl : pt.1.length ≤ 1000000 := by
    have h := (placeT_ok (t := t) (by omega) (o := order) (s := start) HOS.out).2
    rw [hpt] at h
    omega
  clear hpt
  go_upto_region 6 with (first | ((with_reducible show wpList _ _ _ (Oper.mk (some 20) _ _ _ _ _ :: _) _ _); refine wpList_load_row rfl 25 (.tmp 4) rfl b rfl 25 cn (0, 0) _ HN3.out.1 Tryz.underlying25 rfl (infN HN3.out.2.2) ?_) | (go_at_call 22; refine PL.out.mono ?_; rintro e w4 ⟨r4, rfl, hr4, hb4⟩))
  have HN4 := hide (HN3.out.below hb4)
  have HF4 := hide (SlF.of (own_base hr4 (Nat.le_refl _)))
  have RP4 := hide (RP.out w4 hb4)
  have hbel4 := hbel3.trans (hb4.mono hbel3.size)
  clear hr4 hb4 RP PL HN3
  go_upto_region 7 with (first | ((with_reducible show wpList _ _ _ (Oper.mk (some 27) _ _ _ _ _ :: _) _ _); refine wpList_load_row rfl 25 (.tmp 4) rfl b rfl 25 cn (0, 0) _ HN4.out.1 Tryz.underlying25 rfl (infN HN4.out.2.2) ?_) | (go_at_call 23; refine RP4.out.mono ?_; rintro e w5 ⟨r5, rfl, hr5, hb5⟩))
  have HF5 := hide (SlF.of (own_base hr5 (Nat.le_refl _)))
  have HF45 := hide (HF4.out.later2 hb5)
  have hbel5 := hbel4.trans (hb5.mono hbel4.size)
  have SA := hide (same_any pt.1 pt.1 r4 r5 hptl hptl w5 HF45.out HF5.out)
  rw [decide_eq_true rfl] at SA
  have B1 := hide (fun W => blocks_any len hln W)
  have B2 := hide (fun W => rblocks_any len hln W)
  have q1 : (blocksI len == blocksI len) = true := by simp
  have q2 : (pt.2 == pt.2) = true := by simp
  clear hr5 hb5 HF5 HF45 HF4 RP4
  go_wp2_with (first | (go_at_call 24; refine (B1.out _).mono ?_; rintro e w6 ⟨rfl, hw6⟩; subst hw6) | (go_at_call 25; refine (B2.out _).mono ?_; rintro e w7 ⟨rfl, hw7⟩; subst hw7) | (go_at_call 26; refine SA.out.mono ?_; rintro e w8 ⟨rfl, hb8⟩))
  go_ret
  exact ⟨rfl, hbel5.trans (hb8.mono hbel5.size)⟩
end Go.Proofs.YtocgindpjjolpaaGreatDoor
namespace Go.Proofs.YtocgindpjjolpaaGreatDoor
set_option linter.unusedSimpArgs false
set_option linter.unusedVariables false
theorem ins_perm {α : Type} (lt : α → α → Bool) (x : α) : ∀ l : List α, (ins lt x l).Perm (x :: l)
  | [] => by rw [ins]
  | y :: l => by
    rw [ins]
    split
    · exact List.Perm.refl _
    · exact ((ins_perm lt x l).cons y).trans (List.Perm.swap _ _ _)
theorem srt_perm {α : Type} (lt : α → α → Bool) (l : List α) : (srt lt l).Perm l := by
  have h : ∀ (l acc : List α), (l.foldl (fun acc x => ins lt x acc) acc).Perm (l ++ acc) := by
    intro l
    induction l with
    | nil => exact fun acc => List.Perm.refl _
    | cons x l ih => exact fun acc => (ih _).trans (((ins_perm lt x acc).append_left l).trans List.perm_middle)
  have := h l []
  rwa [List.append_nil] at this
theorem byW_perm (t : Tr) : (byW t).Perm (filesT t) := srt_perm _ _
theorem addA_mem {all out : List ByteArray} {p q : ByteArray} : q ∈ addA all out p ↔ q ∈ out ∨ (q = p ∧ p ∈ all) := by
  unfold addA
  cases h1 : hasS all p with
  | false =>
    rw [Bool.false_and, if_neg (by decide)]
    exact ⟨Or.inl, fun h => h.elim id (fun h => absurd h.2 (hasS_no.1 h1))⟩
  | true =>
    have h3 := hasS_iff.1 h1
    cases h2 : hasS out p with
    | true =>
      rw [Bool.not_true, Bool.and_false, if_neg (by decide)]
      exact ⟨Or.inl, fun h => h.elim id (fun h => by rw [h.1]; exact hasS_iff.1 h2)⟩
    | false =>
      rw [Bool.not_false, Bool.and_true, if_pos rfl, List.mem_append, List.mem_singleton]
      exact ⟨fun h => h.imp id (fun e => ⟨e, h3⟩), fun h => h.imp id (fun e => e.1)⟩
theorem addA_nodup {all out : List ByteArray} {p : ByteArray} (h : out.Nodup) : (addA all out p).Nodup := by
  unfold addA
  split
  · rename_i h1
    rw [Bool.and_eq_true, Bool.not_eq_true'] at h1
    rw [List.nodup_append]
    exact ⟨h, by simp, fun a ha b hb e => hasS_no.1 h1.2 (by rw [List.mem_singleton] at hb; rw [← hb, ← e]; exact ha)⟩
  · exact h
theorem foldA_mem {all : List ByteArray} {q : ByteArray} : ∀ {l out : List ByteArray}, q ∈ l.foldl (addA all) out ↔ q ∈ out ∨ (q ∈ l ∧ q ∈ all)
  | [], out => by simp
  | p :: l, out => by
    rw [List.foldl_cons, foldA_mem, addA_mem, List.mem_cons]
    constructor
    · rintro ((h | ⟨rfl, h⟩) | ⟨h, h2⟩)
      · exact Or.inl h
      · exact Or.inr ⟨Or.inl rfl, h⟩
      · exact Or.inr ⟨Or.inr h, h2⟩
    · rintro (h | ⟨rfl | h, h2⟩)
      · exact Or.inl (Or.inl h)
      · exact Or.inl (Or.inr ⟨rfl, h2⟩)
      · exact Or.inr ⟨h, h2⟩
theorem foldA_nodup {all : List ByteArray} : ∀ {l out : List ByteArray}, out.Nodup → (l.foldl (addA all) out).Nodup
  | [], _, h => h
  | p :: l, out, h => by rw [List.foldl_cons]; exact foldA_nodup (addA_nodup h)
theorem foldA_app {all : List ByteArray} : ∀ {l out : List ByteArray}, ∃ r, l.foldl (addA all) out = out ++ r
  | [], out => ⟨[], (List.append_nil _).symm⟩
  | p :: l, out => by
    obtain ⟨r, h⟩ := foldA_app (all := all) (l := l) (out := addA all out p)
    rw [List.foldl_cons, h]
    unfold addA
    split
    · exact ⟨p :: r, by simp⟩
    · exact ⟨r, rfl⟩
theorem foldA_self {all : List ByteArray} : ∀ {l out : List ByteArray}, (out ++ l).Nodup → (∀ p ∈ l, p ∈ all) → l.foldl (addA all) out = out ++ l
  | [], out, _, _ => (List.append_nil _).symm
  | p :: l, out, h, hm => by
    have h1 : hasS out p = false := hasS_no.2 fun hp => by
      rw [List.nodup_append] at h
      exact h.2.2 p hp p (List.mem_cons_self ..) rfl
    have h2 : hasS all p = true := hasS_iff.2 (hm p (List.mem_cons_self ..))
    have e : addA all out p = out ++ [p] := by unfold addA; rw [h1, h2]; rfl
    rw [List.foldl_cons, e, foldA_self (by rw [List.append_assoc]; exact h) (fun q hq => hm q (List.mem_cons_of_mem _ hq)), List.append_assoc]
    rfl
theorem byA_mem {t : Tr} {acc : List ByteArray} {q : ByteArray} : q ∈ byA t acc ↔ q ∈ filesT t := by
  unfold byA
  rw [foldA_mem, List.mem_append, ← (byW_perm t).mem_iff]
  constructor
  · rintro (h | ⟨-, h⟩)
    · cases h
    · exact h
  · exact fun h => Or.inr ⟨Or.inr h, h⟩
theorem byA_perm (t : Tr) (acc : List ByteArray) : (byA t acc).Perm (filesT t) :=
  (List.perm_ext_iff_of_nodup (foldA_nodup List.nodup_nil) (files_nodup t)).2 fun _ => byA_mem
def onceL (t : Tr) (acc : List ByteArray) : List ByteArray := acc.foldl (addA (filesT t)) []
theorem onceL_ok (t : Tr) (acc : List ByteArray) : (onceL t acc).Nodup ∧ (∀ p ∈ onceL t acc, p ∈ filesT t) := ⟨foldA_nodup List.nodup_nil, fun p hp => by
  rcases foldA_mem.1 hp with h | h
  · cases h
  · exact h.2⟩
theorem byA_once {t : Tr} {o : List ByteArray} (hn : o.Nodup) (hm : ∀ p ∈ o, p ∈ filesT t) : ∃ r, byA t o = o ++ r := by
  unfold byA
  rw [List.foldl_append, foldA_self (by simpa using hn) (fun p hp => (byW_perm t).mem_iff.2 (hm p hp)), List.nil_append]
  exact foldA_app
/-! Extents that follow each other. -/
def extsL (t : Tr) : List ByteArray → Int → List Ext
  | [], _ => []
  | p :: l, a => ⟨p, a, lenP t p⟩ :: extsL t l (a + blocksI (lenP t p))
def endA (t : Tr) : List ByteArray → Int → Int
  | [], a => a
  | p :: l, a => endA t l (a + blocksI (lenP t p))
theorem placeL_exts {t : Tr} : ∀ {l : List ByteArray} {a : Int} {out r : List Ext}, placeL t l a out = some r → r = out ++ extsL t l a
  | [], a, out, r, h => by
    rw [placeL] at h
    injection h with h
    rw [extsL, List.append_nil, h]
  | p :: l, a, out, r, h => by
    rw [placeL] at h
    split at h
    · cases h
    · rw [placeL_exts h, extsL, List.append_assoc]
      rfl
theorem blocks_nn {n : Int} (h : 0 ≤ n) : 0 ≤ blocksI n := by
  unfold blocksI
  split <;> omega
theorem placeL_extB {t : Tr} : ∀ {l : List ByteArray} {a : Int} {out r : List Ext}, placeL t l a out = some r → 0 ≤ a → out.all extB = true → r.all extB = true
  | [], a, out, r, h, _, ho => by
    rw [placeL] at h
    injection h with h
    rw [← h]; exact ho
  | p :: l, a, out, r, h, ha, ho => by
    rw [placeL] at h
    split at h
    · cases h
    · rename_i hn
      have hb := blocks_nn (n := (lenP t p : Int)) (by omega)
      refine placeL_extB h (by omega) ?_
      rw [List.all_append, ho, Bool.true_and]
      simp only [List.all_cons, List.all_nil, Bool.and_true]
      exact decide_eq_true ⟨ha, by show (0 : Int) ≤ (lenP t p : Int); omega, by show a ≤ 4096; omega, by show blocksI (lenP t p : Int) ≤ 4096 - a; omega⟩
theorem exts_app (t : Tr) : ∀ (l m : List ByteArray) (a : Int), extsL t (l ++ m) a = extsL t l a ++ extsL t m (endA t l a)
  | [], _, _ => rfl
  | p :: l, m, a => by rw [List.cons_append, extsL, exts_app t l m]; rfl
theorem exts_path {t : Tr} : ∀ {l : List ByteArray} {a : Int} {f : Ext}, f ∈ extsL t l a → f.path ∈ l
  | [], _, _, h => by cases h
  | p :: l, a, f, h => by
    rw [extsL] at h
    rcases List.mem_cons.1 h with rfl | h
    · exact List.mem_cons_self ..
    · exact List.mem_cons_of_mem _ (exts_path h)
theorem exts_len (t : Tr) : ∀ (l : List ByteArray) (a : Int), (extsL t l a).length = l.length
  | [], _ => rfl
  | p :: l, a => by rw [extsL, List.length_cons, exts_len t l, List.length_cons]
theorem at47_none {fs : List Ext} {p : ByteArray} (h : ∀ f ∈ fs, f.path ≠ p) : at47 fs p = [] := by
  unfold at47
  exact List.filter_eq_nil_iff.2 fun f hf => by simpa using h f hf
theorem exts_at {t : Tr} {pre post : List ByteArray} {p : ByteArray} {a : Int} (hn : (pre ++ p :: post).Nodup) : at47 (extsL t (pre ++ p :: post) a) p = [⟨p, endA t pre a, lenP t p⟩] := by
  rw [exts_app, extsL]
  have h := List.nodup_append.1 hn
  have h1 := at47_none (fs := extsL t pre a) (p := p) (fun f hf e => h.2.2 f.path (exts_path hf) p (List.mem_cons_self ..) e)
  have h2 := at47_none (fs := extsL t post (endA t pre a + blocksI (lenP t p))) (p := p) (fun f hf e => (List.nodup_cons.1 h.2.1).1 (e ▸ exts_path hf))
  unfold at47 at h1 h2 ⊢
  rw [List.filter_append, h1, List.nil_append, List.filter_cons_of_pos (by simp), h2]
theorem endA_snoc (t : Tr) : ∀ (l : List ByteArray) (p : ByteArray) (a : Int), endA t (l ++ [p]) a = endA t l a + blocksI (lenP t p)
  | [], _, _ => rfl
  | q :: l, p, a => by rw [List.cons_append, endA, endA_snoc t l]; rfl
theorem cost_flow {t : Tr} {whole : List ByteArray} (hn : whole.Nodup) (hp : ∀ p ∈ whole, 0 < lenP t p) : ∀ (l pre rest : List ByteArray), whole = pre ++ (l ++ rest) → ∃ a, costL (extsL t whole 0) l (0, endA t pre 0) = some (0, a)
  | [], pre, rest, _ => ⟨_, rfl⟩
  | p :: l, pre, rest, h => by
    have h1 : whole = pre ++ p :: (l ++ rest) := h
    have h2 : whole = (pre ++ [p]) ++ (l ++ rest) := by rw [h1]; simp
    have hat : at47 (extsL t whole 0) p = [⟨p, endA t pre 0, lenP t p⟩] := by rw [h1]; exact exts_at (by rw [← h1]; exact hn)
    rw [costL, hat, if_neg (by simp)]
    have hs : [(⟨p, endA t pre 0, (lenP t p : Int)⟩ : Ext)].foldl seek (0, endA t pre 0) = (0, endA t (pre ++ [p]) 0) := by
      rw [endA_snoc, List.foldl_cons, List.foldl_nil]
      unfold seek
      rw [if_pos (by have := hp p (by rw [h1]; simp); show (0 : Int) < (lenP t p : Int); omega)]
      simp
    rw [hs]
    exact cost_flow hn hp l (pre ++ [p]) rest h2
theorem file_len {t : Tr} {p : ByteArray} (h : p ∈ filesT t) : 0 < lenP t p := by
  unfold filesT at h
  obtain ⟨h1, h2⟩ := List.mem_filter.1 h
  unfold isF at h2
  have hv : validB t = true := by
    unfold pathsT at h1
    split at h1
    · assumption
    · cases h1
  unfold lenP getT
  rw [if_pos hv]
  cases hx : findT t (partsP p) with
  | none => rw [hx] at h2; cases h2
  | some x =>
    rw [hx] at h2
    have h3 := of_decide_eq_true h2
    show 0 < x.h.data.size
    rcases Nat.eq_zero_or_pos x.h.data.size with h4 | h4
    · exact absurd (ByteArray.ext (Array.eq_empty_of_size_eq_zero h4)) h3.2
    · exact h4
theorem streams {t : Tr} {o : List ByteArray} (hv : validB t = true) (hn : o.Nodup) (hm : ∀ p ∈ o, p ∈ filesT t) (hl : (filesT t).length ≤ 1024) (hl2 : o.length ≤ 1024) :
    (placeT t (byA t o) 0).2 = 12 ∨ ((placeT t (byA t o) 0).2 = 0 ∧ costT (placeT t (byA t o) 0).1 o = (0, 0)) := by
  have hs : sameB (byA t o) (filesT t) = true := (sameB_iff (files_nodup t)).2 (byA_perm t o)
  unfold placeT
  rw [if_pos ⟨hv, Int.le_refl _, hs⟩]
  cases hq : placeL t (byA t o) 0 [] with
  | none => exact Or.inl rfl
  | some r =>
    right
    refine ⟨rfl, ?_⟩
    have hr := placeL_exts hq
    have hb := placeL_extB hq (Int.le_refl _) rfl
    obtain ⟨rest, e⟩ := byA_once hn hm
    have hlen : r.length = (filesT t).length := by rw [hr, List.nil_append, exts_len]; exact (byA_perm t o).length_eq
    obtain ⟨a, ha⟩ := cost_flow (t := t) ((byA_perm t o).nodup_iff.2 (files_nodup t)) (fun p hp => file_len ((byA_perm t o).mem_iff.1 hp)) o [] rest (by rw [e]; rfl)
    have ha2 : costL r o (0, 0) = some (0, a) := by rw [hr, List.nil_append]; exact ha
    show costT r o = (0, 0)
    unfold costT
    rw [if_neg (by omega), if_pos hb, ha2]
end Go.Proofs.YtocgindpjjolpaaGreatDoor
namespace Go.Proofs.YtocgindpjjolpaaGreatDoor
set_option linter.unusedSimpArgs false
set_option linter.unusedVariables false
open Go.RowKit
theorem own_below47 {w w' : World} {B : Nat} {T : TypeId} {v : Value} {n k : Nat} {xs : List Value} (h : w.ownsRow B T k v n xs) (hb : Below w.heap.size w w') : w'.ownsRow B T k v n xs := own_frO h (FrO.of (O := fun _ => False) hb) (fun _ _ h => h)
theorem few47_ct {t : Tr} {n : Nat} (h : few47 t n = true) : t.count ≤ 40 := by
  unfold few47 at h
  rw [Bool.and_eq_true] at h
  exact (few_sz h.1).1
theorem files_small {t : Tr} (h : t.sz ≤ 2000000) (p : ByteArray) (hp : p ∈ filesT t) : p.size ≤ 2000000 := Nat.le_trans (files_mem hp).2.1 h
set_option maxRecDepth 100000 in
set_option maxHeartbeats 8000000 in
theorem law_streams (v : Value) (t : Tr) (va : Value) (acc : List ByteArray) (w : World) (hT : TabV w) (hv : TreeR w w.heap.size v t) (hz : t.sz ≤ 20971520) (ha : SlR w w.heap.size va acc) (hao : ∀ p ∈ acc, p.size ≤ 2000000) :
    Calls Tryz.prog 7 #[v, va] w fun e w' => e = .returned (.bool true) ∧ Below w.heap.size w w' := by
  have AW := hide (fun W (h : Below w.heap.size w W) => awake_any W (hT.below h))
  have HTV := hide hT
  obtain ⟨cn, rfl, hzc⟩ := Nd.cells hv
  have HV := hide hv
  have HA := hide ha
  obtain ⟨aA, cA, rfl, -⟩ := ha
  have HAO := hide hao
  clear hv hao hT
  have HL : Live w [] := trivial
  go_enter Tryz.func7, Tryz.ntmps7
  go_upto_region 1 with fail
  have HN1 := hide (Nd.new HV.out hzc)
  have hbel1 : Below w.heap.size w (w.alloc (.cells cn 25)) := (Below.refl _ _).alloc (Nat.le_refl _) _
  generalize w.alloc (.cells cn 25) = W1 at *
  obtain ⟨b, hb⟩ : ∃ b, b = w.heap.size := ⟨_, rfl⟩
  rw [← hb] at HN1 ⊢
  clear hb HV hzc
  have HA1 := hide (HA.out.later2 hbel1)
  have A1 := hide (AW.out W1 hbel1)
  clear AW HA
  go_upto_region 3 with (go_at_call 11; refine A1.out.mono ?_; rintro e w2 ⟨rfl, hb2⟩)
  have HN2 := hide (HN1.out.below hb2)
  have HA2 := hide (HA1.out.later2 hb2)
  have hbel2 := hbel1.trans (hb2.mono hbel1.size)
  clear HN1 HA1 A1 hb2
  have FF := hide (few47_any t acc.length (by omega) (.agg cn) (.slice aA acc.length cA) w2 HN2.out.2.1 ⟨_, _, rfl⟩)
  cases hf : few47 t acc.length with
  | false =>
    rw [hf] at FF
    clear hf
    go_wp2_with (first | ((with_reducible show wpList _ _ _ (Oper.mk (some 13) _ _ _ _ _ :: _) _ _); refine wpList_load_row rfl 25 (.tmp 2) rfl b rfl 25 cn (0, 0) _ HN2.out.1 Tryz.underlying25 rfl (infN HN2.out.2.2) ?_) | (go_at_call 12; refine FF.out.mono ?_; rintro e w3 ⟨rfl, hb3⟩))
    go_ret
    exact ⟨rfl, hbel2.trans (hb3.mono hbel2.size)⟩
  | true =>
  obtain ⟨hs1, hs2⟩ := few47_sz hf
  have hct : t.count ≤ 40 := few47_ct hf
  rw [hf] at FF
  clear hf
  have RV := hide (fun W hW => rvalid_any t (Or.inl (by omega)) (.agg cn) W hW)
  cases hvd : validB t with
  | false =>
    rw [hvd] at RV
    clear hvd
    go_wp2_with (first | ((with_reducible show wpList _ _ _ (Oper.mk (some 13) _ _ _ _ _ :: _) _ _); refine wpList_load_row rfl 25 (.tmp 2) rfl b rfl 25 cn (0, 0) _ HN2.out.1 Tryz.underlying25 rfl (infN HN2.out.2.2) ?_) | (go_at_call 12; refine FF.out.mono ?_; rintro e w3 ⟨rfl, hb3⟩; have HN3 := hide (HN2.out.below hb3)) | ((with_reducible show wpList _ _ _ (Oper.mk (some 18) _ _ _ _ _ :: _) _ _); refine wpList_load_rowG 25 (.tmp 2) rfl rfl b rfl 25 cn (0, 0) _ HN3.out.1 Tryz.underlying25 rfl (infN HN3.out.2.2) ?_) | (go_at_call 31; refine (RV.out _ HN3.out.2.1).mono ?_; rintro e w4 ⟨rfl, hb4⟩))
    go_ret
    exact ⟨rfl, hbel2.trans ((hb3.trans (hb4.mono hb3.size)).mono hbel2.size)⟩
  | true =>
  rw [hvd] at RV
  go_upto_region 5 with (first | ((with_reducible show wpList _ _ _ (Oper.mk (some 13) _ _ _ _ _ :: _) _ _); refine wpList_load_row rfl 25 (.tmp 2) rfl b rfl 25 cn (0, 0) _ HN2.out.1 Tryz.underlying25 rfl (infN HN2.out.2.2) ?_) | (go_at_call 12; refine FF.out.mono ?_; rintro e w3 ⟨rfl, hb3⟩; have HN3 := hide (HN2.out.below hb3)) | ((with_reducible show wpList _ _ _ (Oper.mk (some 18) _ _ _ _ _ :: _) _ _); refine wpList_load_rowG 25 (.tmp 2) rfl rfl b rfl 25 cn (0, 0) _ HN3.out.1 Tryz.underlying25 rfl (infN HN3.out.2.2) ?_) | (go_at_call 31; refine (RV.out _ HN3.out.2.1).mono ?_; rintro e w4 ⟨rfl, hb4⟩))
  have HN4 := hide (HN3.out.below hb4)
  have HA4 := hide ((HA2.out.later2 hb3).later2 hb4)
  have hbel4 := hbel2.trans ((hb3.trans (hb4.mono hb3.size)).mono hbel2.size)
  have HT4 := hide (HTV.out.below hbel4)
  clear HN2 HA2 FF hb3 HN3 hb4 RV HTV hbel1 hbel2
  obtain ⟨A', c', ev, hps⟩ := HA4.out
  injection ev with ev1 ev2 ev3
  subst ev1; subst ev3
  have HRD := hide hps
  clear hps
  have FN := hide (show ∀ W, Below w4.heap.size w4 W → Calls Tryz.prog 16 #[.agg cn] W fun e w' => ∃ r, e = .returned r ∧ StrsR w' W.heap.size r (filesT t) ∧ Below W.heap.size W w' from fun W hW => files_any t (by omega) (.agg cn) W (HT4.out.below hW) (HN4.out.2.1.later hW))
  have hfl : (filesT t).length ≤ 40 := by have h1 := files_len t; omega
  have HFS := hide (fun p (hp : p ∈ filesT t) => files_small (t := t) (by omega) p hp)
  go_wp2_with fail
  go_loopw [5, 24] (fun ov i wr => ∃ (k : Nat), i = .int .i64 (k : Int) ∧ k ≤ acc.length ∧ wr.ownsRow w4.heap.size 9 1 ov ((acc.take k).foldl (addA (filesT t)) []).length (strV ((acc.take k).foldl (addA (filesT t)) [])) ∧ Below w4.heap.size w4 wr) (fun _ i _ => acc.length - (intOf i).toNat)
  case atStart => exact ⟨0, rfl, Nat.zero_le _, World.ownsRow_nil _ _ _ _, Below.refl _ _⟩
  case round =>
    obtain ⟨k, rfl, hk, hown, hbelr⟩ := hrel
    have HO := hide hown
    have HB := hide hbelr
    have hszr := hbelr.size
    have HNr := hide (HN4.out.below hbelr)
    obtain ⟨ao, cap, rfl⟩ := own_slice hown
    clear hown hbelr
    by_cases hlt : k < acc.length
    · obtain ⟨p, hp⟩ : ∃ p, acc[k]? = some p := ⟨acc[k], List.getElem?_eq_getElem hlt⟩
      obtain ⟨g, o, rfl, hg, hcl⟩ := HRD.out (by omega)
      have c0 : wr.cell? ⟨g, o + k, none⟩ = some (.string p) := (HB.out.cell (p := ⟨g, o + k, none⟩) hg).trans (hcl k p hp)
      have HNX := hide (fold_next (all := filesT t) hp)
      have hlo : ((acc.take k).foldl (addA (filesT t)) []).length ≤ 70 := by
        have := foldA_len (filesT t) (acc.take k) []
        rw [List.length_take] at this
        simp only [List.length_nil, Nat.zero_add] at this
        omega
      have CF := hide (fun W v hv => contains_any (filesT t) p v W.heap.size (by omega) W hv)
      have HSO := hide (fun W (hW : Below wr.heap.size wr W) => (SlR.of (show StrsR wr w4.heap.size (.slice ao ((acc.take k).foldl (addA (filesT t)) []).length cap) ((acc.take k).foldl (addA (filesT t)) []) from HO.out)).later2 hW)
      have CO := hide (fun W (hW : Below wr.heap.size wr W) => contains_any ((acc.take k).foldl (addA (filesT t)) []) p (.slice ao ((acc.take k).foldl (addA (filesT t)) []).length cap) W.heap.size (by omega) W (HSO.out W hW))
      have FNr := hide (FN.out wr HB.out)
      clear hcl hp HSO
      cases hF : hasS (filesT t) p with
      | false =>
        rw [hF] at CF
        have HNX2 := hide (show (acc.take (k + 1)).foldl (addA (filesT t)) [] = (acc.take k).foldl (addA (filesT t)) [] by rw [HNX.out]; exact addA_no hF)
        clear hF HNX
        generalize (acc.take k).foldl (addA (filesT t)) [] = out at *
        go_wp2_with (first | ((with_reducible show wpList _ _ _ (Oper.mk (some 28) _ _ _ _ _ :: _) _ _); refine wpList_load_row rfl 25 (.tmp 2) rfl b rfl 25 cn (0, 0) _ HNr.out.1 Tryz.underlying25 rfl (infN HNr.out.2.2) ?_) | (go_at_call 16; (with_reducible refine FNr.out.mono ?_); rintro e w5 ⟨r5, rfl, hr5, hb5⟩; have HR5 := hide (SlR.of hr5); have HB5 := hide hb5; clear hr5 hb5) | (go_at_call 32; (with_reducible refine (CF.out _ _ HR5.out).mono ?_); rintro e w' ⟨rfl, rfl⟩))
        go_roundw
        case rel => exact ⟨k + 1, by go_num, by omega, by rw [HNX2.out]; exact own_below47 HO.out HB5.out, HB.out.trans (HB5.out.mono hszr)⟩
        case measure => simp [intOf]; omega
      | true =>
      rw [hF] at CF
      cases hO2 : hasS ((acc.take k).foldl (addA (filesT t)) []) p with
      | true =>
        rw [hO2] at CO
        have HNX2 := hide (show (acc.take (k + 1)).foldl (addA (filesT t)) [] = (acc.take k).foldl (addA (filesT t)) [] by rw [HNX.out]; exact addA_in hO2)
        clear hF HNX hO2
        generalize (acc.take k).foldl (addA (filesT t)) [] = out at *
        go_wp2_with (first | ((with_reducible show wpList _ _ _ (Oper.mk (some 28) _ _ _ _ _ :: _) _ _); refine wpList_load_row rfl 25 (.tmp 2) rfl b rfl 25 cn (0, 0) _ HNr.out.1 Tryz.underlying25 rfl (infN HNr.out.2.2) ?_) | (go_at_call 16; (with_reducible refine FNr.out.mono ?_); rintro e w5 ⟨r5, rfl, hr5, hb5⟩; have HR5 := hide (SlR.of hr5); have HB5 := hide hb5; clear hr5 hb5) | (go_at_call 32; (with_reducible refine (CF.out _ _ HR5.out).mono ?_); rintro e w' ⟨rfl, rfl⟩) | (go_at_call 32; (with_reducible refine (CO.out _ HB5.out).mono ?_); rintro e w' ⟨rfl, rfl⟩))
        go_roundw
        case rel => exact ⟨k + 1, by go_num, by omega, by rw [HNX2.out]; exact own_below47 HO.out HB5.out, HB.out.trans (HB5.out.mono hszr)⟩
        case measure => simp [intOf]; omega
      | false =>
        rw [hO2] at CO
        have HNX2 := hide (show (acc.take (k + 1)).foldl (addA (filesT t)) [] = (acc.take k).foldl (addA (filesT t)) [] ++ [p] by rw [HNX.out]; exact addA_add hF hO2)
        clear hF HNX hO2
        generalize (acc.take k).foldl (addA (filesT t)) [] = out at *
        go_wp2_with (first | ((with_reducible show wpList _ _ _ (Oper.mk (some 28) _ _ _ _ _ :: _) _ _); refine wpList_load_row rfl 25 (.tmp 2) rfl b rfl 25 cn (0, 0) _ HNr.out.1 Tryz.underlying25 rfl (infN HNr.out.2.2) ?_) | (go_at_call 16; (with_reducible refine FNr.out.mono ?_); rintro e w5 ⟨r5, rfl, hr5, hb5⟩; have HR5 := hide (SlR.of hr5); have HB5 := hide hb5; have HO5 := hide (own_below47 HO.out hb5); have hs5 := Nat.le_trans hszr hb5.size; clear hr5 hb5) | (go_at_call 32; (with_reducible refine (CF.out _ _ HR5.out).mono ?_); rintro e w' ⟨rfl, rfl⟩) | (go_at_call 32; (with_reducible refine (CO.out _ HB5.out).mono ?_); rintro e w' ⟨rfl, rfl⟩) | (at_builtin; refine wpList_append_blk _ rfl _ _ 26 rfl w4.heap.size 9 strInfo Tryz.underlying26 rfl (by decide) (.slice ao out.length cap) _ _ (HO5.out.alloc _) w5.heap.size #[.string p] (Blk.newAt rfl) rfl rfl rfl (by simp [Value.oneCell']) (by unfold maxLen; omega) (by omega) (by rw [World.size_alloc]; omega) ?_; intro v6 w6 hown6 hnb6 hg6))
        have hbel6 : Below w4.heap.size w4 w6 := ((HB.out.trans (HB5.out.mono hszr)).alloc hs5 _).grown hg6 (by rw [World.size_alloc]; omega) (fun q hq => (HO5.out.lt q hq).1)
        go_roundw
        case rel => exact ⟨k + 1, by go_num, by omega, by rw [HNX2.out, List.length_append, ← strV_snoc]; exact hown6, hbel6⟩
        case measure => simp [intOf]; omega
    · obtain rfl : k = acc.length := by omega
      have HO2 := HO.out
      rw [List.take_length] at HO2
      rw [List.take_length]
      have e0 : acc.foldl (addA (filesT t)) [] = onceL t acc := rfl
      rw [e0] at HO2 ⊢
      have HO3 := hide HO2
      clear HO2 HO FN HRD HA4 hk hlt
      have HON := hide (onceL_ok t acc)
      have hlo : (onceL t acc).length ≤ 70 := by
        have := foldA_len (filesT t) acc []
        simp only [List.length_nil, Nat.zero_add] at this
        rw [e0] at this
        omega
      have hao2 : ∀ p ∈ onceL t acc, p.size ≤ 2000000 := fun p hp => HFS.out p (HON.out.2 p hp)
      clear e0
      generalize onceL t acc = on at *
      have HST := hide (streams hvd HON.out.1 HON.out.2 (by omega) (by omega))
      have hbs : ∀ p ∈ byA t on, p.size ≤ 2000000 := fun p hp => HFS.out p (byA_mem.1 hp)
      have hbl : (byA t on).length ≤ 40 := by rw [(byA_perm t on).length_eq]; omega
      have HPO := hide (placeT_ok (t := t) (by omega) (s := 0) hbs)
      have HRO := hide (SlR.of (show StrsR wr w4.heap.size (.slice ao on.length cap) on from HO3.out))
      have SBA := hide (show ∀ W, Below wr.heap.size wr W → Calls Tryz.prog 20 #[.agg cn, .slice ao on.length cap] W fun e w' => ∃ r, e = .returned r ∧ StrsR w' W.heap.size r (byA t on) ∧ Below W.heap.size W w' from fun W hW => byAccess_any t on (by omega) (by omega) _ _ W ((HT4.out.below HB.out).below hW) (HNr.out.2.1.later hW) (HRO.out.later2 hW))
      have SPL := hide (show ∀ W v, Below wr.heap.size wr W → SlR W W.heap.size v (byA t on) → Calls Tryz.prog 22 #[.agg cn, v, .int .i64 0] W fun e w' => ∃ r, e = .returned (.tuple #[r, .int .i64 (placeT t (byA t on) 0).2]) ∧ w'.ownsRow W.heap.size 69 3 r (placeT t (byA t on) 0).1.length (extV (placeT t (byA t on) 0).1) ∧ Below W.heap.size W w' from fun W v hW hs => place_any t _ 0 (by omega) (by omega) hbs (by decide) _ _ W ((HT4.out.below HB.out).below hW) (HNr.out.2.1.later hW) hs)
      clear hbs HFS HON
      generalize byA t on = lo at *
      generalize placeT t lo 0 = pt at *
      have hk0 : Below wr.heap.size wr wr ∧ True := ⟨Below.refl _ _, trivial⟩
      have hk0d : Below wr.heap.size wr wr.drew ∧ True := ⟨(Below.refl wr.heap.size wr).drew, trivial⟩
      have hkl : ¬ ((acc.length : Int) < (acc.length : Int)) := by omega
      go_upto_region 12 with fail
      refine wp_region_noPanic ?_
      refine wp_region_held_drew (S := (fun z => Below wr.heap.size wr z ∧ True)) (by kernel_rfl) kp (fun hHeld => ?_)
      refine tkZ 0 ⟨some 44, .load 25 (.tmp 2), 25, "law.go:97", #[], none⟩ ?_ (by intro w hSw; (try dsimp only at hSw); refine (exec_load_row 25 (.tmp 2) (by rfl) b (by rfl) 25 cn (0, 0) _ (Blk.below hSw.1 HNr.out.1) Tryz.underlying25 (by rfl) (infN HNr.out.2.2)).trans ?_; with_reducible rfl)
      refine tkZ 1 ⟨some 45, .load 25 (.tmp 2), 25, "law.go:97", #[], none⟩ ?_ (by intro w hSw; (try dsimp only at hSw); refine (exec_load_row 25 (.tmp 2) (by rfl) b (by rfl) 25 cn (0, 0) _ (Blk.below hSw.1 HNr.out.1) Tryz.underlying25 (by rfl) (infN HNr.out.2.2)).trans ?_; with_reducible rfl)
      refine tkZ 2 ⟨some 46, .move (.tmp 5), 26, "law.go:97", #[], none⟩ ?_
      refine rqS [3] (rqC ⟨some 47, .call ⟨.value (.func 20), #[.tmp 45, .tmp 46], #[25, 26]⟩, 26, "law.go:97", #[⟨1, .data⟩, ⟨2, .data⟩], none⟩ (fun K hK => ?_) rq0)
      go_simp
      (go_at_call 20; (with_reducible refine (SBA.out _ hHeld.1).mono ?_); rintro e w8 ⟨r8, rfl, hr8, hb8⟩; have hk8 : Below wr.heap.size wr w8 ∧ True := ⟨hHeld.1.trans (hb8.mono hHeld.1.size), trivial⟩; have HR8 := hide (SlR.of hr8))
      go_wp2_with fail
      refine hK.out _ _ kp (fun hHeld => ?_)
      clear hK K
      try simp only [PT]
      refine rqS [4] (rqC ⟨some 48, .call ⟨.value (.func 22), #[.tmp 44, .tmp 47, .const (.int .i64 0)], #[25, 26, 3]⟩, 38, "law.go:97", #[⟨0, .data⟩, ⟨3, .data⟩, ⟨3, .chain⟩], none⟩ (fun K hK => ?_) rq0)
      go_simp
      (go_at_call 22; (with_reducible refine (SPL.out _ _ hHeld.1 HR8.out).mono ?_); rintro e w9 ⟨r9, rfl, hr9, hb9⟩; have hk9 : Below wr.heap.size wr w9 ∧ True := ⟨hHeld.1.trans (hb9.mono hHeld.1.size), trivial⟩; have HF9 := hide (SlF.of (own_base hr9 (Nat.le_refl _))))
      go_wp2_with fail
      refine hK.out _ _ kp (fun hHeld => ?_)
      clear hK K
      try simp only [PT]
      refine tkZ 5 ⟨some 43, .move (.tmp 48), 38, "law.go:97", #[⟨4, .data⟩], none⟩ ?_
      refine tkZ 6 ⟨some 49, .extract (.tmp 43) 0, 37, "law.go:97", #[⟨5, .data⟩], none⟩ ?_
      refine tkZ 7 ⟨some 50, .extract (.tmp 43) 1, 29, "law.go:97", #[⟨5, .data⟩, ⟨8, .gcOnly .lateStores⟩], none⟩ ?_
      refine tkZ 8 ⟨some 8, .assign (.tmp 49), 37, "law.go:97", #[⟨6, .data⟩, ⟨4, .chain⟩, ⟨0, .phase⟩, ⟨1, .phase⟩, ⟨2, .phase⟩, ⟨3, .phase⟩, ⟨4, .phase⟩, ⟨5, .phase⟩, ⟨6, .phase⟩, ⟨7, .textOnly .lateStores⟩], none⟩ ?_
      refine tkZ 9 ⟨some 9, .assign (.tmp 50), 29, "law.go:97", #[⟨7, .data⟩, ⟨8, .chain⟩, ⟨0, .phase⟩, ⟨1, .phase⟩, ⟨2, .phase⟩, ⟨3, .phase⟩, ⟨4, .phase⟩, ⟨5, .phase⟩, ⟨6, .phase⟩, ⟨7, .phase⟩, ⟨8, .phase⟩], none⟩ ?_
      refine wpAnyH_done (by kernel_rfl) ?_ _
      refine NoPanic.normal ?_
      have hbel9 := hbel4.trans ((HB.out.trans (hk9.1.mono hszr)).mono hbel4.size)
      have CO := hide (cost_any pt.1 on HPO.out.1 hao2 (by have := HPO.out.2; omega) (by omega) r9 (.slice ao on.length cap) w9 HF9.out (HRO.out.later2 hk9.1))
      rcases HST.out with h12 | ⟨h0, hc⟩
      · rw [h12]
        go_wp2_with fail
        go_ret
        exact ⟨rfl, hbel9⟩
      · rw [h0]
        rw [hc] at CO
        go_wp2_with (go_at_call 27; refine CO.out.mono ?_; rintro e w10 ⟨rfl, hb10⟩)
        go_ret
        exact ⟨rfl, hbel9.trans (hb10.mono hbel9.size)⟩
end Go.Proofs.YtocgindpjjolpaaGreatDoor
