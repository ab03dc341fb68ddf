/- Contracts and plain words for the laws of this chapter, part 2: T2, Cp, T3, T4, U1, U3, U4, U5, U6, U8, N, J, U7, U9, V1. No condition. -/
import Derived.Deep.MidRow
import Derived.Test.YtocgindpjjolpaaGreatDoorH1
import Derived.Deep.DeepCutAuto
import Derived.Laws.OwnMore
import Derived.Deep.AppendLies
import Derived.OwnWalk
import Derived.Lib.SmallJoins
import Derived.Test.YtocgindpjjolpaaGreatDoorH0
import Derived.Lib.Hide
namespace Go.Proofs.YtocgindpjjolpaaGreatDoor
set_option linter.unusedSimpArgs false
set_option linter.unusedVariables false
open Go.RowKit
def Hd.cells (h : Hd) (kv sv : Value) : Array Value := #[.string h.name, .int .i64 h.kind, .string h.data, .string h.target, .int .i64 h.mode, .int .i64 h.uid, .int .i64 h.gid, .int .i64 h.time, .int .i64 h.weight, .int .i64 h.hidden, kv, sv]
theorem Hd.size (h : Hd) (kv sv : Value) : (h.cells kv sv).size = 12 := rfl
def StR (w : World) (B : Nat) (sv : Value) (ss : List St) : Prop := ∃ A c, sv = .slice A ss.length c ∧ (0 < ss.length → ∃ g o, A = some ⟨g, o, none⟩ ∧ g < B ∧
  ∀ j s, ss[j]? = some s → w.cell? ⟨g, o + j * 2, none⟩ = some (.string s.1) ∧ w.cell? ⟨g, o + (j * 2 + 1), none⟩ = some (.string s.2))
def ForR (w : World) (B : Nat) : Fo → Nat → Nat → Prop
  | .nil, _, _ => True
  | .node h ss ks nx, g, o => (∃ kv sv, w.rangeAt g o (h.cells kv sv).toList ∧ StR w B sv ss ∧ ∃ A c, kv = .slice A ks.len c ∧ (0 < ks.len → ∃ g' o', A = some ⟨g', o', none⟩ ∧ g' < B ∧ ForR w B ks g' o')) ∧ ForR w B nx g (o + 12)
def KidR (w : World) (B : Nat) (kv : Value) (ks : Fo) : Prop := ∃ A c, kv = .slice A ks.len c ∧ (0 < ks.len → ∃ g o, A = some ⟨g, o, none⟩ ∧ g < B ∧ ForR w B ks g o)
def TreeR (w : World) (B : Nat) (v : Value) (t : Tr) : Prop := ∃ kv sv, v = .agg (t.h.cells kv sv) ∧ StR w B sv t.ss ∧ KidR w B kv t.ks
theorem range_below {w w' : World} {B g o : Nat} {cs : List Value} (hb : Below B w w') (hg : g < B) (h : w.rangeAt g o cs) : w'.rangeAt g o cs := fun j u hu => (hb.cell (p := ⟨g, o + j, none⟩) hg).trans (h j u hu)
theorem StR.below {w w' : World} {B : Nat} {sv : Value} {ss : List St} (hb : Below B w w') (h : StR w B sv ss) : StR w' B sv ss := by
  obtain ⟨A, c, e, h⟩ := h
  refine ⟨A, c, e, fun h0 => ?_⟩
  obtain ⟨g, o, e2, hg, hc⟩ := h h0
  exact ⟨g, o, e2, hg, fun j s hs => ⟨(hb.cell (p := ⟨g, o + j * 2, none⟩) hg).trans (hc j s hs).1, (hb.cell (p := ⟨g, o + (j * 2 + 1), none⟩) hg).trans (hc j s hs).2⟩⟩
theorem StR.mono {w : World} {B B' : Nat} {sv : Value} {ss : List St} (hB : B ≤ B') (h : StR w B sv ss) : StR w B' sv ss := by
  obtain ⟨A, c, e, h⟩ := h
  refine ⟨A, c, e, fun h0 => ?_⟩
  obtain ⟨g, o, e2, hg, hc⟩ := h h0
  exact ⟨g, o, e2, Nat.lt_of_lt_of_le hg hB, hc⟩
theorem ForR.below {w w' : World} {B : Nat} (hb : Below B w w') : ∀ (f : Fo) (g o : Nat), g < B → ForR w B f g o → ForR w' B f g o
  | .nil, _, _, _, _ => trivial
  | .node _ _ ks nx, g, o, hg, ⟨⟨kv, sv, hr, hs, A, c, e, hk⟩, hn⟩ =>
    ⟨⟨kv, sv, range_below hb hg hr, hs.below hb, A, c, e, fun h0 => by
      obtain ⟨g', o', e2, hg', hf⟩ := hk h0
      exact ⟨g', o', e2, hg', ForR.below hb ks g' o' hg' hf⟩⟩, ForR.below hb nx g (o + 12) hg hn⟩
theorem ForR.mono {w : World} {B B' : Nat} (hB : B ≤ B') : ∀ (f : Fo) (g o : Nat), ForR w B f g o → ForR w B' f g o
  | .nil, _, _, _ => trivial
  | .node _ _ ks nx, g, o, ⟨⟨kv, sv, hr, hs, A, c, e, hk⟩, hn⟩ =>
    ⟨⟨kv, sv, hr, hs.mono hB, A, c, e, fun h0 => by
      obtain ⟨g', o', e2, hg', hf⟩ := hk h0
      exact ⟨g', o', e2, Nat.lt_of_lt_of_le hg' hB, ForR.mono hB ks g' o' hf⟩⟩, ForR.mono hB nx g (o + 12) hn⟩
theorem KidR.below {w w' : World} {B : Nat} {kv : Value} {ks : Fo} (hb : Below B w w') (h : KidR w B kv ks) : KidR w' B kv ks := by
  obtain ⟨A, c, e, h⟩ := h
  refine ⟨A, c, e, fun h0 => ?_⟩
  obtain ⟨g, o, e2, hg, hf⟩ := h h0
  exact ⟨g, o, e2, hg, hf.below hb _ _ _ hg⟩
theorem KidR.mono {w : World} {B B' : Nat} {kv : Value} {ks : Fo} (hB : B ≤ B') (h : KidR w B kv ks) : KidR w B' kv ks := by
  obtain ⟨A, c, e, h⟩ := h
  refine ⟨A, c, e, fun h0 => ?_⟩
  obtain ⟨g, o, e2, hg, hf⟩ := h h0
  exact ⟨g, o, e2, Nat.lt_of_lt_of_le hg hB, hf.mono hB _ _ _⟩
theorem TreeR.below {w w' : World} {B : Nat} {v : Value} {t : Tr} (hb : Below B w w') (h : TreeR w B v t) : TreeR w' B v t := by
  obtain ⟨kv, sv, e, hs, hk⟩ := h
  exact ⟨kv, sv, e, hs.below hb, hk.below hb⟩
theorem TreeR.mono {w : World} {B B' : Nat} {v : Value} {t : Tr} (hB : B ≤ B') (h : TreeR w B v t) : TreeR w B' v t := by
  obtain ⟨kv, sv, e, hs, hk⟩ := h
  exact ⟨kv, sv, e, hs.mono hB, hk.mono hB⟩
theorem TreeR.open {w : World} {B : Nat} {v : Value} {t : Tr} (h : TreeR w B v t) : ∃ A c A2 c2, v = .agg (t.h.cells (.slice A t.ks.len c) (.slice A2 t.ss.length c2)) ∧
    (0 < t.ks.len → ∃ g o, A = some ⟨g, o, none⟩ ∧ g < B ∧ ForR w B t.ks g o) ∧
    (0 < t.ss.length → ∃ g o, A2 = some ⟨g, o, none⟩ ∧ g < B ∧ ∀ j s, t.ss[j]? = some s → w.cell? ⟨g, o + j * 2, none⟩ = some (.string s.1) ∧ w.cell? ⟨g, o + (j * 2 + 1), none⟩ = some (.string s.2)) := by
  obtain ⟨kv, sv, rfl, ⟨A2, c2, rfl, hs⟩, A, c, rfl, hk⟩ := h
  exact ⟨A, c, A2, c2, rfl, hk, hs⟩
theorem ForR.head {w : World} {B : Nat} {h : Hd} {ss : List St} {ks nx : Fo} {g o : Nat} (hf : ForR w B (.node h ss ks nx) g o) : ∃ cells : Array Value, w.rangeAt g o cells.toList ∧ cells.size = 12 ∧ cells.all (·.oneCell') = true ∧ TreeR w B (.agg cells) ⟨h, ss, ks⟩ := by
  obtain ⟨⟨kv, sv, hr, ⟨A2, c2, rfl, hs⟩, A, c, rfl, hk⟩, _⟩ := hf
  exact ⟨_, hr, rfl, by kernel_rfl, _, _, rfl, ⟨A2, c2, rfl, hs⟩, A, c, rfl, hk⟩
theorem ForR.tail {w : World} {B : Nat} {h : Hd} {ss : List St} {ks nx : Fo} {g o : Nat} (hf : ForR w B (.node h ss ks nx) g o) : ForR w B nx g (o + 12) := hf.2
def Left (w : World) (B : Nat) (A : Option Addr) (r : Fo) (k : Nat) : Prop := 0 < r.len → ∃ g o, A = some ⟨g, o, none⟩ ∧ g < B ∧ ForR w B r g (o + k * 12)
theorem Left.of {w : World} {B : Nat} {A : Option Addr} {f : Fo} (h : 0 < f.len → ∃ g o, A = some ⟨g, o, none⟩ ∧ g < B ∧ ForR w B f g o) : Left w B A f 0 := fun h0 => by
  obtain ⟨g, o, e, hg, hf⟩ := h h0
  exact ⟨g, o, e, hg, by rw [Nat.zero_mul, Nat.add_zero]; exact hf⟩
theorem Left.below {w w' : World} {B : Nat} {A : Option Addr} {f : Fo} {k : Nat} (hb : Below B w w') (h : Left w B A f k) : Left w' B A f k := fun h0 => by
  obtain ⟨g, o, e, hg, hf⟩ := h h0
  exact ⟨g, o, e, hg, hf.below hb _ _ _ hg⟩
theorem Left.next {w : World} {B : Nat} {A : Option Addr} {h : Hd} {ss : List St} {ks nx : Fo} {k : Nat} (hl : Left w B A (.node h ss ks nx) k) : ∃ g o cells, A = some ⟨g, o, none⟩ ∧ g < B ∧ w.rangeAt g (o + k * 12) (Array.toList cells) ∧ cells.size = 12 ∧ cells.all (·.oneCell') = true ∧ TreeR w B (.agg cells) ⟨h, ss, ks⟩ ∧ Left w B A nx (k + 1) := by
  obtain ⟨g, o, e, hg, hf⟩ := hl (by unfold Fo.len; omega)
  obtain ⟨cells, h1, h2, h3, h4⟩ := hf.head
  exact ⟨g, o, cells, e, hg, h1, h2, h3, h4, fun _ => ⟨g, o, e, hg, by rw [show o + (k + 1) * 12 = o + k * 12 + 12 by omega]; exact hf.tail⟩⟩
def CapF (w : World) : Fo → Nat → Nat → Prop
  | .nil, _, _ => True
  | .node _ _ ks nx, g, o => (∃ A c, w.cell? ⟨g, o + 10, none⟩ = some (.slice A ks.len c) ∧ ks.len ≤ c ∧ (0 < ks.len → ∃ g' o', A = some ⟨g', o', none⟩ ∧ CapF w ks g' o')) ∧ CapF w nx g (o + 12)
def CapT (w : World) (v : Value) (t : Tr) : Prop := ∃ A c sv, v = .agg (t.h.cells (.slice A t.ks.len c) sv) ∧ t.ks.len ≤ c ∧ (0 < t.ks.len → ∃ g o, A = some ⟨g, o, none⟩ ∧ CapF w t.ks g o)
def CapK (w : World) (kv : Value) (ks : Fo) : Prop := ∃ A c, kv = .slice A ks.len c ∧ ks.len ≤ c ∧ (0 < ks.len → ∃ g o, A = some ⟨g, o, none⟩ ∧ CapF w ks g o)
theorem capF_of {w : World} {g : Nat} : ∀ (l : List Tr) (o : Nat), (∀ j t, l[j]? = some t → ∃ kv, w.cell? ⟨g, o + j * 12 + 10, none⟩ = some kv ∧ CapK w kv t.ks) → CapF w (Fo.of l) g o
  | [], _, _ => trivial
  | t :: l, o, h => by
    obtain ⟨kv, h1, A, c, rfl, h2, h3⟩ := h 0 t rfl
    exact ⟨⟨A, c, by simpa using h1, h2, h3⟩, capF_of l (o + 12) fun j u hu => by
      obtain ⟨kv, h1, h2⟩ := h (j + 1) u (by simpa using hu)
      exact ⟨kv, by rw [show o + 12 + j * 12 + 10 = o + (j + 1) * 12 + 10 by omega]; exact h1, h2⟩⟩
end Go.Proofs.YtocgindpjjolpaaGreatDoor
namespace Go.Proofs.YtocgindpjjolpaaGreatDoor
set_option linter.unusedSimpArgs false
set_option linter.unusedVariables false
theorem walk_count : ∀ (f : Fo) (p : ByteArray) (l s : Nat), walkF (fun s _ _ _ => (true, s + 1)) f p l s = (true, s + f.count)
  | .nil, _, _, _ => rfl
  | .node h ss ks nx, p, l, s => by
    unfold walkF Fo.count
    dsimp only
    rw [if_pos rfl, walk_count ks, if_pos rfl, walk_count nx]
    congr 1; omega
theorem walk_paths : ∀ (f : Fo) (p : ByteArray) (l : Nat) (s : List ByteArray), walkF (fun s _ p _ => (true, s ++ [p])) f p l s = (true, s ++ pathsF f p l)
  | .nil, _, _, s => by rw [walkF, pathsF, List.append_nil]
  | .node h ss ks nx, p, l, s => by
    unfold walkF pathsF
    dsimp only
    rw [if_pos rfl, walk_paths ks, if_pos rfl, walk_paths nx]
    simp
def chkStep (s : ByteArray × Int) (t : Tr) (p : ByteArray) (l : Nat) : Bool × (ByteArray × Int) := if oneE t l ≠ 0 then (false, (p, oneE t l)) else (true, (s.1, 0))
theorem walk_check : ∀ (f : Fo) (p : ByteArray) (l : Nat) (a : ByteArray), walkF chkStep f p l (a, 0) = match chkF f p l with
    | some r => (false, r)
    | none => (true, (a, 0))
  | .nil, _, _, _ => rfl
  | .node h ss ks nx, p, l, a => by
    unfold walkF chkF
    by_cases h1 : oneE ⟨h, ss, ks⟩ (l + 1) ≠ 0
    · have e : chkStep (a, 0) ⟨h, ss, ks⟩ (belowP p h.name l) (l + 1) = (false, (belowP p h.name l, oneE ⟨h, ss, ks⟩ (l + 1))) := by unfold chkStep; rw [if_pos h1]
      rw [e, if_pos h1]
      rfl
    · have e : chkStep (a, 0) ⟨h, ss, ks⟩ (belowP p h.name l) (l + 1) = (true, (a, 0)) := by unfold chkStep; rw [if_neg h1]
      rw [e, if_neg h1]
      dsimp only
      rw [if_pos rfl, walk_check ks]
      cases hk : chkF ks (belowP p h.name l) (l + 1) with
      | some r => rfl
      | none =>
        dsimp only
        rw [if_pos rfl, walk_check nx]
theorem walkT_check (t : Tr) : walkT chkStep t eS 1 (eS, 0) = match chkT t with
    | some r => (false, r)
    | none => (true, (eS, 0)) := by
  unfold walkT chkT
  by_cases h1 : oneE t 1 ≠ 0
  · have e : chkStep (eS, 0) t eS 1 = (false, (eS, oneE t 1)) := by unfold chkStep; rw [if_pos h1]
    rw [e, if_pos h1]
    rfl
  · have e : chkStep (eS, 0) t eS 1 = (true, (eS, 0)) := by unfold chkStep; rw [if_neg h1]
    rw [e, if_neg h1]
    dsimp only
    rw [if_pos rfl, walk_check]
theorem walkT_count (t : Tr) (p : ByteArray) : walkT (fun s _ _ _ => (true, s + 1)) t p 1 0 = (true, t.count) := by
  unfold walkT
  dsimp only
  rw [if_pos rfl, walk_count]
  unfold Tr.count
  congr 1; omega
theorem walkT_paths (t : Tr) : walkT (fun (s : List ByteArray) _ p _ => (true, s ++ [p])) t eS 1 [] = (true, eS :: pathsF t.ks eS 1) := by
  unfold walkT
  dsimp only
  rw [if_pos rfl, walk_paths]
  rfl
def szS : List St → Nat
  | [] => 0
  | s :: l => 20 + s.1.size + s.2.size + szS l
def Hd.sz (h : Hd) : Nat := 20 + h.name.size + h.data.size + h.target.size
def Fo.sz : Fo → Nat
  | .nil => 0
  | .node h ss ks nx => h.sz + szS ss + ks.sz + nx.sz
def Tr.sz (t : Tr) : Nat := t.h.sz + szS t.ss + t.ks.sz
theorem szS_len : ∀ ss : List St, 20 * ss.length ≤ szS ss
  | [] => Nat.le_refl _
  | s :: l => by have := szS_len l; simp only [szS, List.length_cons]; omega
theorem Fo.count_sz : ∀ f : Fo, 20 * f.count ≤ f.sz
  | .nil => Nat.le_refl _
  | .node h ss ks nx => by have := Fo.count_sz ks; have := Fo.count_sz nx; simp only [Fo.sz, Fo.count, Hd.sz]; omega
theorem Fo.len_sz (f : Fo) : 20 * f.len ≤ f.sz := by have := f.len_count; have := f.count_sz; omega
theorem Tr.count_sz (t : Tr) : 20 * t.count ≤ t.sz := by have := t.ks.count_sz; unfold Tr.count Tr.sz Hd.sz; omega
theorem bel_size (p n : ByteArray) (l : Nat) : (belowP p n l).size ≤ p.size + 1 + n.size := by
  unfold belowP
  split
  · omega
  · simp only [ByteArray.size_append]
    show p.size + 1 + n.size ≤ _
    omega
theorem szS_mem : ∀ {ss : List St} {j : Nat} {s : St}, ss[j]? = some s → s.1.size + s.2.size ≤ szS ss
  | [], _, _, h => by simp at h
  | a :: l, 0, s, h => by
    have e : a = s := by simpa using h
    subst e
    unfold szS; omega
  | a :: l, j + 1, s, h => by
    have := szS_mem (ss := l) (j := j) (s := s) (by simpa using h)
    unfold szS; omega
def Fo.wt : Fo → Nat
  | .nil => 0
  | .node h _ ks nx => h.name.size + 2 + ks.wt + nx.wt
theorem Fo.wt_node (h : Hd) (ss : List St) (ks nx : Fo) : (Fo.node h ss ks nx).wt = h.name.size + 2 + ks.wt + nx.wt := rfl
theorem Fo.wt_sz : ∀ f : Fo, f.wt ≤ f.sz
  | .nil => Nat.le_refl _
  | .node h ss ks nx => by have := Fo.wt_sz ks; have := Fo.wt_sz nx; simp only [Fo.wt, Fo.sz, Hd.sz]; omega
end Go.Proofs.YtocgindpjjolpaaGreatDoor
namespace Go.Proofs.YtocgindpjjolpaaGreatDoor
set_option linter.unusedSimpArgs false
set_option linter.unusedVariables false
open Go.RowKit
theorem infN {cells : Array Value} (h : cells.size = 12) : (Tryz.prog.info? 25).map (·.size) = some cells.size := by rw [h]; kernel_rfl
theorem infNl {cells : Array Value} (h : cells.size = 12) : (Tryz.prog.info? 25).map (·.size) = some cells.toList.length := by rw [Array.length_toList, h]; kernel_rfl
theorem wpList_load_midA {P : Program} {ops : Array Oper} {rest : List Oper} {op : Oper} {a : Act} {w : World} {Q : Exit → Act → World → Prop} (hgd : op.guard = none) (ty : TypeId) (x : Operand) (ho : op.op = .load ty x)
    (b o : Nat) (hx : a.eval x = .pointer (some ⟨b, o, none⟩)) (cells : Array Value) (d : TypeDesc) (hc : w.rangeAt b o cells.toList)
    (hu : P.underlying ty = some d) (hd : d.isRow = true) (hi : (P.info? ty).map (·.size) = some cells.toList.length)
    (h : wpList P ops Q rest (a.put op.dst (.agg cells)) w) : wpList P ops Q (op :: rest) a w :=
  Go.wpList_load_mid hgd ty x ho b o hx cells.toList d hc hu hd hi (by rw [Array.toArray_toList]; exact h)
theorem Fo.sz_node (h : Hd) (ss : List St) (ks nx : Fo) : (Fo.node h ss ks nx).sz = h.sz + szS ss + ks.sz + nx.sz := rfl
def StL (w : World) (B : Nat) (A : Option Addr) (ss : List St) : Prop := 0 < ss.length → ∃ g o, A = some ⟨g, o, none⟩ ∧ g < B ∧ ∀ j s, ss[j]? = some s → w.cell? ⟨g, o + j * 2, none⟩ = some (.string s.1) ∧ w.cell? ⟨g, o + (j * 2 + 1), none⟩ = some (.string s.2)
theorem StL.at {w w' : World} {B k : Nat} {A : Option Addr} {ss : List St} {s : St} (h : StL w B A ss) (hb : Below B w w') (hs : ss[k]? = some s) : ∃ g o, A = some ⟨g, o, none⟩ ∧ g < B ∧ w'.cell? ⟨g, o + k * 2, none⟩ = some (.string s.1) ∧ w'.cell? ⟨g, o + k * 2 + 1, none⟩ = some (.string s.2) := by
  obtain ⟨g, o, e, hg, hc⟩ := h (by have := (List.getElem?_eq_some_iff.1 hs).1; omega)
  exact ⟨g, o, e, hg, (hb.cell (p := ⟨g, o + k * 2, none⟩) hg).trans (hc k s hs).1, by rw [Nat.add_assoc]; exact (hb.cell (p := ⟨g, o + (k * 2 + 1), none⟩) hg).trans (hc k s hs).2⟩
theorem TreeR.later {W W' : World} {v : Value} {t : Tr} (h : TreeR W W.heap.size v t) (hb : Below W.heap.size W W') : TreeR W' W'.heap.size v t := (h.below hb).mono hb.size
theorem TreeR.cells {w : World} {B : Nat} {v : Value} {t : Tr} (h : TreeR w B v t) : ∃ cells : Array Value, v = .agg cells ∧ cells.size = 12 ∧ cells.all (·.oneCell') = true := by
  obtain ⟨A, c, A2, c2, rfl, _⟩ := h.open
  exact ⟨_, rfl, rfl, by kernel_rfl⟩
structure NodeB (w : World) (b : Nat) (h : Hd) (kv sv : Value) : Prop where
  blk : Blk w b (h.cells kv sv) 25
theorem NodeB.below {w w' : World} {b : Nat} {h : Hd} {kv sv : Value} (hb : Below w.heap.size w w') (n : NodeB w b h kv sv) : NodeB w' b h kv sv := ⟨Blk.below hb n.blk⟩
section
variable {w : World} {b : Nat} {h : Hd} {kv sv : Value} (n : NodeB w b h kv sv)
include n
theorem NodeB.c0 : w.cell? ⟨b, 0, none⟩ = some (.string h.name) := n.blk.cells 0
theorem NodeB.c1 : w.cell? ⟨b, 1, none⟩ = some (.int .i64 h.kind) := n.blk.cells 1
theorem NodeB.c2 : w.cell? ⟨b, 2, none⟩ = some (.string h.data) := n.blk.cells 2
theorem NodeB.c3 : w.cell? ⟨b, 3, none⟩ = some (.string h.target) := n.blk.cells 3
theorem NodeB.c4 : w.cell? ⟨b, 4, none⟩ = some (.int .i64 h.mode) := n.blk.cells 4
theorem NodeB.c5 : w.cell? ⟨b, 5, none⟩ = some (.int .i64 h.uid) := n.blk.cells 5
theorem NodeB.c6 : w.cell? ⟨b, 6, none⟩ = some (.int .i64 h.gid) := n.blk.cells 6
theorem NodeB.c7 : w.cell? ⟨b, 7, none⟩ = some (.int .i64 h.time) := n.blk.cells 7
theorem NodeB.c8 : w.cell? ⟨b, 8, none⟩ = some (.int .i64 h.weight) := n.blk.cells 8
theorem NodeB.c9 : w.cell? ⟨b, 9, none⟩ = some (.int .i64 h.hidden) := n.blk.cells 9
theorem NodeB.c10 : w.cell? ⟨b, 10, none⟩ = some kv := n.blk.cells 10
theorem NodeB.c11 : w.cell? ⟨b, 11, none⟩ = some sv := n.blk.cells 11
end
theorem NodeB.new (w : World) (h : Hd) (kv sv : Value) : NodeB (w.alloc (.cells (h.cells kv sv) 25)) w.heap.size h kv sv := ⟨Blk.newAt rfl⟩
def bigS (s : St) : Bool := decide (262144 < s.2.size)
def large1 (t : Tr) (l : Nat) : Bool := decide (16 < l ∨ 262144 < t.h.data.size ∨ 64 < t.ks.len ∨ 4 < t.ss.length)
theorem largeB_eq (t : Tr) (l : Nat) : largeB t l = (large1 t l || t.ss.any bigS) := rfl
theorem any_take_succ {α : Type} {f : α → Bool} {l : List α} {k : Nat} {x : α} (h : l[k]? = some x) (h0 : (l.take k).any f = false) (h1 : f x = false) : (l.take (k + 1)).any f = false := by
  rw [List.take_add_one, h, List.any_append, h0]
  simp [h1]
theorem any_hit {α : Type} {f : α → Bool} {l : List α} {k : Nat} {x : α} (h : l[k]? = some x) (h1 : f x = true) : l.any f = true :=
  List.any_eq_true.2 ⟨x, List.mem_of_getElem? h, h1⟩
theorem seq_y {a b : ByteArray} (h : a = b) : (a.toList == b.toList) = true := by rw [h]; exact beq_self_eq_true _
theorem seq_n {a b : ByteArray} (h : a ≠ b) : (a.toList == b.toList) = false := by
  rw [beq_eq_false_iff_ne]
  intro e
  apply h
  apply ByteArray.ext
  apply Array.toList_inj.1
  rw [← ByteArray.toList_eq, ← ByteArray.toList_eq, e]
def kidI : Fo → ByteArray → Option Nat
  | .nil, _ => none
  | .node h _ _ nx, n => if h.name = n then some 0 else (kidI nx n).map (· + 1)
def kidV (o : Option Nat) : Int := match o with
  | some i => (i : Int)
  | none => -1
theorem kidI_hit {h : Hd} {ss : List St} {ks nx : Fo} {n : ByteArray} (e : h.name = n) : kidI (.node h ss ks nx) n = some 0 := by rw [kidI, if_pos e]
theorem kidI_miss {h : Hd} {ss : List St} {ks nx : Fo} {n : ByteArray} (e : h.name ≠ n) : kidI (.node h ss ks nx) n = (kidI nx n).map (· + 1) := by rw [kidI, if_neg e]
theorem ForR.name {w : World} {B : Nat} {h : Hd} {ss : List St} {ks nx : Fo} {g o : Nat} (hf : ForR w B (.node h ss ks nx) g o) : w.cell? ⟨g, o, none⟩ = some (.string h.name) := by
  obtain ⟨⟨kv, sv, hr, _⟩, _⟩ := hf
  exact hr 0 _ rfl
theorem Left.name {w w' : World} {B : Nat} {A : Option Addr} {h : Hd} {ss : List St} {ks nx : Fo} {k : Nat} (hl : Left w B A (.node h ss ks nx) k) (hb : Below B w w') : ∃ g o, A = some ⟨g, o, none⟩ ∧ g < B ∧ w'.cell? ⟨g, o + k * 12, none⟩ = some (.string h.name) ∧ Left w B A nx (k + 1) := by
  obtain ⟨g, o, e, hg, hf⟩ := hl (by unfold Fo.len; omega)
  exact ⟨g, o, e, hg, (hb.cell (p := ⟨g, o + k * 12, none⟩) hg).trans hf.name, fun _ => ⟨g, o, e, hg, by rw [show o + (k + 1) * 12 = o + k * 12 + 12 by omega]; exact hf.tail⟩⟩
theorem below_row {W w1 : World} {B B' : Nat} {e : TypeId} {size : Nat} {v : Value} {n : Nat} {xs : List Value} (h : W.ownsRow B e size v n xs) (hb : Below B' W w1) (hk : ∀ g, v.ownBlock = some g → g < B') : w1.ownsRow B e size v n xs := by
  refine ⟨h.1, ?_⟩
  rcases h.2 with h2 | ⟨g, cap, cur, hv, hg, hh, r⟩
  · exact Or.inl h2
  · refine Or.inr ⟨g, cap, cur, hv, hg, ?_, r⟩
    rw [hb.block g (hk g (by rw [hv]; rfl)), hh]
theorem below_row' {W w1 : World} {B : Nat} {e : TypeId} {size : Nat} {v : Value} {n : Nat} {xs : List Value} (h : W.ownsRow B e size v n xs) (hb : Below W.heap.size W w1) : w1.ownsRow B e size v n xs :=
  below_row h hb (fun g hg => (h.lt g hg).2)
open Go.PlainAid (bt get_bt bt_nonneg bt_le)
theorem strInfo : (Tryz.prog.info? 9).map (fun i => (i.zero, i.size, i.bytes)) = some (some (.string ByteArray.empty), 1, 16) := by kernel_rfl
def kindB (h : Hd) (l : Nat) : Bool := decide (h.kind < 0 ∨ 2 < h.kind ∨ (l = 1 ∧ h.kind ≠ 0))
def parB (t : Tr) : Bool := decide ((t.h.kind ≠ 1 ∧ (t.h.data ≠ eS ∨ 0 < t.ss.length)) ∨ (t.h.kind ≠ 2 ∧ t.h.target ≠ eS) ∨ (t.h.kind ≠ 0 ∧ 0 < t.ks.len))
def tarB (h : Hd) : Bool := decide (h.kind = 2 ∧ targetB h.target = false)
theorem kindE_eq (h : Hd) (l : Nat) : kindE h l = if kindB h l = true then 1 else 0 := by unfold kindE kindB; simp only [decide_eq_true_eq]
theorem partsE_eq (t : Tr) : partsE t = if parB t = true then 1 else 0 := by unfold partsE parB; simp only [decide_eq_true_eq]
theorem targetE_eq (h : Hd) : targetE h = if tarB h = true then 4 else 0 := by unfold targetE tarB; simp only [decide_eq_true_eq]
theorem emp_iff (s : ByteArray) : s = eS ↔ s.toList = [] := by
  constructor
  · rintro rfl; rw [ByteArray.toList_eq]
  · intro h
    apply ByteArray.ext
    apply Array.toList_inj.1
    rw [← ByteArray.toList_eq, h]
theorem firstE_ne {e : Int} {l : List Int} (h : e ≠ 0) : firstE (e :: l) = e := by rw [firstE, if_pos h]
def prvS (ss : List St) : Nat → Option ByteArray
  | 0 => none
  | j + 1 => (ss[j]?).map (·.1)
theorem strE_step {ss : List St} {k : Nat} {s : St} {p : Option ByteArray} (h : ss[k]? = some s) : strE p (ss.drop k) = if nameB s.1 = false then 4 else if ordO p s.1 ≠ 0 then ordO p s.1 else strE (some s.1) (ss.drop (k + 1)) := by
  have hk := (List.getElem?_eq_some_iff.1 h).1
  rw [List.drop_eq_getElem_cons hk]
  have e : ss[k] = s := by rw [List.getElem?_eq_getElem hk] at h; exact Option.some.inj h
  rw [e]; rfl
theorem exec_load_mid {P : Program} {o : Oper} {ev : Operand → Value} {w : World} (ty : TypeId) (x : Operand) (ho : o.op = .load ty x)
    (b k : Nat) (hx : ev x = .pointer (some ⟨b, k, none⟩)) (cells : Array Value) (d : TypeDesc) (hc : w.rangeAt b k cells.toList)
    (hu : P.underlying ty = some d) (hd : d.isRow = true) (hi : (P.info? ty).map (·.size) = some cells.toList.length) : (execOp ev o).run P w = .ok (.value (.agg cells)) w := by
  unfold execOp
  simp only [ho, hx, Instr.loadAt, Instr.sureAddr, Sem.run_bind, Sem.run_pure, Result.andThen_ok, run_loadVar_mid w b k ty cells.toList d hc hu hd hi, Array.toArray_toList]
theorem chkF_node (h : Hd) (ss : List St) (ks nx : Fo) (p : ByteArray) (l : Nat) : chkF (.node h ss ks nx) p l = if oneE ⟨h, ss, ks⟩ (l + 1) ≠ 0 then some (belowP p h.name l, oneE ⟨h, ss, ks⟩ (l + 1))
    else match chkF ks (belowP p h.name l) (l + 1) with
      | some r => some r
      | none => chkF nx p l := rfl
theorem chkF_ne : ∀ (f : Fo) (p : ByteArray) (l : Nat) (r : ByteArray × Int), chkF f p l = some r → r.2 ≠ 0
  | .nil, _, _, _, h => by cases h
  | .node h ss ks nx, p, l, r, e => by
    rw [chkF_node] at e
    split at e
    · rename_i h1
      injection e with e
      rw [← e]; exact h1
    · split at e
      · rename_i r' h2
        injection e with e
        rw [← e]
        exact chkF_ne ks _ _ _ h2
      · exact chkF_ne nx _ _ _ e
def KeepC (g o k b : Nat) (kc : Array Value) (nm : ByteArray) (v : Value) (z : World) : Prop := z.rangeAt g (o + k * 12) kc.toList ∧ z.cell? ⟨g, o + k * 12, none⟩ = some (.string nm) ∧ z.cell? ⟨b, 10, none⟩ = some v
theorem KeepC.below {g o k b : Nat} {kc : Array Value} {nm : ByteArray} {v : Value} {z z' : World} (hg : g < z.heap.size) (hb : b < z.heap.size) (h : KeepC g o k b kc nm v z) (hz : Below z.heap.size z z') : KeepC g o k b kc nm v z' :=
  ⟨range_below hz hg h.1, (hz.cell (p := ⟨g, o + k * 12, none⟩) hg).trans h.2.1, (hz.cell (p := ⟨b, 10, none⟩) hb).trans h.2.2⟩
structure FrO (O : Nat → Prop) (w w' : World) : Prop where
  os : w'.os = w.os
  tape : w'.tape = w.tape
  output : w'.output = w.output
  size : w.heap.size ≤ w'.heap.size
  block : ∀ j, j < w.heap.size → ¬ O j → w'.heap[j]? = w.heap[j]?
theorem FrO.of {O : Nat → Prop} {w w' : World} (h : Below w.heap.size w w') : FrO O w w' := ⟨h.os, h.tape, h.output, h.size, fun j hj _ => h.block j hj⟩
theorem FrO.trans {O O' : Nat → Prop} {w w1 w2 : World} (h : FrO O w w1) (h' : FrO O' w1 w2) (ho : ∀ j, O' j → O j ∨ w.heap.size ≤ j) : FrO O w w2 :=
  ⟨h'.os.trans h.os, h'.tape.trans h.tape, h'.output.trans h.output, Nat.le_trans h.size h'.size, fun j hj hn => (h'.block j (Nat.lt_of_lt_of_le hj h.size) (fun hO => (ho j hO).elim hn (fun h2 => by omega))).trans (h.block j hj hn)⟩
theorem FrO.below {O : Nat → Prop} {w w' : World} {B : Nat} (h : FrO O w w') (hB : B ≤ w.heap.size) (ho : ∀ j, O j → B ≤ j) : Below B w w' := ⟨h.os, h.tape, h.output, h.size, fun j hj => h.block j (by omega) (fun hO => by have := ho j hO; omega)⟩
theorem FrO.blk {O : Nat → Prop} {w w' : World} {n : Nat} {cs : Array Value} {T : TypeId} (h : FrO O w w') (hb : Blk w n cs T) (hn : ¬ O n) : Blk w' n cs T := (h.block n hb.lt hn).trans hb
def goodF {S : Type} (step : S → Tr → ByteArray → Nat → Bool × S) (G : S → Tr → Prop) : Fo → ByteArray → Nat → S → Prop
  | .nil, _, _, _ => True
  | .node h ss ks nx, p, l, s => (G s ⟨h, ss, ks⟩ ∧ ((step s ⟨h, ss, ks⟩ (belowP p h.name l) (l + 1)).1 = true → goodF step G ks (belowP p h.name l) (l + 1) (step s ⟨h, ss, ks⟩ (belowP p h.name l) (l + 1)).2)) ∧
      ((walkT step ⟨h, ss, ks⟩ (belowP p h.name l) (l + 1) s).1 = true → goodF step G nx p l (walkT step ⟨h, ss, ks⟩ (belowP p h.name l) (l + 1) s).2)
def goodT {S : Type} (step : S → Tr → ByteArray → Nat → Bool × S) (G : S → Tr → Prop) (t : Tr) (p : ByteArray) (l : Nat) (s : S) : Prop := G s t ∧ ((step s t p l).1 = true → goodF step G t.ks p l (step s t p l).2)
theorem goodF_node {S : Type} {step : S → Tr → ByteArray → Nat → Bool × S} {G : S → Tr → Prop} {h : Hd} {ss : List St} {ks nx : Fo} {p : ByteArray} {l : Nat} {s : S} : goodF step G (.node h ss ks nx) p l s ↔
    goodT step G ⟨h, ss, ks⟩ (belowP p h.name l) (l + 1) s ∧ ((walkT step ⟨h, ss, ks⟩ (belowP p h.name l) (l + 1) s).1 = true → goodF step G nx p l (walkT step ⟨h, ss, ks⟩ (belowP p h.name l) (l + 1) s).2) := Iff.rfl
theorem goodF_true {S : Type} (step : S → Tr → ByteArray → Nat → Bool × S) : ∀ (f : Fo) (p : ByteArray) (l : Nat) (s : S), goodF step (fun _ _ => True) f p l s
  | .nil, _, _, _ => trivial
  | .node _ _ ks nx, _, _, _ => ⟨⟨trivial, fun _ => goodF_true step ks _ _ _⟩, fun _ => goodF_true step nx _ _ _⟩
theorem goodT_true {S : Type} (step : S → Tr → ByteArray → Nat → Bool × S) (t : Tr) (p : ByteArray) (l : Nat) (s : S) : goodT step (fun _ _ => True) t p l s := ⟨trivial, fun _ => goodF_true step _ _ _ _⟩
structure VisitOK {S : Type} (step : S → Tr → ByteArray → Nat → Bool × S) (G : S → Tr → Prop) (I : S → (Nat → Prop) → World → Prop) (B Z g : Nat) (lb : Array Value) : Prop where
  enters : ∀ args w, (callFunc g args).run Tryz.prog w = .ok (.enter g args) w
  own : ∀ s O w j, I s O w → O j → B ≤ j ∧ j < w.heap.size
  keep : ∀ s O w w', I s O w → Below w.heap.size w w' → I s O w'
  visit : ∀ (s : S) (t : Tr) (p : ByteArray) (l : Nat) (v : Value) (O : Nat → Prop) (w : World), G s t → t.sz ≤ Z → 1 ≤ l → p.size + l ≤ 100000000 → I s O w → B ≤ w.heap.size → TreeR w B v t → Calls Tryz.prog g (#[v, .string p, .int .i64 (l : Int)] ++ lb) w fun e w' =>
    e = .returned (.bool (step s t p l).1) ∧ (∃ O', I (step s t p l).2 O' w' ∧ ∀ j, O' j → O j ∨ w.heap.size ≤ j) ∧ FrO O w w'
structure VisitG {S : Type} (step : S → Tr → ByteArray → Nat → Bool × S) (G : S → Tr → Prop) (I : S → (Nat → Prop) → World → Prop) (B Z g : Nat) (lb : Array Value) : Prop where
  enters : ∀ args w, (callFunc g args).run Tryz.prog w = .ok (.enter g args) w
  own : ∀ s O w j, I s O w → O j → B ≤ j ∧ j < w.heap.size
  keepN : ∀ s O w cs, I s O w → I s O (w.alloc (.cells cs 25))
  keepD : ∀ s O w, I s O w → I s O w.drew
  visit : ∀ (s : S) (t : Tr) (p : ByteArray) (l : Nat) (v : Value) (O : Nat → Prop) (w : World), G s t → t.sz ≤ Z → 1 ≤ l → p.size + l ≤ 100000000 → I s O w → B ≤ w.heap.size → TreeR w B v t → Calls Tryz.prog g (#[v, .string p, .int .i64 (l : Int)] ++ lb) w fun e w' =>
    e = .returned (.bool (step s t p l).1) ∧ (∃ O', I (step s t p l).2 O' w' ∧ ∀ j, O' j → O j ∨ w.heap.size ≤ j) ∧ FrO O w w'
theorem VisitOK.gen {S : Type} {step : S → Tr → ByteArray → Nat → Bool × S} {G : S → Tr → Prop} {I : S → (Nat → Prop) → World → Prop} {B Z g : Nat} {lb : Array Value} (V : VisitOK step G I B Z g lb) : VisitG step G I B Z g lb :=
  ⟨V.enters, V.own, fun s O w _ h => V.keep s O w _ h ((Below.refl _ _).alloc (Nat.le_refl _) _), fun s O w h => V.keep s O w _ h ((Below.refl _ _).drew), V.visit⟩
set_option maxHeartbeats 1000000 in
theorem below_any (p n : ByteArray) (l : Nat) (hp : p.size + n.size ≤ 2000000000) (w : World) : Calls Tryz.prog 114 #[.string p, .string n, .int .i64 ((l : Int) + 1)] w fun e w' => e = .returned (.string (belowP p n l)) ∧ w = w' := by
  have HE := hide (show belowP p n l = if l ≤ 1 then n else p ++ ⟨#[47]⟩ ++ n from rfl)
  go_enter Tryz.func114, Tryz.ntmps114
  by_cases q : l ≤ 1
  · have q1 : decide ((l : Int) + 1 ≤ 2) = true := decide_eq_true (by omega)
    have q2 : (l : Int) + 1 ≤ 2 := by omega
    have HQ := hide q
    clear q
    go_wp2_with fail
    go_ret
    exact ⟨ret_s (by rw [HE.out, if_pos HQ.out]), rfl⟩
  · have q1 : decide ((l : Int) + 1 ≤ 2) = false := decide_eq_false (by omega)
    have q2 : (2 : Int) < (l : Int) + 1 := by omega
    have HQ := hide q
    clear q
    have e1 : (⟨#[47]⟩ : ByteArray).size = 1 := rfl
    go_wp2_with fail
    go_ret
    exact ⟨ret_s (by rw [HE.out, if_neg HQ.out]), rfl⟩
end Go.Proofs.YtocgindpjjolpaaGreatDoor
