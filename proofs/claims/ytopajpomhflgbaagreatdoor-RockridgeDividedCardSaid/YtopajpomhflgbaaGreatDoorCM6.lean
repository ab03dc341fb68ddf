/- Contracts of Extension, Same, short and example. -/
import Derived.Test.YtopajpomhflgbaaGreatDoorCM1
import Derived.Lib.EndianBits
namespace Go.Proofs.YtopajpomhflgbaaGreatDoor
set_option linter.unusedSimpArgs false
set_option linter.unusedVariables false
open Go.RowKit

def extD : ByteArray := ⟨#[10, 10, 10, 1, 82, 82, 73, 80, 95, 49, 57, 57, 49, 65, 82, 79, 67, 75, 32, 82, 73, 68, 71, 69, 77, 65, 83, 84, 69, 82, 68, 73, 83, 67]⟩
def sER : ByteArray := ⟨#[69, 82]⟩
theorem conv_4 {P : Program} (src dst e : TypeId) (hs : P.underlying src = some (.slice e)) (he : P.underlying e = some (.int .u8)) (hd : P.underlying dst = some .string) (W : World) (t : TypeId) :
    (convert src dst (.slice (some ⟨W.heap.size, 0, none⟩) 4 4)).run P (W.alloc (.cells #[.int .u8 10, .int .u8 10, .int .u8 10, .int .u8 1] t)) = .ok (.string ⟨#[10, 10, 10, 1]⟩) (W.alloc (.cells #[.int .u8 10, .int .u8 10, .int .u8 10, .int .u8 1] t)) :=
  conv_lit src dst e hs he hd W t [10, 10, 10, 1] #[.int .u8 10, .int .u8 10, .int .u8 10, .int .u8 1] rfl 4 4 rfl
theorem conv_4' {P : Program} (src dst e : TypeId) (hs : P.underlying src = some (.slice e)) (he : P.underlying e = some (.int .u8)) (hd : P.underlying dst = some .string) (W : World) (t : TypeId) (o : Obj) :
    (convert src dst (.slice (some ⟨W.heap.size + 1, 0, none⟩) 4 4)).run P ((W.alloc o).alloc (.cells #[.int .u8 10, .int .u8 10, .int .u8 10, .int .u8 1] t)) = .ok (.string ⟨#[10, 10, 10, 1]⟩) ((W.alloc o).alloc (.cells #[.int .u8 10, .int .u8 10, .int .u8 10, .int .u8 1] t)) := by
  have := conv_4 (P := P) src dst e hs he hd (W.alloc o) t
  rw [World.size_alloc] at this
  exact this
theorem ret_ext {a : ByteArray} {v : Value} (h : a = extD) : Ending.returned (.tuple #[.agg #[.string ⟨#[69, 82]⟩, .int .i64 1, .string a], v]) = .returned (.tuple #[.agg #[.string sER, .int .i64 1, .string extD], v]) := by rw [h]; rfl
set_option maxRecDepth 100000 in
set_option maxHeartbeats 1000000 in
theorem ref_ext (w : World) : Calls Tryz.prog 37 #[.string ⟨#[82, 82, 73, 80, 95, 49, 57, 57, 49, 65]⟩, .string ⟨#[82, 79, 67, 75, 32, 82, 73, 68, 71, 69]⟩, .string ⟨#[77, 65, 83, 84, 69, 82, 68, 73, 83, 67]⟩, .int .i64 1] w fun e w' => e = .returned (.tuple #[.agg #[.string sER, .int .i64 1, .string extD], .int .i64 0]) ∧ Below w.heap.size w w' := by
  have cv := fun (o : Obj) => conv_4' (P := Tryz.prog) 62 9 5 Tryz.underlying62 Tryz.underlying5 Tryz.underlying9 w 5 o
  have HL : Live w [] := trivial
  go_enter Tryz.func37, Tryz.ntmps37
  go_wp2
  ((try simp only [Exit.inBlock, Exit.then]); refine bodyPost_ret (by simp only [results, Tryz.results37]; go_simp; try rfl) rfl ?_)
  exact ⟨ret_ext (by decide +kernel), by (repeat' (first | (with_reducible exact Below.refl _ _) | (with_reducible refine Below.alloc ?_ ?_ _) | (with_reducible refine Below.setCell ?_ ?_ _) | (with_reducible refine Below.drew ?_) | (with_reducible refine below_drewN' ?_) | (with_reducible refine below_bytesW ?_ ?_) | (with_reducible refine Below.trans ?_ (Below.mono (by assumption) ?_)) | omega | (simp only [World.size_alloc, World.size_setCell, World.size_drew]; omega) | (simp [size_bytesW]; omega) | (simp; omega)))⟩
set_option maxRecDepth 100000 in
set_option maxHeartbeats 1000000 in
theorem rref_ext (w : World) : Calls Tryz.prog 38 #[.string ⟨#[82, 82, 73, 80, 95, 49, 57, 57, 49, 65]⟩, .string ⟨#[82, 79, 67, 75, 32, 82, 73, 68, 71, 69]⟩, .string ⟨#[77, 65, 83, 84, 69, 82, 68, 73, 83, 67]⟩, .int .i64 1] w fun e w' => e = .returned (.tuple #[.agg #[.string sER, .int .i64 1, .string extD], .int .i64 0]) ∧ Below w.heap.size w w' := by
  have cv := fun (o : Obj) => conv_4' (P := Tryz.prog) 62 9 5 Tryz.underlying62 Tryz.underlying5 Tryz.underlying9 w 5 o
  have HL : Live w [] := trivial
  go_enter Tryz.func38, Tryz.ntmps38
  go_wp2
  ((try simp only [Exit.inBlock, Exit.then]); refine bodyPost_ret (by simp only [results, Tryz.results38]; go_simp; try rfl) rfl ?_)
  exact ⟨ret_ext (by decide +kernel), by (repeat' (first | (with_reducible exact Below.refl _ _) | (with_reducible refine Below.alloc ?_ ?_ _) | (with_reducible refine Below.setCell ?_ ?_ _) | (with_reducible refine Below.drew ?_) | (with_reducible refine below_drewN' ?_) | (with_reducible refine below_bytesW ?_ ?_) | (with_reducible refine Below.trans ?_ (Below.mono (by assumption) ?_)) | omega | (simp only [World.size_alloc, World.size_setCell, World.size_drew]; omega) | (simp [size_bytesW]; omega) | (simp; omega)))⟩
set_option maxHeartbeats 400000 in
theorem ext_any (w : World) : Calls Tryz.prog 13 #[] w fun e w' => e = .returned (.agg #[.string sER, .int .i64 1, .string extD]) ∧ Below w.heap.size w w' := by
  have HL : Live w [] := trivial
  go_enter Tryz.func13, Tryz.ntmps13
  go_wp2_with (first | (go_at_call 37; (with_reducible refine (ref_ext _).mono ?_); rintro e w' ⟨rfl, hb⟩; have hz := hb.size; (try simp only [World.size_alloc, World.size_setCell, World.size_drew, Nat.add_assoc, Nat.reduceAdd] at hz); (first | obtain ⟨HL, hk⟩ := HL.call hb hz (by simp only [World.size_alloc, World.size_setCell, World.size_drew, Nat.add_assoc, Nat.reduceAdd]) | obtain ⟨HL, hk⟩ := HL.call0 hb hz (by first | rfl | simp only [World.size_alloc, World.size_setCell, World.size_drew, Nat.add_assoc, Nat.reduceAdd])); (try simp only [addN, Nat.add_zero] at HL hk); have hl := HL; simp only [Live] at hl; (try simp only [Kept] at hk)))
  ((try simp only [Exit.inBlock, Exit.then]); refine bodyPost_ret (by simp only [results, Tryz.results13]; go_simp; try rfl) rfl ?_)
  exact ⟨rfl, by (repeat' (first | (with_reducible exact Below.refl _ _) | (with_reducible refine Below.alloc ?_ ?_ _) | (with_reducible refine Below.setCell ?_ ?_ _) | (with_reducible refine Below.drew ?_) | (with_reducible refine below_drewN' ?_) | (with_reducible refine below_bytesW ?_ ?_) | (with_reducible refine Below.trans ?_ (Below.mono (by assumption) ?_)) | omega | (simp only [World.size_alloc, World.size_setCell, World.size_drew]; omega) | (simp [size_bytesW]; omega) | (simp; omega)))⟩
set_option maxHeartbeats 400000 in
theorem rext_any (w : World) : Calls Tryz.prog 14 #[] w fun e w' => e = .returned (.agg #[.string sER, .int .i64 1, .string extD]) ∧ Below w.heap.size w w' := by
  have HL : Live w [] := trivial
  go_enter Tryz.func14, Tryz.ntmps14
  go_wp2_with (first | (go_at_call 38; (with_reducible refine (rref_ext _).mono ?_); rintro e w' ⟨rfl, hb⟩; have hz := hb.size; (try simp only [World.size_alloc, World.size_setCell, World.size_drew, Nat.add_assoc, Nat.reduceAdd] at hz); (first | obtain ⟨HL, hk⟩ := HL.call hb hz (by simp only [World.size_alloc, World.size_setCell, World.size_drew, Nat.add_assoc, Nat.reduceAdd]) | obtain ⟨HL, hk⟩ := HL.call0 hb hz (by first | rfl | simp only [World.size_alloc, World.size_setCell, World.size_drew, Nat.add_assoc, Nat.reduceAdd])); (try simp only [addN, Nat.add_zero] at HL hk); have hl := HL; simp only [Live] at hl; (try simp only [Kept] at hk)))
  ((try simp only [Exit.inBlock, Exit.then]); refine bodyPost_ret (by simp only [results, Tryz.results14]; go_simp; try rfl) rfl ?_)
  exact ⟨rfl, by (repeat' (first | (with_reducible exact Below.refl _ _) | (with_reducible refine Below.alloc ?_ ?_ _) | (with_reducible refine Below.setCell ?_ ?_ _) | (with_reducible refine Below.drew ?_) | (with_reducible refine below_drewN' ?_) | (with_reducible refine below_bytesW ?_ ?_) | (with_reducible refine Below.trans ?_ (Below.mono (by assumption) ?_)) | omega | (simp only [World.size_alloc, World.size_setCell, World.size_drew]; omega) | (simp [size_bytesW]; omega) | (simp; omega)))⟩
def shortB (r : RR) : Bool := decide (r.name.size ≤ 400 ∧ r.target.size ≤ 400)
set_option maxHeartbeats 400000 in
theorem short_any (r : RR) (w : World) : Calls Tryz.prog 9 #[.agg r.cells] w fun e w' => e = .returned (.bool (shortB r)) ∧ Below w.heap.size w w' := by
  have hB1 : Blk (w.alloc (.cells r.cells 23)) w.heap.size r.cells 23 := Blk.newAt rfl
  have hbel1 : Below w.heap.size w (w.alloc (.cells r.cells 23)) := by (repeat' (first | (with_reducible exact Below.refl _ _) | (with_reducible refine Below.alloc ?_ ?_ _) | (with_reducible refine Below.setCell ?_ ?_ _) | (with_reducible refine Below.drew ?_) | (with_reducible refine below_drewN' ?_) | (with_reducible refine below_bytesW ?_ ?_) | (with_reducible refine Below.trans ?_ (Below.mono (by assumption) ?_)) | omega | (simp only [World.size_alloc, World.size_setCell, World.size_drew]; omega) | (simp [size_bytesW]; omega) | (simp; omega)))
  have HL : Live w [] := trivial
  go_enter Tryz.func9, Tryz.ntmps9
  go_upto_region 1 with fail
  generalize w.alloc (.cells r.cells 23) = W1 at *
  have hrr := RRat.of hB1
  unfold RRat at hrr
  go_wp2
  all_goals
    go_ret
    exact ⟨ret_b (by rw [Bool.eq_iff_iff]; simp [shortB, *] <;> omega), hbel1⟩
/-- A slice reads as entries. -/
def ReadsE (w : World) (a : Value) (L : List En) : Prop := ∃ A c, a = .slice A L.length c ∧ (0 < L.length → ∃ g, A = some ⟨g, 0, none⟩ ∧ g < w.heap.size ∧ ∀ j u, (entsV L)[j]? = some u → w.cell? ⟨g, j, none⟩ = some u)
theorem ReadsE.of {w : World} {B : Nat} {v : Value} {L : List En} (h : w.ownsRow B 32 3 v L.length (entsV L)) : ReadsE w v L := by
  rcases Go.Joins.ownsRow_forms h with ⟨rfl, h0⟩ | ⟨g, cap, rfl⟩
  · exact ⟨none, 0, by rw [h0], fun h1 => by omega⟩
  · refine ⟨_, _, rfl, fun _ => ⟨g, rfl, (h.lt g rfl).2, fun j u hu => ?_⟩⟩
    rw [h.cellAt j (by have := (List.getElem?_eq_some_iff.1 hu).1; rw [entsV_len] at this; exact this)]
    exact hu
theorem ReadsE.below {w w1 : World} {v : Value} {L : List En} (h : ReadsE w v L) (hb : Below w.heap.size w w1) : ReadsE w1 v L := by
  obtain ⟨A, c, e, h⟩ := h
  refine ⟨A, c, e, fun h0 => ?_⟩
  obtain ⟨g, e2, hg, hc⟩ := h h0
  exact ⟨g, e2, Nat.lt_of_lt_of_le hg hb.size, fun j u hu => (hb.cell (p := ⟨g, j, none⟩) hg).trans (hc j u hu)⟩
theorem entsV_at (L : List En) (i : Nat) (e : En) (h : L[i]? = some e) : (entsV L)[i * 3]? = some (.string e.sig) ∧ (entsV L)[i * 3 + 1]? = some (.int .i64 e.ver) ∧ (entsV L)[i * 3 + 1 + 1]? = some (.string e.data) := by
  induction L generalizing i with
  | nil => simp at h
  | cons a r ih =>
    have hc : entsV (a :: r) = a.cells ++ entsV r := by simp [entsV]
    rw [hc]
    cases i with
    | zero => simp at h; subst h; exact ⟨rfl, rfl, rfl⟩
    | succ i =>
      simp at h
      obtain ⟨h1, h2, h3⟩ := ih i h
      have e3 : a.cells.length = 3 := rfl
      refine ⟨?_, ?_, ?_⟩
      · rw [List.getElem?_append_right (by omega), e3, show (i + 1) * 3 - 3 = i * 3 by omega]; exact h1
      · rw [List.getElem?_append_right (by omega), e3, show (i + 1) * 3 + 1 - 3 = i * 3 + 1 by omega]; exact h2
      · rw [List.getElem?_append_right (by omega), e3, show (i + 1) * 3 + 1 + 1 - 3 = i * 3 + 1 + 1 by omega]; exact h3
set_option maxHeartbeats 1000000 in
theorem same_any (L : List En) (a b : Value) (hL : L.length ≤ 1000) (w : World) (ha : ReadsE w a L) (hb : ReadsE w b L) : Calls Tryz.prog 12 #[a, b] w fun e w' => e = .returned (.bool true) ∧ Below w.heap.size w w' := by
  obtain ⟨A, c, rfl, hA⟩ := ha
  obtain ⟨A2, c2, rfl, hA2⟩ := hb
  have HA := hide hA
  have HA2 := hide hA2
  clear hA hA2
  have HL : Live w [] := trivial
  go_enter Tryz.func12, Tryz.ntmps12
  go_wp2_with fail
  go_loopw [5] (fun i wr => ∃ k : Nat, k ≤ L.length ∧ i = .int .i64 k ∧ Below w.heap.size w wr) (fun i _ => L.length - (intOf i).toNat)
  case atStart => exact ⟨0, by omega, rfl, by (repeat' (first | (with_reducible exact Below.refl _ _) | (with_reducible refine Below.alloc ?_ ?_ _) | (with_reducible refine Below.setCell ?_ ?_ _) | (with_reducible refine Below.drew ?_) | (with_reducible refine below_drewN' ?_) | (with_reducible refine below_bytesW ?_ ?_) | (with_reducible refine Below.trans ?_ (Below.mono (by assumption) ?_)) | omega | (simp only [World.size_alloc, World.size_setCell, World.size_drew]; omega) | (simp [size_bytesW]; omega) | (simp; omega)))⟩
  case round =>
    obtain ⟨k, hk, rfl, hbel⟩ := hrel
    have hsz := hbel.size
    by_cases hlt : k < L.length
    · obtain ⟨e, he⟩ : ∃ e, L[k]? = some e := ⟨_, List.getElem?_eq_getElem hlt⟩
      obtain ⟨g, rfl, hg, hc⟩ := HA.out (by omega)
      obtain ⟨g2, rfl, hg2, hc2⟩ := HA2.out (by omega)
      obtain ⟨v0, v1, v2⟩ := entsV_at L k e he
      have c0 : wr.cell? ⟨g, k * 3, none⟩ = some (.string e.sig) := (hbel.cell (p := ⟨g, _, none⟩) hg).trans (hc _ _ v0)
      have c1 : wr.cell? ⟨g, k * 3 + 1, none⟩ = some (.int .i64 e.ver) := (hbel.cell (p := ⟨g, _, none⟩) hg).trans (hc _ _ v1)
      have c2 : wr.cell? ⟨g, k * 3 + 1 + 1, none⟩ = some (.string e.data) := (hbel.cell (p := ⟨g, _, none⟩) hg).trans (hc _ _ v2)
      have d0 : wr.cell? ⟨g2, k * 3, none⟩ = some (.string e.sig) := (hbel.cell (p := ⟨g2, _, none⟩) hg2).trans (hc2 _ _ v0)
      have d1 : wr.cell? ⟨g2, k * 3 + 1, none⟩ = some (.int .i64 e.ver) := (hbel.cell (p := ⟨g2, _, none⟩) hg2).trans (hc2 _ _ v1)
      have d2 : wr.cell? ⟨g2, k * 3 + 1 + 1, none⟩ = some (.string e.data) := (hbel.cell (p := ⟨g2, _, none⟩) hg2).trans (hc2 _ _ v2)
      clear he hc hc2 v0 v1 v2
      go_upto_region 6 with fail
      refine wp_region_noPanic ?_
      refine wp_region_held_drew (S := (fun x => x.cell? ⟨g, k * 3, none⟩ = some (.string e.sig) ∧ x.cell? ⟨g, k * 3 + 1, none⟩ = some (.int .i64 e.ver) ∧ x.cell? ⟨g, k * 3 + 1 + 1, none⟩ = some (.string e.data) ∧ x.cell? ⟨g2, k * 3, none⟩ = some (.string e.sig) ∧ x.cell? ⟨g2, k * 3 + 1, none⟩ = some (.int .i64 e.ver) ∧ x.cell? ⟨g2, k * 3 + 1 + 1, none⟩ = some (.string e.data))) (by kernel_rfl) (by (try dsimp only); first | assumption | (simp [*, go_sem]; done) | (refine ⟨?_, ?_⟩ <;> simp [*, go_sem])) (fun hHeld => ?_)
      refine wpAnyH_take (i := 0) (oi := { dst := some 17, op := Go.Op.move (Go.Operand.tmp 0), type := 26, pos := "ref.go:268", after := #[], guard := none }) (v := ?_) rfl (by kernel_rfl) (by kernel_rfl) (by kernel_rfl) (fun _ _ _ h => h) (Or.inl ⟨by rfl, ?_⟩) (by assumption) ?_
      rotate_left
      · intro w hSw; (try dsimp only at hSw); go_simp; (try with_reducible rfl)
      try simp only [Act.put, List.setIfInBounds_toArray, List.set_cons_zero, List.set_cons_succ]
      refine wpAnyH_take (i := 1) (oi := { dst := some 18, op := Go.Op.move (Go.Operand.tmp 5), type := 3, pos := "ref.go:268", after := #[], guard := none }) (v := ?_) rfl (by kernel_rfl) (by kernel_rfl) (by kernel_rfl) (fun _ _ _ h => h) (Or.inl ⟨by rfl, ?_⟩) (by assumption) ?_
      rotate_left
      · intro w hSw; (try dsimp only at hSw); go_simp; (try with_reducible rfl)
      try simp only [Act.put, List.setIfInBounds_toArray, List.set_cons_zero, List.set_cons_succ]
      refine wpAnyH_take (i := 2) (oi := { dst := some 19, op := Go.Op.indexAddr 26 (Go.Operand.tmp 17) (Go.Operand.tmp 18), type := 0, pos := "ref.go:268", after := #[{ on := 0, ground := Go.Ground.data }, { on := 1, ground := Go.Ground.data }], guard := none }) (v := ?_) rfl (by kernel_rfl) (by kernel_rfl) (by kernel_rfl) (fun _ _ _ h => h) (Or.inl ⟨by rfl, ?_⟩) (by assumption) ?_
      rotate_left
      · intro w hSw; (try dsimp only at hSw); go_simp; (try with_reducible rfl)
      try simp only [Act.put, List.setIfInBounds_toArray, List.set_cons_zero, List.set_cons_succ]
      refine wpAnyH_take (i := 3) (oi := { dst := some 20, op := Go.Op.load 32 (Go.Operand.tmp 19), type := 32, pos := "ref.go:268", after := #[{ on := 2, ground := Go.Ground.data }], guard := none }) (v := ?_) rfl (by kernel_rfl) (by kernel_rfl) (by kernel_rfl) (fun _ _ _ h => h) (Or.inl ⟨by rfl, ?_⟩) (by assumption) ?_
      rotate_left
      · intro w hSw; (try dsimp only at hSw); go_simp; (try with_reducible rfl)
      try simp only [Act.put, List.setIfInBounds_toArray, List.set_cons_zero, List.set_cons_succ]
      refine wpAnyH_take (i := 4) (oi := { dst := some 21, op := Go.Op.move (Go.Operand.tmp 1), type := 26, pos := "ref.go:268", after := #[], guard := none }) (v := ?_) rfl (by kernel_rfl) (by kernel_rfl) (by kernel_rfl) (fun _ _ _ h => h) (Or.inl ⟨by rfl, ?_⟩) (by assumption) ?_
      rotate_left
      · intro w hSw; (try dsimp only at hSw); go_simp; (try with_reducible rfl)
      try simp only [Act.put, List.setIfInBounds_toArray, List.set_cons_zero, List.set_cons_succ]
      refine wpAnyH_take (i := 5) (oi := { dst := some 22, op := Go.Op.move (Go.Operand.tmp 5), type := 3, pos := "ref.go:268", after := #[], guard := none }) (v := ?_) rfl (by kernel_rfl) (by kernel_rfl) (by kernel_rfl) (fun _ _ _ h => h) (Or.inl ⟨by rfl, ?_⟩) (by assumption) ?_
      rotate_left
      · intro w hSw; (try dsimp only at hSw); go_simp; (try with_reducible rfl)
      try simp only [Act.put, List.setIfInBounds_toArray, List.set_cons_zero, List.set_cons_succ]
      refine wpAnyH_take (i := 6) (oi := { dst := some 23, op := Go.Op.indexAddr 26 (Go.Operand.tmp 21) (Go.Operand.tmp 22), type := 0, pos := "ref.go:268", after := #[{ on := 4, ground := Go.Ground.data }, { on := 5, ground := Go.Ground.data }], guard := none }) (v := ?_) rfl (by kernel_rfl) (by kernel_rfl) (by kernel_rfl) (fun _ _ _ h => h) (Or.inl ⟨by rfl, ?_⟩) (by assumption) ?_
      rotate_left
      · intro w hSw; (try dsimp only at hSw); go_simp; (try with_reducible rfl)
      try simp only [Act.put, List.setIfInBounds_toArray, List.set_cons_zero, List.set_cons_succ]
      refine wpAnyH_take (i := 7) (oi := { dst := some 24, op := Go.Op.load 32 (Go.Operand.tmp 23), type := 32, pos := "ref.go:268", after := #[{ on := 6, ground := Go.Ground.data }], guard := none }) (v := ?_) rfl (by kernel_rfl) (by kernel_rfl) (by kernel_rfl) (fun _ _ _ h => h) (Or.inl ⟨by rfl, ?_⟩) (by assumption) ?_
      rotate_left
      · intro w hSw; (try dsimp only at hSw); go_simp; (try with_reducible rfl)
      try simp only [Act.put, List.setIfInBounds_toArray, List.set_cons_zero, List.set_cons_succ]
      refine wpAnyH_take (i := 8) (oi := { dst := some 25, op := Go.Op.binOp Go.BinOp.neq 32 (Go.Operand.tmp 20) (Go.Operand.tmp 24) 32, type := 4, pos := "ref.go:268", after := #[{ on := 3, ground := Go.Ground.data }, { on := 7, ground := Go.Ground.data }], guard := none }) (v := ?_) rfl (by kernel_rfl) (by kernel_rfl) (by kernel_rfl) (fun _ _ _ h => h) (Or.inl ⟨by rfl, ?_⟩) (by assumption) ?_
      rotate_left
      · intro w hSw; (try dsimp only at hSw); go_simp; (try with_reducible rfl)
      try simp only [Act.put, List.setIfInBounds_toArray, List.set_cons_zero, List.set_cons_succ]
      refine wpAnyH_done (by kernel_rfl) ?_ _
      refine NoPanic.normal ?_
      go_wp2
      go_roundw
      case rel => exact ⟨k + 1, by omega, by go_num, hbel.drew⟩
      case measure => simp [intOf]; omega
    · obtain rfl : k = L.length := by omega
      go_wp2
      go_ret
      exact ⟨rfl, hbel⟩
end Go.Proofs.YtopajpomhflgbaaGreatDoor
/- Contracts of endian.read at four little-endian bytes, ReadLittle and rockridge.number. -/
namespace Go.Proofs.YtopajpomhflgbaaGreatDoor
set_option linter.unusedSimpArgs false
set_option linter.unusedVariables false
open Go.RowKit
open Go.PlainAid (bt get_bt bt_nonneg bt_le)

set_option maxHeartbeats 400000 in
theorem inside_any (s : ByteArray) (p : Int) (w : World) (hs : s.size ≤ 100000) (hp : 0 ≤ p ∧ p ≤ 100000) : Calls Tryz.prog 127 #[.string s, .int .i64 p, .int .i64 4] w fun e w' => e = .returned (.bool (decide (p + 4 ≤ s.size))) ∧ w = w' := by
  have HL : Live w [] := trivial
  go_enter Tryz.func127, Tryz.ntmps127
  go_wp2
  all_goals
    go_ret
    exact ⟨ret_b (by rw [Bool.eq_iff_iff]; simp <;> omega), rfl⟩
/-- The number of four bytes, the least significant one first. -/
def le4 (s : ByteArray) (p : Nat) : Int := bt s p + bt s (p + 1) * 256 + bt s (p + 2) * 65536 + bt s (p + 3) * 16777216
set_option maxHeartbeats 4000000 in
theorem read4 (s : ByteArray) (p : Nat) (hs : s.size ≤ 100000) (hp : p + 4 ≤ s.size) (w : World) : Calls Tryz.prog 109 #[.string s, .int .i64 p, .int .i64 4, .func (.func 117) #[] #[]] w fun e w' => e = .returned (.tuple #[.int .i64 (le4 s p), .int .i64 0]) ∧ w = w' := by
  have hg := get_bt s
  have b0 := bt_nonneg s p
  have c0 := bt_le s p
  have IN := hide (fun W => inside_any s p W hs (by omega))
  have hd : decide ((p : Int) + 4 ≤ (s.size : Int)) = true := by simp; omega
  rw [hd] at IN
  have b1 := bt_nonneg s (p + 1)
  have c1 := bt_le s (p + 1)
  have b2 := bt_nonneg s (p + 2)
  have c2 := bt_le s (p + 2)
  have b3 := bt_nonneg s (p + 3)
  have c3 := bt_le s (p + 3)
  have k0 : bits .or .u64 0 (bt s p) = bt s p := by
    have := bits_join_low .u64 64 (by decide) wraps_u64 0 0 (bt s p) (by omega) (by decide) (by decide) b0 (by omega) (by omega)
    rw [this]; omega
  have k1 : IntKind.u64.wrap (bt s (p + 1)) = bt s (p + 1) := wraps_u64 _ b1 (by omega)
  have k1a : IntKind.u64.wrap (bt s (p + 1) * 256) = bt s (p + 1) * 256 := wraps_u64 _ (by omega) (by omega)
  have k1b : bits .or .u64 (bt s p) (bt s (p + 1) * 256) = bt s p + bt s (p + 1) * 256 := u64_or8 _ _ (by omega) (by omega) (by omega) (by omega) (by omega)
  have k2 : IntKind.u64.wrap (bt s (p + 2)) = bt s (p + 2) := wraps_u64 _ b2 (by omega)
  have k2a : IntKind.u64.wrap (bt s (p + 2) * 65536) = bt s (p + 2) * 65536 := wraps_u64 _ (by omega) (by omega)
  have k2b : bits .or .u64 (bt s p + bt s (p + 1) * 256) (bt s (p + 2) * 65536) = bt s p + bt s (p + 1) * 256 + bt s (p + 2) * 65536 := u64_or16 _ _ (by omega) (by omega) (by omega) (by omega) (by omega)
  have k3 : IntKind.u64.wrap (bt s (p + 3)) = bt s (p + 3) := wraps_u64 _ b3 (by omega)
  have k3a : IntKind.u64.wrap (bt s (p + 3) * 16777216) = bt s (p + 3) * 16777216 := wraps_u64 _ (by omega) (by omega)
  have k3b : bits .or .u64 (bt s p + bt s (p + 1) * 256 + bt s (p + 2) * 65536) (bt s (p + 3) * 16777216) = bt s p + bt s (p + 1) * 256 + bt s (p + 2) * 65536 + bt s (p + 3) * 16777216 := u64_or24 _ _ (by omega) (by omega) (by omega) (by omega) (by omega)
  have HL : Live w [] := trivial
  go_enter Tryz.func109, Tryz.ntmps109
  go_wp2_with (go_at_call 127; refine (IN.out _).mono ?_; rintro e w' ⟨rfl, rfl⟩)
  refine wp_loop_rounds 5 ?_
  rw [rounds_succ]
  go_wp2_with (first | (go_at_call 117; (with_reducible refine (up1_any _ _).mono ?_); rintro e w' ⟨rfl, rfl⟩))
  rw [rounds_succ]
  go_wp2_with (first | (go_at_call 117; (with_reducible refine (up1_any _ _).mono ?_); rintro e w' ⟨rfl, rfl⟩))
  rw [rounds_succ]
  go_wp2_with (first | (go_at_call 117; (with_reducible refine (up1_any _ _).mono ?_); rintro e w' ⟨rfl, rfl⟩))
  rw [rounds_succ]
  go_wp2_with (first | (go_at_call 117; (with_reducible refine (up1_any _ _).mono ?_); rintro e w' ⟨rfl, rfl⟩))
  rw [rounds_succ]
  go_wp2_with (first | (go_at_call 117; (with_reducible refine (up1_any _ _).mono ?_); rintro e w' ⟨rfl, rfl⟩))
  go_ret2
  exact ⟨rfl, rfl⟩
set_option maxHeartbeats 1000000 in
theorem readL4 (s : ByteArray) (p : Nat) (hs : s.size ≤ 100000) (hp : p + 4 ≤ s.size) (w : World) : Calls Tryz.prog 79 #[.string s, .int .i64 p, .int .i64 4] w fun e w' => e = .returned (.tuple #[.int .i64 (le4 s p), .int .i64 0]) ∧ w = w' := by
  have RD4 := hide (fun W => read4 s p hs hp W)
  have HL : Live w [] := trivial
  go_enter Tryz.func79, Tryz.ntmps79
  go_wp2_with (first | (go_at_call 91; (with_reducible refine (up_any _ _).mono ?_); rintro e w' ⟨rfl, rfl⟩) | (go_at_call 109; (with_reducible refine (RD4.out _).mono ?_); rintro e w' ⟨rfl, rfl⟩))
  go_ret2
  exact ⟨rfl, rfl⟩
set_option maxHeartbeats 1000000 in
theorem number_at (s : ByteArray) (i p : Nat) (hi : 8 * i = p) (hs : s.size ≤ 100000) (hp : p + 4 ≤ s.size) (w : World) : Calls Tryz.prog 51 #[.string s, .int .i64 i] w fun e w' => e = .returned (.int .i64 (le4 s p)) ∧ w = w' := by
  have RL := hide (fun W => readL4 s p hs hp W)
  subst hi
  have hc : ((8 * i : Nat) : Int) = 8 * (i : Int) := by omega
  rw [hc] at RL
  clear hc
  have HL : Live w [] := trivial
  go_enter Tryz.func51, Tryz.ntmps51
  go_wp2_with (first | (go_at_call 79; (with_reducible refine (RL.out _).mono ?_); rintro e w' ⟨rfl, rfl⟩))
  go_ret
  exact ⟨rfl, rfl⟩
set_option maxHeartbeats 1000000 in
theorem number_nil (w : World) : Calls Tryz.prog 51 #[.string ⟨#[]⟩, .int .i64 0] w fun e w' => e = .returned (.int .i64 0) ∧ w = w' := by
  have IN := hide (fun W => inside_any ⟨#[]⟩ 0 W (by decide) (by omega))
  rw [show decide ((0 : Int) + 4 ≤ ((ByteArray.mk #[]).size : Int)) = false by decide] at IN
  have RN := hide (show ∀ W, Calls Tryz.prog 109 #[.string ⟨#[]⟩, .int .i64 0, .int .i64 4, .func (.func 117) #[] #[]] W fun e w' => e = .returned (.tuple #[.int .i64 0, .int .i64 2]) ∧ W = w' from fun W => by
    go_enter Tryz.func109, Tryz.ntmps109
    go_wp2_with (go_at_call 127; refine (IN.out _).mono ?_; rintro e w' ⟨rfl, rfl⟩)
    go_ret2
    exact ⟨rfl, rfl⟩)
  have RL := hide (show ∀ W, Calls Tryz.prog 79 #[.string ⟨#[]⟩, .int .i64 0, .int .i64 4] W fun e w' => e = .returned (.tuple #[.int .i64 0, .int .i64 2]) ∧ W = w' from fun W => by
    go_enter Tryz.func79, Tryz.ntmps79
    go_wp2_with (first | (go_at_call 91; (with_reducible refine (up_any _ _).mono ?_); rintro e w' ⟨rfl, rfl⟩) | (go_at_call 109; refine (RN.out _).mono ?_; rintro e w' ⟨rfl, rfl⟩))
    go_ret2
    exact ⟨rfl, rfl⟩)
  have HL : Live w [] := trivial
  go_enter Tryz.func51, Tryz.ntmps51
  go_wp2_with (first | (go_at_call 79; (with_reducible refine (RL.out _).mono ?_); rintro e w' ⟨rfl, rfl⟩))
  go_ret
  exact ⟨rfl, rfl⟩
end Go.Proofs.YtopajpomhflgbaaGreatDoor
/- Contracts of rockridge.first and joined. -/
namespace Go.Proofs.YtopajpomhflgbaaGreatDoor
set_option linter.unusedSimpArgs false
set_option linter.unusedVariables false
open Go.RowKit

def firstB (L : List En) (sig : ByteArray) : Option ByteArray := (L.find? fun e => decide (e.sig = sig)).map En.data
theorem beq_ne {s t : ByteArray} (h : s ≠ t) : (s.toList == t.toList) = false := by
  rw [beq_eq_false_iff_ne]
  intro e
  apply h
  rw [ByteArray.toList_eq, ByteArray.toList_eq] at e
  exact ByteArray.ext (Array.toList_inj.1 e)
set_option maxHeartbeats 1000000 in
theorem flit (s d sig : ByteArray) (v : Int) (sb : Nat) (w : World) (hsb : sb < w.heap.size) (hc : w.cell? ⟨sb, 0, none⟩ = some (.string sig)) :
    Calls Tryz.prog 78 #[.agg #[.string s, .int .i64 v, .string d], .pointer (some ⟨sb, 0, none⟩)] w fun e w' => e = .returned (.bool (decide (s = sig))) ∧ Below w.heap.size w w' := by
  by_cases h : s = sig
  · subst h
    have HL : Live w [] := trivial
    go_enter Tryz.func78, Tryz.ntmps78
    go_wp2
    go_ret
    exact ⟨ret_b (by simp), by (repeat' (first | (with_reducible exact Below.refl _ _) | (with_reducible refine Below.alloc ?_ ?_ _) | (with_reducible refine Below.setCell ?_ ?_ _) | (with_reducible refine Below.drew ?_) | (with_reducible refine below_drewN' ?_) | (with_reducible refine below_bytesW ?_ ?_) | (with_reducible refine Below.trans ?_ (Below.mono (by assumption) ?_)) | omega | (simp only [World.size_alloc, World.size_setCell, World.size_drew]; omega) | (simp [size_bytesW]; omega) | (simp; omega)))⟩
  · have h1 := beq_ne h
    have H := hide h
    clear h
    have HL : Live w [] := trivial
    go_enter Tryz.func78, Tryz.ntmps78
    go_wp2
    go_ret
    exact ⟨ret_b (by simp [H.out]), by (repeat' (first | (with_reducible exact Below.refl _ _) | (with_reducible refine Below.alloc ?_ ?_ _) | (with_reducible refine Below.setCell ?_ ?_ _) | (with_reducible refine Below.drew ?_) | (with_reducible refine below_drewN' ?_) | (with_reducible refine below_bytesW ?_ ?_) | (with_reducible refine Below.trans ?_ (Below.mono (by assumption) ?_)) | omega | (simp only [World.size_alloc, World.size_setCell, World.size_drew]; omega) | (simp [size_bytesW]; omega) | (simp; omega)))⟩
/-- The place of the first entry with a signature. -/
def IdxE (L : List En) (sig : ByteArray) (w : World) (e : Ending) (w' : World) : Prop :=
  ∃ i : Int, e = .returned (.int .i64 i) ∧ ((i = -1 ∧ firstB L sig = none) ∨ ∃ (k : Nat) (x : En), i = k ∧ L[k]? = some x ∧ firstB L sig = some x.data) ∧ Below w.heap.size w w'
theorem first_none {L : List En} {sig : ByteArray} (h : ∀ j x, j < L.length → L[j]? = some x → x.sig ≠ sig) : firstB L sig = none := by
  unfold firstB
  rw [List.find?_eq_none.2]
  · rfl
  · intro x hx
    obtain ⟨j, hj, e⟩ := List.getElem_of_mem hx
    simpa using h j x hj (by rw [List.getElem?_eq_getElem hj, e])
theorem first_some {L : List En} {sig : ByteArray} {k : Nat} {x : En} (h : ∀ j y, j < k → L[j]? = some y → y.sig ≠ sig) (hk : L[k]? = some x) (hx : x.sig = sig) : firstB L sig = some x.data := by
  unfold firstB
  have : L.find? (fun e => decide (e.sig = sig)) = some x := by
    obtain ⟨hi, e⟩ := List.getElem?_eq_some_iff.1 hk
    rw [List.find?_eq_some_iff_getElem]
    refine ⟨by simpa using hx, k, hi, e, fun j hj => ?_⟩
    simpa using h j _ hj (List.getElem?_eq_getElem (by omega))
  rw [this]
  rfl
set_option maxHeartbeats 2000000 in
theorem idx_ent (L : List En) (sig : ByteArray) (a : Value) (sb : Nat) (w : World) (hL : L.length ≤ 1000) (ha : ReadsE w a L) (hsb : sb < w.heap.size) (hc : w.cell? ⟨sb, 0, none⟩ = some (.string sig)) :
    Calls Tryz.prog 77 #[a, .func (.func 78) #[] #[.pointer (some ⟨sb, 0, none⟩)]] w (IdxE L sig w) := by
  obtain ⟨A, c, rfl, hA⟩ := ha
  have HA := hide hA
  clear hA
  have HL : Live w [] := trivial
  go_enter Tryz.func77, Tryz.ntmps77
  go_wp2_with fail
  go_loopw [8] (fun i wr => ∃ k : Nat, k ≤ L.length ∧ i = .int .i64 k ∧ (∀ j y, j < k → L[j]? = some y → y.sig ≠ sig) ∧ Below w.heap.size w wr) (fun i _ => L.length - (intOf i).toNat)
  case atStart => exact ⟨0, by omega, rfl, fun j y hj => by omega, by (repeat' (first | (with_reducible exact Below.refl _ _) | (with_reducible refine Below.alloc ?_ ?_ _) | (with_reducible refine Below.setCell ?_ ?_ _) | (with_reducible refine Below.drew ?_) | (with_reducible refine below_drewN' ?_) | (with_reducible refine below_bytesW ?_ ?_) | (with_reducible refine Below.trans ?_ (Below.mono (by assumption) ?_)) | omega | (simp only [World.size_alloc, World.size_setCell, World.size_drew]; omega) | (simp [size_bytesW]; omega) | (simp; omega)))⟩
  case round =>
    obtain ⟨k, hk, rfl, hno, hbel⟩ := hrel
    have HN := hide hno
    clear hno
    have hsz := hbel.size
    by_cases hlt : k < L.length
    · obtain ⟨e, he⟩ : ∃ e, L[k]? = some e := ⟨_, List.getElem?_eq_getElem hlt⟩
      obtain ⟨g, rfl, hg, hcl⟩ := HA.out (by omega)
      obtain ⟨v0, v1, v2⟩ := entsV_at L k e he
      have c0 : wr.cell? ⟨g, k * 3, none⟩ = some (.string e.sig) := (hbel.cell (p := ⟨g, _, none⟩) hg).trans (hcl _ _ v0)
      have c1 : wr.cell? ⟨g, k * 3 + 1, none⟩ = some (.int .i64 e.ver) := (hbel.cell (p := ⟨g, _, none⟩) hg).trans (hcl _ _ v1)
      have c2 : wr.cell? ⟨g, k * 3 + 1 + 1, none⟩ = some (.string e.data) := (hbel.cell (p := ⟨g, _, none⟩) hg).trans (hcl _ _ v2)
      have hsc : wr.cell? ⟨sb, 0, none⟩ = some (.string sig) := (hbel.cell (p := ⟨sb, _, none⟩) hsb).trans hc
      have HE := hide he
      have FL := hide (flit e.sig e.data sig e.ver sb wr (by omega) hsc)
      clear he hcl v0 v1 v2
      by_cases hx : e.sig = sig
      · have HX := hide hx
        rw [decide_eq_true hx] at FL
        clear hx
        go_wp2_with (go_at_call 78; refine FL.out.mono ?_; rintro e w' ⟨rfl, hb⟩; have hz := hb.size)
        go_ret
        exact ⟨k, rfl, Or.inr ⟨k, _, rfl, HE.out, first_some HN.out HE.out HX.out⟩, hbel.trans (hb.mono hsz)⟩
      · have HX := hide hx
        rw [decide_eq_false hx] at FL
        clear hx
        go_wp2_with (go_at_call 78; refine FL.out.mono ?_; rintro e w' ⟨rfl, hb⟩; have hz := hb.size)
        go_roundw
        case rel => exact ⟨k + 1, by omega, by go_num, fun j y hj hy => by
          rcases Nat.lt_or_ge j k with h' | h'
          · exact HN.out j y h' hy
          · obtain rfl : j = k := by omega
            rw [HE.out] at hy; injection hy with hy; rw [← hy]; exact HX.out, hbel.trans (hb.mono hsz)⟩
        case measure => simp [intOf]; omega
    · obtain rfl : k = L.length := by omega
      go_wp2
      go_ret
      exact ⟨-1, rfl, Or.inl ⟨rfl, first_none HN.out⟩, hbel⟩
/-- What first returns. -/
def firstV (o : Option ByteArray) : Value := match o with
  | some d => .tuple #[.string d, .bool true]
  | none => .tuple #[.string ⟨#[]⟩, .bool false]
set_option maxHeartbeats 2000000 in
theorem first_any (L : List En) (sig : ByteArray) (a : Value) (w : World) (hL : L.length ≤ 1000) (ha : ReadsE w a L) : Calls Tryz.prog 48 #[a, .string sig] w fun e w' => e = .returned (firstV (firstB L sig)) ∧ Below w.heap.size w w' := by
  have IX := hide (idx_ent L sig a w.heap.size (w.alloc (.cells #[.string sig] 9)) hL (ha.below ((Below.refl _ _).alloc (Nat.le_refl _) _)) (by simp) (by go_simp))
  have HA := hide ha
  obtain ⟨A, c, rfl, -⟩ := ha
  have HL : Live w [] := trivial
  go_enter Tryz.func48, Tryz.ntmps48
  go_wp2_with fail
  refine IX.out.mono ?_
  rintro e w1 ⟨i, rfl, hi, hb1⟩
  have hbel : Below w.heap.size w w1 := ((Below.refl _ _).alloc (Nat.le_refl _) _).trans (hb1.mono (by simp))
  rcases hi with ⟨rfl, hn⟩ | ⟨k, x, rfl, hx, hs⟩
  · have HN := hide hn
    clear hn
    go_wp2
    go_ret2
    exact ⟨by rw [HN.out]; rfl, hbel⟩
  · have HS := hide hs
    have hkl := (List.getElem?_eq_some_iff.1 hx).1
    obtain ⟨A2, c2, e2, h2⟩ := HA.out.below hbel
    injection e2 with e2 e3 e4
    subst e2 e4
    obtain ⟨g, rfl, hg, hcl⟩ := h2 (by omega)
    obtain ⟨v0, v1, v2⟩ := entsV_at L k x hx
    have cc := hcl _ _ v2
    clear hs hx hcl v0 v1 v2 h2
    go_wp2
    go_ret2
    exact ⟨by rw [HS.out]; rfl, hbel⟩
end Go.Proofs.YtopajpomhflgbaaGreatDoor
