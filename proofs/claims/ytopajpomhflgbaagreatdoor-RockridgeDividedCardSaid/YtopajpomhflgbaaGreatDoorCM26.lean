/- Contracts of Small, and of slices.Contains for strings and for entries. -/
import Derived.Test.YtopajpomhflgbaaGreatDoorCM25
namespace Go.Proofs.YtopajpomhflgbaaGreatDoor
set_option linter.unusedSimpArgs false
set_option linter.unusedVariables false
open Go.RowKit

/-- A slice reads as entries, wherever it begins. -/
def ReadsAt (w : World) (a : Value) (L : List En) : Prop := ∃ A c, a = .slice A L.length c ∧ (0 < L.length → ∃ g o, A = some ⟨g, o, none⟩ ∧ g < w.heap.size ∧ ∀ j u, (entsV L)[j]? = some u → w.cell? ⟨g, o + j, none⟩ = some u)
theorem ReadsAt.below {w w1 : World} {v : Value} {L : List En} (h : ReadsAt w v L) (hb : Below w.heap.size w w1) : ReadsAt w1 v L := by
  obtain ⟨A, c, e, h⟩ := h
  refine ⟨A, c, e, fun h0 => ?_⟩
  obtain ⟨g, o, e2, hg, hc⟩ := h h0
  exact ⟨g, o, e2, Nat.lt_of_lt_of_le hg hb.size, fun j u hu => (hb.cell (p := ⟨g, o + j, none⟩) hg).trans (hc j u hu)⟩
theorem ReadsE.at {w : World} {v : Value} {L : List En} (h : ReadsE w v L) : ReadsAt w v L := by
  obtain ⟨A, c, e, h⟩ := h
  refine ⟨A, c, e, fun h0 => ?_⟩
  obtain ⟨g, e2, hg, hc⟩ := h h0
  exact ⟨g, 0, e2, hg, fun j u hu => by rw [Nat.zero_add]; exact hc j u hu⟩
def smE (e : En) : Bool := decide (e.data.size ≤ 400) && decide (e.sig.size ≤ 20)
def smallE (L : List En) : Bool := decide (L.length ≤ 20) && L.all smE
set_option maxHeartbeats 2000000 in
theorem small_any (L : List En) (a : Value) (hL : L.length ≤ maxLen) (w : World) (ha : ReadsAt w a L) : Calls Tryz.prog 23 #[a, .int .i64 20] w fun e w' => e = .returned (.bool (smallE L)) ∧ w = w' := by
  unfold maxLen at hL
  obtain ⟨A, c, rfl, hA⟩ := ha
  have HA := hide hA
  clear hA
  by_cases hlen : L.length ≤ 20
  case neg =>
    have HN := hide (show smallE L = false by unfold smallE; rw [decide_eq_false hlen]; rfl)
    have HL : Live w [] := trivial
    go_enter Tryz.func23, Tryz.ntmps23
    go_wp2_with fail
    go_ret
    exact ⟨ret_b HN.out.symm, rfl⟩
  have HL : Live w [] := trivial
  go_enter Tryz.func23, Tryz.ntmps23
  go_wp2_with fail
  go_loop [5] (fun i => ∃ k : Nat, k ≤ L.length ∧ i = .int .i64 k ∧ (L.take k).all smE = true) (fun i => L.length - (intOf i).toNat)
  case atStart => exact ⟨0, by omega, rfl, rfl⟩
  case round =>
    obtain ⟨k, hk, rfl, hall⟩ := hrel
    have HL := hide hall
    clear hall
    by_cases hlt : k < L.length
    · obtain ⟨e, he⟩ : ∃ e, L[k]? = some e := ⟨_, List.getElem?_eq_getElem hlt⟩
      obtain ⟨g, o, rfl, hg, hc⟩ := HA.out (by omega)
      obtain ⟨v0, v1, v2⟩ := entsV_at L k e he
      have c0 : w.cell? ⟨g, o + k * 3, none⟩ = some (.string e.sig) := hc _ _ v0
      have c2 : w.cell? ⟨g, o + k * 3 + 1 + 1, none⟩ = some (.string e.data) := hc _ _ v2
      have HE := hide he
      clear he hc v0 v1 v2
      have hstop : smE e = false → smallE L = false := by
        intro h
        unfold smallE
        rw [show L.all smE = false by rw [List.all_eq_false]; exact ⟨e, List.mem_of_getElem? HE.out, by rw [h]; simp⟩, Bool.and_false]
      have HS := hide hstop
      clear hstop
      by_cases d1 : e.data.size ≤ 400
      case neg =>
        have HN := hide (HS.out (by unfold smE; rw [decide_eq_false d1]; rfl))
        go_wp2
        go_ret
        exact ⟨ret_b HN.out.symm, rfl⟩
      by_cases d2 : e.sig.size ≤ 20
      case neg =>
        have HN := hide (HS.out (by unfold smE; rw [decide_eq_false d2, Bool.and_false]))
        go_wp2
        go_ret
        exact ⟨ret_b HN.out.symm, rfl⟩
      have HY := hide (show smE e = true by unfold smE; rw [decide_eq_true d1, decide_eq_true d2]; rfl)
      go_wp2
      go_round
      case rel => exact ⟨k + 1, by omega, by go_num, by
        obtain ⟨hi, e2⟩ := List.getElem?_eq_some_iff.1 HE.out
        rw [List.take_succ_eq_append_getElem hi, List.all_append, HL.out, e2]; simp [HY.out]⟩
      case measure => simp [intOf]; omega
    · obtain rfl : k = L.length := by omega
      go_wp2
      go_ret
      exact ⟨ret_b (by unfold smallE; have := HL.out; rw [List.take_length] at this; rw [this, decide_eq_true hlen]; rfl), rfl⟩
theorem beq_eq {s t : ByteArray} (h : s = t) : (s.toList == t.toList) = true := by rw [h]; simp
/-- The place that Index finds. -/
def IdxM {α : Type} [DecidableEq α] (l : List α) (x : α) (e : Ending) : Prop := ∃ i : Int, e = .returned (.int .i64 i) ∧ decide (0 ≤ i) = memB x l
set_option maxHeartbeats 1000000 in
theorem idx_str (g c : Nat) (ss : List ByteArray) (x : ByteArray) (w : World) (hn : ss.length ≤ 1000) (hc : ∀ j s, ss[j]? = some s → w.cell? ⟨g, j, none⟩ = some (.string s)) :
    Calls Tryz.prog 59 #[.slice (some ⟨g, 0, none⟩) ss.length c, .string x] w fun e w' => IdxM ss x e ∧ w = w' := by
  have HC := hide hc
  clear hc
  have HL : Live w [] := trivial
  go_enter Tryz.func59, Tryz.ntmps59
  go_wp2_with fail
  go_loop [8] (fun i => ∃ k : Nat, k ≤ ss.length ∧ i = .int .i64 k ∧ x ∉ ss.take k) (fun i => ss.length - (intOf i).toNat)
  case atStart => exact ⟨0, by omega, rfl, by simp⟩
  case round =>
    obtain ⟨k, hk, rfl, ha⟩ := hrel
    have HA := hide ha
    clear ha
    by_cases hlt : k < ss.length
    · obtain ⟨s, hx⟩ : ∃ s, ss[k]? = some s := ⟨_, List.getElem?_eq_getElem hlt⟩
      have hcell := HC.out k s hx
      have HX := hide hx
      clear hx
      by_cases he : x = s
      · have hb := beq_eq he
        have HE := hide he
        clear he
        go_wp2
        go_ret
        exact ⟨⟨k, rfl, by rw [decide_eq_true (by omega), memB_iff.2 (by rw [HE.out]; exact List.mem_of_getElem? HX.out)]⟩, rfl⟩
      · have hb := beq_ne he
        have HE := hide he
        clear he
        go_wp2
        go_round
        case rel => exact ⟨k + 1, by omega, by go_num, by
          obtain ⟨hi, e⟩ := List.getElem?_eq_some_iff.1 HX.out
          rw [List.take_succ_eq_append_getElem hi, e, List.mem_append]
          rintro (h | h)
          · exact HA.out h
          · exact HE.out (List.mem_singleton.1 h)⟩
        case measure => simp [intOf]; omega
    · obtain rfl : k = ss.length := by omega
      go_wp2
      go_ret
      exact ⟨⟨-1, rfl, by have := HA.out; rw [List.take_length] at this; rw [memB_no.2 this]; rfl⟩, rfl⟩
set_option maxHeartbeats 1000000 in
theorem has_str (g c : Nat) (ss : List ByteArray) (x : ByteArray) (w : World) (hn : ss.length ≤ 1000) (hc : ∀ j s, ss[j]? = some s → w.cell? ⟨g, j, none⟩ = some (.string s)) :
    Calls Tryz.prog 24 #[.slice (some ⟨g, 0, none⟩) ss.length c, .string x] w fun e w' => e = .returned (.bool (memB x ss)) ∧ w = w' := by
  have IX := hide (idx_str g c ss x w hn hc)
  clear hc
  have HL : Live w [] := trivial
  go_enter Tryz.func24, Tryz.ntmps24
  go_wp2_with fail
  refine IX.out.mono ?_
  rintro e w' ⟨⟨i, rfl, hi⟩, rfl⟩
  have HI := hide hi
  clear hi
  go_wp2
  go_ret
  exact ⟨ret_b HI.out, rfl⟩
set_option maxRecDepth 100000 in
set_option maxHeartbeats 4000000 in
theorem idx_en (L : List En) (y : En) (a : Value) (w : World) (hL : L.length ≤ 1000) (ha : ReadsE w a L) :
    Calls Tryz.prog 60 #[a, .agg #[.string y.sig, .int .i64 y.ver, .string y.data]] w fun e w' => IdxM L y e ∧ Below w.heap.size w w' := by
  obtain ⟨A, c, rfl, hA⟩ := ha
  have HA := hide hA
  clear hA
  have HL : Live w [] := trivial
  go_enter Tryz.func60, Tryz.ntmps60
  go_wp2_with fail
  go_loopw [8] (fun i wr => ∃ k : Nat, k ≤ L.length ∧ i = .int .i64 k ∧ y ∉ L.take k ∧ Blk wr w.heap.size #[.string y.sig, .int .i64 y.ver, .string y.data] 32 ∧ Below w.heap.size w wr) (fun i _ => L.length - (intOf i).toNat)
  case atStart => exact ⟨0, by omega, rfl, by simp, Blk.newAt rfl, by (repeat' (first | (with_reducible exact Below.refl _ _) | (with_reducible refine Below.alloc ?_ ?_ _) | (with_reducible refine Below.setCell ?_ ?_ _) | (with_reducible refine Below.drew ?_) | (with_reducible refine below_drewN' ?_) | (with_reducible refine below_bytesW ?_ ?_) | (with_reducible refine Below.trans ?_ (Below.mono (by assumption) ?_)) | omega | (simp only [World.size_alloc, World.size_setCell, World.size_drew]; omega) | (simp [size_bytesW]; omega) | (simp; omega)))⟩
  case round =>
    obtain ⟨k, hk, rfl, hn, hB, hbel⟩ := hrel
    have HN := hide hn
    clear hn
    have b0 : wr.cell? ⟨w.heap.size, 0, none⟩ = some (.string y.sig) := (hB.cells 0).trans rfl
    have b1 : wr.cell? ⟨w.heap.size, 1, none⟩ = some (.int .i64 y.ver) := (hB.cells 1).trans rfl
    have b2 : wr.cell? ⟨w.heap.size, 2, none⟩ = some (.string y.data) := (hB.cells 2).trans rfl
    have HB := hide hB
    have hlt0 := hB.lt
    clear hB
    by_cases hlt : k < L.length
    · obtain ⟨e, he⟩ : ∃ e, L[k]? = some e := ⟨_, List.getElem?_eq_getElem hlt⟩
      obtain ⟨g, rfl, hg, hc⟩ := HA.out (by omega)
      obtain ⟨v0, v1, v2⟩ := entsV_at L k e he
      have c0 : wr.cell? ⟨g, k * 3, none⟩ = some (.string e.sig) := (hbel.cell (p := ⟨g, _, none⟩) hg).trans (hc _ _ v0)
      have c1 : wr.cell? ⟨g, k * 3 + 1, none⟩ = some (.int .i64 e.ver) := (hbel.cell (p := ⟨g, _, none⟩) hg).trans (hc _ _ v1)
      have c2 : wr.cell? ⟨g, k * 3 + 1 + 1, none⟩ = some (.string e.data) := (hbel.cell (p := ⟨g, _, none⟩) hg).trans (hc _ _ v2)
      have HE := hide he
      clear he hc v0 v1 v2
      have hstep : y ≠ e → y ∉ L.take (k + 1) := by
        intro hne
        obtain ⟨hi, e2⟩ := List.getElem?_eq_some_iff.1 HE.out
        rw [List.take_succ_eq_append_getElem hi, e2, List.mem_append]
        rintro (h | h)
        · exact HN.out h
        · exact hne (List.mem_singleton.1 h)
      have HS := hide hstep
      clear hstep
      by_cases h1 : y = e
      · have HM := hide (show y ∈ L by rw [h1]; exact List.mem_of_getElem? HE.out)
        rw [← h1] at c0 c1 c2
        clear h1
        go_upto_region 4 with fail
        refine wp_region_noPanic ?_
        refine wp_region_held_drew (S := (fun x => x.cell? ⟨w.heap.size, 0, none⟩ = some (.string y.sig) ∧ x.cell? ⟨w.heap.size, 1, none⟩ = some (.int .i64 y.ver) ∧ x.cell? ⟨w.heap.size, 2, none⟩ = some (.string y.data) ∧ x.cell? ⟨g, k * 3, none⟩ = some (.string y.sig) ∧ x.cell? ⟨g, k * 3 + 1, none⟩ = some (.int .i64 y.ver) ∧ x.cell? ⟨g, k * 3 + 1 + 1, none⟩ = some (.string y.data))) (by kernel_rfl) (by (try dsimp only); first | assumption | (simp [*, go_sem]; done) | (refine ⟨?_, ?_⟩ <;> simp [*, go_sem])) (fun hHeld => ?_)
        refine wpAnyH_take (i := 0) (oi := { dst := some 11, op := Go.Op.load 32 (Go.Operand.tmp 3), type := 32, pos := "slices.go:98", after := #[], guard := none }) (v := ?_) rfl (by kernel_rfl) (by kernel_rfl) (by kernel_rfl) (fun _ _ _ h => h) (Or.inl ⟨by rfl, ?_⟩) (by assumption) ?_
        rotate_left
        · intro w hSw; (try dsimp only at hSw); go_simp; (try with_reducible rfl)
        try simp only [Act.put, List.setIfInBounds_toArray, List.set_cons_zero, List.set_cons_succ]
        refine wpAnyH_take (i := 1) (oi := { dst := some 12, op := Go.Op.move (Go.Operand.tmp 0), type := 26, pos := "slices.go:98", after := #[], guard := none }) (v := ?_) rfl (by kernel_rfl) (by kernel_rfl) (by kernel_rfl) (fun _ _ _ h => h) (Or.inl ⟨by rfl, ?_⟩) (by assumption) ?_
        rotate_left
        · intro w hSw; (try dsimp only at hSw); go_simp; (try with_reducible rfl)
        try simp only [Act.put, List.setIfInBounds_toArray, List.set_cons_zero, List.set_cons_succ]
        refine wpAnyH_take (i := 2) (oi := { dst := some 13, op := Go.Op.move (Go.Operand.tmp 5), type := 3, pos := "slices.go:98", after := #[], guard := none }) (v := ?_) rfl (by kernel_rfl) (by kernel_rfl) (by kernel_rfl) (fun _ _ _ h => h) (Or.inl ⟨by rfl, ?_⟩) (by assumption) ?_
        rotate_left
        · intro w hSw; (try dsimp only at hSw); go_simp; (try with_reducible rfl)
        try simp only [Act.put, List.setIfInBounds_toArray, List.set_cons_zero, List.set_cons_succ]
        refine wpAnyH_take (i := 3) (oi := { dst := some 14, op := Go.Op.indexAddr 26 (Go.Operand.tmp 12) (Go.Operand.tmp 13), type := 0, pos := "slices.go:98", after := #[{ on := 1, ground := Go.Ground.data }, { on := 2, ground := Go.Ground.data }], guard := none }) (v := ?_) rfl (by kernel_rfl) (by kernel_rfl) (by kernel_rfl) (fun _ _ _ h => h) (Or.inl ⟨by rfl, ?_⟩) (by assumption) ?_
        rotate_left
        · intro w hSw; (try dsimp only at hSw); go_simp; (try with_reducible rfl)
        try simp only [Act.put, List.setIfInBounds_toArray, List.set_cons_zero, List.set_cons_succ]
        refine wpAnyH_take (i := 4) (oi := { dst := some 15, op := Go.Op.load 32 (Go.Operand.tmp 14), type := 32, pos := "slices.go:98", after := #[{ on := 3, ground := Go.Ground.data }], guard := none }) (v := ?_) rfl (by kernel_rfl) (by kernel_rfl) (by kernel_rfl) (fun _ _ _ h => h) (Or.inl ⟨by rfl, ?_⟩) (by assumption) ?_
        rotate_left
        · intro w hSw; (try dsimp only at hSw); go_simp; (try with_reducible rfl)
        try simp only [Act.put, List.setIfInBounds_toArray, List.set_cons_zero, List.set_cons_succ]
        refine wpAnyH_take (i := 5) (oi := { dst := some 16, op := Go.Op.binOp Go.BinOp.eql 32 (Go.Operand.tmp 11) (Go.Operand.tmp 15) 32, type := 4, pos := "slices.go:98", after := #[{ on := 0, ground := Go.Ground.data }, { on := 4, ground := Go.Ground.data }], guard := none }) (v := ?_) rfl (by kernel_rfl) (by kernel_rfl) (by kernel_rfl) (fun _ _ _ h => h) (Or.inl ⟨by rfl, ?_⟩) (by assumption) ?_
        rotate_left
        · intro w hSw; (try dsimp only at hSw); go_simp; (try with_reducible rfl)
        try simp only [Act.put, List.setIfInBounds_toArray, List.set_cons_zero, List.set_cons_succ]
        refine wpAnyH_done (by kernel_rfl) ?_ _
        refine NoPanic.normal ?_
        go_wp2
        go_ret
        exact ⟨⟨k, rfl, by rw [decide_eq_true (by omega), memB_iff.2 HM.out]⟩, hbel.drew⟩
      · have hd : (y.sig.toList == e.sig.toList) = false ∨ ((y.sig.toList == e.sig.toList) = true ∧ (y.ver == e.ver) = false) ∨ ((y.sig.toList == e.sig.toList) = true ∧ (y.ver == e.ver) = true ∧ (y.data.toList == e.data.toList) = false) := by
          by_cases q1 : y.sig = e.sig
          · by_cases q2 : y.ver = e.ver
            · by_cases q3 : y.data = e.data
              · exfalso; apply h1
                cases y; cases e
                simp only at q1 q2 q3
                rw [q1, q2, q3]
              · exact Or.inr (Or.inr ⟨beq_eq q1, by rw [q2]; simp, beq_ne q3⟩)
            · exact Or.inr (Or.inl ⟨beq_eq q1, by rw [beq_eq_false_iff_ne]; exact q2⟩)
          · exact Or.inl (beq_ne q1)
        have HM := hide (HS.out h1)
        clear h1
        rcases hd with q1 | ⟨q1, q2⟩ | ⟨q1, q2, q3⟩
        all_goals
          go_upto_region 4 with fail
          refine wp_region_noPanic ?_
          refine wp_region_held_drew (S := (fun x => x.cell? ⟨w.heap.size, 0, none⟩ = some (.string y.sig) ∧ x.cell? ⟨w.heap.size, 1, none⟩ = some (.int .i64 y.ver) ∧ x.cell? ⟨w.heap.size, 2, none⟩ = some (.string y.data) ∧ x.cell? ⟨g, k * 3, none⟩ = some (.string e.sig) ∧ x.cell? ⟨g, k * 3 + 1, none⟩ = some (.int .i64 e.ver) ∧ x.cell? ⟨g, k * 3 + 1 + 1, none⟩ = some (.string e.data))) (by kernel_rfl) (by (try dsimp only); first | assumption | (simp [*, go_sem]; done) | (refine ⟨?_, ?_⟩ <;> simp [*, go_sem])) (fun hHeld => ?_)
          refine wpAnyH_take (i := 0) (oi := { dst := some 11, op := Go.Op.load 32 (Go.Operand.tmp 3), type := 32, pos := "slices.go:98", after := #[], guard := none }) (v := ?_) rfl (by kernel_rfl) (by kernel_rfl) (by kernel_rfl) (fun _ _ _ h => h) (Or.inl ⟨by rfl, ?_⟩) (by assumption) ?_
          rotate_left
          · intro w hSw; (try dsimp only at hSw); go_simp; (try with_reducible rfl)
          try simp only [Act.put, List.setIfInBounds_toArray, List.set_cons_zero, List.set_cons_succ]
          refine wpAnyH_take (i := 1) (oi := { dst := some 12, op := Go.Op.move (Go.Operand.tmp 0), type := 26, pos := "slices.go:98", after := #[], guard := none }) (v := ?_) rfl (by kernel_rfl) (by kernel_rfl) (by kernel_rfl) (fun _ _ _ h => h) (Or.inl ⟨by rfl, ?_⟩) (by assumption) ?_
          rotate_left
          · intro w hSw; (try dsimp only at hSw); go_simp; (try with_reducible rfl)
          try simp only [Act.put, List.setIfInBounds_toArray, List.set_cons_zero, List.set_cons_succ]
          refine wpAnyH_take (i := 2) (oi := { dst := some 13, op := Go.Op.move (Go.Operand.tmp 5), type := 3, pos := "slices.go:98", after := #[], guard := none }) (v := ?_) rfl (by kernel_rfl) (by kernel_rfl) (by kernel_rfl) (fun _ _ _ h => h) (Or.inl ⟨by rfl, ?_⟩) (by assumption) ?_
          rotate_left
          · intro w hSw; (try dsimp only at hSw); go_simp; (try with_reducible rfl)
          try simp only [Act.put, List.setIfInBounds_toArray, List.set_cons_zero, List.set_cons_succ]
          refine wpAnyH_take (i := 3) (oi := { dst := some 14, op := Go.Op.indexAddr 26 (Go.Operand.tmp 12) (Go.Operand.tmp 13), type := 0, pos := "slices.go:98", after := #[{ on := 1, ground := Go.Ground.data }, { on := 2, ground := Go.Ground.data }], guard := none }) (v := ?_) rfl (by kernel_rfl) (by kernel_rfl) (by kernel_rfl) (fun _ _ _ h => h) (Or.inl ⟨by rfl, ?_⟩) (by assumption) ?_
          rotate_left
          · intro w hSw; (try dsimp only at hSw); go_simp; (try with_reducible rfl)
          try simp only [Act.put, List.setIfInBounds_toArray, List.set_cons_zero, List.set_cons_succ]
          refine wpAnyH_take (i := 4) (oi := { dst := some 15, op := Go.Op.load 32 (Go.Operand.tmp 14), type := 32, pos := "slices.go:98", after := #[{ on := 3, ground := Go.Ground.data }], guard := none }) (v := ?_) rfl (by kernel_rfl) (by kernel_rfl) (by kernel_rfl) (fun _ _ _ h => h) (Or.inl ⟨by rfl, ?_⟩) (by assumption) ?_
          rotate_left
          · intro w hSw; (try dsimp only at hSw); go_simp; (try with_reducible rfl)
          try simp only [Act.put, List.setIfInBounds_toArray, List.set_cons_zero, List.set_cons_succ]
          refine wpAnyH_take (i := 5) (oi := { dst := some 16, op := Go.Op.binOp Go.BinOp.eql 32 (Go.Operand.tmp 11) (Go.Operand.tmp 15) 32, type := 4, pos := "slices.go:98", after := #[{ on := 0, ground := Go.Ground.data }, { on := 4, ground := Go.Ground.data }], guard := none }) (v := ?_) rfl (by kernel_rfl) (by kernel_rfl) (by kernel_rfl) (fun _ _ _ h => h) (Or.inl ⟨by rfl, ?_⟩) (by assumption) ?_
          rotate_left
          · intro w hSw; (try dsimp only at hSw); go_simp; (try with_reducible rfl)
          try simp only [Act.put, List.setIfInBounds_toArray, List.set_cons_zero, List.set_cons_succ]
          refine wpAnyH_done (by kernel_rfl) ?_ _
          refine NoPanic.normal ?_
          go_wp2
          go_roundw
          case rel => exact ⟨k + 1, by omega, by go_num, HM.out, HB.out.drew, hbel.drew⟩
          case measure => simp [intOf]; omega
    · obtain rfl : k = L.length := by omega
      go_wp2
      go_ret
      exact ⟨⟨-1, rfl, by have := HN.out; rw [List.take_length] at this; rw [memB_no.2 this]; rfl⟩, hbel⟩
set_option maxHeartbeats 1000000 in
theorem has_en (L : List En) (y : En) (a : Value) (w : World) (hL : L.length ≤ 1000) (ha : ReadsE w a L) :
    Calls Tryz.prog 25 #[a, .agg #[.string y.sig, .int .i64 y.ver, .string y.data]] w fun e w' => e = .returned (.bool (memB y L)) ∧ Below w.heap.size w w' := by
  have IX := hide (idx_en L y a (w.alloc (.cells #[.string y.sig, .int .i64 y.ver, .string y.data] 32)) hL (ha.below ((Below.refl _ _).alloc (Nat.le_refl _) _)))
  obtain ⟨A, c, rfl, hA⟩ := ha
  clear hA
  have HL : Live w [] := trivial
  go_enter Tryz.func25, Tryz.ntmps25
  go_wp2_with fail
  refine IX.out.mono ?_
  rintro e w' ⟨⟨i, rfl, hi⟩, hb⟩
  have HI := hide hi
  clear hi
  go_wp2
  go_ret
  exact ⟨ret_b HI.out, by (repeat' (first | (with_reducible exact Below.refl _ _) | (with_reducible refine Below.alloc ?_ ?_ _) | (with_reducible refine Below.setCell ?_ ?_ _) | (with_reducible refine Below.drew ?_) | (with_reducible refine below_drewN' ?_) | (with_reducible refine below_bytesW ?_ ?_) | (with_reducible refine Below.trans ?_ (Below.mono (by assumption) ?_)) | omega | (simp only [World.size_alloc, World.size_setCell, World.size_drew]; omega) | (simp [size_bytesW]; omega) | (simp; omega)))⟩
end Go.Proofs.YtopajpomhflgbaaGreatDoor
