/- Contracts and plain words for the laws of this chapter, part 22: X10. No condition. -/
import Derived.Test.YtlhakdildbplkaaGreatDoorF8
namespace Go.Proofs.YtlhakdildbplkaaGreatDoor
set_option linter.unusedSimpArgs false
set_option linter.unusedVariables false
open Go.RowKit
theorem infS2 : (Tryz.prog.info? 69).map (·.size) = some 2 := by kernel_rfl
theorem exec_strm_neq {o : Oper} {ev : Operand → Value} {w : World} (x y : St) (a b : Operand) (ho : o.op = .binOp .neq 69 a b 69) (ha : ev a = .agg #[.string x.1, .string x.2]) (hb : ev b = .agg #[.string y.1, .string y.2]) (nq : Bool) (hq : (!decide (x = y)) = nq) : (execOp ev o).run Tryz.prog w = .ok (.value (.bool nq)) w := by
  subst hq
  unfold execOp
  simp only [ho, ha, hb]
  by_cases h1 : x.1 = y.1
  · have q1 : (x.1.toList == y.1.toList) = true := seq_y h1
    by_cases h2 : x.2 = y.2
    · have q2 : (x.2.toList == y.2.toList) = true := seq_y h2
      have e : decide (x = y) = true := decide_eq_true (Prod.ext h1 h2)
      rw [e]
      go_simp
    · have q2 : (x.2.toList == y.2.toList) = false := seq_n h2
      have e : decide (x = y) = false := decide_eq_false (fun e => h2 (by rw [e]))
      rw [e]
      go_simp
  · have q1 : (x.1.toList == y.1.toList) = false := seq_n h1
    have e : decide (x = y) = false := decide_eq_false (fun e => h1 (by rw [e]))
    rw [e]
    go_simp
def twoC (x y : St) (g o g2 o2 : Nat) (z : World) : Prop := z.rangeAt g o (#[.string x.1, .string x.2] : Array Value).toList ∧ z.rangeAt g2 o2 (#[.string y.1, .string y.2] : Array Value).toList
set_option maxRecDepth 100000 in
set_option maxHeartbeats 2000000 in
theorem streq_any (L M : List St) (A A2 : Option Addr) (c c2 B : Nat) (hL : L.length ≤ 1000000) (hM : M.length ≤ 1000000) (w : World) (hB : B ≤ w.heap.size) (ha : StL w B A L) (hb : StL w B A2 M) : Calls Tryz.prog 105 #[.slice A L.length c, .slice A2 M.length c2] w fun e w' => e = .returned (.bool (decide (L = M))) ∧ Below w.heap.size w w' := by
  have HA := hide ha
  have HB := hide hb
  clear ha hb
  have HL : Live w [] := trivial
  go_enter Tryz.func105, Tryz.ntmps105
  by_cases hlen : L.length = M.length
  case neg =>
    have HZ := hide (show decide (L = M) = false from decide_eq_false (fun e => hlen (by rw [e])))
    have q : ((L.length : Int) != (M.length : Int)) = true := by simp; omega
    have HQ := hide hlen
    clear hlen
    go_wp2_with fail
    go_ret
    exact ⟨ret_b HZ.out.symm, Below.refl _ _⟩
  case pos =>
  have HLN := hide hlen
  have q : ((L.length : Int) != (M.length : Int)) = false := by simp; omega
  clear hlen
  go_wp2_with fail
  go_loopw [13] (fun i wr => ∃ k : Nat, i = .int .i64 (k : Int) ∧ k ≤ L.length ∧ (L = M ↔ L.drop k = M.drop k) ∧ Below w.heap.size w wr) (fun i _ => L.length - (intOf i).toNat)
  case atStart => exact ⟨0, rfl, by omega, Iff.rfl, Below.refl _ _⟩
  case round =>
    obtain ⟨k, rfl, hk, hiff, hbel⟩ := hrel
    have HI := hide hiff
    clear hiff
    by_cases hlt : k < L.length
    case neg =>
      have HZ := hide (show decide (L = M) = true from decide_eq_true (HI.out.2 (by rw [List.drop_of_length_le (by omega), List.drop_of_length_le (by have := HLN.out; omega)])))
      go_wp2_with fail
      go_ret
      exact ⟨ret_b HZ.out.symm, hbel⟩
    case pos =>
    have hltM : k < M.length := by have := HLN.out; omega
    obtain ⟨x, hx⟩ : ∃ x, L[k]? = some x := ⟨_, List.getElem?_eq_getElem hlt⟩
    obtain ⟨y, hy⟩ : ∃ y, M[k]? = some y := ⟨_, List.getElem?_eq_getElem hltM⟩
    obtain ⟨g, o, rfl, hg, hc⟩ := HA.out.row (hbel.mono hB) hx
    obtain ⟨g2, o2, rfl, hg2, hc2⟩ := HB.out.row (hbel.mono hB) hy
    have hkeep : twoC x y g (o + k * 2) g2 (o2 + k * 2) wr ∧ True := ⟨⟨hc, hc2⟩, trivial⟩
    have hkeepd : twoC x y g (o + k * 2) g2 (o2 + k * 2) wr.drew ∧ True := ⟨⟨hc, hc2⟩, trivial⟩
    have HD := hide (drop_eq_cons hx hy)
    clear hx hy hc hc2
    go_upto_region 6 with fail
    obtain ⟨nq, hnq⟩ : ∃ nq, (!decide (x = y)) = nq := ⟨_, rfl⟩
    have HNQ := hide hnq
    clear hnq
    go_cut [24] (fun v wx => v = .bool nq ∧ wx = wr.drew)
    case first =>
      refine wp_region_noPanic ?_
      refine wp_region_held_drew (S := (fun z => twoC x y g (o + k * 2) g2 (o2 + k * 2) z ∧ True)) (by kernel_rfl) kp (fun hHeld => ?_)
      refine tkY 0 ⟨some 16, .move (.tmp 0), 23, "slices.go:25", #[], none⟩ ?_ ?_ ?_
      rotate_left
      · intro w hSw; (try dsimp only at hSw); go_simp; (try with_reducible rfl)
      try simp only [PT]
      refine tkY 1 ⟨some 17, .move (.tmp 5), 3, "slices.go:25", #[], none⟩ ?_ ?_ ?_
      rotate_left
      · intro w hSw; (try dsimp only at hSw); go_simp; (try with_reducible rfl)
      try simp only [PT]
      refine tkY 2 ⟨some 18, .indexAddr 23 (.tmp 16) (.tmp 17), 0, "slices.go:25", #[⟨0, .data⟩, ⟨1, .data⟩], none⟩ ?_ ?_ ?_
      rotate_left
      · intro w hSw; (try dsimp only at hSw); go_simp; (try with_reducible rfl)
      try simp only [PT]
      refine tkY 3 ⟨some 19, .load 69 (.tmp 18), 69, "slices.go:25", #[⟨2, .data⟩], none⟩ ?_ ?_ ?_
      rotate_left
      · intro w hSw; (try dsimp only at hSw); refine (exec_load_mid 69 (.tmp 18) (by rfl) g (o + k * 2) (by rfl) #[.string x.1, .string x.2] _ hSw.1.1 Tryz.underlying69 (by rfl) (by exact infS2)).trans ?_; with_reducible rfl
      try simp only [PT]
      refine tkY 4 ⟨some 20, .move (.tmp 1), 23, "slices.go:25", #[], none⟩ ?_ ?_ ?_
      rotate_left
      · intro w hSw; (try dsimp only at hSw); go_simp; (try with_reducible rfl)
      try simp only [PT]
      refine tkY 5 ⟨some 21, .move (.tmp 5), 3, "slices.go:25", #[], none⟩ ?_ ?_ ?_
      rotate_left
      · intro w hSw; (try dsimp only at hSw); go_simp; (try with_reducible rfl)
      try simp only [PT]
      refine tkY 6 ⟨some 22, .indexAddr 23 (.tmp 20) (.tmp 21), 0, "slices.go:25", #[⟨4, .data⟩, ⟨5, .data⟩], none⟩ ?_ ?_ ?_
      rotate_left
      · intro w hSw; (try dsimp only at hSw); go_simp; (try with_reducible rfl)
      try simp only [PT]
      refine tkY 7 ⟨some 23, .load 69 (.tmp 22), 69, "slices.go:25", #[⟨6, .data⟩], none⟩ ?_ ?_ ?_
      rotate_left
      · intro w hSw; (try dsimp only at hSw); refine (exec_load_mid 69 (.tmp 22) (by rfl) g2 (o2 + k * 2) (by rfl) #[.string y.1, .string y.2] _ hSw.1.2 Tryz.underlying69 (by rfl) (by exact infS2)).trans ?_; with_reducible rfl
      try simp only [PT]
      refine tkY 8 ⟨some 24, .binOp .neq 69 (.tmp 19) (.tmp 23) 69, 4, "slices.go:25", #[⟨3, .data⟩, ⟨7, .data⟩], none⟩ ?_ ?_ ?_
      rotate_left
      · intro w hSw; (try dsimp only at hSw); refine (exec_strm_neq x y (.tmp 19) (.tmp 23) (by rfl) (by rfl) (by rfl) nq HNQ.out).trans ?_; with_reducible rfl
      try simp only [PT]
      refine wpAnyH_done (by kernel_rfl) ?_ _
      refine NoPanic.normal ?_
      go_wp2_with fail
      go_meet
      exact ⟨rfl, rfl⟩
    case rest =>
    obtain ⟨rfl, rfl⟩ := hcut
    clear hkeep hkeepd
    cases nq
    · have hxy : x = y := by simpa using HNQ.out
      have HE := hide (show (L = M ↔ L.drop (k + 1) = M.drop (k + 1)) by rw [HI.out, HD.out]; simp [hxy])
      clear hxy HD
      go_wp2_with fail
      go_roundw
      case rel => exact ⟨k + 1, by go_num, by omega, HE.out, hbel.drew⟩
      case measure => simp [intOf]; omega
    · have hxy : ¬ x = y := by simpa using HNQ.out
      have HE := hide (show decide (L = M) = false from decide_eq_false (fun e => hxy (HD.out.1 (HI.out.1 e)).1))
      clear hxy HD
      go_wp2_with fail
      go_ret
      exact ⟨ret_b HE.out.symm, hbel.drew⟩
end Go.Proofs.YtlhakdildbplkaaGreatDoor
