/- Contracts and plain words for the laws of this chapter, part 25: K7. No condition. -/
import Derived.Test.YtocgindpjjolpaaGreatDoorG13
import Derived.Test.YtocgindpjjolpaaGreatDoorG4
namespace Go.Proofs.YtocgindpjjolpaaGreatDoor
set_option linter.unusedSimpArgs false
set_option linter.unusedVariables false
open Go.RowKit
def few47 (t : Tr) (n : Nat) : Bool := fewB t 100000 && decide (n ≤ 70)
theorem few47_sz {t : Tr} {n : Nat} (h : few47 t n = true) : t.sz ≤ 100000 ∧ n ≤ 70 := by
  unfold few47 at h
  rw [Bool.and_eq_true, decide_eq_true_iff] at h
  exact ⟨(few_sz h.1).2, h.2⟩
set_option maxRecDepth 100000 in
set_option maxHeartbeats 2000000 in
theorem few47_any (t : Tr) (n : Nat) (hsz : t.sz ≤ 2000000000) (v va : Value) (w : World) (hv : TreeR w w.heap.size v t) (ha : ∃ A c, va = .slice A n c) : Calls Tryz.prog 12 #[v, va] w fun e w' => e = .returned (.bool (few47 t n)) ∧ Below w.heap.size w w' := by
  obtain ⟨cn, rfl, hzc⟩ := Nd.cells hv
  obtain ⟨A, c, rfl⟩ := ha
  have HV := hide hv
  have FW := hide (fun W hW => rfew_any t hsz 100000 (.agg cn) W hW)
  clear hv
  have HL : Live w [] := trivial
  go_enter Tryz.func12, Tryz.ntmps12
  go_upto_region 1 with fail
  have HN1 := hide (Nd.new HV.out hzc)
  have hbel1 : Below w.heap.size w (w.alloc (.cells cn 25)) := (Below.refl _ _).alloc (Nat.le_refl _) _
  generalize w.alloc (.cells cn 25) = W1 at *
  obtain ⟨b, hb⟩ : ∃ b, b = w.heap.size := ⟨_, rfl⟩
  rw [← hb] at HN1 ⊢
  clear hb HV hzc
  have FF := hide (FW.out W1 HN1.out.2.1)
  clear FW
  cases hf : fewB t 100000 with
  | false =>
    have HZ := hide (show few47 t n = false by unfold few47; rw [hf]; rfl)
    rw [hf] at FF
    clear hf
    go_wp2_with (first | ((with_reducible show wpList _ _ _ (Oper.mk (some 5) _ _ _ _ _ :: _) _ _); refine wpList_load_row rfl 25 (.tmp 2) rfl b rfl 25 cn (0, 0) _ HN1.out.1 Tryz.underlying25 rfl (infN HN1.out.2.2) ?_) | (go_at_call 47; refine FF.out.mono ?_; rintro e w4 ⟨rfl, hb4⟩))
    go_ret
    exact ⟨ret_b HZ.out.symm, hbel1.trans (hb4.mono hbel1.size)⟩
  | true =>
    have HZ := hide (show few47 t n = decide (n ≤ 70) by unfold few47; rw [hf]; rfl)
    rw [hf] at FF
    clear hf
    have q : decide ((n : Int) ≤ 70) = decide (n ≤ 70) := by rw [decide_eq_decide]; omega
    go_wp2_with (first | ((with_reducible show wpList _ _ _ (Oper.mk (some 5) _ _ _ _ _ :: _) _ _); refine wpList_load_row rfl 25 (.tmp 2) rfl b rfl 25 cn (0, 0) _ HN1.out.1 Tryz.underlying25 rfl (infN HN1.out.2.2) ?_) | (go_at_call 47; refine FF.out.mono ?_; rintro e w4 ⟨rfl, hb4⟩))
    go_ret
    exact ⟨ret_b (by first | exact HZ.out.symm | exact q.trans HZ.out.symm), hbel1.trans (hb4.mono hbel1.size)⟩
end Go.Proofs.YtocgindpjjolpaaGreatDoor
