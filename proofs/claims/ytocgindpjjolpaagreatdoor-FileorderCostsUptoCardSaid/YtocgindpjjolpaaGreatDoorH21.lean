/- Contracts and plain words for the laws of this chapter, part 21: La. No condition. -/
import Derived.Test.YtocgindpjjolpaaGreatDoorH19
import Derived.Test.YtocgindpjjolpaaGreatDoorH20
namespace Go.Proofs.YtocgindpjjolpaaGreatDoor
set_option linter.unusedSimpArgs false
set_option linter.unusedVariables false
open Go.RowKit
set_option maxRecDepth 100000 in
set_option maxHeartbeats 4000000 in
theorem law_costs (vf : Value) (files : List Ext) (va : Value) (acc : List ByteArray) (w : World) (hT : TabV w) (hf : SlF w w.heap.size vf files) (ha : SlR w w.heap.size va acc) (hfo : ∀ f ∈ files, extOK f) (hao : ∀ p ∈ acc, p.size ≤ 2000000) :
    Calls Tryz.prog 5 #[vf, va] w fun e w' => e = .returned (.bool true) ∧ Below w.heap.size w w' := by
  have AW := hide (awake_any w hT)
  have HF := hide hf
  have HA := hide ha
  have HFO := hide hfo
  have HAO := hide hao
  obtain ⟨aF, cF, rfl, -⟩ := hf
  obtain ⟨aA, cA, rfl, -⟩ := ha
  clear hT hfo hao
  have HL : Live w [] := trivial
  go_enter Tryz.func5, Tryz.ntmps5
  go_upto_region 3 with (go_at_call 11; refine AW.out.mono ?_; rintro e w1 ⟨rfl, hb1⟩)
  by_cases h1 : 1100 < files.length
  · go_wp2_with fail
    go_ret
    exact ⟨rfl, hb1⟩
  by_cases h2 : 70 < acc.length
  · go_wp2_with fail
    go_ret
    exact ⟨rfl, hb1⟩
  have CO := hide (cost_any files acc HFO.out HAO.out (by omega) (by omega) (.slice aF files.length cF) (.slice aA acc.length cA) w1 (HF.out.later2 hb1) (HA.out.later2 hb1))
  have RC := hide (fun w2 (hb2 : Below w1.heap.size w1 w2) => rcost_any files acc HFO.out (by omega) (by omega) (.slice aF files.length cF) (.slice aA acc.length cA) w2 ((HF.out.later2 hb1).later2 hb2) ((HA.out.later2 hb1).later2 hb2))
  generalize costT files acc = r at *
  have q1 : (r.1 == r.1) = true := by simp
  have q2 : (r.2 == r.2) = true := by simp
  go_wp2_with (first | (go_at_call 27; refine CO.out.mono ?_; rintro e w2 ⟨rfl, hb2⟩; have HB2 := hide hb2) | (go_at_call 28; refine (RC.out _ HB2.out).mono ?_; rintro e w3 ⟨rfl, hb3⟩))
  go_ret
  exact ⟨rfl, hb1.trans ((HB2.out.trans (hb3.mono HB2.out.size)).mono hb1.size)⟩
end Go.Proofs.YtocgindpjjolpaaGreatDoor
