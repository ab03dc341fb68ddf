/- AddressSteps: for every address, moving by one sector counts frames, seconds and minutes, and moving back leads to the address again. No condition. -/
import Derived.Test.YtihnkanmlbgidaaRows
import Derived.Test.YtihnkanmlbgidaaE
import Derived.ProofKit
import Derived.OpenShut
import Derived.ShutString
import Derived.ChangeOld
import Derived.Below
import Derived.Lib.SmallJoins
namespace Go.Proofs.Ytihnkanmlbgidaa.Steps
set_option linter.unusedSimpArgs false
set_option linter.unusedVariables false
open Go.ChangeShapes Go.WideShapes Go.ChangeAt Go.RowKit Go.Joins
open Go.ChangeMaps (open_string shut_string)

theorem own : ownKnob Try.prog.godebug = none := by kernel_rfl
theorem laidOut : laidOutB Try.prog = true := by kernel_rfl

theorem move_to (m s f n m' s' f' : Int) (hv : validB m s f = true) (hv' : validB m' s' f' = true) (h : -449999 ≤ n ∧ n ≤ 449999) (he : (60 * m + s) * 75 + f + n = (60 * m' + s') * 75 + f') (w : World) :
    Calls Try.prog 14 #[.agg #[.int .i64 m, .int .i64 s, .int .i64 f], .int .i64 n] w fun e w' => e = .returned (.tuple #[.agg #[.int .i64 m', .int .i64 s', .int .i64 f'], .int .i64 0]) ∧ Below w.heap.size w w' := by
  have hr' := validB_true.1 hv'
  have h1 := move_yes m s f n hv h (by omega) w
  rw [he, show ((60 * m' + s') * 75 + f') / 75 / 60 = m' from by omega, show ((60 * m' + s') * 75 + f') / 75 % 60 = s' from by omega, show ((60 * m' + s') * 75 + f') % 75 = f' from by omega] at h1
  exact h1

set_option maxHeartbeats 2000000 in
theorem stepsW (m s f : Int) (w : World) (_w0 : (Lit.int .i64 m).wf = true) (_w1 : (Lit.int .i64 s).wf = true) (_w2 : (Lit.int .i64 f).wf = true) :
    Calls Try.prog 4 #[.agg #[.int .i64 m, .int .i64 s, .int .i64 f]] w fun e w' => e = .returned (.bool true) ∧ Below w.heap.size w w' := by
  clear _w0 _w1 _w2
  cases hv : validB m s f
  · have HL : Live w [] := trivial
    go_enter Try.func4, Try.ntmps4
    go_wp2_with fail
    (first | ((with_reducible refine (awake_any _).mono ?_); rintro e w1 ⟨rfl, hb⟩; have hz := hb.size; (try simp only [World.size_alloc, World.size_setCell, World.size_drew, Nat.add_assoc, Nat.reduceAdd] at hz); (first | obtain ⟨HL, hk⟩ := HL.call hb hz (by simp only [World.size_alloc, World.size_setCell, World.size_drew, Nat.add_assoc, Nat.reduceAdd]) | obtain ⟨HL, hk⟩ := HL.call0 hb hz (by first | rfl | simp only [World.size_alloc, World.size_setCell, World.size_drew, Nat.add_assoc, Nat.reduceAdd])); (try simp only [addN, Nat.add_zero] at HL hk); have hl := HL; simp only [Live] at hl; (try simp only [Kept] at hk)))
    go_wp2_with fail
    (first | ((with_reducible refine (move_arg _ _ _ _ (by assumption) _).mono ?_); rintro e w2 ⟨rfl, hb⟩; have hz := hb.size; (try simp only [World.size_alloc, World.size_setCell, World.size_drew, Nat.add_assoc, Nat.reduceAdd] at hz); (first | obtain ⟨HL, hk⟩ := HL.call hb hz (by simp only [World.size_alloc, World.size_setCell, World.size_drew, Nat.add_assoc, Nat.reduceAdd]) | obtain ⟨HL, hk⟩ := HL.call0 hb hz (by first | rfl | simp only [World.size_alloc, World.size_setCell, World.size_drew, Nat.add_assoc, Nat.reduceAdd])); (try simp only [addN, Nat.add_zero] at HL hk); have hl := HL; simp only [Live] at hl; (try simp only [Kept] at hk)))
    go_wp2_with fail
    (first | ((with_reducible refine (valid_any _ _ _ _).mono ?_); rintro e w3 ⟨rfl, hb⟩; have hz := hb.size; (try simp only [World.size_alloc, World.size_setCell, World.size_drew, Nat.add_assoc, Nat.reduceAdd] at hz); (first | obtain ⟨HL, hk⟩ := HL.call hb hz (by simp only [World.size_alloc, World.size_setCell, World.size_drew, Nat.add_assoc, Nat.reduceAdd]) | obtain ⟨HL, hk⟩ := HL.call0 hb hz (by first | rfl | simp only [World.size_alloc, World.size_setCell, World.size_drew, Nat.add_assoc, Nat.reduceAdd])); (try simp only [addN, Nat.add_zero] at HL hk); have hl := HL; simp only [Live] at hl; (try simp only [Kept] at hk)))
    go_wp2
    go_ret
    exact ⟨rfl, by (repeat' (first | (with_reducible exact Below.refl _ _) | (with_reducible refine Below.alloc ?_ ?_ _) | (with_reducible refine Below.setCell ?_ ?_ _) | (with_reducible refine Below.drew ?_) | (with_reducible refine Below.trans ?_ (Below.mono (by assumption) ?_)) | omega | (simp only [World.size_alloc, World.size_setCell, World.size_drew]; omega) | (simp; omega)))⟩
  · have hr := validB_true.1 hv
    by_cases h1 : f < 74
    · have hv' : validB m s (f + 1) = true := validB_true.2 (by omega)
      have HL : Live w [] := trivial
      go_enter Try.func4, Try.ntmps4
      go_wp2_with fail
      (first | ((with_reducible refine (awake_any _).mono ?_); rintro e w1 ⟨rfl, hb⟩; have hz := hb.size; (try simp only [World.size_alloc, World.size_setCell, World.size_drew, Nat.add_assoc, Nat.reduceAdd] at hz); (first | obtain ⟨HL, hk⟩ := HL.call hb hz (by simp only [World.size_alloc, World.size_setCell, World.size_drew, Nat.add_assoc, Nat.reduceAdd]) | obtain ⟨HL, hk⟩ := HL.call0 hb hz (by first | rfl | simp only [World.size_alloc, World.size_setCell, World.size_drew, Nat.add_assoc, Nat.reduceAdd])); (try simp only [addN, Nat.add_zero] at HL hk); have hl := HL; simp only [Live] at hl; (try simp only [Kept] at hk)))
      go_wp2_with fail
      (first | ((with_reducible refine (move_to _ _ _ _ m s (f + 1) (by assumption) (by assumption) (by omega) (by omega) _).mono ?_); rintro e w2 ⟨rfl, hb⟩; have hz := hb.size; (try simp only [World.size_alloc, World.size_setCell, World.size_drew, Nat.add_assoc, Nat.reduceAdd] at hz); (first | obtain ⟨HL, hk⟩ := HL.call hb hz (by simp only [World.size_alloc, World.size_setCell, World.size_drew, Nat.add_assoc, Nat.reduceAdd]) | obtain ⟨HL, hk⟩ := HL.call0 hb hz (by first | rfl | simp only [World.size_alloc, World.size_setCell, World.size_drew, Nat.add_assoc, Nat.reduceAdd])); (try simp only [addN, Nat.add_zero] at HL hk); have hl := HL; simp only [Live] at hl; (try simp only [Kept] at hk)))
      go_wp2_with fail
      (first | ((with_reducible refine (valid_any _ _ _ _).mono ?_); rintro e w3 ⟨rfl, hb⟩; have hz := hb.size; (try simp only [World.size_alloc, World.size_setCell, World.size_drew, Nat.add_assoc, Nat.reduceAdd] at hz); (first | obtain ⟨HL, hk⟩ := HL.call hb hz (by simp only [World.size_alloc, World.size_setCell, World.size_drew, Nat.add_assoc, Nat.reduceAdd]) | obtain ⟨HL, hk⟩ := HL.call0 hb hz (by first | rfl | simp only [World.size_alloc, World.size_setCell, World.size_drew, Nat.add_assoc, Nat.reduceAdd])); (try simp only [addN, Nat.add_zero] at HL hk); have hl := HL; simp only [Live] at hl; (try simp only [Kept] at hk)))
      go_wp2_with fail
      (first | ((with_reducible refine (move_to m s (f + 1) (-1) m s f (by assumption) (by assumption) (by omega) (by omega) _).mono ?_); rintro e w4 ⟨rfl, hb⟩; have hz := hb.size; (try simp only [World.size_alloc, World.size_setCell, World.size_drew, Nat.add_assoc, Nat.reduceAdd] at hz); (first | obtain ⟨HL, hk⟩ := HL.call hb hz (by simp only [World.size_alloc, World.size_setCell, World.size_drew, Nat.add_assoc, Nat.reduceAdd]) | obtain ⟨HL, hk⟩ := HL.call0 hb hz (by first | rfl | simp only [World.size_alloc, World.size_setCell, World.size_drew, Nat.add_assoc, Nat.reduceAdd])); (try simp only [addN, Nat.add_zero] at HL hk); have hl := HL; simp only [Live] at hl; (try simp only [Kept] at hk)))
      go_wp2
      go_ret
      exact ⟨rfl, by (repeat' (first | (with_reducible exact Below.refl _ _) | (with_reducible refine Below.alloc ?_ ?_ _) | (with_reducible refine Below.setCell ?_ ?_ _) | (with_reducible refine Below.drew ?_) | (with_reducible refine Below.trans ?_ (Below.mono (by assumption) ?_)) | omega | (simp only [World.size_alloc, World.size_setCell, World.size_drew]; omega) | (simp; omega)))⟩
    · obtain rfl : f = 74 := by omega
      by_cases h2 : s < 59
      · have hv' : validB m (s + 1) 0 = true := validB_true.2 (by omega)
        have HL : Live w [] := trivial
        go_enter Try.func4, Try.ntmps4
        go_wp2_with fail
        (first | ((with_reducible refine (awake_any _).mono ?_); rintro e w1 ⟨rfl, hb⟩; have hz := hb.size; (try simp only [World.size_alloc, World.size_setCell, World.size_drew, Nat.add_assoc, Nat.reduceAdd] at hz); (first | obtain ⟨HL, hk⟩ := HL.call hb hz (by simp only [World.size_alloc, World.size_setCell, World.size_drew, Nat.add_assoc, Nat.reduceAdd]) | obtain ⟨HL, hk⟩ := HL.call0 hb hz (by first | rfl | simp only [World.size_alloc, World.size_setCell, World.size_drew, Nat.add_assoc, Nat.reduceAdd])); (try simp only [addN, Nat.add_zero] at HL hk); have hl := HL; simp only [Live] at hl; (try simp only [Kept] at hk)))
        go_wp2_with fail
        (first | ((with_reducible refine (move_to _ _ _ _ m (s + 1) 0 (by assumption) (by assumption) (by omega) (by omega) _).mono ?_); rintro e w2 ⟨rfl, hb⟩; have hz := hb.size; (try simp only [World.size_alloc, World.size_setCell, World.size_drew, Nat.add_assoc, Nat.reduceAdd] at hz); (first | obtain ⟨HL, hk⟩ := HL.call hb hz (by simp only [World.size_alloc, World.size_setCell, World.size_drew, Nat.add_assoc, Nat.reduceAdd]) | obtain ⟨HL, hk⟩ := HL.call0 hb hz (by first | rfl | simp only [World.size_alloc, World.size_setCell, World.size_drew, Nat.add_assoc, Nat.reduceAdd])); (try simp only [addN, Nat.add_zero] at HL hk); have hl := HL; simp only [Live] at hl; (try simp only [Kept] at hk)))
        go_wp2_with fail
        (first | ((with_reducible refine (valid_any _ _ _ _).mono ?_); rintro e w3 ⟨rfl, hb⟩; have hz := hb.size; (try simp only [World.size_alloc, World.size_setCell, World.size_drew, Nat.add_assoc, Nat.reduceAdd] at hz); (first | obtain ⟨HL, hk⟩ := HL.call hb hz (by simp only [World.size_alloc, World.size_setCell, World.size_drew, Nat.add_assoc, Nat.reduceAdd]) | obtain ⟨HL, hk⟩ := HL.call0 hb hz (by first | rfl | simp only [World.size_alloc, World.size_setCell, World.size_drew, Nat.add_assoc, Nat.reduceAdd])); (try simp only [addN, Nat.add_zero] at HL hk); have hl := HL; simp only [Live] at hl; (try simp only [Kept] at hk)))
        go_wp2_with fail
        (first | ((with_reducible refine (move_to m (s + 1) 0 (-1) m s 74 (by assumption) (by assumption) (by omega) (by omega) _).mono ?_); rintro e w4 ⟨rfl, hb⟩; have hz := hb.size; (try simp only [World.size_alloc, World.size_setCell, World.size_drew, Nat.add_assoc, Nat.reduceAdd] at hz); (first | obtain ⟨HL, hk⟩ := HL.call hb hz (by simp only [World.size_alloc, World.size_setCell, World.size_drew, Nat.add_assoc, Nat.reduceAdd]) | obtain ⟨HL, hk⟩ := HL.call0 hb hz (by first | rfl | simp only [World.size_alloc, World.size_setCell, World.size_drew, Nat.add_assoc, Nat.reduceAdd])); (try simp only [addN, Nat.add_zero] at HL hk); have hl := HL; simp only [Live] at hl; (try simp only [Kept] at hk)))
        go_wp2
        go_ret
        exact ⟨rfl, by (repeat' (first | (with_reducible exact Below.refl _ _) | (with_reducible refine Below.alloc ?_ ?_ _) | (with_reducible refine Below.setCell ?_ ?_ _) | (with_reducible refine Below.drew ?_) | (with_reducible refine Below.trans ?_ (Below.mono (by assumption) ?_)) | omega | (simp only [World.size_alloc, World.size_setCell, World.size_drew]; omega) | (simp; omega)))⟩
      · obtain rfl : s = 59 := by omega
        by_cases h3 : m < 99
        · have hv' : validB (m + 1) 0 0 = true := validB_true.2 (by omega)
          have HL : Live w [] := trivial
          go_enter Try.func4, Try.ntmps4
          go_wp2_with fail
          (first | ((with_reducible refine (awake_any _).mono ?_); rintro e w1 ⟨rfl, hb⟩; have hz := hb.size; (try simp only [World.size_alloc, World.size_setCell, World.size_drew, Nat.add_assoc, Nat.reduceAdd] at hz); (first | obtain ⟨HL, hk⟩ := HL.call hb hz (by simp only [World.size_alloc, World.size_setCell, World.size_drew, Nat.add_assoc, Nat.reduceAdd]) | obtain ⟨HL, hk⟩ := HL.call0 hb hz (by first | rfl | simp only [World.size_alloc, World.size_setCell, World.size_drew, Nat.add_assoc, Nat.reduceAdd])); (try simp only [addN, Nat.add_zero] at HL hk); have hl := HL; simp only [Live] at hl; (try simp only [Kept] at hk)))
          go_wp2_with fail
          (first | ((with_reducible refine (move_to _ _ _ _ (m + 1) 0 0 (by assumption) (by assumption) (by omega) (by omega) _).mono ?_); rintro e w2 ⟨rfl, hb⟩; have hz := hb.size; (try simp only [World.size_alloc, World.size_setCell, World.size_drew, Nat.add_assoc, Nat.reduceAdd] at hz); (first | obtain ⟨HL, hk⟩ := HL.call hb hz (by simp only [World.size_alloc, World.size_setCell, World.size_drew, Nat.add_assoc, Nat.reduceAdd]) | obtain ⟨HL, hk⟩ := HL.call0 hb hz (by first | rfl | simp only [World.size_alloc, World.size_setCell, World.size_drew, Nat.add_assoc, Nat.reduceAdd])); (try simp only [addN, Nat.add_zero] at HL hk); have hl := HL; simp only [Live] at hl; (try simp only [Kept] at hk)))
          go_wp2_with fail
          (first | ((with_reducible refine (valid_any _ _ _ _).mono ?_); rintro e w3 ⟨rfl, hb⟩; have hz := hb.size; (try simp only [World.size_alloc, World.size_setCell, World.size_drew, Nat.add_assoc, Nat.reduceAdd] at hz); (first | obtain ⟨HL, hk⟩ := HL.call hb hz (by simp only [World.size_alloc, World.size_setCell, World.size_drew, Nat.add_assoc, Nat.reduceAdd]) | obtain ⟨HL, hk⟩ := HL.call0 hb hz (by first | rfl | simp only [World.size_alloc, World.size_setCell, World.size_drew, Nat.add_assoc, Nat.reduceAdd])); (try simp only [addN, Nat.add_zero] at HL hk); have hl := HL; simp only [Live] at hl; (try simp only [Kept] at hk)))
          go_wp2_with fail
          (first | ((with_reducible refine (move_to (m + 1) 0 0 (-1) m 59 74 (by assumption) (by assumption) (by omega) (by omega) _).mono ?_); rintro e w4 ⟨rfl, hb⟩; have hz := hb.size; (try simp only [World.size_alloc, World.size_setCell, World.size_drew, Nat.add_assoc, Nat.reduceAdd] at hz); (first | obtain ⟨HL, hk⟩ := HL.call hb hz (by simp only [World.size_alloc, World.size_setCell, World.size_drew, Nat.add_assoc, Nat.reduceAdd]) | obtain ⟨HL, hk⟩ := HL.call0 hb hz (by first | rfl | simp only [World.size_alloc, World.size_setCell, World.size_drew, Nat.add_assoc, Nat.reduceAdd])); (try simp only [addN, Nat.add_zero] at HL hk); have hl := HL; simp only [Live] at hl; (try simp only [Kept] at hk)))
          go_wp2
          go_ret
          exact ⟨rfl, by (repeat' (first | (with_reducible exact Below.refl _ _) | (with_reducible refine Below.alloc ?_ ?_ _) | (with_reducible refine Below.setCell ?_ ?_ _) | (with_reducible refine Below.drew ?_) | (with_reducible refine Below.trans ?_ (Below.mono (by assumption) ?_)) | omega | (simp only [World.size_alloc, World.size_setCell, World.size_drew]; omega) | (simp; omega)))⟩
        · obtain rfl : m = 99 := by omega
          have HL : Live w [] := trivial
          go_enter Try.func4, Try.ntmps4
          go_wp2_with fail
          (first | ((with_reducible refine (awake_any _).mono ?_); rintro e w1 ⟨rfl, hb⟩; have hz := hb.size; (try simp only [World.size_alloc, World.size_setCell, World.size_drew, Nat.add_assoc, Nat.reduceAdd] at hz); (first | obtain ⟨HL, hk⟩ := HL.call hb hz (by simp only [World.size_alloc, World.size_setCell, World.size_drew, Nat.add_assoc, Nat.reduceAdd]) | obtain ⟨HL, hk⟩ := HL.call0 hb hz (by first | rfl | simp only [World.size_alloc, World.size_setCell, World.size_drew, Nat.add_assoc, Nat.reduceAdd])); (try simp only [addN, Nat.add_zero] at HL hk); have hl := HL; simp only [Live] at hl; (try simp only [Kept] at hk)))
          go_wp2_with fail
          (first | ((with_reducible refine (move_no _ _ _ _ (by assumption) (by omega) (by omega) _).mono ?_); rintro e w2 ⟨rfl, hb⟩; have hz := hb.size; (try simp only [World.size_alloc, World.size_setCell, World.size_drew, Nat.add_assoc, Nat.reduceAdd] at hz); (first | obtain ⟨HL, hk⟩ := HL.call hb hz (by simp only [World.size_alloc, World.size_setCell, World.size_drew, Nat.add_assoc, Nat.reduceAdd]) | obtain ⟨HL, hk⟩ := HL.call0 hb hz (by first | rfl | simp only [World.size_alloc, World.size_setCell, World.size_drew, Nat.add_assoc, Nat.reduceAdd])); (try simp only [addN, Nat.add_zero] at HL hk); have hl := HL; simp only [Live] at hl; (try simp only [Kept] at hk)))
          go_wp2_with fail
          (first | ((with_reducible refine (valid_any _ _ _ _).mono ?_); rintro e w3 ⟨rfl, hb⟩; have hz := hb.size; (try simp only [World.size_alloc, World.size_setCell, World.size_drew, Nat.add_assoc, Nat.reduceAdd] at hz); (first | obtain ⟨HL, hk⟩ := HL.call hb hz (by simp only [World.size_alloc, World.size_setCell, World.size_drew, Nat.add_assoc, Nat.reduceAdd]) | obtain ⟨HL, hk⟩ := HL.call0 hb hz (by first | rfl | simp only [World.size_alloc, World.size_setCell, World.size_drew, Nat.add_assoc, Nat.reduceAdd])); (try simp only [addN, Nat.add_zero] at HL hk); have hl := HL; simp only [Live] at hl; (try simp only [Kept] at hk)))
          go_wp2
          go_ret
          exact ⟨rfl, by (repeat' (first | (with_reducible exact Below.refl _ _) | (with_reducible refine Below.alloc ?_ ?_ _) | (with_reducible refine Below.setCell ?_ ?_ _) | (with_reducible refine Below.drew ?_) | (with_reducible refine Below.trans ?_ (Below.mono (by assumption) ?_)) | omega | (simp only [World.size_alloc, World.size_setCell, World.size_drew]; omega) | (simp; omega)))⟩

theorem lifted (os : Os) (started : os.Started) (H : Type) (enc : TypeId × Value → H) :
    ReturnsInHanded {} Try.checked os 4 .any (Rows.addressStepsSpec.pre6 enc Try.prog Try.f4 Rows.addressStepsRow.domain false) (Rows.addressStepsSpec.post enc Try.prog Try.f4 false true false false) := by
  refine returnsInHanded_of_change (C := Try.checked) own started (by kernel_rfl) Try.func4
    (ChangeSpec.witness6 (enc := enc) (C := Try.checked) false ⟨#[], #[.agg #[.int .i64 0, .int .i64 0, .int .i64 0]], []⟩ 8 (by kernel_rfl) (by kernel_rfl) (by kernel_rfl) (by kernel_rfl)) ?_
  intro W base args ds gs before hval0 hW hcnd _
  have hval : ∀ (j : Nat) t v, Try.f4.params[j]? = some t → args[j]? = some v → Value.okWide Try.prog W .any base t v := hval0
  have hW' := hW
  obtain ⟨p, q, hA0, hV, rfl, hfz, hnd⟩ := hW
  have hA : DataW.TrodAll enc Try.prog W 0 (fun _ => true) true Try.f4.params.toList args.toList ds p := hA0
  rw [Try.params4] at hA hval
  obtain ⟨v0, vs0, d0, ds0, p0, q0, hargs, rfl, rfl, h0, r0⟩ := trodAll_cons hA
  obtain ⟨rfl, rfl, rfl⟩ := trodAll_nil r0
  obtain rfl : args = #[v0] := by cases args; simp_all
  obtain ⟨rfl, rfl⟩ := trodVars_none hV
  have k0 := h0
  have lt0 : ∀ x ∈ p0, x.block < W.heap.size := by obtain ⟨m, hm⟩ := k0; exact DataW.trod_lt m _ _ _ hm
  obtain ⟨c0_0, c0_1, c0_2, y0_0, y0_1, y0_2, n0, rfl, rfl, rfl, g0_0, g0_1, g0_2⟩ := open_agg3 Try.underlying23 (by kernel_rfl) (by kernel_rfl) (hval 0 23 v0 rfl rfl) h0
  obtain ⟨a0_0, e0_0, -, w0_0⟩ := DataW.trod_int Try.underlying3 g0_0
  simp only [List.cons.injEq, and_true] at e0_0
  subst e0_0
  obtain ⟨a0_1, e0_1, -, w0_1⟩ := DataW.trod_int Try.underlying3 g0_1
  simp only [List.cons.injEq, and_true] at e0_1
  subst e0_1
  obtain ⟨a0_2, e0_2, -, w0_2⟩ := DataW.trod_int Try.underlying3 g0_2
  simp only [List.cons.injEq, and_true] at e0_2
  subst e0_2
  clear hA0 hval0
  refine (stepsW a0_0 a0_1 a0_2 W w0_0 w0_1 w0_2).mono fun e W' ⟨he, bel⟩ => ?_
  subst he
  exact ⟨_, rfl, _, _, _, [], _, [], hW', trodAll_mk1 (shut_bool Try.underlying4 _), (trodAll_cons_mk (Below.trod laidOut (by kernel_rfl) (of_decide_eq_true (by kernel_rfl)) k0 bel lt0) trodAll_mk0), rfl, bel.frame _, fun h => by cases h⟩

theorem over : Rows.addressStepsRow.holds Try.pinned (OpenSpec.ofChange Rows.addressStepsSpec) :=
  OpenClaim.holds_of_wide 4 Try.f4 rfl rfl rfl rfl rfl rfl rfl ⟨rfl, rfl, rfl, rfl, rfl⟩ rfl rfl rfl rfl rfl (by kernel_rfl) Try.func4 (by kernel_rfl)
    (of_decide_eq_true (by kernel_rfl)) (by unfold Func.isWrapper; first | (rw [if_pos (by decide +kernel)]; kernel_rfl) | (rw [if_neg (by decide +kernel)]; exact ⟨rfl, rfl⟩))
    (fun os started H enc _ => lifted os started H enc)

theorem proved : Rows.AddressStepsSaid := over
end Go.Proofs.Ytihnkanmlbgidaa.Steps
