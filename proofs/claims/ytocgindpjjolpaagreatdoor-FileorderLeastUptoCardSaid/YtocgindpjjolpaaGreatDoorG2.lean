/- Contracts and plain words for the laws of this chapter, part 2: C. No condition. -/
import Derived.Test.YtocgindpjjolpaaGreatDoorG1
namespace Go.Proofs.YtocgindpjjolpaaGreatDoor
set_option linter.unusedSimpArgs false
set_option linter.unusedVariables false
open Go.RowKit
open Go.PlainAid (bt get_bt bt_nonneg bt_le bt_end)
def encS (n : Int) : ByteArray := ⟨(encL n).toArray⟩
theorem ret_s {a b : ByteArray} (h : a = b) : Ending.returned (.string a) = .returned (.string b) := by rw [h]
set_option maxHeartbeats 1000000 in
theorem rencode_any (n : Int) (h : 0 ≤ n ∧ n ≤ 65535) (w : World) : Calls Tryz.prog 178 #[.int .i64 n] w fun e w' => e = .returned (.string (encS n)) ∧ Below w.heap.size w w' := by
  have cv1 := fun (W : World) (x : Int) => conv_lit (P := Tryz.prog) 55 9 5 Tryz.underlying55 Tryz.underlying5 Tryz.underlying9 W 5 [x] #[.int .u8 x] rfl 1 1 rfl
  have cv2 := fun (W : World) (x y : Int) => conv_lit (P := Tryz.prog) 55 9 5 Tryz.underlying55 Tryz.underlying5 Tryz.underlying9 W 5 [x, y] #[.int .u8 x, .int .u8 y] rfl 2 2 rfl
  have cv3 := fun (W : World) (x y z : Int) => conv_lit (P := Tryz.prog) 55 9 5 Tryz.underlying55 Tryz.underlying5 Tryz.underlying9 W 5 [x, y, z] #[.int .u8 x, .int .u8 y, .int .u8 z] rfl 3 3 rfl
  by_cases q : n < 128
  · have e : encS n = ⟨#[u8 n]⟩ := by unfold encS encL; rw [if_pos q]
    have E := hide e
    clear e
    have HL : Live w [] := trivial
    go_enter Tryz.func178, Tryz.ntmps178
    go_wp2
    go_ret
    exact ⟨by rw [E.out]; rfl, by (exact bl)⟩
  · by_cases q2 : n < 2048
    · have e : encS n = ⟨#[u8 (192 + n / 64), u8 (128 + n % 64)]⟩ := by unfold encS encL; rw [if_neg q, if_pos q2]
      have E := hide e
      clear e
      have HL : Live w [] := trivial
      go_enter Tryz.func178, Tryz.ntmps178
      go_wp2
      go_ret
      exact ⟨by rw [E.out]; rfl, by (exact bl)⟩
    · have e : encS n = ⟨#[u8 (224 + n / 4096), u8 (128 + n / 64 % 64), u8 (128 + n % 64)]⟩ := by unfold encS encL; rw [if_neg q, if_neg q2]
      have E := hide e
      clear e
      have HL : Live w [] := trivial
      go_enter Tryz.func178, Tryz.ntmps178
      go_wp2
      go_ret
      exact ⟨by rw [E.out]; rfl, by (exact bl)⟩
theorem encS_list (n : Int) : (encS n).toList = encL n := by rw [ByteArray.toList_eq]; simp [encS]
def fc (t : ByteArray) : Int := if H1 t then bt t 0 else if H2 t then c2 t else if H3 t then c3 t else 0
def FRel (t : ByteArray) (k : Nat) : Prop := (1 < k → ¬ H1 t) ∧ (2 < k → ¬ H2 t) ∧ (3 < k → ¬ H3 t) ∧ k ≤ t.size + 1
theorem f_1 {t : ByteArray} (h : H1 t) : fc t = bt t 0 ∧ hd t = 1 := by unfold fc hd; rw [if_pos h, if_pos h]; exact ⟨rfl, rfl⟩
theorem f_2 {t : ByteArray} (n1 : ¬ H1 t) (h : H2 t) : fc t = c2 t ∧ hd t = 2 := by unfold fc hd; rw [if_neg n1, if_neg n1, if_pos h, if_pos h]; exact ⟨rfl, rfl⟩
theorem f_3 {t : ByteArray} (n1 : ¬ H1 t) (n2 : ¬ H2 t) (h : H3 t) : fc t = c3 t ∧ hd t = 3 := by unfold fc hd; rw [if_neg n1, if_neg n1, if_neg n2, if_neg n2, if_pos h, if_pos h]; exact ⟨rfl, rfl⟩
theorem f_0 {t : ByteArray} (n1 : ¬ H1 t) (n2 : ¬ H2 t) (n3 : ¬ H3 t) : fc t = 0 ∧ hd t = 0 := by unfold fc hd; rw [if_neg n1, if_neg n1, if_neg n2, if_neg n2, if_neg n3, if_neg n3]; exact ⟨rfl, rfl⟩
theorem ret2_ii {a b a' b' : Int} (h : a = a') (h2 : b = b') : Ending.returned (.tuple #[.int .i64 a, .int .i64 b]) = .returned (.tuple #[.int .i64 a', .int .i64 b']) := by rw [h, h2]
set_option maxRecDepth 100000 in
set_option maxHeartbeats 8000000 in
theorem rfirst_any (t : ByteArray) (h1 : 1 ≤ t.size) (h64 : (t.size : Int) ≤ 65536) (w : World) : Calls Tryz.prog 170 #[.string t] w fun e w' => e = .returned (.tuple #[.int .i64 (fc t), .int .i64 (hd t)]) ∧ Below w.heap.size w w' := by
  have hg := get_bt t
  have a0 := bt_nonneg t 0
  have a1 := bt_nonneg t 1
  have a2 := bt_nonneg t 2
  have b0 := bt_le t 0
  have b1 := bt_le t 1
  have b2 := bt_le t 2
  have HL : Live w [] := trivial
  go_enter Tryz.func170, Tryz.ntmps170
  go_wp2
  go_loopw [4] (fun c wr => ∃ k : Nat, 1 ≤ k ∧ k ≤ 4 ∧ c = .int .i64 k ∧ FRel t k ∧ Below w.heap.size w wr) (fun c _ => 5 - (intOf c).toNat)
  case atStart => exact ⟨1, by omega, by omega, rfl, ⟨fun h => by omega, fun h => by omega, fun h => by omega, by omega⟩, by (exact bl)⟩
  case round =>
    obtain ⟨k, hk1, hk4, rfl, hrel, hbel⟩ := hrel
    have HR := hide hrel
    have hkz := hrel.2.2.2
    clear hrel
    have hsz := hbel.size
    have HL : Live wr [] := trivial
    rcases (show k = 1 ∨ k = 2 ∨ k = 3 ∨ k = 4 by omega) with rfl | rfl | rfl | rfl
    · have hle : 1 ≤ t.size := h1
      go_upto_region 9 with fail
      cases hc : chB (bt t 0)
      case false =>
        have nn : ¬ H1 t := fun hh => by
          have e1 := hh.2; have : chB (bt t 0) = true := by unfold chB; exact decide_eq_true (by omega)
          rw [hc] at this; cases this
        refine wp_region_noPanic ?_
        refine wp_region_held_drew (S := (fun _ => True ∧ True)) (by kernel_rfl) kp (fun hHeld => ?_)
        refine tkZ 0 ⟨some 49, .move (.tmp 5), 3, "ref.go:30", #[], none⟩ ?_
        refine rqS [1] (rqC ⟨some 50, .call ⟨.value (.func 177), #[.tmp 49], #[3]⟩, 4, "ref.go:30", #[⟨0, .data⟩], none⟩ (fun K hK => ?_) rq0)
        go_simp
        (go_at_call 177; (with_reducible refine (rchar_any _ _).mono ?_); rintro e w' ⟨rfl, rfl⟩)
        go_wp2_with fail
        refine hK.out _ _ kp (fun hHeld => ?_)
        clear hK K
        try simp only [PT]
        refine tkZ 2 ⟨some 51, .move (.tmp 50), 4, "ref.go:30", #[⟨1, .data⟩, ⟨1, .chain⟩], none⟩ ?_
        refine tkM 3 ⟨some 52, .move (.tmp 5), 3, "ref.go:30", #[⟨2, .guard⟩], some (2, true)⟩ ?_
        refine tkM 4 ⟨some 53, .call ⟨.value (.func 178), #[.tmp 52], #[3]⟩, 9, "ref.go:30", #[⟨3, .data⟩, ⟨2, .chain⟩, ⟨2, .guard⟩], some (2, true)⟩ ?_
        refine tkM 5 ⟨some 54, .move (.tmp 0), 9, "ref.go:30", #[⟨2, .guard⟩], some (2, true)⟩ ?_
        refine tkM 6 ⟨some 55, .move (.tmp 4), 3, "ref.go:30", #[⟨2, .guard⟩], some (2, true)⟩ ?_
        refine tkM 7 ⟨some 56, .slice 9 (.tmp 54) none (some (.tmp 55)) none, 9, "ref.go:30", #[⟨5, .data⟩, ⟨6, .data⟩, ⟨2, .guard⟩], some (2, true)⟩ ?_
        refine tkM 8 ⟨some 57, .binOp .eql 9 (.tmp 53) (.tmp 56) 9, 4, "ref.go:30", #[⟨4, .data⟩, ⟨7, .data⟩, ⟨2, .guard⟩], some (2, true)⟩ ?_
        refine tkZ 9 ⟨some 58, .pick (.tmp 51) (.tmp 57) (.const (.bool false)), 4, "ref.go:30", #[⟨2, .data⟩, ⟨8, .data⟩], none⟩ ?_
        refine wpAnyH_done (by kernel_rfl) ?_ _
        refine NoPanic.normal ?_
        go_wp2
        go_roundw
        case rel => exact ⟨2, by omega, by omega, rfl, ⟨fun _ => nn, fun _ => by omega, fun _ => by omega, by omega⟩, by (exact bl)⟩
        case measure => simp [intOf]
      have cc := of_decide_eq_true hc
      have hm : ((encS (bt t 0)).toList == (t.extract 0 1).toList) = decide (H1 t) := by rw [encS_list]; exact m1 hle hc
      by_cases hh : H1 t
      · rw [decide_eq_true hh] at hm
        have E := hide (f_1 hh)
        refine wp_region_noPanic ?_
        refine wp_region_held_drew (S := (fun _ => True ∧ True)) (by kernel_rfl) kp (fun hHeld => ?_)
        refine tkZ 0 ⟨some 49, .move (.tmp 5), 3, "ref.go:30", #[], none⟩ ?_
        refine rqS [1] (rqC ⟨some 50, .call ⟨.value (.func 177), #[.tmp 49], #[3]⟩, 4, "ref.go:30", #[⟨0, .data⟩], none⟩ (fun K hK => ?_) rq0)
        go_simp
        (go_at_call 177; (with_reducible refine (rchar_any _ _).mono ?_); rintro e w' ⟨rfl, rfl⟩)
        go_wp2_with fail
        refine hK.out _ _ kp (fun hHeld => ?_)
        clear hK K
        try simp only [PT]
        refine tkZ 2 ⟨some 51, .move (.tmp 50), 4, "ref.go:30", #[⟨1, .data⟩, ⟨1, .chain⟩], none⟩ ?_
        refine tkZ 3 ⟨some 52, .move (.tmp 5), 3, "ref.go:30", #[⟨2, .guard⟩], some (2, true)⟩ ?_
        refine tkZ 5 ⟨some 54, .move (.tmp 0), 9, "ref.go:30", #[⟨2, .guard⟩], some (2, true)⟩ ?_
        refine tkZ 6 ⟨some 55, .move (.tmp 4), 3, "ref.go:30", #[⟨2, .guard⟩], some (2, true)⟩ ?_
        refine tkZ 7 ⟨some 56, .slice 9 (.tmp 54) none (some (.tmp 55)) none, 9, "ref.go:30", #[⟨5, .data⟩, ⟨6, .data⟩, ⟨2, .guard⟩], some (2, true)⟩ ?_
        refine rqS [4] (rqC ⟨some 53, .call ⟨.value (.func 178), #[.tmp 52], #[3]⟩, 9, "ref.go:30", #[⟨3, .data⟩, ⟨2, .chain⟩, ⟨2, .guard⟩], some (2, true)⟩ (fun K hK => ?_) rq0)
        go_simp
        (go_at_call 178; (with_reducible refine (rencode_any _ (by omega) _).mono ?_); rintro e w' ⟨rfl, hb⟩; have hz := hb.size; (try simp only [SZ, Nat.reduceAdd] at hz); (first | obtain ⟨HL, hk⟩ := HL.callA hb hz | obtain ⟨HL, hk⟩ := HL.call0A hb hz); (try simp only [addN, Nat.add_zero] at HL hk); have hl := HL; simp only [Live] at hl; (try simp only [Kept] at hk))
        go_wp2_with fail
        refine hK.out _ _ kp (fun hHeld => ?_)
        clear hK K
        try simp only [PT]
        refine tkZ 8 ⟨some 57, .binOp .eql 9 (.tmp 53) (.tmp 56) 9, 4, "ref.go:30", #[⟨4, .data⟩, ⟨7, .data⟩, ⟨2, .guard⟩], some (2, true)⟩ ?_
        refine tkZ 9 ⟨some 58, .pick (.tmp 51) (.tmp 57) (.const (.bool false)), 4, "ref.go:30", #[⟨2, .data⟩, ⟨8, .data⟩], none⟩ ?_
        refine wpAnyH_done (by kernel_rfl) ?_ _
        refine NoPanic.normal ?_
        go_wp2
        go_ret2
        exact ⟨ret2_ii E.out.1.symm (by rw [E.out.2]; rfl), by (exact bl)⟩
      · rw [decide_eq_false hh] at hm
        have nn := hide hh
        refine wp_region_noPanic ?_
        refine wp_region_held_drew (S := (fun _ => True ∧ True)) (by kernel_rfl) kp (fun hHeld => ?_)
        refine tkZ 0 ⟨some 49, .move (.tmp 5), 3, "ref.go:30", #[], none⟩ ?_
        refine rqS [1] (rqC ⟨some 50, .call ⟨.value (.func 177), #[.tmp 49], #[3]⟩, 4, "ref.go:30", #[⟨0, .data⟩], none⟩ (fun K hK => ?_) rq0)
        go_simp
        (go_at_call 177; (with_reducible refine (rchar_any _ _).mono ?_); rintro e w' ⟨rfl, rfl⟩)
        go_wp2_with fail
        refine hK.out _ _ kp (fun hHeld => ?_)
        clear hK K
        try simp only [PT]
        refine tkZ 2 ⟨some 51, .move (.tmp 50), 4, "ref.go:30", #[⟨1, .data⟩, ⟨1, .chain⟩], none⟩ ?_
        refine tkZ 3 ⟨some 52, .move (.tmp 5), 3, "ref.go:30", #[⟨2, .guard⟩], some (2, true)⟩ ?_
        refine tkZ 5 ⟨some 54, .move (.tmp 0), 9, "ref.go:30", #[⟨2, .guard⟩], some (2, true)⟩ ?_
        refine tkZ 6 ⟨some 55, .move (.tmp 4), 3, "ref.go:30", #[⟨2, .guard⟩], some (2, true)⟩ ?_
        refine tkZ 7 ⟨some 56, .slice 9 (.tmp 54) none (some (.tmp 55)) none, 9, "ref.go:30", #[⟨5, .data⟩, ⟨6, .data⟩, ⟨2, .guard⟩], some (2, true)⟩ ?_
        refine rqS [4] (rqC ⟨some 53, .call ⟨.value (.func 178), #[.tmp 52], #[3]⟩, 9, "ref.go:30", #[⟨3, .data⟩, ⟨2, .chain⟩, ⟨2, .guard⟩], some (2, true)⟩ (fun K hK => ?_) rq0)
        go_simp
        (go_at_call 178; (with_reducible refine (rencode_any _ (by omega) _).mono ?_); rintro e w' ⟨rfl, hb⟩; have hz := hb.size; (try simp only [SZ, Nat.reduceAdd] at hz); (first | obtain ⟨HL, hk⟩ := HL.callA hb hz | obtain ⟨HL, hk⟩ := HL.call0A hb hz); (try simp only [addN, Nat.add_zero] at HL hk); have hl := HL; simp only [Live] at hl; (try simp only [Kept] at hk))
        go_wp2_with fail
        refine hK.out _ _ kp (fun hHeld => ?_)
        clear hK K
        try simp only [PT]
        refine tkZ 8 ⟨some 57, .binOp .eql 9 (.tmp 53) (.tmp 56) 9, 4, "ref.go:30", #[⟨4, .data⟩, ⟨7, .data⟩, ⟨2, .guard⟩], some (2, true)⟩ ?_
        refine tkZ 9 ⟨some 58, .pick (.tmp 51) (.tmp 57) (.const (.bool false)), 4, "ref.go:30", #[⟨2, .data⟩, ⟨8, .data⟩], none⟩ ?_
        refine wpAnyH_done (by kernel_rfl) ?_ _
        refine NoPanic.normal ?_
        go_wp2
        go_roundw
        case rel => exact ⟨2, by omega, by omega, rfl, ⟨fun _ => nn.out, fun _ => by omega, fun _ => by omega, by omega⟩, by (exact bl)⟩
        case measure => simp [intOf]
    · by_cases hle : 2 ≤ t.size
      case neg =>
        have nn : ¬ H2 t := fun hh => by have := hh.1; omega
        have n3 : ¬ H3 t := fun hh => by have := hh.1; omega
        have E := hide (f_0 (HR.out.1 (by omega)) nn n3)
        go_wp2
        go_ret2
        exact ⟨ret2_ii E.out.1.symm (by rw [E.out.2]; rfl), hbel⟩
      have lh := Nat.le_refl 0
      go_upto_region 6 with fail
      have y0 : 0 < t.size := by omega
      have y1 : (1 : Int) < (t.size : Int) := by omega
      have y2 : (0 : Int) < (t.size : Int) := by omega
      have w0 : IntKind.i64.wrap (bt t 0) = bt t 0 := IntWalk.i64_in _ (by omega)
      have w1 : IntKind.i64.wrap (bt t 1) = bt t 1 := IntWalk.i64_in _ (by omega)
      have w2 : IntKind.i64.wrap (bt t 0 - 192) = bt t 0 - 192 := IntWalk.i64_in _ (by omega)
      have w3 : IntKind.i64.wrap ((bt t 0 - 192) * 64) = (bt t 0 - 192) * 64 := IntWalk.i64_in _ (by omega)
      have w4 : IntKind.i64.wrap ((bt t 0 - 192) * 64 + bt t 1) = (bt t 0 - 192) * 64 + bt t 1 := IntWalk.i64_in _ (by omega)
      have w5 : IntKind.i64.wrap ((bt t 0 - 192) * 64 + bt t 1 - 128) = (bt t 0 - 192) * 64 + bt t 1 - 128 := IntWalk.i64_in _ (by omega)
      refine wp_region_noPanic ?_
      refine wp_region_held_drew (S := (fun _ => True ∧ True)) (by kernel_rfl) kp (fun hHeld => ?_)
      refine tkZ 0 ⟨some 21, .move (.tmp 0), 9, "ref.go:25", #[], none⟩ ?_
      refine tkZ 1 ⟨some 22, .index 9 (.tmp 21) (.const (.int .i64 0)), 5, "ref.go:25", #[⟨0, .data⟩], none⟩ ?_
      refine tkZ 2 ⟨some 23, .convert 5 3 (.tmp 22), 3, "ref.go:25", #[⟨1, .data⟩], none⟩ ?_
      refine tkZ 3 ⟨some 24, .binOp .sub 3 (.tmp 23) (.const (.int .i64 192)) 3, 3, "ref.go:25", #[⟨2, .data⟩], none⟩ ?_
      refine tkZ 4 ⟨some 25, .binOp .mul 3 (.tmp 24) (.const (.int .i64 64)) 3, 3, "ref.go:25", #[⟨3, .data⟩], none⟩ ?_
      refine tkZ 5 ⟨some 26, .move (.tmp 0), 9, "ref.go:25", #[], none⟩ ?_
      refine tkZ 6 ⟨some 27, .index 9 (.tmp 26) (.const (.int .i64 1)), 5, "ref.go:25", #[⟨5, .data⟩], none⟩ ?_
      refine tkZ 7 ⟨some 28, .convert 5 3 (.tmp 27), 3, "ref.go:25", #[⟨6, .data⟩], none⟩ ?_
      refine tkZ 8 ⟨some 29, .binOp .add 3 (.tmp 25) (.tmp 28) 3, 3, "ref.go:25", #[⟨4, .data⟩, ⟨7, .data⟩], none⟩ ?_
      refine tkZ 9 ⟨some 30, .binOp .sub 3 (.tmp 29) (.const (.int .i64 128)) 3, 3, "ref.go:25", #[⟨8, .data⟩], none⟩ ?_
      refine tkZ 10 ⟨some 5, .assign (.tmp 30), 3, "ref.go:25", #[⟨9, .data⟩, ⟨0, .phase⟩, ⟨1, .phase⟩, ⟨2, .phase⟩, ⟨3, .phase⟩, ⟨4, .phase⟩, ⟨5, .phase⟩, ⟨6, .phase⟩, ⟨7, .phase⟩, ⟨8, .phase⟩, ⟨9, .phase⟩], none⟩ ?_
      refine wpAnyH_done (by kernel_rfl) ?_ _
      refine NoPanic.normal ?_
      clear w0 w1 w2 w3 w4 w5
      go_upto_region 9 with fail
      cases hc : chB ((bt t 0 - 192) * 64 + bt t 1 - 128)
      case false =>
        have nn : ¬ H2 t := fun hh => by
          have e1 := hh.2; have : chB ((bt t 0 - 192) * 64 + bt t 1 - 128) = true := by unfold chB; exact decide_eq_true (by omega)
          rw [hc] at this; cases this
        refine wp_region_noPanic ?_
        refine wp_region_held_drew (S := (fun _ => True ∧ True)) (by kernel_rfl) kp (fun hHeld => ?_)
        refine tkZ 0 ⟨some 49, .move (.tmp 5), 3, "ref.go:30", #[], none⟩ ?_
        refine rqS [1] (rqC ⟨some 50, .call ⟨.value (.func 177), #[.tmp 49], #[3]⟩, 4, "ref.go:30", #[⟨0, .data⟩], none⟩ (fun K hK => ?_) rq0)
        go_simp
        (go_at_call 177; (with_reducible refine (rchar_any _ _).mono ?_); rintro e w' ⟨rfl, rfl⟩)
        go_wp2_with fail
        refine hK.out _ _ kp (fun hHeld => ?_)
        clear hK K
        try simp only [PT]
        refine tkZ 2 ⟨some 51, .move (.tmp 50), 4, "ref.go:30", #[⟨1, .data⟩, ⟨1, .chain⟩], none⟩ ?_
        refine tkM 3 ⟨some 52, .move (.tmp 5), 3, "ref.go:30", #[⟨2, .guard⟩], some (2, true)⟩ ?_
        refine tkM 4 ⟨some 53, .call ⟨.value (.func 178), #[.tmp 52], #[3]⟩, 9, "ref.go:30", #[⟨3, .data⟩, ⟨2, .chain⟩, ⟨2, .guard⟩], some (2, true)⟩ ?_
        refine tkM 5 ⟨some 54, .move (.tmp 0), 9, "ref.go:30", #[⟨2, .guard⟩], some (2, true)⟩ ?_
        refine tkM 6 ⟨some 55, .move (.tmp 4), 3, "ref.go:30", #[⟨2, .guard⟩], some (2, true)⟩ ?_
        refine tkM 7 ⟨some 56, .slice 9 (.tmp 54) none (some (.tmp 55)) none, 9, "ref.go:30", #[⟨5, .data⟩, ⟨6, .data⟩, ⟨2, .guard⟩], some (2, true)⟩ ?_
        refine tkM 8 ⟨some 57, .binOp .eql 9 (.tmp 53) (.tmp 56) 9, 4, "ref.go:30", #[⟨4, .data⟩, ⟨7, .data⟩, ⟨2, .guard⟩], some (2, true)⟩ ?_
        refine tkZ 9 ⟨some 58, .pick (.tmp 51) (.tmp 57) (.const (.bool false)), 4, "ref.go:30", #[⟨2, .data⟩, ⟨8, .data⟩], none⟩ ?_
        refine wpAnyH_done (by kernel_rfl) ?_ _
        refine NoPanic.normal ?_
        go_wp2
        go_roundw
        case rel => exact ⟨3, by omega, by omega, rfl, ⟨fun _ => HR.out.1 (by omega), fun _ => nn, fun _ => by omega, by omega⟩, by (exact bl)⟩
        case measure => simp [intOf]
      have cc := of_decide_eq_true hc
      have hm : ((encS ((bt t 0 - 192) * 64 + bt t 1 - 128)).toList == (t.extract 0 2).toList) = decide (H2 t) := by rw [encS_list]; exact m2 hle hc
      by_cases hh : H2 t
      · rw [decide_eq_true hh] at hm
        have E := hide (f_2 (HR.out.1 (by omega)) hh)
        refine wp_region_noPanic ?_
        refine wp_region_held_drew (S := (fun _ => True ∧ True)) (by kernel_rfl) kp (fun hHeld => ?_)
        refine tkZ 0 ⟨some 49, .move (.tmp 5), 3, "ref.go:30", #[], none⟩ ?_
        refine rqS [1] (rqC ⟨some 50, .call ⟨.value (.func 177), #[.tmp 49], #[3]⟩, 4, "ref.go:30", #[⟨0, .data⟩], none⟩ (fun K hK => ?_) rq0)
        go_simp
        (go_at_call 177; (with_reducible refine (rchar_any _ _).mono ?_); rintro e w' ⟨rfl, rfl⟩)
        go_wp2_with fail
        refine hK.out _ _ kp (fun hHeld => ?_)
        clear hK K
        try simp only [PT]
        refine tkZ 2 ⟨some 51, .move (.tmp 50), 4, "ref.go:30", #[⟨1, .data⟩, ⟨1, .chain⟩], none⟩ ?_
        refine tkZ 3 ⟨some 52, .move (.tmp 5), 3, "ref.go:30", #[⟨2, .guard⟩], some (2, true)⟩ ?_
        refine tkZ 5 ⟨some 54, .move (.tmp 0), 9, "ref.go:30", #[⟨2, .guard⟩], some (2, true)⟩ ?_
        refine tkZ 6 ⟨some 55, .move (.tmp 4), 3, "ref.go:30", #[⟨2, .guard⟩], some (2, true)⟩ ?_
        refine tkZ 7 ⟨some 56, .slice 9 (.tmp 54) none (some (.tmp 55)) none, 9, "ref.go:30", #[⟨5, .data⟩, ⟨6, .data⟩, ⟨2, .guard⟩], some (2, true)⟩ ?_
        refine rqS [4] (rqC ⟨some 53, .call ⟨.value (.func 178), #[.tmp 52], #[3]⟩, 9, "ref.go:30", #[⟨3, .data⟩, ⟨2, .chain⟩, ⟨2, .guard⟩], some (2, true)⟩ (fun K hK => ?_) rq0)
        go_simp
        (go_at_call 178; (with_reducible refine (rencode_any _ (by omega) _).mono ?_); rintro e w' ⟨rfl, hb⟩; have hz := hb.size; (try simp only [SZ, Nat.reduceAdd] at hz); (first | obtain ⟨HL, hk⟩ := HL.callA hb hz | obtain ⟨HL, hk⟩ := HL.call0A hb hz); (try simp only [addN, Nat.add_zero] at HL hk); have hl := HL; simp only [Live] at hl; (try simp only [Kept] at hk))
        go_wp2_with fail
        refine hK.out _ _ kp (fun hHeld => ?_)
        clear hK K
        try simp only [PT]
        refine tkZ 8 ⟨some 57, .binOp .eql 9 (.tmp 53) (.tmp 56) 9, 4, "ref.go:30", #[⟨4, .data⟩, ⟨7, .data⟩, ⟨2, .guard⟩], some (2, true)⟩ ?_
        refine tkZ 9 ⟨some 58, .pick (.tmp 51) (.tmp 57) (.const (.bool false)), 4, "ref.go:30", #[⟨2, .data⟩, ⟨8, .data⟩], none⟩ ?_
        refine wpAnyH_done (by kernel_rfl) ?_ _
        refine NoPanic.normal ?_
        go_wp2
        go_ret2
        exact ⟨ret2_ii E.out.1.symm (by rw [E.out.2]; rfl), by (exact bl)⟩
      · rw [decide_eq_false hh] at hm
        have nn := hide hh
        refine wp_region_noPanic ?_
        refine wp_region_held_drew (S := (fun _ => True ∧ True)) (by kernel_rfl) kp (fun hHeld => ?_)
        refine tkZ 0 ⟨some 49, .move (.tmp 5), 3, "ref.go:30", #[], none⟩ ?_
        refine rqS [1] (rqC ⟨some 50, .call ⟨.value (.func 177), #[.tmp 49], #[3]⟩, 4, "ref.go:30", #[⟨0, .data⟩], none⟩ (fun K hK => ?_) rq0)
        go_simp
        (go_at_call 177; (with_reducible refine (rchar_any _ _).mono ?_); rintro e w' ⟨rfl, rfl⟩)
        go_wp2_with fail
        refine hK.out _ _ kp (fun hHeld => ?_)
        clear hK K
        try simp only [PT]
        refine tkZ 2 ⟨some 51, .move (.tmp 50), 4, "ref.go:30", #[⟨1, .data⟩, ⟨1, .chain⟩], none⟩ ?_
        refine tkZ 3 ⟨some 52, .move (.tmp 5), 3, "ref.go:30", #[⟨2, .guard⟩], some (2, true)⟩ ?_
        refine tkZ 5 ⟨some 54, .move (.tmp 0), 9, "ref.go:30", #[⟨2, .guard⟩], some (2, true)⟩ ?_
        refine tkZ 6 ⟨some 55, .move (.tmp 4), 3, "ref.go:30", #[⟨2, .guard⟩], some (2, true)⟩ ?_
        refine tkZ 7 ⟨some 56, .slice 9 (.tmp 54) none (some (.tmp 55)) none, 9, "ref.go:30", #[⟨5, .data⟩, ⟨6, .data⟩, ⟨2, .guard⟩], some (2, true)⟩ ?_
        refine rqS [4] (rqC ⟨some 53, .call ⟨.value (.func 178), #[.tmp 52], #[3]⟩, 9, "ref.go:30", #[⟨3, .data⟩, ⟨2, .chain⟩, ⟨2, .guard⟩], some (2, true)⟩ (fun K hK => ?_) rq0)
        go_simp
        (go_at_call 178; (with_reducible refine (rencode_any _ (by omega) _).mono ?_); rintro e w' ⟨rfl, hb⟩; have hz := hb.size; (try simp only [SZ, Nat.reduceAdd] at hz); (first | obtain ⟨HL, hk⟩ := HL.callA hb hz | obtain ⟨HL, hk⟩ := HL.call0A hb hz); (try simp only [addN, Nat.add_zero] at HL hk); have hl := HL; simp only [Live] at hl; (try simp only [Kept] at hk))
        go_wp2_with fail
        refine hK.out _ _ kp (fun hHeld => ?_)
        clear hK K
        try simp only [PT]
        refine tkZ 8 ⟨some 57, .binOp .eql 9 (.tmp 53) (.tmp 56) 9, 4, "ref.go:30", #[⟨4, .data⟩, ⟨7, .data⟩, ⟨2, .guard⟩], some (2, true)⟩ ?_
        refine tkZ 9 ⟨some 58, .pick (.tmp 51) (.tmp 57) (.const (.bool false)), 4, "ref.go:30", #[⟨2, .data⟩, ⟨8, .data⟩], none⟩ ?_
        refine wpAnyH_done (by kernel_rfl) ?_ _
        refine NoPanic.normal ?_
        go_wp2
        go_roundw
        case rel => exact ⟨3, by omega, by omega, rfl, ⟨fun _ => HR.out.1 (by omega), fun _ => nn.out, fun _ => by omega, by omega⟩, by (exact bl)⟩
        case measure => simp [intOf]
    · by_cases hle : 3 ≤ t.size
      case neg =>
        have nn : ¬ H3 t := fun hh => by have := hh.1; omega
        have E := hide (f_0 (HR.out.1 (by omega)) (HR.out.2.1 (by omega)) nn)
        go_wp2
        go_ret2
        exact ⟨ret2_ii E.out.1.symm (by rw [E.out.2]; rfl), hbel⟩
      have lh := Nat.le_refl 0
      go_upto_region 8 with fail
      have y0 : 0 < t.size := by omega
      have y1 : (1 : Int) < (t.size : Int) := by omega
      have y2 : (0 : Int) < (t.size : Int) := by omega
      have y3 : (2 : Int) < (t.size : Int) := by omega
      have w0 : IntKind.i64.wrap (bt t 0) = bt t 0 := IntWalk.i64_in _ (by omega)
      have w1 : IntKind.i64.wrap (bt t 1) = bt t 1 := IntWalk.i64_in _ (by omega)
      have w2 : IntKind.i64.wrap (bt t 2) = bt t 2 := IntWalk.i64_in _ (by omega)
      have w3 : IntKind.i64.wrap (bt t 0 - 224) = bt t 0 - 224 := IntWalk.i64_in _ (by omega)
      have w4 : IntKind.i64.wrap ((bt t 0 - 224) * 4096) = (bt t 0 - 224) * 4096 := IntWalk.i64_in _ (by omega)
      have w5 : IntKind.i64.wrap (bt t 1 - 128) = bt t 1 - 128 := IntWalk.i64_in _ (by omega)
      have w6 : IntKind.i64.wrap ((bt t 1 - 128) * 64) = (bt t 1 - 128) * 64 := IntWalk.i64_in _ (by omega)
      have w7 : IntKind.i64.wrap ((bt t 0 - 224) * 4096 + (bt t 1 - 128) * 64) = (bt t 0 - 224) * 4096 + (bt t 1 - 128) * 64 := IntWalk.i64_in _ (by omega)
      have w8 : IntKind.i64.wrap ((bt t 0 - 224) * 4096 + (bt t 1 - 128) * 64 + bt t 2) = (bt t 0 - 224) * 4096 + (bt t 1 - 128) * 64 + bt t 2 := IntWalk.i64_in _ (by omega)
      have w9 : IntKind.i64.wrap ((bt t 0 - 224) * 4096 + (bt t 1 - 128) * 64 + bt t 2 - 128) = (bt t 0 - 224) * 4096 + (bt t 1 - 128) * 64 + bt t 2 - 128 := IntWalk.i64_in _ (by omega)
      refine wp_region_noPanic ?_
      refine wp_region_held_drew (S := (fun _ => True ∧ True)) (by kernel_rfl) kp (fun hHeld => ?_)
      refine tkZ 0 ⟨some 33, .move (.tmp 0), 9, "ref.go:28", #[], none⟩ ?_
      refine tkZ 1 ⟨some 34, .index 9 (.tmp 33) (.const (.int .i64 0)), 5, "ref.go:28", #[⟨0, .data⟩], none⟩ ?_
      refine tkZ 2 ⟨some 35, .convert 5 3 (.tmp 34), 3, "ref.go:28", #[⟨1, .data⟩], none⟩ ?_
      refine tkZ 3 ⟨some 36, .binOp .sub 3 (.tmp 35) (.const (.int .i64 224)) 3, 3, "ref.go:28", #[⟨2, .data⟩], none⟩ ?_
      refine tkZ 4 ⟨some 37, .binOp .mul 3 (.tmp 36) (.const (.int .i64 4096)) 3, 3, "ref.go:28", #[⟨3, .data⟩], none⟩ ?_
      refine tkZ 5 ⟨some 38, .move (.tmp 0), 9, "ref.go:28", #[], none⟩ ?_
      refine tkZ 6 ⟨some 39, .index 9 (.tmp 38) (.const (.int .i64 1)), 5, "ref.go:28", #[⟨5, .data⟩], none⟩ ?_
      refine tkZ 7 ⟨some 40, .convert 5 3 (.tmp 39), 3, "ref.go:28", #[⟨6, .data⟩], none⟩ ?_
      refine tkZ 8 ⟨some 41, .binOp .sub 3 (.tmp 40) (.const (.int .i64 128)) 3, 3, "ref.go:28", #[⟨7, .data⟩], none⟩ ?_
      refine tkZ 9 ⟨some 42, .binOp .mul 3 (.tmp 41) (.const (.int .i64 64)) 3, 3, "ref.go:28", #[⟨8, .data⟩], none⟩ ?_
      refine tkZ 10 ⟨some 43, .binOp .add 3 (.tmp 37) (.tmp 42) 3, 3, "ref.go:28", #[⟨4, .data⟩, ⟨9, .data⟩], none⟩ ?_
      refine tkZ 11 ⟨some 44, .move (.tmp 0), 9, "ref.go:28", #[], none⟩ ?_
      refine tkZ 12 ⟨some 45, .index 9 (.tmp 44) (.const (.int .i64 2)), 5, "ref.go:28", #[⟨11, .data⟩], none⟩ ?_
      refine tkZ 13 ⟨some 46, .convert 5 3 (.tmp 45), 3, "ref.go:28", #[⟨12, .data⟩], none⟩ ?_
      refine tkZ 14 ⟨some 47, .binOp .add 3 (.tmp 43) (.tmp 46) 3, 3, "ref.go:28", #[⟨10, .data⟩, ⟨13, .data⟩], none⟩ ?_
      refine tkZ 15 ⟨some 48, .binOp .sub 3 (.tmp 47) (.const (.int .i64 128)) 3, 3, "ref.go:28", #[⟨14, .data⟩], none⟩ ?_
      refine tkZ 16 ⟨some 5, .assign (.tmp 48), 3, "ref.go:28", #[⟨15, .data⟩, ⟨0, .phase⟩, ⟨1, .phase⟩, ⟨2, .phase⟩, ⟨3, .phase⟩, ⟨4, .phase⟩, ⟨5, .phase⟩, ⟨6, .phase⟩, ⟨7, .phase⟩, ⟨8, .phase⟩, ⟨9, .phase⟩, ⟨10, .phase⟩, ⟨11, .phase⟩, ⟨12, .phase⟩, ⟨13, .phase⟩, ⟨14, .phase⟩, ⟨15, .phase⟩], none⟩ ?_
      refine wpAnyH_done (by kernel_rfl) ?_ _
      refine NoPanic.normal ?_
      clear w0 w1 w2 w3 w4 w5 w6 w7 w8 w9
      go_upto_region 9 with fail
      cases hc : chB ((bt t 0 - 224) * 4096 + (bt t 1 - 128) * 64 + bt t 2 - 128)
      case false =>
        have nn : ¬ H3 t := fun hh => by
          have : chB ((bt t 0 - 224) * 4096 + (bt t 1 - 128) * 64 + bt t 2 - 128) = true := hh.2.2.2.2.2.2.2.2
          rw [hc] at this; cases this
        refine wp_region_noPanic ?_
        refine wp_region_held_drew (S := (fun _ => True ∧ True)) (by kernel_rfl) kp (fun hHeld => ?_)
        refine tkZ 0 ⟨some 49, .move (.tmp 5), 3, "ref.go:30", #[], none⟩ ?_
        refine rqS [1] (rqC ⟨some 50, .call ⟨.value (.func 177), #[.tmp 49], #[3]⟩, 4, "ref.go:30", #[⟨0, .data⟩], none⟩ (fun K hK => ?_) rq0)
        go_simp
        (go_at_call 177; (with_reducible refine (rchar_any _ _).mono ?_); rintro e w' ⟨rfl, rfl⟩)
        go_wp2_with fail
        refine hK.out _ _ kp (fun hHeld => ?_)
        clear hK K
        try simp only [PT]
        refine tkZ 2 ⟨some 51, .move (.tmp 50), 4, "ref.go:30", #[⟨1, .data⟩, ⟨1, .chain⟩], none⟩ ?_
        refine tkM 3 ⟨some 52, .move (.tmp 5), 3, "ref.go:30", #[⟨2, .guard⟩], some (2, true)⟩ ?_
        refine tkM 4 ⟨some 53, .call ⟨.value (.func 178), #[.tmp 52], #[3]⟩, 9, "ref.go:30", #[⟨3, .data⟩, ⟨2, .chain⟩, ⟨2, .guard⟩], some (2, true)⟩ ?_
        refine tkM 5 ⟨some 54, .move (.tmp 0), 9, "ref.go:30", #[⟨2, .guard⟩], some (2, true)⟩ ?_
        refine tkM 6 ⟨some 55, .move (.tmp 4), 3, "ref.go:30", #[⟨2, .guard⟩], some (2, true)⟩ ?_
        refine tkM 7 ⟨some 56, .slice 9 (.tmp 54) none (some (.tmp 55)) none, 9, "ref.go:30", #[⟨5, .data⟩, ⟨6, .data⟩, ⟨2, .guard⟩], some (2, true)⟩ ?_
        refine tkM 8 ⟨some 57, .binOp .eql 9 (.tmp 53) (.tmp 56) 9, 4, "ref.go:30", #[⟨4, .data⟩, ⟨7, .data⟩, ⟨2, .guard⟩], some (2, true)⟩ ?_
        refine tkZ 9 ⟨some 58, .pick (.tmp 51) (.tmp 57) (.const (.bool false)), 4, "ref.go:30", #[⟨2, .data⟩, ⟨8, .data⟩], none⟩ ?_
        refine wpAnyH_done (by kernel_rfl) ?_ _
        refine NoPanic.normal ?_
        go_wp2
        go_roundw
        case rel => exact ⟨4, by omega, by omega, rfl, ⟨fun _ => HR.out.1 (by omega), fun _ => HR.out.2.1 (by omega), fun _ => nn, by omega⟩, by (exact bl)⟩
        case measure => simp [intOf]
      have cc := of_decide_eq_true hc
      have hm : ((encS ((bt t 0 - 224) * 4096 + (bt t 1 - 128) * 64 + bt t 2 - 128)).toList == (t.extract 0 3).toList) = decide (H3 t) := by rw [encS_list]; exact m3 hle hc
      by_cases hh : H3 t
      · rw [decide_eq_true hh] at hm
        have E := hide (f_3 (HR.out.1 (by omega)) (HR.out.2.1 (by omega)) hh)
        refine wp_region_noPanic ?_
        refine wp_region_held_drew (S := (fun _ => True ∧ True)) (by kernel_rfl) kp (fun hHeld => ?_)
        refine tkZ 0 ⟨some 49, .move (.tmp 5), 3, "ref.go:30", #[], none⟩ ?_
        refine rqS [1] (rqC ⟨some 50, .call ⟨.value (.func 177), #[.tmp 49], #[3]⟩, 4, "ref.go:30", #[⟨0, .data⟩], none⟩ (fun K hK => ?_) rq0)
        go_simp
        (go_at_call 177; (with_reducible refine (rchar_any _ _).mono ?_); rintro e w' ⟨rfl, rfl⟩)
        go_wp2_with fail
        refine hK.out _ _ kp (fun hHeld => ?_)
        clear hK K
        try simp only [PT]
        refine tkZ 2 ⟨some 51, .move (.tmp 50), 4, "ref.go:30", #[⟨1, .data⟩, ⟨1, .chain⟩], none⟩ ?_
        refine tkZ 3 ⟨some 52, .move (.tmp 5), 3, "ref.go:30", #[⟨2, .guard⟩], some (2, true)⟩ ?_
        refine tkZ 5 ⟨some 54, .move (.tmp 0), 9, "ref.go:30", #[⟨2, .guard⟩], some (2, true)⟩ ?_
        refine tkZ 6 ⟨some 55, .move (.tmp 4), 3, "ref.go:30", #[⟨2, .guard⟩], some (2, true)⟩ ?_
        refine tkZ 7 ⟨some 56, .slice 9 (.tmp 54) none (some (.tmp 55)) none, 9, "ref.go:30", #[⟨5, .data⟩, ⟨6, .data⟩, ⟨2, .guard⟩], some (2, true)⟩ ?_
        refine rqS [4] (rqC ⟨some 53, .call ⟨.value (.func 178), #[.tmp 52], #[3]⟩, 9, "ref.go:30", #[⟨3, .data⟩, ⟨2, .chain⟩, ⟨2, .guard⟩], some (2, true)⟩ (fun K hK => ?_) rq0)
        go_simp
        (go_at_call 178; (with_reducible refine (rencode_any _ (by omega) _).mono ?_); rintro e w' ⟨rfl, hb⟩; have hz := hb.size; (try simp only [SZ, Nat.reduceAdd] at hz); (first | obtain ⟨HL, hk⟩ := HL.callA hb hz | obtain ⟨HL, hk⟩ := HL.call0A hb hz); (try simp only [addN, Nat.add_zero] at HL hk); have hl := HL; simp only [Live] at hl; (try simp only [Kept] at hk))
        go_wp2_with fail
        refine hK.out _ _ kp (fun hHeld => ?_)
        clear hK K
        try simp only [PT]
        refine tkZ 8 ⟨some 57, .binOp .eql 9 (.tmp 53) (.tmp 56) 9, 4, "ref.go:30", #[⟨4, .data⟩, ⟨7, .data⟩, ⟨2, .guard⟩], some (2, true)⟩ ?_
        refine tkZ 9 ⟨some 58, .pick (.tmp 51) (.tmp 57) (.const (.bool false)), 4, "ref.go:30", #[⟨2, .data⟩, ⟨8, .data⟩], none⟩ ?_
        refine wpAnyH_done (by kernel_rfl) ?_ _
        refine NoPanic.normal ?_
        go_wp2
        go_ret2
        exact ⟨ret2_ii E.out.1.symm (by rw [E.out.2]; rfl), by (exact bl)⟩
      · rw [decide_eq_false hh] at hm
        have nn := hide hh
        refine wp_region_noPanic ?_
        refine wp_region_held_drew (S := (fun _ => True ∧ True)) (by kernel_rfl) kp (fun hHeld => ?_)
        refine tkZ 0 ⟨some 49, .move (.tmp 5), 3, "ref.go:30", #[], none⟩ ?_
        refine rqS [1] (rqC ⟨some 50, .call ⟨.value (.func 177), #[.tmp 49], #[3]⟩, 4, "ref.go:30", #[⟨0, .data⟩], none⟩ (fun K hK => ?_) rq0)
        go_simp
        (go_at_call 177; (with_reducible refine (rchar_any _ _).mono ?_); rintro e w' ⟨rfl, rfl⟩)
        go_wp2_with fail
        refine hK.out _ _ kp (fun hHeld => ?_)
        clear hK K
        try simp only [PT]
        refine tkZ 2 ⟨some 51, .move (.tmp 50), 4, "ref.go:30", #[⟨1, .data⟩, ⟨1, .chain⟩], none⟩ ?_
        refine tkZ 3 ⟨some 52, .move (.tmp 5), 3, "ref.go:30", #[⟨2, .guard⟩], some (2, true)⟩ ?_
        refine tkZ 5 ⟨some 54, .move (.tmp 0), 9, "ref.go:30", #[⟨2, .guard⟩], some (2, true)⟩ ?_
        refine tkZ 6 ⟨some 55, .move (.tmp 4), 3, "ref.go:30", #[⟨2, .guard⟩], some (2, true)⟩ ?_
        refine tkZ 7 ⟨some 56, .slice 9 (.tmp 54) none (some (.tmp 55)) none, 9, "ref.go:30", #[⟨5, .data⟩, ⟨6, .data⟩, ⟨2, .guard⟩], some (2, true)⟩ ?_
        refine rqS [4] (rqC ⟨some 53, .call ⟨.value (.func 178), #[.tmp 52], #[3]⟩, 9, "ref.go:30", #[⟨3, .data⟩, ⟨2, .chain⟩, ⟨2, .guard⟩], some (2, true)⟩ (fun K hK => ?_) rq0)
        go_simp
        (go_at_call 178; (with_reducible refine (rencode_any _ (by omega) _).mono ?_); rintro e w' ⟨rfl, hb⟩; have hz := hb.size; (try simp only [SZ, Nat.reduceAdd] at hz); (first | obtain ⟨HL, hk⟩ := HL.callA hb hz | obtain ⟨HL, hk⟩ := HL.call0A hb hz); (try simp only [addN, Nat.add_zero] at HL hk); have hl := HL; simp only [Live] at hl; (try simp only [Kept] at hk))
        go_wp2_with fail
        refine hK.out _ _ kp (fun hHeld => ?_)
        clear hK K
        try simp only [PT]
        refine tkZ 8 ⟨some 57, .binOp .eql 9 (.tmp 53) (.tmp 56) 9, 4, "ref.go:30", #[⟨4, .data⟩, ⟨7, .data⟩, ⟨2, .guard⟩], some (2, true)⟩ ?_
        refine tkZ 9 ⟨some 58, .pick (.tmp 51) (.tmp 57) (.const (.bool false)), 4, "ref.go:30", #[⟨2, .data⟩, ⟨8, .data⟩], none⟩ ?_
        refine wpAnyH_done (by kernel_rfl) ?_ _
        refine NoPanic.normal ?_
        go_wp2
        go_roundw
        case rel => exact ⟨4, by omega, by omega, rfl, ⟨fun _ => HR.out.1 (by omega), fun _ => HR.out.2.1 (by omega), fun _ => nn.out, by omega⟩, by (exact bl)⟩
        case measure => simp [intOf]
    · have E := hide (f_0 (HR.out.1 (by omega)) (HR.out.2.1 (by omega)) (HR.out.2.2.1 (by omega)))
      go_wp2
      go_ret2
      exact ⟨ret2_ii E.out.1.symm (by rw [E.out.2]; rfl), hbel⟩
end Go.Proofs.YtocgindpjjolpaaGreatDoor
