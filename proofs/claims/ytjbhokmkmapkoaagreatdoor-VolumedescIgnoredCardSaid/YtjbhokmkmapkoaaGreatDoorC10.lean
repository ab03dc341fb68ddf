/- Contracts and plain words for the laws of volume descriptors, part 10: KW1. No condition. -/
import Derived.Test.YtjbhokmkmapkoaaGreatDoorC8
namespace Go.Proofs.YtjbhokmkmapkoaaGreatDoor.Dt
set_option linter.unusedSimpArgs false
set_option linter.unusedVariables false
open Go.RowKit
theorem ret_str {a b : ByteArray} (h : a = b) : Ending.returned (.string a) = .returned (.string b) := by rw [h]
set_option maxHeartbeats 1000000 in
theorem rdig2 (n : Int) (h0 : 0 ≤ n) (h1 : n < 100) (w : World) : Calls Tryz.prog 96 #[.int .i64 n, .int .i64 2] w fun e w' => e = .returned (.string ⟨(dig2 n).toArray⟩) ∧ Below w.heap.size w w' := by
  have cv := fun (W : World) (x0 : Int) => conv_at (P := Tryz.prog) 48 9 5 Tryz.underlying48 Tryz.underlying5 Tryz.underlying9 W 5 [x0] #[.int .u8 x0] rfl 1 1 rfl
  have HL : Live w [] := trivial
  go_enter Tryz.func96, Tryz.ntmps96
  go_wp2
  refine wp_loop_rounds 3 ?_
  repeat any_goals (rw [rounds_succ]; go_wp2)
  go_ret
  exact ⟨ret_str (by have e : n / 10 % 10 = n / 10 := by omega
                     rw [e]; rfl), by (exact bl)⟩
set_option maxHeartbeats 1000000 in
theorem rdig4 (n : Int) (h0 : 1900 ≤ n) (h1 : n ≤ 2155) (w : World) : Calls Tryz.prog 96 #[.int .i64 n, .int .i64 4] w fun e w' => e = .returned (.string ⟨(dig4 n).toArray⟩) ∧ Below w.heap.size w w' := by
  have cv := fun (W : World) (x0 : Int) => conv_at (P := Tryz.prog) 48 9 5 Tryz.underlying48 Tryz.underlying5 Tryz.underlying9 W 5 [x0] #[.int .u8 x0] rfl 1 1 rfl
  have HL : Live w [] := trivial
  go_enter Tryz.func96, Tryz.ntmps96
  go_wp2
  refine wp_loop_rounds 5 ?_
  repeat any_goals (rw [rounds_succ]; go_wp2)
  go_ret
  exact ⟨ret_str (by have e : n / 10 / 10 % 10 = n / 100 % 10 := by omega
                     have e2 : n / 10 / 10 / 10 % 10 = n / 1000 := by omega
                     rw [e, e2]; rfl), by (exact bl)⟩
set_option maxHeartbeats 400000 in
theorem runspec_any (w : World) : Calls Tryz.prog 46 #[] w fun e w' => e = .returned (.string ⟨#[48, 48, 48, 48, 48, 48, 48, 48, 48, 48, 48, 48, 48, 48, 48, 48, 0]⟩) ∧ w = w' := by
  have HL : Live w [] := trivial
  go_enter Tryz.func46, Tryz.ntmps46
  go_wp2
  go_ret
  exact ⟨rfl, rfl⟩
set_option maxHeartbeats 400000 in
theorem rdesc_no (t z : Int) (hb : (timeB t && quarterB z) = false) (w : World) :
    Calls Tryz.prog 43 #[.int .i64 t, .int .i64 z] w fun e w' => e = .returned (.tuple #[.string ⟨#[]⟩, .int .i64 2]) ∧ Below w.heap.size w w' := by
  have H := hide hb
  clear hb
  cases h1 : timeB t
  · have HL : Live w [] := trivial
    go_enter Tryz.func43, Tryz.ntmps43
    go_wp2_with (first | (go_at_call 93; (with_reducible refine (rTime_any _ _).mono ?_); rintro e w' ⟨rfl, rfl⟩) | (go_at_call 94; (with_reducible refine (rQuarter_any _ _).mono ?_); rintro e w' ⟨rfl, rfl⟩))
    go_ret2
    exact ⟨rfl, by (exact bl)⟩
  · have h2 : quarterB z = false := by have := H.out; simpa [h1] using this
    have HL : Live w [] := trivial
    go_enter Tryz.func43, Tryz.ntmps43
    go_wp2_with (first | (go_at_call 93; (with_reducible refine (rTime_any _ _).mono ?_); rintro e w' ⟨rfl, rfl⟩) | (go_at_call 94; (with_reducible refine (rQuarter_any _ _).mono ?_); rintro e w' ⟨rfl, rfl⟩))
    go_ret2
    exact ⟨rfl, by (exact bl)⟩
set_option maxHeartbeats 2000000 in
theorem rdesc_yes (t q : Int) (ht : 315532800 ≤ t ∧ t ≤ 4102444799) (hq : -48 ≤ q ∧ q ≤ 52) (w : World) :
    Calls Tryz.prog 43 #[.int .i64 t, .int .i64 (15 * q)] w (DescP (t + 60 * (15 * q)) q w) := by
  have qb : quarterB (15 * q) = true := by rw [quarterB_mul]; exact decide_eq_true hq
  have tb : timeB t = true := timeB_true.2 ht
  have td := tdiv15 q
  have cv := fun (W : World) (x0 : Int) => conv_at (P := Tryz.prog) 48 9 5 Tryz.underlying48 Tryz.underlying5 Tryz.underlying9 W 5 [x0] #[.int .u8 x0] rfl 1 1 rfl
  have cvd := fun (W : World) (x0 : Int) => conv_drew (P := Tryz.prog) 48 9 5 Tryz.underlying48 Tryz.underlying5 Tryz.underlying9 W 5 [x0] #[.int .u8 x0] rfl 1 1 rfl
  have HL : Live w [] := trivial
  go_enter Tryz.func43, Tryz.ntmps43
  go_wp2_with (first | (go_at_call 93; (with_reducible refine (rTime_any _ _).mono ?_); rintro e w' ⟨rfl, rfl⟩) | (go_at_call 94; (with_reducible refine (rQuarter_any _ _).mono ?_); rintro e w' ⟨rfl, rfl⟩))
  (first | ((with_reducible refine (rsplit_yes _ _ (by omega) (by omega) _).mono ?_); rintro e w1 ⟨cY, cM, cD, ch, cm, cs, rfl, hv, hq, hb⟩; have hvv := hv; unfold vClk at hvv; have hmd := mdays_bd cY cM; have hQ := hide hq; clear hq; have hz := hb.size; (try simp only [SZ, Nat.reduceAdd] at hz); (first | obtain ⟨HL, hk⟩ := HL.callA hb hz | obtain ⟨HL, hk⟩ := HL.call0A hb hz); (try simp only [addN, Nat.add_zero] at HL hk); have hl := HL; simp only [Live] at hl; (try simp only [Kept] at hk)))
  go_wp2_with fail
  have wq : IntKind.i64.wrap q = q := IntWalk.i64_in q (by omega)
  have l2 : ∀ n, (dig2 n).length = 2 := fun _ => rfl
  have l4 : ∀ n, (dig4 n).length = 4 := fun _ => rfl
  refine wp_region_noPanic ?_
  refine wp_region_held_drew (S := (fun x => x.cell? ⟨w1.heap.size, 0, none⟩ = some (.int .i64 cY) ∧ x.cell? ⟨w1.heap.size, 1, none⟩ = some (.int .i64 cM) ∧ x.cell? ⟨w1.heap.size, 2, none⟩ = some (.int .i64 cD) ∧ x.cell? ⟨w1.heap.size, 3, none⟩ = some (.int .i64 ch) ∧ x.cell? ⟨w1.heap.size, 4, none⟩ = some (.int .i64 cm) ∧ x.cell? ⟨w1.heap.size, 5, none⟩ = some (.int .i64 cs))) (by kernel_rfl) kp (fun hHeld => ?_)
  refine tkY 0 ⟨some 22, .fieldAddr 110 (.tmp 6) 0, 0, "ref.go:157", #[], none⟩ ?_ ?_ ?_
  rotate_left
  · intro w hSw; (try dsimp only at hSw); go_simp; (try with_reducible rfl)
  try simp only [PT]
  refine tkY 1 ⟨some 23, .load 3 (.tmp 22), 3, "ref.go:157", #[⟨0, .data⟩], none⟩ ?_ ?_ ?_
  rotate_left
  · intro w hSw; (try dsimp only at hSw); go_simp; (try with_reducible rfl)
  try simp only [PT]
  refine tkY 3 ⟨some 25, .fieldAddr 110 (.tmp 6) 1, 0, "ref.go:157", #[], none⟩ ?_ ?_ ?_
  rotate_left
  · intro w hSw; (try dsimp only at hSw); go_simp; (try with_reducible rfl)
  try simp only [PT]
  refine tkY 4 ⟨some 26, .load 3 (.tmp 25), 3, "ref.go:157", #[⟨3, .data⟩], none⟩ ?_ ?_ ?_
  rotate_left
  · intro w hSw; (try dsimp only at hSw); go_simp; (try with_reducible rfl)
  try simp only [PT]
  refine tkY 7 ⟨some 29, .fieldAddr 110 (.tmp 6) 2, 0, "ref.go:157", #[], none⟩ ?_ ?_ ?_
  rotate_left
  · intro w hSw; (try dsimp only at hSw); go_simp; (try with_reducible rfl)
  try simp only [PT]
  refine tkY 8 ⟨some 30, .load 3 (.tmp 29), 3, "ref.go:157", #[⟨7, .data⟩], none⟩ ?_ ?_ ?_
  rotate_left
  · intro w hSw; (try dsimp only at hSw); go_simp; (try with_reducible rfl)
  try simp only [PT]
  refine tkY 11 ⟨some 33, .fieldAddr 110 (.tmp 6) 3, 0, "ref.go:157", #[], none⟩ ?_ ?_ ?_
  rotate_left
  · intro w hSw; (try dsimp only at hSw); go_simp; (try with_reducible rfl)
  try simp only [PT]
  refine tkY 12 ⟨some 34, .load 3 (.tmp 33), 3, "ref.go:157", #[⟨11, .data⟩], none⟩ ?_ ?_ ?_
  rotate_left
  · intro w hSw; (try dsimp only at hSw); go_simp; (try with_reducible rfl)
  try simp only [PT]
  refine tkY 15 ⟨some 37, .fieldAddr 110 (.tmp 6) 4, 0, "ref.go:157", #[], none⟩ ?_ ?_ ?_
  rotate_left
  · intro w hSw; (try dsimp only at hSw); go_simp; (try with_reducible rfl)
  try simp only [PT]
  refine tkY 16 ⟨some 38, .load 3 (.tmp 37), 3, "ref.go:157", #[⟨15, .data⟩], none⟩ ?_ ?_ ?_
  rotate_left
  · intro w hSw; (try dsimp only at hSw); go_simp; (try with_reducible rfl)
  try simp only [PT]
  refine tkY 19 ⟨some 41, .fieldAddr 110 (.tmp 6) 5, 0, "ref.go:157", #[], none⟩ ?_ ?_ ?_
  rotate_left
  · intro w hSw; (try dsimp only at hSw); go_simp; (try with_reducible rfl)
  try simp only [PT]
  refine tkY 20 ⟨some 42, .load 3 (.tmp 41), 3, "ref.go:157", #[⟨19, .data⟩], none⟩ ?_ ?_ ?_
  rotate_left
  · intro w hSw; (try dsimp only at hSw); go_simp; (try with_reducible rfl)
  try simp only [PT]
  refine tkY 24 ⟨some 46, .move (.tmp 1), 3, "ref.go:157", #[], none⟩ ?_ ?_ ?_
  rotate_left
  · intro w hSw; (try dsimp only at hSw); go_simp; (try with_reducible rfl)
  try simp only [PT]
  refine tkY 25 ⟨some 47, .binOp .quo 3 (.tmp 46) (.const (.int .i64 15)) 3, 3, "ref.go:157", #[⟨24, .data⟩], none⟩ ?_ ?_ ?_
  rotate_left
  · intro w hSw; (try dsimp only at hSw); go_simp; (try with_reducible rfl)
  try simp only [PT]
  refine wpAnyH_ready (rs := [2]) (by kernel_rfl) (by simp) ?_
  refine AllReadyH.cons (o := ⟨some 24, .call ⟨.value (.func 96), #[.tmp 23, .const (.int .i64 4)], #[3, 3]⟩, 9, "ref.go:157", #[⟨1, .data⟩], none⟩) rfl (fun K hK => ?_) AllReadyH.nil
  go_simp
  (first | (go_at_call 96; (with_reducible refine (rdig4 _ (by omega) (by omega) _).mono ?_); rintro e w' ⟨rfl, hb⟩; have hz := hb.size; (try simp only [SZ, Nat.reduceAdd] at hz); (first | obtain ⟨HL, hk⟩ := HL.callA hb hz | obtain ⟨HL, hk⟩ := HL.call0A hb hz); (try simp only [addN, Nat.add_zero] at HL hk); have hl := HL; simp only [Live] at hl; (try simp only [Kept] at hk)) | (go_at_call 96; (with_reducible refine (rdig2 _ (by omega) (by omega) _).mono ?_); rintro e w' ⟨rfl, hb⟩; have hz := hb.size; (try simp only [SZ, Nat.reduceAdd] at hz); (first | obtain ⟨HL, hk⟩ := HL.callA hb hz | obtain ⟨HL, hk⟩ := HL.call0A hb hz); (try simp only [addN, Nat.add_zero] at HL hk); have hl := HL; simp only [Live] at hl; (try simp only [Kept] at hk)))
  go_wp2_with fail
  refine hK.out _ _ kp (fun hHeld => ?_)
  clear hK K
  try simp only [PT]
  refine wpAnyH_ready (rs := [5]) (by kernel_rfl) (by simp) ?_
  refine AllReadyH.cons (o := ⟨some 27, .call ⟨.value (.func 96), #[.tmp 26, .const (.int .i64 2)], #[3, 3]⟩, 9, "ref.go:157", #[⟨4, .data⟩, ⟨2, .chain⟩], none⟩) rfl (fun K hK => ?_) AllReadyH.nil
  go_simp
  (first | (go_at_call 96; (with_reducible refine (rdig4 _ (by omega) (by omega) _).mono ?_); rintro e w' ⟨rfl, hb⟩; have hz := hb.size; (try simp only [SZ, Nat.reduceAdd] at hz); (first | obtain ⟨HL, hk⟩ := HL.callA hb hz | obtain ⟨HL, hk⟩ := HL.call0A hb hz); (try simp only [addN, Nat.add_zero] at HL hk); have hl := HL; simp only [Live] at hl; (try simp only [Kept] at hk)) | (go_at_call 96; (with_reducible refine (rdig2 _ (by omega) (by omega) _).mono ?_); rintro e w' ⟨rfl, hb⟩; have hz := hb.size; (try simp only [SZ, Nat.reduceAdd] at hz); (first | obtain ⟨HL, hk⟩ := HL.callA hb hz | obtain ⟨HL, hk⟩ := HL.call0A hb hz); (try simp only [addN, Nat.add_zero] at HL hk); have hl := HL; simp only [Live] at hl; (try simp only [Kept] at hk)))
  go_wp2_with fail
  refine hK.out _ _ kp (fun hHeld => ?_)
  clear hK K
  try simp only [PT]
  refine tkY 6 ⟨some 28, .binOp .add 9 (.tmp 24) (.tmp 27) 9, 9, "ref.go:157", #[⟨2, .data⟩, ⟨5, .data⟩], none⟩ ?_ ?_ ?_
  rotate_left
  · intro w hSw; (try dsimp only at hSw); go_simp; (try with_reducible rfl)
  try simp only [PT]
  refine wpAnyH_ready (rs := [9]) (by kernel_rfl) (by simp) ?_
  refine AllReadyH.cons (o := ⟨some 31, .call ⟨.value (.func 96), #[.tmp 30, .const (.int .i64 2)], #[3, 3]⟩, 9, "ref.go:157", #[⟨8, .data⟩, ⟨5, .chain⟩], none⟩) rfl (fun K hK => ?_) AllReadyH.nil
  go_simp
  (first | (go_at_call 96; (with_reducible refine (rdig4 _ (by omega) (by omega) _).mono ?_); rintro e w' ⟨rfl, hb⟩; have hz := hb.size; (try simp only [SZ, Nat.reduceAdd] at hz); (first | obtain ⟨HL, hk⟩ := HL.callA hb hz | obtain ⟨HL, hk⟩ := HL.call0A hb hz); (try simp only [addN, Nat.add_zero] at HL hk); have hl := HL; simp only [Live] at hl; (try simp only [Kept] at hk)) | (go_at_call 96; (with_reducible refine (rdig2 _ (by omega) (by omega) _).mono ?_); rintro e w' ⟨rfl, hb⟩; have hz := hb.size; (try simp only [SZ, Nat.reduceAdd] at hz); (first | obtain ⟨HL, hk⟩ := HL.callA hb hz | obtain ⟨HL, hk⟩ := HL.call0A hb hz); (try simp only [addN, Nat.add_zero] at HL hk); have hl := HL; simp only [Live] at hl; (try simp only [Kept] at hk)))
  go_wp2_with fail
  refine hK.out _ _ kp (fun hHeld => ?_)
  clear hK K
  try simp only [PT]
  refine tkY 10 ⟨some 32, .binOp .add 9 (.tmp 28) (.tmp 31) 9, 9, "ref.go:157", #[⟨6, .data⟩, ⟨9, .data⟩], none⟩ ?_ ?_ ?_
  rotate_left
  · intro w hSw; (try dsimp only at hSw); go_simp; (try with_reducible rfl)
  try simp only [PT]
  refine wpAnyH_ready (rs := [13]) (by kernel_rfl) (by simp) ?_
  refine AllReadyH.cons (o := ⟨some 35, .call ⟨.value (.func 96), #[.tmp 34, .const (.int .i64 2)], #[3, 3]⟩, 9, "ref.go:157", #[⟨12, .data⟩, ⟨9, .chain⟩], none⟩) rfl (fun K hK => ?_) AllReadyH.nil
  go_simp
  (first | (go_at_call 96; (with_reducible refine (rdig4 _ (by omega) (by omega) _).mono ?_); rintro e w' ⟨rfl, hb⟩; have hz := hb.size; (try simp only [SZ, Nat.reduceAdd] at hz); (first | obtain ⟨HL, hk⟩ := HL.callA hb hz | obtain ⟨HL, hk⟩ := HL.call0A hb hz); (try simp only [addN, Nat.add_zero] at HL hk); have hl := HL; simp only [Live] at hl; (try simp only [Kept] at hk)) | (go_at_call 96; (with_reducible refine (rdig2 _ (by omega) (by omega) _).mono ?_); rintro e w' ⟨rfl, hb⟩; have hz := hb.size; (try simp only [SZ, Nat.reduceAdd] at hz); (first | obtain ⟨HL, hk⟩ := HL.callA hb hz | obtain ⟨HL, hk⟩ := HL.call0A hb hz); (try simp only [addN, Nat.add_zero] at HL hk); have hl := HL; simp only [Live] at hl; (try simp only [Kept] at hk)))
  go_wp2_with fail
  refine hK.out _ _ kp (fun hHeld => ?_)
  clear hK K
  try simp only [PT]
  refine tkY 14 ⟨some 36, .binOp .add 9 (.tmp 32) (.tmp 35) 9, 9, "ref.go:157", #[⟨10, .data⟩, ⟨13, .data⟩], none⟩ ?_ ?_ ?_
  rotate_left
  · intro w hSw; (try dsimp only at hSw); go_simp; (try with_reducible rfl)
  try simp only [PT]
  refine wpAnyH_ready (rs := [17]) (by kernel_rfl) (by simp) ?_
  refine AllReadyH.cons (o := ⟨some 39, .call ⟨.value (.func 96), #[.tmp 38, .const (.int .i64 2)], #[3, 3]⟩, 9, "ref.go:157", #[⟨16, .data⟩, ⟨13, .chain⟩], none⟩) rfl (fun K hK => ?_) AllReadyH.nil
  go_simp
  (first | (go_at_call 96; (with_reducible refine (rdig4 _ (by omega) (by omega) _).mono ?_); rintro e w' ⟨rfl, hb⟩; have hz := hb.size; (try simp only [SZ, Nat.reduceAdd] at hz); (first | obtain ⟨HL, hk⟩ := HL.callA hb hz | obtain ⟨HL, hk⟩ := HL.call0A hb hz); (try simp only [addN, Nat.add_zero] at HL hk); have hl := HL; simp only [Live] at hl; (try simp only [Kept] at hk)) | (go_at_call 96; (with_reducible refine (rdig2 _ (by omega) (by omega) _).mono ?_); rintro e w' ⟨rfl, hb⟩; have hz := hb.size; (try simp only [SZ, Nat.reduceAdd] at hz); (first | obtain ⟨HL, hk⟩ := HL.callA hb hz | obtain ⟨HL, hk⟩ := HL.call0A hb hz); (try simp only [addN, Nat.add_zero] at HL hk); have hl := HL; simp only [Live] at hl; (try simp only [Kept] at hk)))
  go_wp2_with fail
  refine hK.out _ _ kp (fun hHeld => ?_)
  clear hK K
  try simp only [PT]
  refine tkY 18 ⟨some 40, .binOp .add 9 (.tmp 36) (.tmp 39) 9, 9, "ref.go:157", #[⟨14, .data⟩, ⟨17, .data⟩], none⟩ ?_ ?_ ?_
  rotate_left
  · intro w hSw; (try dsimp only at hSw); go_simp; (try with_reducible rfl)
  try simp only [PT]
  refine wpAnyH_ready (rs := [21]) (by kernel_rfl) (by simp) ?_
  refine AllReadyH.cons (o := ⟨some 43, .call ⟨.value (.func 96), #[.tmp 42, .const (.int .i64 2)], #[3, 3]⟩, 9, "ref.go:157", #[⟨20, .data⟩, ⟨17, .chain⟩], none⟩) rfl (fun K hK => ?_) AllReadyH.nil
  go_simp
  (first | (go_at_call 96; (with_reducible refine (rdig4 _ (by omega) (by omega) _).mono ?_); rintro e w' ⟨rfl, hb⟩; have hz := hb.size; (try simp only [SZ, Nat.reduceAdd] at hz); (first | obtain ⟨HL, hk⟩ := HL.callA hb hz | obtain ⟨HL, hk⟩ := HL.call0A hb hz); (try simp only [addN, Nat.add_zero] at HL hk); have hl := HL; simp only [Live] at hl; (try simp only [Kept] at hk)) | (go_at_call 96; (with_reducible refine (rdig2 _ (by omega) (by omega) _).mono ?_); rintro e w' ⟨rfl, hb⟩; have hz := hb.size; (try simp only [SZ, Nat.reduceAdd] at hz); (first | obtain ⟨HL, hk⟩ := HL.callA hb hz | obtain ⟨HL, hk⟩ := HL.call0A hb hz); (try simp only [addN, Nat.add_zero] at HL hk); have hl := HL; simp only [Live] at hl; (try simp only [Kept] at hk)))
  go_wp2_with fail
  refine hK.out _ _ kp (fun hHeld => ?_)
  clear hK K
  try simp only [PT]
  refine tkY 22 ⟨some 44, .binOp .add 9 (.tmp 40) (.tmp 43) 9, 9, "ref.go:157", #[⟨18, .data⟩, ⟨21, .data⟩], none⟩ ?_ ?_ ?_
  rotate_left
  · intro w hSw; (try dsimp only at hSw); go_simp; (try with_reducible rfl)
  try simp only [PT]
  refine tkY 23 ⟨some 45, .binOp .add 9 (.tmp 44) (.const (.string { data := #[48, 48] })) 9, 9, "ref.go:157", #[⟨22, .data⟩], none⟩ ?_ ?_ ?_
  rotate_left
  · intro w hSw; (try dsimp only at hSw); go_simp; (try with_reducible rfl)
  try simp only [PT]
  refine wpAnyH_ready (rs := [26]) (by kernel_rfl) (by simp) ?_
  refine AllReadyH.cons (o := ⟨some 48, .call ⟨.value (.func 97), #[.tmp 47], #[3]⟩, 5, "ref.go:157", #[⟨25, .data⟩, ⟨21, .chain⟩], none⟩) rfl (fun K hK => ?_) AllReadyH.nil
  go_simp
  (go_at_call 97; (with_reducible refine (signed_any _ (by omega) _).mono ?_); rintro e w' ⟨rfl, rfl⟩)
  go_wp2_with fail
  refine hK.out _ _ kp (fun hHeld => ?_)
  clear hK K
  try simp only [PT]
  refine wpAnyH_ready (rs := [27]) (by kernel_rfl) (by simp) ?_
  refine AllReadyH.cons (o := ⟨some 49, .buildSlice 48 1 #[(0, .tmp 48)], 48, "ref.go:157", #[⟨26, .data⟩], none⟩) rfl (fun K hK => ?_) AllReadyH.nil
  go_simp
  refine hK.out _ _ kp (fun hHeld => ?_)
  clear hK K
  try simp only [PT]
  refine wpAnyH_ready (rs := [28]) (by kernel_rfl) (by simp) ?_
  refine AllReadyH.cons (o := ⟨some 50, .convert 48 9 (.tmp 49), 9, "ref.go:157", #[⟨27, .data⟩], none⟩) rfl (fun K hK => ?_) AllReadyH.nil
  go_simp
  refine hK.out _ _ kp (fun hHeld => ?_)
  clear hK K
  try simp only [PT]
  refine tkY 29 ⟨some 51, .binOp .add 9 (.tmp 45) (.tmp 50) 9, 9, "ref.go:157", #[⟨23, .data⟩, ⟨28, .data⟩], none⟩ ?_ ?_ ?_
  rotate_left
  · intro w hSw; (try dsimp only at hSw); go_simp; (try with_reducible rfl)
  try simp only [PT]
  refine tkY 30 ⟨some 4, .assign (.tmp 51), 9, "ref.go:157", #[⟨29, .data⟩, ⟨26, .chain⟩, ⟨0, .phase⟩, ⟨1, .phase⟩, ⟨2, .phase⟩, ⟨3, .phase⟩, ⟨4, .phase⟩, ⟨5, .phase⟩, ⟨6, .phase⟩, ⟨7, .phase⟩, ⟨8, .phase⟩, ⟨9, .phase⟩, ⟨10, .phase⟩, ⟨11, .phase⟩, ⟨12, .phase⟩, ⟨13, .phase⟩, ⟨14, .phase⟩, ⟨15, .phase⟩, ⟨16, .phase⟩, ⟨17, .phase⟩, ⟨18, .phase⟩, ⟨19, .phase⟩, ⟨20, .phase⟩, ⟨21, .phase⟩, ⟨22, .phase⟩, ⟨23, .phase⟩, ⟨24, .phase⟩, ⟨25, .phase⟩, ⟨26, .phase⟩, ⟨27, .phase⟩, ⟨28, .phase⟩, ⟨29, .phase⟩], none⟩ ?_ ?_ ?_
  rotate_left
  · intro w hSw; (try dsimp only at hSw); go_simp; (try with_reducible rfl)
  try simp only [PT]
  refine tkY 31 ⟨some 5, .assign (.const (.int .i64 0)), 30, "ref.go:157", #[⟨30, .chain⟩, ⟨0, .phase⟩, ⟨1, .phase⟩, ⟨2, .phase⟩, ⟨3, .phase⟩, ⟨4, .phase⟩, ⟨5, .phase⟩, ⟨6, .phase⟩, ⟨7, .phase⟩, ⟨8, .phase⟩, ⟨9, .phase⟩, ⟨10, .phase⟩, ⟨11, .phase⟩, ⟨12, .phase⟩, ⟨13, .phase⟩, ⟨14, .phase⟩, ⟨15, .phase⟩, ⟨16, .phase⟩, ⟨17, .phase⟩, ⟨18, .phase⟩, ⟨19, .phase⟩, ⟨20, .phase⟩, ⟨21, .phase⟩, ⟨22, .phase⟩, ⟨23, .phase⟩, ⟨24, .phase⟩, ⟨25, .phase⟩, ⟨26, .phase⟩, ⟨27, .phase⟩, ⟨28, .phase⟩, ⟨29, .phase⟩, ⟨30, .phase⟩], none⟩ ?_ ?_ ?_
  rotate_left
  · intro w hSw; (try dsimp only at hSw); go_simp; (try with_reducible rfl)
  try simp only [PT]
  refine wpAnyH_done (by kernel_rfl) ?_ _
  refine NoPanic.normal ?_
  all_goals (go_wp2; go_ret2; exact ⟨cY, cM, cD, ch, cm, cs, by rfl, hv, hQ.out, by (exact bl)⟩)
end Go.Proofs.YtjbhokmkmapkoaaGreatDoor.Dt
