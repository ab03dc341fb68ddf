/- Contracts and plain words for the laws of volume descriptors, part 5: KF, KQ, KH1, KR. No condition. -/
import Derived.Test.YtjbhokmkmapkoaaGreatDoorC4
import Derived.WalkKit
import Derived.PlainAid
namespace Go.Proofs.YtjbhokmkmapkoaaGreatDoor.Dt
set_option linter.unusedSimpArgs false
set_option linter.unusedVariables false
open Go.RowKit
theorem conv_at {P : Program} (src dst e : TypeId) (hs : P.underlying src = some (.slice e)) (he : P.underlying e = some (.int .u8)) (hd : P.underlying dst = some .string)
    (W : World) (t : TypeId) (ns : List Int) (C : Array Value) (hC : C = (ns.map (Value.int .u8)).toArray) (n cap : Nat) (hn : n = ns.length) (b : Nat) (hb : b = W.heap.size) :
    (convert src dst (.slice (some ⟨b, 0, none⟩) n cap)).run P (W.alloc (.cells C t)) = .ok (.string ⟨(ns.map fun n => UInt8.ofNat n.toNat).toArray⟩) (W.alloc (.cells C t)) := by
  subst hb
  exact conv_lit src dst e hs he hd W t ns C hC n cap hn
theorem conv_drew {P : Program} (src dst e : TypeId) (hs : P.underlying src = some (.slice e)) (he : P.underlying e = some (.int .u8)) (hd : P.underlying dst = some .string)
    (W : World) (t : TypeId) (ns : List Int) (C : Array Value) (hC : C = (ns.map (Value.int .u8)).toArray) (n cap : Nat) (hn : n = ns.length) (b : Nat) (hb : b = W.heap.size) :
    (convert src dst (.slice (some ⟨b, 0, none⟩) n cap)).run P (W.alloc (.cells C t)).drew = .ok (.string ⟨(ns.map fun n => UInt8.ofNat n.toNat).toArray⟩) (W.alloc (.cells C t)).drew :=
  conv_at src dst e hs he hd W.drew t ns C hC n cap hn b hb
theorem tdiv15 (q : Int) : (15 * q).tdiv 15 = q := by rw [Int.mul_comm]; exact Int.mul_tdiv_cancel _ (by decide)
theorem tmod15 (q : Int) : (15 * q).tmod 15 = 0 := by rw [Int.mul_comm]; exact Int.mul_tmod_left _ _
theorem quarterB_mul (q : Int) : quarterB (15 * q) = decide (-48 ≤ q ∧ q ≤ 52) := by
  unfold quarterB; rw [tmod15]; apply dec_eq; omega
set_option maxHeartbeats 400000 in
theorem isQuarter_any (z : Int) (w : World) : Calls Tryz.prog 84 #[.int .i64 z] w fun e w' => e = .returned (.bool (quarterB z)) ∧ w = w' := by
  have HL : Live w [] := trivial
  go_enter Tryz.func84, Tryz.ntmps84
  go_wp2
  all_goals
    go_ret
    exact ⟨ret_b (by rw [Bool.eq_iff_iff]; simp [quarterB] <;> omega), rfl⟩
set_option maxHeartbeats 400000 in
theorem rQuarter_any (z : Int) (w : World) : Calls Tryz.prog 94 #[.int .i64 z] w fun e w' => e = .returned (.bool (quarterB z)) ∧ w = w' := by
  have HL : Live w [] := trivial
  go_enter Tryz.func94, Tryz.ntmps94
  go_wp2
  all_goals
    go_ret
    exact ⟨ret_b (by rw [Bool.eq_iff_iff]; simp [quarterB] <;> omega), rfl⟩
def zby (q : Int) : UInt8 := UInt8.ofNat (q % 256).toNat
def recS (Y M D h m s q : Int) : ByteArray := ⟨#[UInt8.ofNat (Y - 1900).toNat, UInt8.ofNat M.toNat, UInt8.ofNat D.toNat, UInt8.ofNat h.toNat, UInt8.ofNat m.toNat, UInt8.ofNat s.toNat, zby q]⟩
def RecP (L q : Int) (w : World) (e : Ending) (w' : World) : Prop :=
  ∃ Y M D h m s : Int, e = .returned (.tuple #[.string (recS Y M D h m s q), .int .i64 0]) ∧ vClk Y M D h m s ∧ secs Y M D h m s = L ∧ Below w.heap.size w w'
theorem tz_no {t z : Int} (h : (timeB t && quarterB z) = false) : (timeB t && zoneB z) = false ∨ ((timeB t && zoneB z) = true ∧ quarterB z = false) := by
  cases h1 : timeB t <;> cases h2 : zoneB z <;> cases h3 : quarterB z <;> simp_all
set_option maxHeartbeats 400000 in
theorem record_no (t z : Int) (hb : (timeB t && quarterB z) = false) (w : World) :
    Calls Tryz.prog 77 #[.int .i64 t, .int .i64 z] w fun e w' => e = .returned (.tuple #[.string ⟨#[]⟩, .int .i64 2]) ∧ Below w.heap.size w w' := by
  have hn := tz_no hb
  have H := hide hb
  clear hb
  rcases hn with hn | ⟨hn, hq⟩
  · have HL : Live w [] := trivial
    go_enter Tryz.func77, Tryz.ntmps77
    go_wp2_with (first | (go_at_call 83; (with_reducible refine (split_no _ _ (by assumption) _).mono ?_); rintro e w' ⟨rfl, hb⟩; have hz := hb.size; (try simp only [SZ, Nat.reduceAdd] at hz); (first | obtain ⟨HL, hk⟩ := HL.callA hb hz | obtain ⟨HL, hk⟩ := HL.call0A hb hz); (try simp only [addN, Nat.add_zero] at HL hk); have hl := HL; simp only [Live] at hl; (try simp only [Kept] at hk)) | (go_at_call 84; (with_reducible refine (isQuarter_any _ _).mono ?_); rintro e w' ⟨rfl, rfl⟩))
    go_ret2
    exact ⟨rfl, by (exact bl)⟩
  · have ht := timeB_true.1 (by simp only [Bool.and_eq_true] at hn; exact hn.1)
    have hz := zoneB_true.1 (by simp only [Bool.and_eq_true] at hn; exact hn.2)
    clear hn
    have HL : Live w [] := trivial
    go_enter Tryz.func77, Tryz.ntmps77
    go_wp2_with (first | (go_at_call 83; (with_reducible refine (split_yes _ _ (by omega) (by omega) _).mono ?_); rintro e w' ⟨cY, cM, cD, ch, cm, cs, rfl, hv, hq, hb⟩; have hvv := hv; unfold vClk at hvv; have hmd := mdays_bd cY cM; have hQ := hide hq; clear hq; have hz := hb.size; (try simp only [SZ, Nat.reduceAdd] at hz); (first | obtain ⟨HL, hk⟩ := HL.callA hb hz | obtain ⟨HL, hk⟩ := HL.call0A hb hz); (try simp only [addN, Nat.add_zero] at HL hk); have hl := HL; simp only [Live] at hl; (try simp only [Kept] at hk)) | (go_at_call 84; (with_reducible refine (isQuarter_any _ _).mono ?_); rintro e w' ⟨rfl, rfl⟩))
    go_ret2
    exact ⟨rfl, by (exact bl)⟩
set_option maxHeartbeats 1000000 in
theorem record_yes (t q : Int) (ht : 315532800 ≤ t ∧ t ≤ 4102444799) (hq : -48 ≤ q ∧ q ≤ 52) (w : World) :
    Calls Tryz.prog 77 #[.int .i64 t, .int .i64 (15 * q)] w (RecP (t + 60 * (15 * q)) q w) := by
  have qb : quarterB (15 * q) = true := by rw [quarterB_mul]; exact decide_eq_true hq
  have td := tdiv15 q
  have cv := fun (W : World) (x0 x1 x2 x3 x4 x5 x6 : Int) => conv_at (P := Tryz.prog) 48 9 5 Tryz.underlying48 Tryz.underlying5 Tryz.underlying9 W 5 [x0, x1, x2, x3, x4, x5, x6] #[.int .u8 x0, .int .u8 x1, .int .u8 x2, .int .u8 x3, .int .u8 x4, .int .u8 x5, .int .u8 x6] rfl 7 7 rfl
  have HL : Live w [] := trivial
  go_enter Tryz.func77, Tryz.ntmps77
  go_wp2_with (first | (go_at_call 83; (with_reducible refine (split_yes _ _ (by omega) (by omega) _).mono ?_); rintro e w' ⟨cY, cM, cD, ch, cm, cs, rfl, hv, hq, hb⟩; have hvv := hv; unfold vClk at hvv; have hmd := mdays_bd cY cM; have hQ := hide hq; clear hq; have hz := hb.size; (try simp only [SZ, Nat.reduceAdd] at hz); (first | obtain ⟨HL, hk⟩ := HL.callA hb hz | obtain ⟨HL, hk⟩ := HL.call0A hb hz); (try simp only [addN, Nat.add_zero] at HL hk); have hl := HL; simp only [Live] at hl; (try simp only [Kept] at hk)) | (go_at_call 84; (with_reducible refine (isQuarter_any _ _).mono ?_); rintro e w' ⟨rfl, rfl⟩))
  go_ret2
  exact ⟨cY, cM, cD, ch, cm, cs, rfl, hv, hQ.out, by (exact bl)⟩
set_option maxHeartbeats 400000 in
theorem signed_any (n : Int) (h : -256 ≤ n ∧ n ≤ 1000) (w : World) : Calls Tryz.prog 97 #[.int .i64 n] w fun e w' => e = .returned (.int .u8 (n % 256)) ∧ w = w' := by
  have HL : Live w [] := trivial
  go_enter Tryz.func97, Tryz.ntmps97
  go_wp2
  go_ret
  exact ⟨ret_i (by omega), rfl⟩
set_option maxHeartbeats 400000 in
theorem rrecord_no (t z : Int) (hb : (timeB t && quarterB z) = false) (w : World) :
    Calls Tryz.prog 90 #[.int .i64 t, .int .i64 z] w fun e w' => e = .returned (.tuple #[.string ⟨#[]⟩, .int .i64 2]) ∧ Below w.heap.size w w' := by
  have H := hide hb
  clear hb
  cases h1 : timeB t
  · have HL : Live w [] := trivial
    go_enter Tryz.func90, Tryz.ntmps90
    go_wp2_with (first | (go_at_call 93; (with_reducible refine (rTime_any _ _).mono ?_); rintro e w' ⟨rfl, rfl⟩) | (go_at_call 94; (with_reducible refine (rQuarter_any _ _).mono ?_); rintro e w' ⟨rfl, rfl⟩))
    go_ret2
    exact ⟨rfl, by (exact bl)⟩
  · have h2 : quarterB z = false := by have := H.out; simpa [h1] using this
    have HL : Live w [] := trivial
    go_enter Tryz.func90, Tryz.ntmps90
    go_wp2_with (first | (go_at_call 93; (with_reducible refine (rTime_any _ _).mono ?_); rintro e w' ⟨rfl, rfl⟩) | (go_at_call 94; (with_reducible refine (rQuarter_any _ _).mono ?_); rintro e w' ⟨rfl, rfl⟩))
    go_ret2
    exact ⟨rfl, by (exact bl)⟩
set_option maxHeartbeats 1000000 in
theorem rrecord_yes (t q : Int) (ht : 315532800 ≤ t ∧ t ≤ 4102444799) (hq : -48 ≤ q ∧ q ≤ 52) (w : World) :
    Calls Tryz.prog 90 #[.int .i64 t, .int .i64 (15 * q)] w (RecP (t + 60 * (15 * q)) q w) := by
  have qb : quarterB (15 * q) = true := by rw [quarterB_mul]; exact decide_eq_true hq
  have tb : timeB t = true := timeB_true.2 ht
  have td := tdiv15 q
  have cv := fun (W : World) (x0 x1 x2 x3 x4 x5 x6 : Int) => conv_drew (P := Tryz.prog) 48 9 5 Tryz.underlying48 Tryz.underlying5 Tryz.underlying9 W 5 [x0, x1, x2, x3, x4, x5, x6] #[.int .u8 x0, .int .u8 x1, .int .u8 x2, .int .u8 x3, .int .u8 x4, .int .u8 x5, .int .u8 x6] rfl 7 7 rfl
  have HL : Live w [] := trivial
  go_enter Tryz.func90, Tryz.ntmps90
  go_wp2_with (first | (go_at_call 93; (with_reducible refine (rTime_any _ _).mono ?_); rintro e w' ⟨rfl, rfl⟩) | (go_at_call 94; (with_reducible refine (rQuarter_any _ _).mono ?_); rintro e w' ⟨rfl, rfl⟩))
  (first | ((with_reducible refine (rsplit_yes _ _ (by omega) (by omega) _).mono ?_); rintro e w1 ⟨cY, cM, cD, ch, cm, cs, rfl, hv, hq, hb⟩; have hvv := hv; unfold vClk at hvv; have hmd := mdays_bd cY cM; have hQ := hide hq; clear hq; have hz := hb.size; (try simp only [SZ, Nat.reduceAdd] at hz); (first | obtain ⟨HL, hk⟩ := HL.callA hb hz | obtain ⟨HL, hk⟩ := HL.call0A hb hz); (try simp only [addN, Nat.add_zero] at HL hk); have hl := HL; simp only [Live] at hl; (try simp only [Kept] at hk)))
  go_wp2_with fail
  have u0 : IntKind.u8.wrap (cY - 1900) = (cY - 1900) := IntWalk.u8_in _ (by omega)
  have u1 : IntKind.u8.wrap cM = cM := IntWalk.u8_in _ (by omega)
  have u2 : IntKind.u8.wrap cD = cD := IntWalk.u8_in _ (by omega)
  have u3 : IntKind.u8.wrap ch = ch := IntWalk.u8_in _ (by omega)
  have u4 : IntKind.u8.wrap cm = cm := IntWalk.u8_in _ (by omega)
  have u5 : IntKind.u8.wrap cs = cs := IntWalk.u8_in _ (by omega)
  have wq : IntKind.i64.wrap q = q := IntWalk.i64_in q (by omega)
  have wY : IntKind.i64.wrap (cY - 1900) = cY - 1900 := IntWalk.i64_in _ (by omega)
  refine wp_region_noPanic ?_
  refine wp_region_held_drew (S := (fun x => x.cell? ⟨w1.heap.size, 0, none⟩ = some (.int .i64 cY) ∧ x.cell? ⟨w1.heap.size, 1, none⟩ = some (.int .i64 cM) ∧ x.cell? ⟨w1.heap.size, 2, none⟩ = some (.int .i64 cD) ∧ x.cell? ⟨w1.heap.size, 3, none⟩ = some (.int .i64 ch) ∧ x.cell? ⟨w1.heap.size, 4, none⟩ = some (.int .i64 cm) ∧ x.cell? ⟨w1.heap.size, 5, none⟩ = some (.int .i64 cs))) (by kernel_rfl) kp (fun hHeld => ?_)
  refine tkY 0 ⟨some 22, .fieldAddr 110 (.tmp 6) 0, 0, "ref.go:107", #[], none⟩ ?_ ?_ ?_
  rotate_left
  · intro w hSw; (try dsimp only at hSw); go_simp; (try with_reducible rfl)
  try simp only [PT]
  refine tkY 1 ⟨some 23, .load 3 (.tmp 22), 3, "ref.go:107", #[⟨0, .data⟩], none⟩ ?_ ?_ ?_
  rotate_left
  · intro w hSw; (try dsimp only at hSw); go_simp; (try with_reducible rfl)
  try simp only [PT]
  refine tkY 2 ⟨some 24, .binOp .sub 3 (.tmp 23) (.const (.int .i64 1900)) 3, 3, "ref.go:107", #[⟨1, .data⟩], none⟩ ?_ ?_ ?_
  rotate_left
  · intro w hSw; (try dsimp only at hSw); go_simp; (try with_reducible rfl)
  try simp only [PT]
  refine tkY 3 ⟨some 25, .convert 3 5 (.tmp 24), 5, "ref.go:107", #[⟨2, .data⟩], none⟩ ?_ ?_ ?_
  rotate_left
  · intro w hSw; (try dsimp only at hSw); go_simp; (try with_reducible rfl)
  try simp only [PT]
  refine tkY 4 ⟨some 26, .fieldAddr 110 (.tmp 6) 1, 0, "ref.go:107", #[], none⟩ ?_ ?_ ?_
  rotate_left
  · intro w hSw; (try dsimp only at hSw); go_simp; (try with_reducible rfl)
  try simp only [PT]
  refine tkY 5 ⟨some 27, .load 3 (.tmp 26), 3, "ref.go:107", #[⟨4, .data⟩], none⟩ ?_ ?_ ?_
  rotate_left
  · intro w hSw; (try dsimp only at hSw); go_simp; (try with_reducible rfl)
  try simp only [PT]
  refine tkY 6 ⟨some 28, .convert 3 5 (.tmp 27), 5, "ref.go:107", #[⟨5, .data⟩], none⟩ ?_ ?_ ?_
  rotate_left
  · intro w hSw; (try dsimp only at hSw); go_simp; (try with_reducible rfl)
  try simp only [PT]
  refine tkY 7 ⟨some 29, .fieldAddr 110 (.tmp 6) 2, 0, "ref.go:107", #[], none⟩ ?_ ?_ ?_
  rotate_left
  · intro w hSw; (try dsimp only at hSw); go_simp; (try with_reducible rfl)
  try simp only [PT]
  refine tkY 8 ⟨some 30, .load 3 (.tmp 29), 3, "ref.go:107", #[⟨7, .data⟩], none⟩ ?_ ?_ ?_
  rotate_left
  · intro w hSw; (try dsimp only at hSw); go_simp; (try with_reducible rfl)
  try simp only [PT]
  refine tkY 9 ⟨some 31, .convert 3 5 (.tmp 30), 5, "ref.go:107", #[⟨8, .data⟩], none⟩ ?_ ?_ ?_
  rotate_left
  · intro w hSw; (try dsimp only at hSw); go_simp; (try with_reducible rfl)
  try simp only [PT]
  refine tkY 10 ⟨some 32, .fieldAddr 110 (.tmp 6) 3, 0, "ref.go:107", #[], none⟩ ?_ ?_ ?_
  rotate_left
  · intro w hSw; (try dsimp only at hSw); go_simp; (try with_reducible rfl)
  try simp only [PT]
  refine tkY 11 ⟨some 33, .load 3 (.tmp 32), 3, "ref.go:107", #[⟨10, .data⟩], none⟩ ?_ ?_ ?_
  rotate_left
  · intro w hSw; (try dsimp only at hSw); go_simp; (try with_reducible rfl)
  try simp only [PT]
  refine tkY 12 ⟨some 34, .convert 3 5 (.tmp 33), 5, "ref.go:107", #[⟨11, .data⟩], none⟩ ?_ ?_ ?_
  rotate_left
  · intro w hSw; (try dsimp only at hSw); go_simp; (try with_reducible rfl)
  try simp only [PT]
  refine tkY 13 ⟨some 35, .fieldAddr 110 (.tmp 6) 4, 0, "ref.go:107", #[], none⟩ ?_ ?_ ?_
  rotate_left
  · intro w hSw; (try dsimp only at hSw); go_simp; (try with_reducible rfl)
  try simp only [PT]
  refine tkY 14 ⟨some 36, .load 3 (.tmp 35), 3, "ref.go:107", #[⟨13, .data⟩], none⟩ ?_ ?_ ?_
  rotate_left
  · intro w hSw; (try dsimp only at hSw); go_simp; (try with_reducible rfl)
  try simp only [PT]
  refine tkY 15 ⟨some 37, .convert 3 5 (.tmp 36), 5, "ref.go:107", #[⟨14, .data⟩], none⟩ ?_ ?_ ?_
  rotate_left
  · intro w hSw; (try dsimp only at hSw); go_simp; (try with_reducible rfl)
  try simp only [PT]
  refine tkY 16 ⟨some 38, .fieldAddr 110 (.tmp 6) 5, 0, "ref.go:107", #[], none⟩ ?_ ?_ ?_
  rotate_left
  · intro w hSw; (try dsimp only at hSw); go_simp; (try with_reducible rfl)
  try simp only [PT]
  refine tkY 17 ⟨some 39, .load 3 (.tmp 38), 3, "ref.go:107", #[⟨16, .data⟩], none⟩ ?_ ?_ ?_
  rotate_left
  · intro w hSw; (try dsimp only at hSw); go_simp; (try with_reducible rfl)
  try simp only [PT]
  refine tkY 18 ⟨some 40, .convert 3 5 (.tmp 39), 5, "ref.go:107", #[⟨17, .data⟩], none⟩ ?_ ?_ ?_
  rotate_left
  · intro w hSw; (try dsimp only at hSw); go_simp; (try with_reducible rfl)
  try simp only [PT]
  refine tkY 19 ⟨some 41, .move (.tmp 1), 3, "ref.go:107", #[], none⟩ ?_ ?_ ?_
  rotate_left
  · intro w hSw; (try dsimp only at hSw); go_simp; (try with_reducible rfl)
  try simp only [PT]
  refine tkY 20 ⟨some 42, .binOp .quo 3 (.tmp 41) (.const (.int .i64 15)) 3, 3, "ref.go:107", #[⟨19, .data⟩], none⟩ ?_ ?_ ?_
  rotate_left
  · intro w hSw; (try dsimp only at hSw); go_simp; (try with_reducible rfl)
  try simp only [PT]
  refine wpAnyH_ready (rs := [21]) (by kernel_rfl) (by simp) ?_
  refine AllReadyH.cons (o := ⟨some 43, .call ⟨.value (.func 97), #[.tmp 42], #[3]⟩, 5, "ref.go:107", #[⟨20, .data⟩], none⟩) rfl (fun K hK => ?_) AllReadyH.nil
  go_simp
  (go_at_call 97; (with_reducible refine (signed_any _ (by omega) _).mono ?_); rintro e w' ⟨rfl, rfl⟩)
  go_wp2_with fail
  refine hK.out _ _ kp (fun hHeld => ?_)
  clear hK K
  try simp only [PT]
  refine wpAnyH_ready (rs := [22]) (by kernel_rfl) (by simp) ?_
  refine AllReadyH.cons (o := ⟨some 44, .buildSlice 48 7 #[(0, .tmp 25), (1, .tmp 28), (2, .tmp 31), (3, .tmp 34), (4, .tmp 37), (5, .tmp 40), (6, .tmp 43)], 48, "ref.go:107", #[⟨3, .data⟩, ⟨6, .data⟩, ⟨9, .data⟩, ⟨12, .data⟩, ⟨15, .data⟩, ⟨18, .data⟩, ⟨21, .data⟩], none⟩) rfl (fun K hK => ?_) AllReadyH.nil
  go_simp
  refine hK.out _ _ kp (fun hHeld => ?_)
  clear hK K
  try simp only [PT]
  refine wpAnyH_ready (rs := [23]) (by kernel_rfl) (by simp) ?_
  refine AllReadyH.cons (o := ⟨some 45, .convert 48 9 (.tmp 44), 9, "ref.go:107", #[⟨22, .data⟩], none⟩) rfl (fun K hK => ?_) AllReadyH.nil
  go_simp
  refine hK.out _ _ kp (fun hHeld => ?_)
  clear hK K
  try simp only [PT]
  refine tkY 24 ⟨some 4, .assign (.tmp 45), 9, "ref.go:107", #[⟨23, .data⟩, ⟨21, .chain⟩, ⟨0, .phase⟩, ⟨1, .phase⟩, ⟨2, .phase⟩, ⟨3, .phase⟩, ⟨4, .phase⟩, ⟨5, .phase⟩, ⟨6, .phase⟩, ⟨7, .phase⟩, ⟨8, .phase⟩, ⟨9, .phase⟩, ⟨10, .phase⟩, ⟨11, .phase⟩, ⟨12, .phase⟩, ⟨13, .phase⟩, ⟨14, .phase⟩, ⟨15, .phase⟩, ⟨16, .phase⟩, ⟨17, .phase⟩, ⟨18, .phase⟩, ⟨19, .phase⟩, ⟨20, .phase⟩, ⟨21, .phase⟩, ⟨22, .phase⟩, ⟨23, .phase⟩], none⟩ ?_ ?_ ?_
  rotate_left
  · intro w hSw; (try dsimp only at hSw); go_simp; (try with_reducible rfl)
  try simp only [PT]
  refine tkY 25 ⟨some 5, .assign (.const (.int .i64 0)), 30, "ref.go:107", #[⟨24, .chain⟩, ⟨0, .phase⟩, ⟨1, .phase⟩, ⟨2, .phase⟩, ⟨3, .phase⟩, ⟨4, .phase⟩, ⟨5, .phase⟩, ⟨6, .phase⟩, ⟨7, .phase⟩, ⟨8, .phase⟩, ⟨9, .phase⟩, ⟨10, .phase⟩, ⟨11, .phase⟩, ⟨12, .phase⟩, ⟨13, .phase⟩, ⟨14, .phase⟩, ⟨15, .phase⟩, ⟨16, .phase⟩, ⟨17, .phase⟩, ⟨18, .phase⟩, ⟨19, .phase⟩, ⟨20, .phase⟩, ⟨21, .phase⟩, ⟨22, .phase⟩, ⟨23, .phase⟩, ⟨24, .phase⟩], none⟩ ?_ ?_ ?_
  rotate_left
  · intro w hSw; (try dsimp only at hSw); go_simp; (try with_reducible rfl)
  try simp only [PT]
  refine wpAnyH_done (by kernel_rfl) ?_ _
  refine NoPanic.normal ?_
  all_goals (go_wp2; go_ret2; exact ⟨cY, cM, cD, ch, cm, cs, rfl, hv, hQ.out, by (exact bl)⟩)
theorem ret2_vb {v : Value} {a b : Bool} (h : a = b) : Ending.returned (.tuple #[v, .bool a]) = .returned (.tuple #[v, .bool b]) := by rw [h]
def sg (v : Int) : Int := if v < 128 then v else v - 256
def qB (n : Int) : Bool := decide (-48 ≤ n ∧ n ≤ 52)
theorem sg_bd {v : Int} (h : 0 ≤ v ∧ v ≤ 255) : -128 ≤ sg v ∧ sg v ≤ 127 := by unfold sg; split <;> omega
set_option maxHeartbeats 400000 in
theorem quarter_any (v : Int) (h : 0 ≤ v ∧ v ≤ 255) (w : World) : Calls Tryz.prog 117 #[.int .u8 v] w fun e w' => e = .returned (.tuple #[.int .i64 (15 * sg v), .bool (qB (sg v))]) ∧ w = w' := by
  have hs := sg_bd h
  have e8 : IntKind.i8.wrap v = sg v := by unfold sg IntKind.wrap; simp [IntKind.bits, IntKind.signed]; omega
  by_cases h1 : -48 ≤ sg v
  all_goals
    have HL : Live w [] := trivial
    go_enter Tryz.func117, Tryz.ntmps117
    go_wp2
    go_ret2
    exact ⟨ret2_vb (by unfold qB; rw [Bool.eq_iff_iff]; first | (simp; done) | (simp; omega)), rfl⟩
set_option maxHeartbeats 400000 in
theorem rzone_any (v : Int) (h : 0 ≤ v ∧ v ≤ 255) (w : World) : Calls Tryz.prog 125 #[.int .u8 v] w fun e w' => e = .returned (.tuple #[.int .i64 (15 * sg v), .bool (qB (sg v))]) ∧ w = w' := by
  have hs := sg_bd h
  by_cases h0 : v < 128
  · have es : sg v = v := by unfold sg; rw [if_pos h0]
    rw [es]
    have HL : Live w [] := trivial
    go_enter Tryz.func125, Tryz.ntmps125
    go_wp2
    go_ret2
    exact ⟨ret2_vb (by unfold qB; rw [Bool.eq_iff_iff]; first | (simp; done) | (simp; omega)), rfl⟩
  · have es : sg v = v - 256 := by unfold sg; rw [if_neg h0]
    rw [es]
    by_cases h1 : -48 ≤ v - 256
    all_goals
      have HL : Live w [] := trivial
      go_enter Tryz.func125, Tryz.ntmps125
      go_wp2
      go_ret2
      exact ⟨ret2_vb (by unfold qB; rw [Bool.eq_iff_iff]; first | (simp; done) | (simp; omega)), rfl⟩
set_option maxHeartbeats 400000 in
theorem read_bad (Y M D h m s z : Int) (r : Bool) (hb : (r && vClkB Y M D h m s) = false) (w : World) :
    Calls Tryz.prog 118 #[.agg #[.int .i64 Y, .int .i64 M, .int .i64 D, .int .i64 h, .int .i64 m, .int .i64 s], .int .i64 z, .bool r] w fun e w' => e = .returned (.tuple #[.int .i64 0, .int .i64 0, .int .i64 10]) ∧ Below w.heap.size w w' := by
  have H := hide hb
  clear hb
  cases r
  · have HL : Live w [] := trivial
    go_enter Tryz.func118, Tryz.ntmps118
    go_wp2_with (first | (go_at_call 164; (with_reducible refine (valid_any _ _ _ _ _ _ _).mono ?_); rintro e w' ⟨rfl, hb⟩; have hz := hb.size; (try simp only [SZ, Nat.reduceAdd] at hz); (first | obtain ⟨HL, hk⟩ := HL.callA hb hz | obtain ⟨HL, hk⟩ := HL.call0A hb hz); (try simp only [addN, Nat.add_zero] at HL hk); have hl := HL; simp only [Live] at hl; (try simp only [Kept] at hk)))
    go_ret3
    exact ⟨rfl, by (exact bl)⟩
  · have h2 : vClkB Y M D h m s = false := by have := H.out; simpa using this
    have HL : Live w [] := trivial
    go_enter Tryz.func118, Tryz.ntmps118
    go_wp2_with (first | (go_at_call 164; (with_reducible refine (valid_any _ _ _ _ _ _ _).mono ?_); rintro e w' ⟨rfl, hb⟩; have hz := hb.size; (try simp only [SZ, Nat.reduceAdd] at hz); (first | obtain ⟨HL, hk⟩ := HL.callA hb hz | obtain ⟨HL, hk⟩ := HL.call0A hb hz); (try simp only [addN, Nat.add_zero] at HL hk); have hl := HL; simp only [Live] at hl; (try simp only [Kept] at hk)))
    go_ret3
    exact ⟨rfl, by (exact bl)⟩
set_option maxHeartbeats 400000 in
theorem read_range (Y M D h m s z : Int) (hv : vClk Y M D h m s) (hb : (zoneB z && timeB (secs Y M D h m s - 60 * z)) = false) (w : World) :
    Calls Tryz.prog 118 #[.agg #[.int .i64 Y, .int .i64 M, .int .i64 D, .int .i64 h, .int .i64 m, .int .i64 s], .int .i64 z, .bool true] w fun e w' => e = .returned (.tuple #[.int .i64 0, .int .i64 0, .int .i64 2]) ∧ Below w.heap.size w w' := by
  have H := hide hb
  clear hb
  have hv' := vClkB_true.2 hv
  cases hz : zoneB z
  · have HL : Live w [] := trivial
    go_enter Tryz.func118, Tryz.ntmps118
    go_wp2_with (first | (go_at_call 164; (with_reducible refine (valid_any _ _ _ _ _ _ _).mono ?_); rintro e w' ⟨rfl, hb⟩; have hz := hb.size; (try simp only [SZ, Nat.reduceAdd] at hz); (first | obtain ⟨HL, hk⟩ := HL.callA hb hz | obtain ⟨HL, hk⟩ := HL.call0A hb hz); (try simp only [addN, Nat.add_zero] at HL hk); have hl := HL; simp only [Live] at hl; (try simp only [Kept] at hk)) | (go_at_call 165; (with_reducible refine (join_zone _ _ _ _ _ _ _ (by assumption) (by assumption) _).mono ?_); rintro e w' ⟨rfl, hb⟩; have hz := hb.size; (try simp only [SZ, Nat.reduceAdd] at hz); (first | obtain ⟨HL, hk⟩ := HL.callA hb hz | obtain ⟨HL, hk⟩ := HL.call0A hb hz); (try simp only [addN, Nat.add_zero] at HL hk); have hl := HL; simp only [Live] at hl; (try simp only [Kept] at hk)))
    go_ret3
    exact ⟨rfl, by (exact bl)⟩
  · have h2 : timeB (secs Y M D h m s - 60 * z) = false := by have := H.out; simpa [hz] using this
    have HL : Live w [] := trivial
    go_enter Tryz.func118, Tryz.ntmps118
    go_wp2_with (first | (go_at_call 164; (with_reducible refine (valid_any _ _ _ _ _ _ _).mono ?_); rintro e w' ⟨rfl, hb⟩; have hz := hb.size; (try simp only [SZ, Nat.reduceAdd] at hz); (first | obtain ⟨HL, hk⟩ := HL.callA hb hz | obtain ⟨HL, hk⟩ := HL.call0A hb hz); (try simp only [addN, Nat.add_zero] at HL hk); have hl := HL; simp only [Live] at hl; (try simp only [Kept] at hk)) | (go_at_call 165; (with_reducible refine (join_time _ _ _ _ _ _ _ (by assumption) (by assumption) (by assumption) _).mono ?_); rintro e w' ⟨rfl, hb⟩; have hz := hb.size; (try simp only [SZ, Nat.reduceAdd] at hz); (first | obtain ⟨HL, hk⟩ := HL.callA hb hz | obtain ⟨HL, hk⟩ := HL.call0A hb hz); (try simp only [addN, Nat.add_zero] at HL hk); have hl := HL; simp only [Live] at hl; (try simp only [Kept] at hk)))
    go_ret3
    exact ⟨rfl, by (exact bl)⟩
set_option maxHeartbeats 400000 in
theorem read_yes (Y M D h m s z : Int) (hv : vClk Y M D h m s) (hz : zoneB z = true) (ht : timeB (secs Y M D h m s - 60 * z) = true) (w : World) :
    Calls Tryz.prog 118 #[.agg #[.int .i64 Y, .int .i64 M, .int .i64 D, .int .i64 h, .int .i64 m, .int .i64 s], .int .i64 z, .bool true] w fun e w' => e = .returned (.tuple #[.int .i64 (secs Y M D h m s - 60 * z), .int .i64 z, .int .i64 0]) ∧ Below w.heap.size w w' := by
  have hv' := vClkB_true.2 hv
  have HL : Live w [] := trivial
  go_enter Tryz.func118, Tryz.ntmps118
  go_wp2_with (first | (go_at_call 164; (with_reducible refine (valid_any _ _ _ _ _ _ _).mono ?_); rintro e w' ⟨rfl, hb⟩; have hz := hb.size; (try simp only [SZ, Nat.reduceAdd] at hz); (first | obtain ⟨HL, hk⟩ := HL.callA hb hz | obtain ⟨HL, hk⟩ := HL.call0A hb hz); (try simp only [addN, Nat.add_zero] at HL hk); have hl := HL; simp only [Live] at hl; (try simp only [Kept] at hk)) | (go_at_call 165; (with_reducible refine (join_yes _ _ _ _ _ _ _ (by assumption) (by assumption) (by assumption) _).mono ?_); rintro e w' ⟨rfl, hb⟩; have hz := hb.size; (try simp only [SZ, Nat.reduceAdd] at hz); (first | obtain ⟨HL, hk⟩ := HL.callA hb hz | obtain ⟨HL, hk⟩ := HL.call0A hb hz); (try simp only [addN, Nat.add_zero] at HL hk); have hl := HL; simp only [Live] at hl; (try simp only [Kept] at hk)))
  go_ret3
  exact ⟨rfl, by (exact bl)⟩
set_option maxHeartbeats 400000 in
theorem finish_range (Y M D h m s z : Int) (hv : vClk Y M D h m s) (hz : -3000 ≤ z ∧ z ≤ 3000) (ht : timeB (secs Y M D h m s - 60 * z) = false) (w : World) :
    Calls Tryz.prog 127 #[.agg #[.int .i64 Y, .int .i64 M, .int .i64 D, .int .i64 h, .int .i64 m, .int .i64 s], .int .i64 z] w fun e w' => e = .returned (.tuple #[.int .i64 0, .int .i64 0, .int .i64 2]) ∧ Below w.heap.size w w' := by
  have hq := secs_bd hv
  have HL : Live w [] := trivial
  go_enter Tryz.func127, Tryz.ntmps127
  go_wp2_with (first | (go_at_call 168; (with_reducible refine (rseconds_any _ _ _ _ _ _ (by assumption) _).mono ?_); rintro e w' ⟨rfl, hb⟩; have hz := hb.size; (try simp only [SZ, Nat.reduceAdd] at hz); (first | obtain ⟨HL, hk⟩ := HL.callA hb hz | obtain ⟨HL, hk⟩ := HL.call0A hb hz); (try simp only [addN, Nat.add_zero] at HL hk); have hl := HL; simp only [Live] at hl; (try simp only [Kept] at hk)) | (go_at_call 93; (with_reducible refine (rTime_any _ _).mono ?_); rintro e w' ⟨rfl, rfl⟩))
  go_ret3
  exact ⟨rfl, by (exact bl)⟩
set_option maxHeartbeats 400000 in
theorem finish_yes (Y M D h m s z : Int) (hv : vClk Y M D h m s) (hz : -3000 ≤ z ∧ z ≤ 3000) (ht : timeB (secs Y M D h m s - 60 * z) = true) (w : World) :
    Calls Tryz.prog 127 #[.agg #[.int .i64 Y, .int .i64 M, .int .i64 D, .int .i64 h, .int .i64 m, .int .i64 s], .int .i64 z] w fun e w' => e = .returned (.tuple #[.int .i64 (secs Y M D h m s - 60 * z), .int .i64 z, .int .i64 0]) ∧ Below w.heap.size w w' := by
  have hq := secs_bd hv
  have HL : Live w [] := trivial
  go_enter Tryz.func127, Tryz.ntmps127
  go_wp2_with (first | (go_at_call 168; (with_reducible refine (rseconds_any _ _ _ _ _ _ (by assumption) _).mono ?_); rintro e w' ⟨rfl, hb⟩; have hz := hb.size; (try simp only [SZ, Nat.reduceAdd] at hz); (first | obtain ⟨HL, hk⟩ := HL.callA hb hz | obtain ⟨HL, hk⟩ := HL.call0A hb hz); (try simp only [addN, Nat.add_zero] at HL hk); have hl := HL; simp only [Live] at hl; (try simp only [Kept] at hk)) | (go_at_call 93; (with_reducible refine (rTime_any _ _).mono ?_); rintro e w' ⟨rfl, rfl⟩))
  go_ret3
  exact ⟨rfl, by (exact bl)⟩
end Go.Proofs.YtjbhokmkmapkoaaGreatDoor.Dt
namespace Go.Proofs.YtjbhokmkmapkoaaGreatDoor.Dt
set_option linter.unusedSimpArgs false
set_option linter.unusedVariables false
theorem ofInt64 (a : Nat) (ha : a < 9223372036854775808) : (BitVec.ofInt 64 (a : Int)).toNat = a := by
  rw [BitVec.ofInt_natCast, BitVec.toNat_ofNat]; exact Nat.mod_eq_of_lt (by omega)
theorem i64_or_nat (a b : Nat) (ha : a < 9223372036854775808) (hb : b < 9223372036854775808) : bits .or .i64 (a : Int) (b : Int) = ((a ||| b : Nat) : Int) := by
  have hx : a ||| b < 2 ^ 63 := Nat.or_lt_two_pow (by omega) (by omega)
  show IntKind.i64.wrap ((BitVec.ofInt 64 (a : Int) ||| BitVec.ofInt 64 (b : Int)).toNat : Int) = _
  rw [BitVec.toNat_or, ofInt64 a ha, ofInt64 b hb]
  exact IntWalk.i64_in _ (by omega)
end Go.Proofs.YtjbhokmkmapkoaaGreatDoor.Dt
namespace Go.Proofs.YtjbhokmkmapkoaaGreatDoor.Dt
set_option linter.unusedSimpArgs false
set_option linter.unusedVariables false
open Go.RowKit
def ro1 (Y M D h m s z : Int) (r : Bool) : Int := if (r && vClkB Y M D h m s && timeB (secs Y M D h m s - 60 * z)) = true then secs Y M D h m s - 60 * z else 0
def ro2 (Y M D h m s z : Int) (r : Bool) : Int := if (r && vClkB Y M D h m s && timeB (secs Y M D h m s - 60 * z)) = true then z else 0
def ro3 (Y M D h m s z : Int) (r : Bool) : Int := if (r && vClkB Y M D h m s) = true then (if timeB (secs Y M D h m s - 60 * z) = true then 0 else 2) else 10
/-- The answer of a reader. -/
def RoP (Y M D h m s z : Int) (r : Bool) (w : World) (e : Ending) (w' : World) : Prop :=
  e = .returned (.tuple #[.int .i64 (ro1 Y M D h m s z r), .int .i64 (ro2 Y M D h m s z r), .int .i64 (ro3 Y M D h m s z r)]) ∧ Below w.heap.size w w'
theorem RoP.bad {Y M D h m s z : Int} {r : Bool} (hb : (r && vClkB Y M D h m s) = false) {w : World} {e : Ending} {w' : World} (he : e = .returned (.tuple #[.int .i64 0, .int .i64 0, .int .i64 10])) (hw : Below w.heap.size w w') : RoP Y M D h m s z r w e w' := by
  refine ⟨?_, hw⟩
  rw [he]; unfold ro1 ro2 ro3; simp [hb]
theorem RoP.range {Y M D h m s z : Int} {r : Bool} (hr : r = true) (hv : vClk Y M D h m s) (ht : timeB (secs Y M D h m s - 60 * z) = false) {w : World} {e : Ending} {w' : World} (he : e = .returned (.tuple #[.int .i64 0, .int .i64 0, .int .i64 2])) (hw : Below w.heap.size w w') : RoP Y M D h m s z r w e w' := by
  refine ⟨?_, hw⟩
  have hv' := vClkB_true.2 hv
  rw [he]; unfold ro1 ro2 ro3; simp [hr, hv', ht]
theorem RoP.yes {Y M D h m s z : Int} {r : Bool} (hr : r = true) (hv : vClk Y M D h m s) (ht : timeB (secs Y M D h m s - 60 * z) = true) {w : World} {e : Ending} {w' : World} (he : e = .returned (.tuple #[.int .i64 (secs Y M D h m s - 60 * z), .int .i64 z, .int .i64 0])) (hw : Below w.heap.size w w') : RoP Y M D h m s z r w e w' := by
  refine ⟨?_, hw⟩
  have hv' := vClkB_true.2 hv
  rw [he]; unfold ro1 ro2 ro3; simp [hr, hv', ht]
theorem read_any (Y M D h m s z : Int) (r : Bool) (hz : r = true → zoneB z = true) (w : World) :
    Calls Tryz.prog 118 #[.agg #[.int .i64 Y, .int .i64 M, .int .i64 D, .int .i64 h, .int .i64 m, .int .i64 s], .int .i64 z, .bool r] w (RoP Y M D h m s z r w) := by
  cases hb : (r && vClkB Y M D h m s)
  · exact (read_bad Y M D h m s z r hb w).mono fun e w' h => RoP.bad hb h.1 h.2
  · simp only [Bool.and_eq_true] at hb
    obtain ⟨rfl, hv⟩ := hb
    have hv := vClkB_true.1 hv
    cases ht : timeB (secs Y M D h m s - 60 * z)
    · exact (read_range Y M D h m s z hv (by rw [ht]; simp) w).mono fun e w' h => RoP.range rfl hv ht h.1 h.2
    · exact (read_yes Y M D h m s z hv (hz rfl) ht w).mono fun e w' h => RoP.yes rfl hv ht h.1 h.2
theorem finish_any (Y M D h m s z : Int) (hv : vClk Y M D h m s) (hz : -3000 ≤ z ∧ z ≤ 3000) (w : World) :
    Calls Tryz.prog 127 #[.agg #[.int .i64 Y, .int .i64 M, .int .i64 D, .int .i64 h, .int .i64 m, .int .i64 s], .int .i64 z] w (RoP Y M D h m s z true w) := by
  cases ht : timeB (secs Y M D h m s - 60 * z)
  · exact (finish_range Y M D h m s z hv hz ht w).mono fun e w' h => RoP.range rfl hv ht h.1 h.2
  · exact (finish_yes Y M D h m s z hv hz ht w).mono fun e w' h => RoP.yes rfl hv ht h.1 h.2
end Go.Proofs.YtjbhokmkmapkoaaGreatDoor.Dt
namespace Go.Proofs.YtjbhokmkmapkoaaGreatDoor.Dt
set_option linter.unusedSimpArgs false
set_option linter.unusedVariables false
open Go.RowKit
open Go.PlainAid (bt get_bt bt_nonneg bt_le)
theorem size_ne {s : ByteArray} {n : Nat} (h : ¬ s.size = n) : ((s.size : Int) == (n : Int)) = false ∧ ((s.size : Int) != (n : Int)) = true := by
  have : ¬ (s.size : Int) = (n : Int) := by omega
  simp [this]
theorem qB_zone {v : Int} (h : qB (sg v) = true) : zoneB (15 * sg v) = true := by
  unfold qB at h
  have h := of_decide_eq_true h
  exact zoneB_true.2 (by omega)
set_option maxHeartbeats 400000 in
theorem readRecord_no (s : ByteArray) (hs : ¬ s.size = 7) (w : World) : Calls Tryz.prog 113 #[.string s] w fun e w' => e = .returned (.tuple #[.int .i64 0, .int .i64 0, .int .i64 1]) ∧ Below w.heap.size w w' := by
  obtain ⟨h1, h2⟩ := size_ne hs
  have HL : Live w [] := trivial
  go_enter Tryz.func113, Tryz.ntmps113
  go_wp2
  go_ret3
  exact ⟨rfl, by (exact bl)⟩
set_option maxHeartbeats 1000000 in
theorem readRecord_yes (s : ByteArray) (hs : s.size = 7) (w : World) : Calls Tryz.prog 113 #[.string s] w (RoP (1900 + bt s 0) (bt s 1) (bt s 2) (bt s 3) (bt s 4) (bt s 5) (15 * sg (bt s 6)) (qB (sg (bt s 6))) w) := by
  have hg := get_bt s
  have b0 := bt_nonneg s 0
  have b0' := bt_le s 0
  have b6 := bt_nonneg s 6
  have b6' := bt_le s 6
  have RD := hide (fun W => read_any (1900 + bt s 0) (bt s 1) (bt s 2) (bt s 3) (bt s 4) (bt s 5) (15 * sg (bt s 6)) (qB (sg (bt s 6))) qB_zone W)
  have HL : Live w [] := trivial
  go_enter Tryz.func113, Tryz.ntmps113
  go_wp2_with (first | (go_at_call 117; (with_reducible refine (quarter_any _ (by omega) _).mono ?_); rintro e w' ⟨rfl, rfl⟩))
  have wb : ∀ j, IntKind.i64.wrap (bt s j) = bt s j := fun j => IntWalk.i64_in _ ⟨by have := bt_nonneg s j; omega, by have := bt_le s j; omega⟩
  have ws : IntKind.i64.wrap (1900 + bt s 0) = 1900 + bt s 0 := IntWalk.i64_in _ (by omega)
  refine wp_region_noPanic ?_
  refine wp_region_held_drew (S := (fun _ => True ∧ True)) (by kernel_rfl) kp (fun hHeld => ?_)
  refine tkY 0 ⟨some 16, .move (.tmp 0), 9, "datetime.go:134", #[], none⟩ ?_ ?_ ?_
  rotate_left
  · intro w hSw; (try dsimp only at hSw); go_simp; (try with_reducible rfl)
  try simp only [PT]
  refine tkY 1 ⟨some 17, .index 9 (.tmp 16) (.const (.int .i64 0)), 5, "datetime.go:134", #[⟨0, .data⟩], none⟩ ?_ ?_ ?_
  rotate_left
  · intro w hSw; (try dsimp only at hSw); go_simp; (try with_reducible rfl)
  try simp only [PT]
  refine tkY 2 ⟨some 18, .convert 5 3 (.tmp 17), 3, "datetime.go:134", #[⟨1, .data⟩], none⟩ ?_ ?_ ?_
  rotate_left
  · intro w hSw; (try dsimp only at hSw); go_simp; (try with_reducible rfl)
  try simp only [PT]
  refine tkY 3 ⟨some 19, .binOp .add 3 (.const (.int .i64 1900)) (.tmp 18) 3, 3, "datetime.go:134", #[⟨2, .data⟩], none⟩ ?_ ?_ ?_
  rotate_left
  · intro w hSw; (try dsimp only at hSw); go_simp; (try with_reducible rfl)
  try simp only [PT]
  refine tkY 4 ⟨some 20, .move (.tmp 0), 9, "datetime.go:134", #[], none⟩ ?_ ?_ ?_
  rotate_left
  · intro w hSw; (try dsimp only at hSw); go_simp; (try with_reducible rfl)
  try simp only [PT]
  refine tkY 5 ⟨some 21, .index 9 (.tmp 20) (.const (.int .i64 1)), 5, "datetime.go:134", #[⟨4, .data⟩], none⟩ ?_ ?_ ?_
  rotate_left
  · intro w hSw; (try dsimp only at hSw); go_simp; (try with_reducible rfl)
  try simp only [PT]
  refine tkY 6 ⟨some 22, .convert 5 3 (.tmp 21), 3, "datetime.go:134", #[⟨5, .data⟩], none⟩ ?_ ?_ ?_
  rotate_left
  · intro w hSw; (try dsimp only at hSw); go_simp; (try with_reducible rfl)
  try simp only [PT]
  refine tkY 7 ⟨some 23, .move (.tmp 0), 9, "datetime.go:134", #[], none⟩ ?_ ?_ ?_
  rotate_left
  · intro w hSw; (try dsimp only at hSw); go_simp; (try with_reducible rfl)
  try simp only [PT]
  refine tkY 8 ⟨some 24, .index 9 (.tmp 23) (.const (.int .i64 2)), 5, "datetime.go:134", #[⟨7, .data⟩], none⟩ ?_ ?_ ?_
  rotate_left
  · intro w hSw; (try dsimp only at hSw); go_simp; (try with_reducible rfl)
  try simp only [PT]
  refine tkY 9 ⟨some 25, .convert 5 3 (.tmp 24), 3, "datetime.go:134", #[⟨8, .data⟩], none⟩ ?_ ?_ ?_
  rotate_left
  · intro w hSw; (try dsimp only at hSw); go_simp; (try with_reducible rfl)
  try simp only [PT]
  refine tkY 10 ⟨some 26, .move (.tmp 0), 9, "datetime.go:134", #[], none⟩ ?_ ?_ ?_
  rotate_left
  · intro w hSw; (try dsimp only at hSw); go_simp; (try with_reducible rfl)
  try simp only [PT]
  refine tkY 11 ⟨some 27, .index 9 (.tmp 26) (.const (.int .i64 3)), 5, "datetime.go:134", #[⟨10, .data⟩], none⟩ ?_ ?_ ?_
  rotate_left
  · intro w hSw; (try dsimp only at hSw); go_simp; (try with_reducible rfl)
  try simp only [PT]
  refine tkY 12 ⟨some 28, .convert 5 3 (.tmp 27), 3, "datetime.go:134", #[⟨11, .data⟩], none⟩ ?_ ?_ ?_
  rotate_left
  · intro w hSw; (try dsimp only at hSw); go_simp; (try with_reducible rfl)
  try simp only [PT]
  refine tkY 13 ⟨some 29, .move (.tmp 0), 9, "datetime.go:134", #[], none⟩ ?_ ?_ ?_
  rotate_left
  · intro w hSw; (try dsimp only at hSw); go_simp; (try with_reducible rfl)
  try simp only [PT]
  refine tkY 14 ⟨some 30, .index 9 (.tmp 29) (.const (.int .i64 4)), 5, "datetime.go:134", #[⟨13, .data⟩], none⟩ ?_ ?_ ?_
  rotate_left
  · intro w hSw; (try dsimp only at hSw); go_simp; (try with_reducible rfl)
  try simp only [PT]
  refine tkY 15 ⟨some 31, .convert 5 3 (.tmp 30), 3, "datetime.go:134", #[⟨14, .data⟩], none⟩ ?_ ?_ ?_
  rotate_left
  · intro w hSw; (try dsimp only at hSw); go_simp; (try with_reducible rfl)
  try simp only [PT]
  refine tkY 16 ⟨some 32, .move (.tmp 0), 9, "datetime.go:134", #[], none⟩ ?_ ?_ ?_
  rotate_left
  · intro w hSw; (try dsimp only at hSw); go_simp; (try with_reducible rfl)
  try simp only [PT]
  refine tkY 17 ⟨some 33, .index 9 (.tmp 32) (.const (.int .i64 5)), 5, "datetime.go:134", #[⟨16, .data⟩], none⟩ ?_ ?_ ?_
  rotate_left
  · intro w hSw; (try dsimp only at hSw); go_simp; (try with_reducible rfl)
  try simp only [PT]
  refine tkY 18 ⟨some 34, .convert 5 3 (.tmp 33), 3, "datetime.go:134", #[⟨17, .data⟩], none⟩ ?_ ?_ ?_
  rotate_left
  · intro w hSw; (try dsimp only at hSw); go_simp; (try with_reducible rfl)
  try simp only [PT]
  refine tkY 19 ⟨some 35, .build 110 #[(0, .tmp 19), (1, .tmp 22), (2, .tmp 25), (3, .tmp 28), (4, .tmp 31), (5, .tmp 34)], 110, "datetime.go:134", #[⟨3, .data⟩, ⟨6, .data⟩, ⟨9, .data⟩, ⟨12, .data⟩, ⟨15, .data⟩, ⟨18, .data⟩], none⟩ ?_ ?_ ?_
  rotate_left
  · intro w hSw; (try dsimp only at hSw); go_simp; (try with_reducible rfl)
  try simp only [PT]
  refine tkY 20 ⟨some 36, .move (.tmp 5), 3, "datetime.go:134", #[], none⟩ ?_ ?_ ?_
  rotate_left
  · intro w hSw; (try dsimp only at hSw); go_simp; (try with_reducible rfl)
  try simp only [PT]
  refine tkY 21 ⟨some 37, .move (.tmp 6), 4, "datetime.go:134", #[], none⟩ ?_ ?_ ?_
  rotate_left
  · intro w hSw; (try dsimp only at hSw); go_simp; (try with_reducible rfl)
  try simp only [PT]
  refine wpAnyH_ready (rs := [22]) (by kernel_rfl) (by simp) ?_
  refine AllReadyH.cons (o := ⟨some 38, .call ⟨.value (.func 118), #[.tmp 35, .tmp 36, .tmp 37], #[110, 3, 4]⟩, 83, "datetime.go:134", #[⟨19, .data⟩, ⟨20, .data⟩, ⟨21, .data⟩], none⟩) rfl (fun K hK => ?_) AllReadyH.nil
  go_simp
  (go_at_call 118; (with_reducible refine (RD.out _).mono ?_); rintro e w' ⟨rfl, hb⟩; have hz := hb.size)
  go_wp2_with fail
  refine hK.out _ _ kp (fun hHeld => ?_)
  clear hK K
  try simp only [PT]
  refine tkY 23 ⟨some 39, .extract (.tmp 38) 0, 3, "datetime.go:134", #[⟨22, .data⟩], none⟩ ?_ ?_ ?_
  rotate_left
  · intro w hSw; (try dsimp only at hSw); go_simp; (try with_reducible rfl)
  try simp only [PT]
  refine tkY 24 ⟨some 40, .extract (.tmp 38) 1, 3, "datetime.go:134", #[⟨22, .data⟩], none⟩ ?_ ?_ ?_
  rotate_left
  · intro w hSw; (try dsimp only at hSw); go_simp; (try with_reducible rfl)
  try simp only [PT]
  refine tkY 25 ⟨some 41, .extract (.tmp 38) 2, 30, "datetime.go:134", #[⟨22, .data⟩], none⟩ ?_ ?_ ?_
  rotate_left
  · intro w hSw; (try dsimp only at hSw); go_simp; (try with_reducible rfl)
  try simp only [PT]
  refine tkY 26 ⟨some 2, .assign (.tmp 39), 3, "datetime.go:134", #[⟨23, .data⟩, ⟨22, .chain⟩, ⟨0, .phase⟩, ⟨1, .phase⟩, ⟨2, .phase⟩, ⟨3, .phase⟩, ⟨4, .phase⟩, ⟨5, .phase⟩, ⟨6, .phase⟩, ⟨7, .phase⟩, ⟨8, .phase⟩, ⟨9, .phase⟩, ⟨10, .phase⟩, ⟨11, .phase⟩, ⟨12, .phase⟩, ⟨13, .phase⟩, ⟨14, .phase⟩, ⟨15, .phase⟩, ⟨16, .phase⟩, ⟨17, .phase⟩, ⟨18, .phase⟩, ⟨19, .phase⟩, ⟨20, .phase⟩, ⟨21, .phase⟩, ⟨22, .phase⟩, ⟨23, .phase⟩, ⟨24, .phase⟩, ⟨25, .phase⟩], none⟩ ?_ ?_ ?_
  rotate_left
  · intro w hSw; (try dsimp only at hSw); go_simp; (try with_reducible rfl)
  try simp only [PT]
  refine tkY 27 ⟨some 3, .assign (.tmp 40), 3, "datetime.go:134", #[⟨24, .data⟩, ⟨26, .chain⟩, ⟨0, .phase⟩, ⟨1, .phase⟩, ⟨2, .phase⟩, ⟨3, .phase⟩, ⟨4, .phase⟩, ⟨5, .phase⟩, ⟨6, .phase⟩, ⟨7, .phase⟩, ⟨8, .phase⟩, ⟨9, .phase⟩, ⟨10, .phase⟩, ⟨11, .phase⟩, ⟨12, .phase⟩, ⟨13, .phase⟩, ⟨14, .phase⟩, ⟨15, .phase⟩, ⟨16, .phase⟩, ⟨17, .phase⟩, ⟨18, .phase⟩, ⟨19, .phase⟩, ⟨20, .phase⟩, ⟨21, .phase⟩, ⟨22, .phase⟩, ⟨23, .phase⟩, ⟨24, .phase⟩, ⟨25, .phase⟩, ⟨26, .phase⟩], none⟩ ?_ ?_ ?_
  rotate_left
  · intro w hSw; (try dsimp only at hSw); go_simp; (try with_reducible rfl)
  try simp only [PT]
  refine tkY 28 ⟨some 4, .assign (.tmp 41), 30, "datetime.go:134", #[⟨25, .data⟩, ⟨27, .chain⟩, ⟨0, .phase⟩, ⟨1, .phase⟩, ⟨2, .phase⟩, ⟨3, .phase⟩, ⟨4, .phase⟩, ⟨5, .phase⟩, ⟨6, .phase⟩, ⟨7, .phase⟩, ⟨8, .phase⟩, ⟨9, .phase⟩, ⟨10, .phase⟩, ⟨11, .phase⟩, ⟨12, .phase⟩, ⟨13, .phase⟩, ⟨14, .phase⟩, ⟨15, .phase⟩, ⟨16, .phase⟩, ⟨17, .phase⟩, ⟨18, .phase⟩, ⟨19, .phase⟩, ⟨20, .phase⟩, ⟨21, .phase⟩, ⟨22, .phase⟩, ⟨23, .phase⟩, ⟨24, .phase⟩, ⟨25, .phase⟩, ⟨26, .phase⟩, ⟨27, .phase⟩], none⟩ ?_ ?_ ?_
  rotate_left
  · intro w hSw; (try dsimp only at hSw); go_simp; (try with_reducible rfl)
  try simp only [PT]
  refine wpAnyH_done (by kernel_rfl) ?_ _
  refine NoPanic.normal ?_
  clear wb ws
  all_goals (go_wp2; go_ret3; exact ⟨rfl, by (exact bl)⟩)
end Go.Proofs.YtjbhokmkmapkoaaGreatDoor.Dt
