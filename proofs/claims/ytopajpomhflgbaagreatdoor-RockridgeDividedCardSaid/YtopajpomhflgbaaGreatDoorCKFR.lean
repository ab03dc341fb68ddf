/- Contracts of the record form of package datetime and its reference. -/
import Derived.Test.YtopajpomhflgbaaGreatDoorCKDE
import Derived.Test.YtopajpomhflgbaaGreatDoorCKPQ
import Derived.PlainAid
namespace Go.Proofs.YtopajpomhflgbaaGreatDoor.Dt
set_option linter.unusedSimpArgs false
set_option linter.unusedVariables false
open Go.RowKit

theorem conv_at {P : Program} (src dst e : TypeId) (hs : P.underlying src = some (.slice e)) (he : P.underlying e = some (.int .u8)) (hd : P.underlying dst = some .string)
    (W : World) (t : TypeId) (ns : List Int) (C : Array Value) (hC : C = (ns.map (Value.int .u8)).toArray) (n cap : Nat) (hn : n = ns.length) (b : Nat) (hb : b = W.heap.size) :
    (convert src dst (.slice (some ⟨b, 0, none⟩) n cap)).run P (W.alloc (.cells C t)) = .ok (.string ⟨(ns.map fun n => UInt8.ofNat n.toNat).toArray⟩) (W.alloc (.cells C t)) := by
  subst hb
  exact conv_lit src dst e hs he hd W t ns C hC n cap hn

theorem conv_drew {P : Program} (src dst e : TypeId) (hs : P.underlying src = some (.slice e)) (he : P.underlying e = some (.int .u8)) (hd : P.underlying dst = some .string)
    (W : World) (t : TypeId) (ns : List Int) (C : Array Value) (hC : C = (ns.map (Value.int .u8)).toArray) (n cap : Nat) (hn : n = ns.length) (b : Nat) (hb : b = W.heap.size) :
    (convert src dst (.slice (some ⟨b, 0, none⟩) n cap)).run P (W.alloc (.cells C t)).drew = .ok (.string ⟨(ns.map fun n => UInt8.ofNat n.toNat).toArray⟩) (W.alloc (.cells C t)).drew :=
  conv_at src dst e hs he hd W.drew t ns C hC n cap hn b hb

theorem tdiv15 (q : Int) : (15 * q).tdiv 15 = q := by rw [Int.mul_comm]; exact Int.mul_tdiv_cancel _ (by decide)
theorem tmod15 (q : Int) : (15 * q).tmod 15 = 0 := by rw [Int.mul_comm]; exact Int.mul_tmod_left _ _
theorem quarterB_mul (q : Int) : quarterB (15 * q) = decide (-48 ≤ q ∧ q ≤ 52) := by
  unfold quarterB; rw [tmod15]; apply dec_eq; omega
theorem quarterB_ex {z : Int} (h : quarterB z = true) : ∃ q : Int, z = 15 * q ∧ -48 ≤ q ∧ q ≤ 52 := by
  unfold quarterB at h
  have h := of_decide_eq_true h
  refine ⟨z.tdiv 15, ?_, ?_, ?_⟩
  · have := Int.mul_tdiv_add_tmod z 15; omega
  · have := Int.mul_tdiv_add_tmod z 15; omega
  · have := Int.mul_tdiv_add_tmod z 15; omega

set_option maxHeartbeats 400000 in
theorem isQuarter_any (z : Int) (w : World) : Calls Tryz.prog 65 #[.int .i64 z] w fun e w' => e = .returned (.bool (quarterB z)) ∧ w = w' := by
  have HL : Live w [] := trivial
  go_enter Tryz.func65, Tryz.ntmps65
  go_wp2
  all_goals
    go_ret
    exact ⟨ret_b (by rw [Bool.eq_iff_iff]; simp [quarterB] <;> omega), rfl⟩
set_option maxHeartbeats 400000 in
theorem rQuarter_any (z : Int) (w : World) : Calls Tryz.prog 69 #[.int .i64 z] w fun e w' => e = .returned (.bool (quarterB z)) ∧ w = w' := by
  have HL : Live w [] := trivial
  go_enter Tryz.func69, Tryz.ntmps69
  go_wp2
  all_goals
    go_ret
    exact ⟨ret_b (by rw [Bool.eq_iff_iff]; simp [quarterB] <;> omega), rfl⟩

def zby (q : Int) : UInt8 := UInt8.ofNat (q % 256).toNat
def recS (Y M D h m s q : Int) : ByteArray := ⟨#[UInt8.ofNat (Y - 1900).toNat, UInt8.ofNat M.toNat, UInt8.ofNat D.toNat, UInt8.ofNat h.toNat, UInt8.ofNat m.toNat, UInt8.ofNat s.toNat, zby q]⟩
def RecP (L q : Int) (w : World) (e : Ending) (w' : World) : Prop :=
  ∃ Y M D h m s : Int, e = .returned (.tuple #[.string (recS Y M D h m s q), .int .i64 0]) ∧ vClk Y M D h m s ∧ secs Y M D h m s = L ∧ Below w.heap.size w w'

theorem tz_no {t z : Int} (h : (timeB t && quarterB z) = false) : (timeB t && zoneB z) = false ∨ ((timeB t && zoneB z) = true ∧ quarterB z = false) := by
  cases h1 : timeB t <;> cases h2 : zoneB z <;> cases h3 : quarterB z <;> simp_all

set_option maxHeartbeats 400000 in
theorem record_no (t z : Int) (hb : (timeB t && quarterB z) = false) (w : World) :
    Calls Tryz.prog 32 #[.int .i64 t, .int .i64 z] w fun e w' => e = .returned (.tuple #[.string ⟨#[]⟩, .int .i64 2]) ∧ Below w.heap.size w w' := by
  have hn := tz_no hb
  have H := hide hb
  clear hb
  rcases hn with hn | ⟨hn, hq⟩
  · have HL : Live w [] := trivial
    go_enter Tryz.func32, Tryz.ntmps32
    go_wp2_with (first | (go_at_call 64; (with_reducible refine (split_no _ _ (by assumption) _).mono ?_); rintro e w' ⟨rfl, hb⟩; have hz := hb.size; (try simp only [World.size_alloc, World.size_setCell, World.size_drew, Nat.add_assoc, Nat.reduceAdd] at hz); (first | obtain ⟨HL, hk⟩ := HL.call hb hz (by simp only [World.size_alloc, World.size_setCell, World.size_drew, Nat.add_assoc, Nat.reduceAdd]) | obtain ⟨HL, hk⟩ := HL.call0 hb hz (by first | rfl | simp only [World.size_alloc, World.size_setCell, World.size_drew, Nat.add_assoc, Nat.reduceAdd])); (try simp only [addN, Nat.add_zero] at HL hk); have hl := HL; simp only [Live] at hl; (try simp only [Kept] at hk)) | (go_at_call 65; (with_reducible refine (isQuarter_any _ _).mono ?_); rintro e w' ⟨rfl, rfl⟩))
    go_ret2
    exact ⟨rfl, by (repeat' (first | (with_reducible exact Below.refl _ _) | (with_reducible refine Below.alloc ?_ ?_ _) | (with_reducible refine Below.setCell ?_ ?_ _) | (with_reducible refine Below.drew ?_) | (with_reducible refine below_drewN' ?_) | (with_reducible refine below_bytesW ?_ ?_) | (with_reducible refine Below.trans ?_ (Below.mono (by assumption) ?_)) | omega | (simp only [World.size_alloc, World.size_setCell, World.size_drew]; omega) | (simp [size_bytesW]; omega) | (simp; omega)))⟩
  · have ht := timeB_true.1 (by simp only [Bool.and_eq_true] at hn; exact hn.1)
    have hz := zoneB_true.1 (by simp only [Bool.and_eq_true] at hn; exact hn.2)
    clear hn
    have HL : Live w [] := trivial
    go_enter Tryz.func32, Tryz.ntmps32
    go_wp2_with (first | (go_at_call 64; (with_reducible refine (split_yes _ _ (by omega) (by omega) _).mono ?_); rintro e w' ⟨cY, cM, cD, ch, cm, cs, rfl, hv, hq, hb⟩; have hvv := hv; unfold vClk at hvv; have hmd := mdays_bd cY cM; have hQ := hide hq; clear hq; have hz := hb.size; (try simp only [World.size_alloc, World.size_setCell, World.size_drew, Nat.add_assoc, Nat.reduceAdd] at hz); (first | obtain ⟨HL, hk⟩ := HL.call hb hz (by simp only [World.size_alloc, World.size_setCell, World.size_drew, Nat.add_assoc, Nat.reduceAdd]) | obtain ⟨HL, hk⟩ := HL.call0 hb hz (by first | rfl | simp only [World.size_alloc, World.size_setCell, World.size_drew, Nat.add_assoc, Nat.reduceAdd])); (try simp only [addN, Nat.add_zero] at HL hk); have hl := HL; simp only [Live] at hl; (try simp only [Kept] at hk)) | (go_at_call 65; (with_reducible refine (isQuarter_any _ _).mono ?_); rintro e w' ⟨rfl, rfl⟩))
    go_ret2
    exact ⟨rfl, by (repeat' (first | (with_reducible exact Below.refl _ _) | (with_reducible refine Below.alloc ?_ ?_ _) | (with_reducible refine Below.setCell ?_ ?_ _) | (with_reducible refine Below.drew ?_) | (with_reducible refine below_drewN' ?_) | (with_reducible refine below_bytesW ?_ ?_) | (with_reducible refine Below.trans ?_ (Below.mono (by assumption) ?_)) | omega | (simp only [World.size_alloc, World.size_setCell, World.size_drew]; omega) | (simp [size_bytesW]; omega) | (simp; omega)))⟩
set_option maxHeartbeats 1000000 in
theorem record_yes (t q : Int) (ht : 315532800 ≤ t ∧ t ≤ 4102444799) (hq : -48 ≤ q ∧ q ≤ 52) (w : World) :
    Calls Tryz.prog 32 #[.int .i64 t, .int .i64 (15 * q)] w (RecP (t + 60 * (15 * q)) q w) := by
  have qb : quarterB (15 * q) = true := by rw [quarterB_mul]; exact decide_eq_true hq
  have td := tdiv15 q
  have cv := fun (W : World) (x0 x1 x2 x3 x4 x5 x6 : Int) => conv_at (P := Tryz.prog) 62 9 5 Tryz.underlying62 Tryz.underlying5 Tryz.underlying9 W 5 [x0, x1, x2, x3, x4, x5, x6] #[.int .u8 x0, .int .u8 x1, .int .u8 x2, .int .u8 x3, .int .u8 x4, .int .u8 x5, .int .u8 x6] rfl 7 7 rfl
  have HL : Live w [] := trivial
  go_enter Tryz.func32, Tryz.ntmps32
  go_wp2_with (first | (go_at_call 64; (with_reducible refine (split_yes _ _ (by omega) (by omega) _).mono ?_); rintro e w' ⟨cY, cM, cD, ch, cm, cs, rfl, hv, hq, hb⟩; have hvv := hv; unfold vClk at hvv; have hmd := mdays_bd cY cM; have hQ := hide hq; clear hq; have hz := hb.size; (try simp only [World.size_alloc, World.size_setCell, World.size_drew, Nat.add_assoc, Nat.reduceAdd] at hz); (first | obtain ⟨HL, hk⟩ := HL.call hb hz (by simp only [World.size_alloc, World.size_setCell, World.size_drew, Nat.add_assoc, Nat.reduceAdd]) | obtain ⟨HL, hk⟩ := HL.call0 hb hz (by first | rfl | simp only [World.size_alloc, World.size_setCell, World.size_drew, Nat.add_assoc, Nat.reduceAdd])); (try simp only [addN, Nat.add_zero] at HL hk); have hl := HL; simp only [Live] at hl; (try simp only [Kept] at hk)) | (go_at_call 65; (with_reducible refine (isQuarter_any _ _).mono ?_); rintro e w' ⟨rfl, rfl⟩))
  go_ret2
  exact ⟨cY, cM, cD, ch, cm, cs, rfl, hv, hQ.out, by (repeat' (first | (with_reducible exact Below.refl _ _) | (with_reducible refine Below.alloc ?_ ?_ _) | (with_reducible refine Below.setCell ?_ ?_ _) | (with_reducible refine Below.drew ?_) | (with_reducible refine below_drewN' ?_) | (with_reducible refine below_bytesW ?_ ?_) | (with_reducible refine Below.trans ?_ (Below.mono (by assumption) ?_)) | omega | (simp only [World.size_alloc, World.size_setCell, World.size_drew]; omega) | (simp [size_bytesW]; omega) | (simp; omega)))⟩

set_option maxHeartbeats 400000 in
theorem signed_any (n : Int) (h : -256 ≤ n ∧ n ≤ 1000) (w : World) : Calls Tryz.prog 71 #[.int .i64 n] w fun e w' => e = .returned (.int .u8 (n % 256)) ∧ w = w' := by
  have HL : Live w [] := trivial
  go_enter Tryz.func71, Tryz.ntmps71
  go_wp2
  go_ret
  exact ⟨ret_i (by omega), rfl⟩
set_option maxHeartbeats 400000 in
theorem rrecord_no (t z : Int) (hb : (timeB t && quarterB z) = false) (w : World) :
    Calls Tryz.prog 36 #[.int .i64 t, .int .i64 z] w fun e w' => e = .returned (.tuple #[.string ⟨#[]⟩, .int .i64 2]) ∧ Below w.heap.size w w' := by
  have H := hide hb
  clear hb
  cases h1 : timeB t
  · have HL : Live w [] := trivial
    go_enter Tryz.func36, Tryz.ntmps36
    go_wp2_with (first | (go_at_call 67; (with_reducible refine (rTime_any _ _).mono ?_); rintro e w' ⟨rfl, rfl⟩) | (go_at_call 69; (with_reducible refine (rQuarter_any _ _).mono ?_); rintro e w' ⟨rfl, rfl⟩))
    go_ret2
    exact ⟨rfl, by (repeat' (first | (with_reducible exact Below.refl _ _) | (with_reducible refine Below.alloc ?_ ?_ _) | (with_reducible refine Below.setCell ?_ ?_ _) | (with_reducible refine Below.drew ?_) | (with_reducible refine below_drewN' ?_) | (with_reducible refine below_bytesW ?_ ?_) | (with_reducible refine Below.trans ?_ (Below.mono (by assumption) ?_)) | omega | (simp only [World.size_alloc, World.size_setCell, World.size_drew]; omega) | (simp [size_bytesW]; omega) | (simp; omega)))⟩
  · have h2 : quarterB z = false := by have := H.out; simpa [h1] using this
    have HL : Live w [] := trivial
    go_enter Tryz.func36, Tryz.ntmps36
    go_wp2_with (first | (go_at_call 67; (with_reducible refine (rTime_any _ _).mono ?_); rintro e w' ⟨rfl, rfl⟩) | (go_at_call 69; (with_reducible refine (rQuarter_any _ _).mono ?_); rintro e w' ⟨rfl, rfl⟩))
    go_ret2
    exact ⟨rfl, by (repeat' (first | (with_reducible exact Below.refl _ _) | (with_reducible refine Below.alloc ?_ ?_ _) | (with_reducible refine Below.setCell ?_ ?_ _) | (with_reducible refine Below.drew ?_) | (with_reducible refine below_drewN' ?_) | (with_reducible refine below_bytesW ?_ ?_) | (with_reducible refine Below.trans ?_ (Below.mono (by assumption) ?_)) | omega | (simp only [World.size_alloc, World.size_setCell, World.size_drew]; omega) | (simp [size_bytesW]; omega) | (simp; omega)))⟩
set_option maxHeartbeats 1000000 in
theorem rrecord_yes (t q : Int) (ht : 315532800 ≤ t ∧ t ≤ 4102444799) (hq : -48 ≤ q ∧ q ≤ 52) (w : World) :
    Calls Tryz.prog 36 #[.int .i64 t, .int .i64 (15 * q)] w (RecP (t + 60 * (15 * q)) q w) := by
  have qb : quarterB (15 * q) = true := by rw [quarterB_mul]; exact decide_eq_true hq
  have tb : timeB t = true := timeB_true.2 ht
  have td := tdiv15 q
  have cv := fun (W : World) (x0 x1 x2 x3 x4 x5 x6 : Int) => conv_drew (P := Tryz.prog) 62 9 5 Tryz.underlying62 Tryz.underlying5 Tryz.underlying9 W 5 [x0, x1, x2, x3, x4, x5, x6] #[.int .u8 x0, .int .u8 x1, .int .u8 x2, .int .u8 x3, .int .u8 x4, .int .u8 x5, .int .u8 x6] rfl 7 7 rfl
  have HL : Live w [] := trivial
  go_enter Tryz.func36, Tryz.ntmps36
  go_wp2_with (first | (go_at_call 67; (with_reducible refine (rTime_any _ _).mono ?_); rintro e w' ⟨rfl, rfl⟩) | (go_at_call 69; (with_reducible refine (rQuarter_any _ _).mono ?_); rintro e w' ⟨rfl, rfl⟩))
  (first | ((with_reducible refine (rsplit_yes _ _ (by omega) (by omega) _).mono ?_); rintro e w1 ⟨cY, cM, cD, ch, cm, cs, rfl, hv, hq, hb⟩; have hvv := hv; unfold vClk at hvv; have hmd := mdays_bd cY cM; have hQ := hide hq; clear hq; have hz := hb.size; (try simp only [World.size_alloc, World.size_setCell, World.size_drew, Nat.add_assoc, Nat.reduceAdd] at hz); (first | obtain ⟨HL, hk⟩ := HL.call hb hz (by simp only [World.size_alloc, World.size_setCell, World.size_drew, Nat.add_assoc, Nat.reduceAdd]) | obtain ⟨HL, hk⟩ := HL.call0 hb hz (by first | rfl | simp only [World.size_alloc, World.size_setCell, World.size_drew, Nat.add_assoc, Nat.reduceAdd])); (try simp only [addN, Nat.add_zero] at HL hk); have hl := HL; simp only [Live] at hl; (try simp only [Kept] at hk)))
  go_wp2_with fail
  have u0 : IntKind.u8.wrap (cY - 1900) = (cY - 1900) := IntWalk.u8_in _ (by omega)
  have u1 : IntKind.u8.wrap cM = cM := IntWalk.u8_in _ (by omega)
  have u2 : IntKind.u8.wrap cD = cD := IntWalk.u8_in _ (by omega)
  have u3 : IntKind.u8.wrap ch = ch := IntWalk.u8_in _ (by omega)
  have u4 : IntKind.u8.wrap cm = cm := IntWalk.u8_in _ (by omega)
  have u5 : IntKind.u8.wrap cs = cs := IntWalk.u8_in _ (by omega)
  have wq : IntKind.i64.wrap q = q := IntWalk.i64_in q (by omega)
  have wY : IntKind.i64.wrap (cY - 1900) = cY - 1900 := IntWalk.i64_in _ (by omega)
  refine wp_region_noPanic ?_
  refine wp_region_held_drew (S := (fun x => x.cell? ⟨w1.heap.size, 0, none⟩ = some (.int .i64 cY) ∧ x.cell? ⟨w1.heap.size, 1, none⟩ = some (.int .i64 cM) ∧ x.cell? ⟨w1.heap.size, 2, none⟩ = some (.int .i64 cD) ∧ x.cell? ⟨w1.heap.size, 3, none⟩ = some (.int .i64 ch) ∧ x.cell? ⟨w1.heap.size, 4, none⟩ = some (.int .i64 cm) ∧ x.cell? ⟨w1.heap.size, 5, none⟩ = some (.int .i64 cs))) (by kernel_rfl) (by (try dsimp only); first | assumption | (simp [*, go_sem]; done) | (refine ⟨?_, ?_⟩ <;> simp [*, go_sem])) (fun hHeld => ?_)
  refine wpAnyH_take (i := 0) (oi := { dst := some 22, op := Go.Op.fieldAddr 96 (Go.Operand.tmp 6) 0, type := 0, pos := "ref.go:107", after := #[], guard := none }) (v := ?_) rfl (by kernel_rfl) (by kernel_rfl) (by kernel_rfl) (fun _ _ _ h => h) (Or.inl ⟨by rfl, ?_⟩) (by assumption) ?_
  rotate_left
  · intro w hSw; (try dsimp only at hSw); go_simp; (try with_reducible rfl)
  try simp only [Act.put, List.setIfInBounds_toArray, List.set_cons_zero, List.set_cons_succ]
  refine wpAnyH_take (i := 1) (oi := { dst := some 23, op := Go.Op.load 3 (Go.Operand.tmp 22), type := 3, pos := "ref.go:107", after := #[{ on := 0, ground := Go.Ground.data }], guard := none }) (v := ?_) rfl (by kernel_rfl) (by kernel_rfl) (by kernel_rfl) (fun _ _ _ h => h) (Or.inl ⟨by rfl, ?_⟩) (by assumption) ?_
  rotate_left
  · intro w hSw; (try dsimp only at hSw); go_simp; (try with_reducible rfl)
  try simp only [Act.put, List.setIfInBounds_toArray, List.set_cons_zero, List.set_cons_succ]
  refine wpAnyH_take (i := 2) (oi := { dst := some 24, op := Go.Op.binOp Go.BinOp.sub 3 (Go.Operand.tmp 23) (Go.Operand.const (Go.Value.int Go.IntKind.i64 1900)) 3, type := 3, pos := "ref.go:107", after := #[{ on := 1, ground := Go.Ground.data }], guard := none }) (v := ?_) rfl (by kernel_rfl) (by kernel_rfl) (by kernel_rfl) (fun _ _ _ h => h) (Or.inl ⟨by rfl, ?_⟩) (by assumption) ?_
  rotate_left
  · intro w hSw; (try dsimp only at hSw); go_simp; (try with_reducible rfl)
  try simp only [Act.put, List.setIfInBounds_toArray, List.set_cons_zero, List.set_cons_succ]
  refine wpAnyH_take (i := 3) (oi := { dst := some 25, op := Go.Op.convert 3 5 (Go.Operand.tmp 24), type := 5, pos := "ref.go:107", after := #[{ on := 2, ground := Go.Ground.data }], guard := none }) (v := ?_) rfl (by kernel_rfl) (by kernel_rfl) (by kernel_rfl) (fun _ _ _ h => h) (Or.inl ⟨by rfl, ?_⟩) (by assumption) ?_
  rotate_left
  · intro w hSw; (try dsimp only at hSw); go_simp; (try with_reducible rfl)
  try simp only [Act.put, List.setIfInBounds_toArray, List.set_cons_zero, List.set_cons_succ]
  refine wpAnyH_take (i := 4) (oi := { dst := some 26, op := Go.Op.fieldAddr 96 (Go.Operand.tmp 6) 1, type := 0, pos := "ref.go:107", after := #[], guard := none }) (v := ?_) rfl (by kernel_rfl) (by kernel_rfl) (by kernel_rfl) (fun _ _ _ h => h) (Or.inl ⟨by rfl, ?_⟩) (by assumption) ?_
  rotate_left
  · intro w hSw; (try dsimp only at hSw); go_simp; (try with_reducible rfl)
  try simp only [Act.put, List.setIfInBounds_toArray, List.set_cons_zero, List.set_cons_succ]
  refine wpAnyH_take (i := 5) (oi := { dst := some 27, op := Go.Op.load 3 (Go.Operand.tmp 26), type := 3, pos := "ref.go:107", after := #[{ on := 4, ground := Go.Ground.data }], guard := none }) (v := ?_) rfl (by kernel_rfl) (by kernel_rfl) (by kernel_rfl) (fun _ _ _ h => h) (Or.inl ⟨by rfl, ?_⟩) (by assumption) ?_
  rotate_left
  · intro w hSw; (try dsimp only at hSw); go_simp; (try with_reducible rfl)
  try simp only [Act.put, List.setIfInBounds_toArray, List.set_cons_zero, List.set_cons_succ]
  refine wpAnyH_take (i := 6) (oi := { dst := some 28, op := Go.Op.convert 3 5 (Go.Operand.tmp 27), type := 5, pos := "ref.go:107", after := #[{ on := 5, ground := Go.Ground.data }], guard := none }) (v := ?_) rfl (by kernel_rfl) (by kernel_rfl) (by kernel_rfl) (fun _ _ _ h => h) (Or.inl ⟨by rfl, ?_⟩) (by assumption) ?_
  rotate_left
  · intro w hSw; (try dsimp only at hSw); go_simp; (try with_reducible rfl)
  try simp only [Act.put, List.setIfInBounds_toArray, List.set_cons_zero, List.set_cons_succ]
  refine wpAnyH_take (i := 7) (oi := { dst := some 29, op := Go.Op.fieldAddr 96 (Go.Operand.tmp 6) 2, type := 0, pos := "ref.go:107", after := #[], guard := none }) (v := ?_) rfl (by kernel_rfl) (by kernel_rfl) (by kernel_rfl) (fun _ _ _ h => h) (Or.inl ⟨by rfl, ?_⟩) (by assumption) ?_
  rotate_left
  · intro w hSw; (try dsimp only at hSw); go_simp; (try with_reducible rfl)
  try simp only [Act.put, List.setIfInBounds_toArray, List.set_cons_zero, List.set_cons_succ]
  refine wpAnyH_take (i := 8) (oi := { dst := some 30, op := Go.Op.load 3 (Go.Operand.tmp 29), type := 3, pos := "ref.go:107", after := #[{ on := 7, ground := Go.Ground.data }], guard := none }) (v := ?_) rfl (by kernel_rfl) (by kernel_rfl) (by kernel_rfl) (fun _ _ _ h => h) (Or.inl ⟨by rfl, ?_⟩) (by assumption) ?_
  rotate_left
  · intro w hSw; (try dsimp only at hSw); go_simp; (try with_reducible rfl)
  try simp only [Act.put, List.setIfInBounds_toArray, List.set_cons_zero, List.set_cons_succ]
  refine wpAnyH_take (i := 9) (oi := { dst := some 31, op := Go.Op.convert 3 5 (Go.Operand.tmp 30), type := 5, pos := "ref.go:107", after := #[{ on := 8, ground := Go.Ground.data }], guard := none }) (v := ?_) rfl (by kernel_rfl) (by kernel_rfl) (by kernel_rfl) (fun _ _ _ h => h) (Or.inl ⟨by rfl, ?_⟩) (by assumption) ?_
  rotate_left
  · intro w hSw; (try dsimp only at hSw); go_simp; (try with_reducible rfl)
  try simp only [Act.put, List.setIfInBounds_toArray, List.set_cons_zero, List.set_cons_succ]
  refine wpAnyH_take (i := 10) (oi := { dst := some 32, op := Go.Op.fieldAddr 96 (Go.Operand.tmp 6) 3, type := 0, pos := "ref.go:107", after := #[], guard := none }) (v := ?_) rfl (by kernel_rfl) (by kernel_rfl) (by kernel_rfl) (fun _ _ _ h => h) (Or.inl ⟨by rfl, ?_⟩) (by assumption) ?_
  rotate_left
  · intro w hSw; (try dsimp only at hSw); go_simp; (try with_reducible rfl)
  try simp only [Act.put, List.setIfInBounds_toArray, List.set_cons_zero, List.set_cons_succ]
  refine wpAnyH_take (i := 11) (oi := { dst := some 33, op := Go.Op.load 3 (Go.Operand.tmp 32), type := 3, pos := "ref.go:107", after := #[{ on := 10, ground := Go.Ground.data }], guard := none }) (v := ?_) rfl (by kernel_rfl) (by kernel_rfl) (by kernel_rfl) (fun _ _ _ h => h) (Or.inl ⟨by rfl, ?_⟩) (by assumption) ?_
  rotate_left
  · intro w hSw; (try dsimp only at hSw); go_simp; (try with_reducible rfl)
  try simp only [Act.put, List.setIfInBounds_toArray, List.set_cons_zero, List.set_cons_succ]
  refine wpAnyH_take (i := 12) (oi := { dst := some 34, op := Go.Op.convert 3 5 (Go.Operand.tmp 33), type := 5, pos := "ref.go:107", after := #[{ on := 11, ground := Go.Ground.data }], guard := none }) (v := ?_) rfl (by kernel_rfl) (by kernel_rfl) (by kernel_rfl) (fun _ _ _ h => h) (Or.inl ⟨by rfl, ?_⟩) (by assumption) ?_
  rotate_left
  · intro w hSw; (try dsimp only at hSw); go_simp; (try with_reducible rfl)
  try simp only [Act.put, List.setIfInBounds_toArray, List.set_cons_zero, List.set_cons_succ]
  refine wpAnyH_take (i := 13) (oi := { dst := some 35, op := Go.Op.fieldAddr 96 (Go.Operand.tmp 6) 4, type := 0, pos := "ref.go:107", after := #[], guard := none }) (v := ?_) rfl (by kernel_rfl) (by kernel_rfl) (by kernel_rfl) (fun _ _ _ h => h) (Or.inl ⟨by rfl, ?_⟩) (by assumption) ?_
  rotate_left
  · intro w hSw; (try dsimp only at hSw); go_simp; (try with_reducible rfl)
  try simp only [Act.put, List.setIfInBounds_toArray, List.set_cons_zero, List.set_cons_succ]
  refine wpAnyH_take (i := 14) (oi := { dst := some 36, op := Go.Op.load 3 (Go.Operand.tmp 35), type := 3, pos := "ref.go:107", after := #[{ on := 13, ground := Go.Ground.data }], guard := none }) (v := ?_) rfl (by kernel_rfl) (by kernel_rfl) (by kernel_rfl) (fun _ _ _ h => h) (Or.inl ⟨by rfl, ?_⟩) (by assumption) ?_
  rotate_left
  · intro w hSw; (try dsimp only at hSw); go_simp; (try with_reducible rfl)
  try simp only [Act.put, List.setIfInBounds_toArray, List.set_cons_zero, List.set_cons_succ]
  refine wpAnyH_take (i := 15) (oi := { dst := some 37, op := Go.Op.convert 3 5 (Go.Operand.tmp 36), type := 5, pos := "ref.go:107", after := #[{ on := 14, ground := Go.Ground.data }], guard := none }) (v := ?_) rfl (by kernel_rfl) (by kernel_rfl) (by kernel_rfl) (fun _ _ _ h => h) (Or.inl ⟨by rfl, ?_⟩) (by assumption) ?_
  rotate_left
  · intro w hSw; (try dsimp only at hSw); go_simp; (try with_reducible rfl)
  try simp only [Act.put, List.setIfInBounds_toArray, List.set_cons_zero, List.set_cons_succ]
  refine wpAnyH_take (i := 16) (oi := { dst := some 38, op := Go.Op.fieldAddr 96 (Go.Operand.tmp 6) 5, type := 0, pos := "ref.go:107", after := #[], guard := none }) (v := ?_) rfl (by kernel_rfl) (by kernel_rfl) (by kernel_rfl) (fun _ _ _ h => h) (Or.inl ⟨by rfl, ?_⟩) (by assumption) ?_
  rotate_left
  · intro w hSw; (try dsimp only at hSw); go_simp; (try with_reducible rfl)
  try simp only [Act.put, List.setIfInBounds_toArray, List.set_cons_zero, List.set_cons_succ]
  refine wpAnyH_take (i := 17) (oi := { dst := some 39, op := Go.Op.load 3 (Go.Operand.tmp 38), type := 3, pos := "ref.go:107", after := #[{ on := 16, ground := Go.Ground.data }], guard := none }) (v := ?_) rfl (by kernel_rfl) (by kernel_rfl) (by kernel_rfl) (fun _ _ _ h => h) (Or.inl ⟨by rfl, ?_⟩) (by assumption) ?_
  rotate_left
  · intro w hSw; (try dsimp only at hSw); go_simp; (try with_reducible rfl)
  try simp only [Act.put, List.setIfInBounds_toArray, List.set_cons_zero, List.set_cons_succ]
  refine wpAnyH_take (i := 18) (oi := { dst := some 40, op := Go.Op.convert 3 5 (Go.Operand.tmp 39), type := 5, pos := "ref.go:107", after := #[{ on := 17, ground := Go.Ground.data }], guard := none }) (v := ?_) rfl (by kernel_rfl) (by kernel_rfl) (by kernel_rfl) (fun _ _ _ h => h) (Or.inl ⟨by rfl, ?_⟩) (by assumption) ?_
  rotate_left
  · intro w hSw; (try dsimp only at hSw); go_simp; (try with_reducible rfl)
  try simp only [Act.put, List.setIfInBounds_toArray, List.set_cons_zero, List.set_cons_succ]
  refine wpAnyH_take (i := 19) (oi := { dst := some 41, op := Go.Op.move (Go.Operand.tmp 1), type := 3, pos := "ref.go:107", after := #[], guard := none }) (v := ?_) rfl (by kernel_rfl) (by kernel_rfl) (by kernel_rfl) (fun _ _ _ h => h) (Or.inl ⟨by rfl, ?_⟩) (by assumption) ?_
  rotate_left
  · intro w hSw; (try dsimp only at hSw); go_simp; (try with_reducible rfl)
  try simp only [Act.put, List.setIfInBounds_toArray, List.set_cons_zero, List.set_cons_succ]
  refine wpAnyH_take (i := 20) (oi := { dst := some 42, op := Go.Op.binOp Go.BinOp.quo 3 (Go.Operand.tmp 41) (Go.Operand.const (Go.Value.int Go.IntKind.i64 15)) 3, type := 3, pos := "ref.go:107", after := #[{ on := 19, ground := Go.Ground.data }], guard := none }) (v := ?_) rfl (by kernel_rfl) (by kernel_rfl) (by kernel_rfl) (fun _ _ _ h => h) (Or.inl ⟨by rfl, ?_⟩) (by assumption) ?_
  rotate_left
  · intro w hSw; (try dsimp only at hSw); go_simp; (try with_reducible rfl)
  try simp only [Act.put, List.setIfInBounds_toArray, List.set_cons_zero, List.set_cons_succ]
  refine wpAnyH_ready (rs := [21]) (by kernel_rfl) (by simp) ?_
  refine AllReadyH.cons (o := { dst := some 43, op := Go.Op.call { callee := Go.Callee.value (Go.Operand.func 71), args := #[Go.Operand.tmp 42], argTypes := #[3] }, type := 5, pos := "ref.go:107", after := #[{ on := 20, ground := Go.Ground.data }], guard := none }) rfl (fun K hK => ?_) AllReadyH.nil
  go_simp
  (first | (go_at_call 71; (with_reducible refine (signed_any _ (by omega) _).mono ?_); rintro e w' ⟨rfl, rfl⟩))
  go_wp2_with fail
  refine hK.out _ _ (by (try dsimp only); first | assumption | (simp [*, go_sem]; done) | (refine ⟨?_, ?_⟩ <;> simp [*, go_sem])) (fun hHeld => ?_)
  clear hK K
  try simp only [Act.put, List.setIfInBounds_toArray, List.set_cons_zero, List.set_cons_succ]
  refine wpAnyH_ready (rs := [22]) (by kernel_rfl) (by simp) ?_
  refine AllReadyH.cons (o := { dst := some 44, op := Go.Op.buildSlice 62 7 #[(0, Go.Operand.tmp 25), (1, Go.Operand.tmp 28), (2, Go.Operand.tmp 31), (3, Go.Operand.tmp 34), (4, Go.Operand.tmp 37), (5, Go.Operand.tmp 40), (6, Go.Operand.tmp 43)], type := 62, pos := "ref.go:107", after := #[{ on := 3, ground := Go.Ground.data }, { on := 6, ground := Go.Ground.data }, { on := 9, ground := Go.Ground.data }, { on := 12, ground := Go.Ground.data }, { on := 15, ground := Go.Ground.data }, { on := 18, ground := Go.Ground.data }, { on := 21, ground := Go.Ground.data }], guard := none }) rfl (fun K hK => ?_) AllReadyH.nil
  go_simp
  refine hK.out _ _ (by (try dsimp only); first | assumption | (simp [*, go_sem]; done) | (refine ⟨?_, ?_⟩ <;> simp [*, go_sem])) (fun hHeld => ?_)
  clear hK K
  try simp only [Act.put, List.setIfInBounds_toArray, List.set_cons_zero, List.set_cons_succ]
  refine wpAnyH_ready (rs := [23]) (by kernel_rfl) (by simp) ?_
  refine AllReadyH.cons (o := { dst := some 45, op := Go.Op.convert 62 9 (Go.Operand.tmp 44), type := 9, pos := "ref.go:107", after := #[{ on := 22, ground := Go.Ground.data }], guard := none }) rfl (fun K hK => ?_) AllReadyH.nil
  go_simp
  refine hK.out _ _ (by (try dsimp only); first | assumption | (simp [*, go_sem]; done) | (refine ⟨?_, ?_⟩ <;> simp [*, go_sem])) (fun hHeld => ?_)
  clear hK K
  try simp only [Act.put, List.setIfInBounds_toArray, List.set_cons_zero, List.set_cons_succ]
  refine wpAnyH_take (i := 24) (oi := { dst := some 4, op := Go.Op.assign (Go.Operand.tmp 45), type := 9, pos := "ref.go:107", after := #[{ on := 23, ground := Go.Ground.data }, { on := 21, ground := Go.Ground.chain }, { on := 0, ground := Go.Ground.phase }, { on := 1, ground := Go.Ground.phase }, { on := 2, ground := Go.Ground.phase }, { on := 3, ground := Go.Ground.phase }, { on := 4, ground := Go.Ground.phase }, { on := 5, ground := Go.Ground.phase }, { on := 6, ground := Go.Ground.phase }, { on := 7, ground := Go.Ground.phase }, { on := 8, ground := Go.Ground.phase }, { on := 9, ground := Go.Ground.phase }, { on := 10, ground := Go.Ground.phase }, { on := 11, ground := Go.Ground.phase }, { on := 12, ground := Go.Ground.phase }, { on := 13, ground := Go.Ground.phase }, { on := 14, ground := Go.Ground.phase }, { on := 15, ground := Go.Ground.phase }, { on := 16, ground := Go.Ground.phase }, { on := 17, ground := Go.Ground.phase }, { on := 18, ground := Go.Ground.phase }, { on := 19, ground := Go.Ground.phase }, { on := 20, ground := Go.Ground.phase }, { on := 21, ground := Go.Ground.phase }, { on := 22, ground := Go.Ground.phase }, { on := 23, ground := Go.Ground.phase }], guard := none }) (v := ?_) rfl (by kernel_rfl) (by kernel_rfl) (by kernel_rfl) (fun _ _ _ h => h) (Or.inl ⟨by rfl, ?_⟩) (by assumption) ?_
  rotate_left
  · intro w hSw; (try dsimp only at hSw); go_simp; (try with_reducible rfl)
  try simp only [Act.put, List.setIfInBounds_toArray, List.set_cons_zero, List.set_cons_succ]
  refine wpAnyH_take (i := 25) (oi := { dst := some 5, op := Go.Op.assign (Go.Operand.const (Go.Value.int Go.IntKind.i64 0)), type := 27, pos := "ref.go:107", after := #[{ on := 24, ground := Go.Ground.chain }, { on := 0, ground := Go.Ground.phase }, { on := 1, ground := Go.Ground.phase }, { on := 2, ground := Go.Ground.phase }, { on := 3, ground := Go.Ground.phase }, { on := 4, ground := Go.Ground.phase }, { on := 5, ground := Go.Ground.phase }, { on := 6, ground := Go.Ground.phase }, { on := 7, ground := Go.Ground.phase }, { on := 8, ground := Go.Ground.phase }, { on := 9, ground := Go.Ground.phase }, { on := 10, ground := Go.Ground.phase }, { on := 11, ground := Go.Ground.phase }, { on := 12, ground := Go.Ground.phase }, { on := 13, ground := Go.Ground.phase }, { on := 14, ground := Go.Ground.phase }, { on := 15, ground := Go.Ground.phase }, { on := 16, ground := Go.Ground.phase }, { on := 17, ground := Go.Ground.phase }, { on := 18, ground := Go.Ground.phase }, { on := 19, ground := Go.Ground.phase }, { on := 20, ground := Go.Ground.phase }, { on := 21, ground := Go.Ground.phase }, { on := 22, ground := Go.Ground.phase }, { on := 23, ground := Go.Ground.phase }, { on := 24, ground := Go.Ground.phase }], guard := none }) (v := ?_) rfl (by kernel_rfl) (by kernel_rfl) (by kernel_rfl) (fun _ _ _ h => h) (Or.inl ⟨by rfl, ?_⟩) (by assumption) ?_
  rotate_left
  · intro w hSw; (try dsimp only at hSw); go_simp; (try with_reducible rfl)
  try simp only [Act.put, List.setIfInBounds_toArray, List.set_cons_zero, List.set_cons_succ]
  refine wpAnyH_done (by kernel_rfl) ?_ _
  refine NoPanic.normal ?_
  all_goals (go_wp2; go_ret2; exact ⟨cY, cM, cD, ch, cm, cs, rfl, hv, hQ.out, by (repeat' (first | (with_reducible exact Below.refl _ _) | (with_reducible refine Below.alloc ?_ ?_ _) | (with_reducible refine Below.setCell ?_ ?_ _) | (with_reducible refine Below.drew ?_) | (with_reducible refine below_drewN' ?_) | (with_reducible refine below_bytesW ?_ ?_) | (with_reducible refine Below.trans ?_ (Below.mono (by assumption) ?_)) | omega | (simp only [World.size_alloc, World.size_setCell, World.size_drew]; omega) | (simp [size_bytesW]; omega) | (simp; omega)))⟩)

theorem ret2_vb {v : Value} {a b : Bool} (h : a = b) : Ending.returned (.tuple #[v, .bool a]) = .returned (.tuple #[v, .bool b]) := by rw [h]
def sg (v : Int) : Int := if v < 128 then v else v - 256
def qB (n : Int) : Bool := decide (-48 ≤ n ∧ n ≤ 52)
theorem sg_bd {v : Int} (h : 0 ≤ v ∧ v ≤ 255) : -128 ≤ sg v ∧ sg v ≤ 127 := by unfold sg; split <;> omega
set_option maxHeartbeats 400000 in
theorem quarter_any (v : Int) (h : 0 ≤ v ∧ v ≤ 255) (w : World) : Calls Tryz.prog 112 #[.int .u8 v] w fun e w' => e = .returned (.tuple #[.int .i64 (15 * sg v), .bool (qB (sg v))]) ∧ w = w' := by
  have hs := sg_bd h
  have e8 : IntKind.i8.wrap v = sg v := by unfold sg IntKind.wrap; simp [IntKind.bits, IntKind.signed]; omega
  by_cases h1 : -48 ≤ sg v
  all_goals
    have HL : Live w [] := trivial
    go_enter Tryz.func112, Tryz.ntmps112
    go_wp2
    go_ret2
    exact ⟨ret2_vb (by unfold qB; rw [Bool.eq_iff_iff]; first | (simp; done) | (simp; omega)), rfl⟩
set_option maxHeartbeats 400000 in
theorem read_bad (Y M D h m s z : Int) (r : Bool) (hb : (r && vClkB Y M D h m s) = false) (w : World) :
    Calls Tryz.prog 113 #[.agg #[.int .i64 Y, .int .i64 M, .int .i64 D, .int .i64 h, .int .i64 m, .int .i64 s], .int .i64 z, .bool r] w fun e w' => e = .returned (.tuple #[.int .i64 0, .int .i64 0, .int .i64 10]) ∧ Below w.heap.size w w' := by
  have H := hide hb
  clear hb
  cases r
  · have HL : Live w [] := trivial
    go_enter Tryz.func113, Tryz.ntmps113
    go_wp2_with (first | (go_at_call 129; (with_reducible refine (valid_any _ _ _ _ _ _ _).mono ?_); rintro e w' ⟨rfl, hb⟩; have hz := hb.size; (try simp only [World.size_alloc, World.size_setCell, World.size_drew, Nat.add_assoc, Nat.reduceAdd] at hz); (first | obtain ⟨HL, hk⟩ := HL.call hb hz (by simp only [World.size_alloc, World.size_setCell, World.size_drew, Nat.add_assoc, Nat.reduceAdd]) | obtain ⟨HL, hk⟩ := HL.call0 hb hz (by first | rfl | simp only [World.size_alloc, World.size_setCell, World.size_drew, Nat.add_assoc, Nat.reduceAdd])); (try simp only [addN, Nat.add_zero] at HL hk); have hl := HL; simp only [Live] at hl; (try simp only [Kept] at hk)))
    go_ret3
    exact ⟨rfl, by (repeat' (first | (with_reducible exact Below.refl _ _) | (with_reducible refine Below.alloc ?_ ?_ _) | (with_reducible refine Below.setCell ?_ ?_ _) | (with_reducible refine Below.drew ?_) | (with_reducible refine below_drewN' ?_) | (with_reducible refine below_bytesW ?_ ?_) | (with_reducible refine Below.trans ?_ (Below.mono (by assumption) ?_)) | omega | (simp only [World.size_alloc, World.size_setCell, World.size_drew]; omega) | (simp [size_bytesW]; omega) | (simp; omega)))⟩
  · have h2 : vClkB Y M D h m s = false := by have := H.out; simpa using this
    have HL : Live w [] := trivial
    go_enter Tryz.func113, Tryz.ntmps113
    go_wp2_with (first | (go_at_call 129; (with_reducible refine (valid_any _ _ _ _ _ _ _).mono ?_); rintro e w' ⟨rfl, hb⟩; have hz := hb.size; (try simp only [World.size_alloc, World.size_setCell, World.size_drew, Nat.add_assoc, Nat.reduceAdd] at hz); (first | obtain ⟨HL, hk⟩ := HL.call hb hz (by simp only [World.size_alloc, World.size_setCell, World.size_drew, Nat.add_assoc, Nat.reduceAdd]) | obtain ⟨HL, hk⟩ := HL.call0 hb hz (by first | rfl | simp only [World.size_alloc, World.size_setCell, World.size_drew, Nat.add_assoc, Nat.reduceAdd])); (try simp only [addN, Nat.add_zero] at HL hk); have hl := HL; simp only [Live] at hl; (try simp only [Kept] at hk)))
    go_ret3
    exact ⟨rfl, by (repeat' (first | (with_reducible exact Below.refl _ _) | (with_reducible refine Below.alloc ?_ ?_ _) | (with_reducible refine Below.setCell ?_ ?_ _) | (with_reducible refine Below.drew ?_) | (with_reducible refine below_drewN' ?_) | (with_reducible refine below_bytesW ?_ ?_) | (with_reducible refine Below.trans ?_ (Below.mono (by assumption) ?_)) | omega | (simp only [World.size_alloc, World.size_setCell, World.size_drew]; omega) | (simp [size_bytesW]; omega) | (simp; omega)))⟩
set_option maxHeartbeats 400000 in
theorem read_range (Y M D h m s z : Int) (hv : vClk Y M D h m s) (hb : (zoneB z && timeB (secs Y M D h m s - 60 * z)) = false) (w : World) :
    Calls Tryz.prog 113 #[.agg #[.int .i64 Y, .int .i64 M, .int .i64 D, .int .i64 h, .int .i64 m, .int .i64 s], .int .i64 z, .bool true] w fun e w' => e = .returned (.tuple #[.int .i64 0, .int .i64 0, .int .i64 2]) ∧ Below w.heap.size w w' := by
  have H := hide hb
  clear hb
  have hv' := vClkB_true.2 hv
  cases hz : zoneB z
  · have HL : Live w [] := trivial
    go_enter Tryz.func113, Tryz.ntmps113
    go_wp2_with (first | (go_at_call 129; (with_reducible refine (valid_any _ _ _ _ _ _ _).mono ?_); rintro e w' ⟨rfl, hb⟩; have hz := hb.size; (try simp only [World.size_alloc, World.size_setCell, World.size_drew, Nat.add_assoc, Nat.reduceAdd] at hz); (first | obtain ⟨HL, hk⟩ := HL.call hb hz (by simp only [World.size_alloc, World.size_setCell, World.size_drew, Nat.add_assoc, Nat.reduceAdd]) | obtain ⟨HL, hk⟩ := HL.call0 hb hz (by first | rfl | simp only [World.size_alloc, World.size_setCell, World.size_drew, Nat.add_assoc, Nat.reduceAdd])); (try simp only [addN, Nat.add_zero] at HL hk); have hl := HL; simp only [Live] at hl; (try simp only [Kept] at hk)) | (go_at_call 130; (with_reducible refine (join_zone _ _ _ _ _ _ _ (by assumption) (by assumption) _).mono ?_); rintro e w' ⟨rfl, hb⟩; have hz := hb.size; (try simp only [World.size_alloc, World.size_setCell, World.size_drew, Nat.add_assoc, Nat.reduceAdd] at hz); (first | obtain ⟨HL, hk⟩ := HL.call hb hz (by simp only [World.size_alloc, World.size_setCell, World.size_drew, Nat.add_assoc, Nat.reduceAdd]) | obtain ⟨HL, hk⟩ := HL.call0 hb hz (by first | rfl | simp only [World.size_alloc, World.size_setCell, World.size_drew, Nat.add_assoc, Nat.reduceAdd])); (try simp only [addN, Nat.add_zero] at HL hk); have hl := HL; simp only [Live] at hl; (try simp only [Kept] at hk)))
    go_ret3
    exact ⟨rfl, by (repeat' (first | (with_reducible exact Below.refl _ _) | (with_reducible refine Below.alloc ?_ ?_ _) | (with_reducible refine Below.setCell ?_ ?_ _) | (with_reducible refine Below.drew ?_) | (with_reducible refine below_drewN' ?_) | (with_reducible refine below_bytesW ?_ ?_) | (with_reducible refine Below.trans ?_ (Below.mono (by assumption) ?_)) | omega | (simp only [World.size_alloc, World.size_setCell, World.size_drew]; omega) | (simp [size_bytesW]; omega) | (simp; omega)))⟩
  · have h2 : timeB (secs Y M D h m s - 60 * z) = false := by have := H.out; simpa [hz] using this
    have HL : Live w [] := trivial
    go_enter Tryz.func113, Tryz.ntmps113
    go_wp2_with (first | (go_at_call 129; (with_reducible refine (valid_any _ _ _ _ _ _ _).mono ?_); rintro e w' ⟨rfl, hb⟩; have hz := hb.size; (try simp only [World.size_alloc, World.size_setCell, World.size_drew, Nat.add_assoc, Nat.reduceAdd] at hz); (first | obtain ⟨HL, hk⟩ := HL.call hb hz (by simp only [World.size_alloc, World.size_setCell, World.size_drew, Nat.add_assoc, Nat.reduceAdd]) | obtain ⟨HL, hk⟩ := HL.call0 hb hz (by first | rfl | simp only [World.size_alloc, World.size_setCell, World.size_drew, Nat.add_assoc, Nat.reduceAdd])); (try simp only [addN, Nat.add_zero] at HL hk); have hl := HL; simp only [Live] at hl; (try simp only [Kept] at hk)) | (go_at_call 130; (with_reducible refine (join_time _ _ _ _ _ _ _ (by assumption) (by assumption) (by assumption) _).mono ?_); rintro e w' ⟨rfl, hb⟩; have hz := hb.size; (try simp only [World.size_alloc, World.size_setCell, World.size_drew, Nat.add_assoc, Nat.reduceAdd] at hz); (first | obtain ⟨HL, hk⟩ := HL.call hb hz (by simp only [World.size_alloc, World.size_setCell, World.size_drew, Nat.add_assoc, Nat.reduceAdd]) | obtain ⟨HL, hk⟩ := HL.call0 hb hz (by first | rfl | simp only [World.size_alloc, World.size_setCell, World.size_drew, Nat.add_assoc, Nat.reduceAdd])); (try simp only [addN, Nat.add_zero] at HL hk); have hl := HL; simp only [Live] at hl; (try simp only [Kept] at hk)))
    go_ret3
    exact ⟨rfl, by (repeat' (first | (with_reducible exact Below.refl _ _) | (with_reducible refine Below.alloc ?_ ?_ _) | (with_reducible refine Below.setCell ?_ ?_ _) | (with_reducible refine Below.drew ?_) | (with_reducible refine below_drewN' ?_) | (with_reducible refine below_bytesW ?_ ?_) | (with_reducible refine Below.trans ?_ (Below.mono (by assumption) ?_)) | omega | (simp only [World.size_alloc, World.size_setCell, World.size_drew]; omega) | (simp [size_bytesW]; omega) | (simp; omega)))⟩
set_option maxHeartbeats 400000 in
theorem read_yes (Y M D h m s z : Int) (hv : vClk Y M D h m s) (hz : zoneB z = true) (ht : timeB (secs Y M D h m s - 60 * z) = true) (w : World) :
    Calls Tryz.prog 113 #[.agg #[.int .i64 Y, .int .i64 M, .int .i64 D, .int .i64 h, .int .i64 m, .int .i64 s], .int .i64 z, .bool true] w fun e w' => e = .returned (.tuple #[.int .i64 (secs Y M D h m s - 60 * z), .int .i64 z, .int .i64 0]) ∧ Below w.heap.size w w' := by
  have hv' := vClkB_true.2 hv
  have HL : Live w [] := trivial
  go_enter Tryz.func113, Tryz.ntmps113
  go_wp2_with (first | (go_at_call 129; (with_reducible refine (valid_any _ _ _ _ _ _ _).mono ?_); rintro e w' ⟨rfl, hb⟩; have hz := hb.size; (try simp only [World.size_alloc, World.size_setCell, World.size_drew, Nat.add_assoc, Nat.reduceAdd] at hz); (first | obtain ⟨HL, hk⟩ := HL.call hb hz (by simp only [World.size_alloc, World.size_setCell, World.size_drew, Nat.add_assoc, Nat.reduceAdd]) | obtain ⟨HL, hk⟩ := HL.call0 hb hz (by first | rfl | simp only [World.size_alloc, World.size_setCell, World.size_drew, Nat.add_assoc, Nat.reduceAdd])); (try simp only [addN, Nat.add_zero] at HL hk); have hl := HL; simp only [Live] at hl; (try simp only [Kept] at hk)) | (go_at_call 130; (with_reducible refine (join_yes _ _ _ _ _ _ _ (by assumption) (by assumption) (by assumption) _).mono ?_); rintro e w' ⟨rfl, hb⟩; have hz := hb.size; (try simp only [World.size_alloc, World.size_setCell, World.size_drew, Nat.add_assoc, Nat.reduceAdd] at hz); (first | obtain ⟨HL, hk⟩ := HL.call hb hz (by simp only [World.size_alloc, World.size_setCell, World.size_drew, Nat.add_assoc, Nat.reduceAdd]) | obtain ⟨HL, hk⟩ := HL.call0 hb hz (by first | rfl | simp only [World.size_alloc, World.size_setCell, World.size_drew, Nat.add_assoc, Nat.reduceAdd])); (try simp only [addN, Nat.add_zero] at HL hk); have hl := HL; simp only [Live] at hl; (try simp only [Kept] at hk)))
  go_ret3
  exact ⟨rfl, by (repeat' (first | (with_reducible exact Below.refl _ _) | (with_reducible refine Below.alloc ?_ ?_ _) | (with_reducible refine Below.setCell ?_ ?_ _) | (with_reducible refine Below.drew ?_) | (with_reducible refine below_drewN' ?_) | (with_reducible refine below_bytesW ?_ ?_) | (with_reducible refine Below.trans ?_ (Below.mono (by assumption) ?_)) | omega | (simp only [World.size_alloc, World.size_setCell, World.size_drew]; omega) | (simp [size_bytesW]; omega) | (simp; omega)))⟩
end Go.Proofs.YtopajpomhflgbaaGreatDoor.Dt
/- Contracts of the timestamps (Stamp) of package datetime and its reference. -/
namespace Go.Proofs.YtopajpomhflgbaaGreatDoor.Dt
set_option linter.unusedSimpArgs false
set_option linter.unusedVariables false
open Go.RowKit

def stS (Y M D h m s z : Int) : ByteArray := ⟨#[UInt8.ofNat ((4096 + z % 4096) % 256).toNat, UInt8.ofNat ((4096 + z % 4096) / 256).toNat, UInt8.ofNat (Y % 256).toNat, UInt8.ofNat (Y / 256).toNat, UInt8.ofNat M.toNat, UInt8.ofNat D.toNat, UInt8.ofNat h.toNat, UInt8.ofNat m.toNat, UInt8.ofNat s.toNat, UInt8.ofNat 0, UInt8.ofNat 0, UInt8.ofNat 0]⟩
def StP (L z : Int) (w : World) (e : Ending) (w' : World) : Prop :=
  ∃ Y M D h m s : Int, e = .returned (.tuple #[.string (stS Y M D h m s z), .int .i64 0]) ∧ vClk Y M D h m s ∧ secs Y M D h m s = L ∧ Below w.heap.size w w'

end Go.Proofs.YtopajpomhflgbaaGreatDoor.Dt
/- Contracts of read and finish at one answer, for every clock, zone and flag. -/
namespace Go.Proofs.YtopajpomhflgbaaGreatDoor.Dt
set_option linter.unusedSimpArgs false
set_option linter.unusedVariables false
open Go.RowKit

def ro1 (Y M D h m s z : Int) (r : Bool) : Int := if (r && vClkB Y M D h m s && timeB (secs Y M D h m s - 60 * z)) = true then secs Y M D h m s - 60 * z else 0
def ro2 (Y M D h m s z : Int) (r : Bool) : Int := if (r && vClkB Y M D h m s && timeB (secs Y M D h m s - 60 * z)) = true then z else 0
def ro3 (Y M D h m s z : Int) (r : Bool) : Int := if (r && vClkB Y M D h m s) = true then (if timeB (secs Y M D h m s - 60 * z) = true then 0 else 2) else 10
/-- The answer of a reader. -/
def RoP (Y M D h m s z : Int) (r : Bool) (w : World) (e : Ending) (w' : World) : Prop :=
  e = .returned (.tuple #[.int .i64 (ro1 Y M D h m s z r), .int .i64 (ro2 Y M D h m s z r), .int .i64 (ro3 Y M D h m s z r)]) ∧ Below w.heap.size w w'
theorem RoP.bad {Y M D h m s z : Int} {r : Bool} (hb : (r && vClkB Y M D h m s) = false) {w : World} {e : Ending} {w' : World} (he : e = .returned (.tuple #[.int .i64 0, .int .i64 0, .int .i64 10])) (hw : Below w.heap.size w w') : RoP Y M D h m s z r w e w' := by
  refine ⟨?_, hw⟩
  rw [he]; unfold ro1 ro2 ro3; simp [hb]
theorem RoP.range {Y M D h m s z : Int} {r : Bool} (hr : r = true) (hv : vClk Y M D h m s) (ht : timeB (secs Y M D h m s - 60 * z) = false) {w : World} {e : Ending} {w' : World} (he : e = .returned (.tuple #[.int .i64 0, .int .i64 0, .int .i64 2])) (hw : Below w.heap.size w w') : RoP Y M D h m s z r w e w' := by
  refine ⟨?_, hw⟩
  have hv' := vClkB_true.2 hv
  rw [he]; unfold ro1 ro2 ro3; simp [hr, hv', ht]
theorem RoP.yes {Y M D h m s z : Int} {r : Bool} (hr : r = true) (hv : vClk Y M D h m s) (ht : timeB (secs Y M D h m s - 60 * z) = true) {w : World} {e : Ending} {w' : World} (he : e = .returned (.tuple #[.int .i64 (secs Y M D h m s - 60 * z), .int .i64 z, .int .i64 0])) (hw : Below w.heap.size w w') : RoP Y M D h m s z r w e w' := by
  refine ⟨?_, hw⟩
  have hv' := vClkB_true.2 hv
  rw [he]; unfold ro1 ro2 ro3; simp [hr, hv', ht]

theorem read_any (Y M D h m s z : Int) (r : Bool) (hz : r = true → zoneB z = true) (w : World) :
    Calls Tryz.prog 113 #[.agg #[.int .i64 Y, .int .i64 M, .int .i64 D, .int .i64 h, .int .i64 m, .int .i64 s], .int .i64 z, .bool r] w (RoP Y M D h m s z r w) := by
  cases hb : (r && vClkB Y M D h m s)
  · exact (read_bad Y M D h m s z r hb w).mono fun e w' h => RoP.bad hb h.1 h.2
  · simp only [Bool.and_eq_true] at hb
    obtain ⟨rfl, hv⟩ := hb
    have hv := vClkB_true.1 hv
    cases ht : timeB (secs Y M D h m s - 60 * z)
    · exact (read_range Y M D h m s z hv (by rw [ht]; simp) w).mono fun e w' h => RoP.range rfl hv ht h.1 h.2
    · exact (read_yes Y M D h m s z hv (hz rfl) ht w).mono fun e w' h => RoP.yes rfl hv ht h.1 h.2

end Go.Proofs.YtopajpomhflgbaaGreatDoor.Dt
/- Contracts of ReadRecord of package datetime and its reference, for every string. -/
namespace Go.Proofs.YtopajpomhflgbaaGreatDoor.Dt
set_option linter.unusedSimpArgs false
set_option linter.unusedVariables false
open Go.RowKit
open Go.PlainAid (bt get_bt bt_nonneg bt_le)

theorem size_ne {s : ByteArray} {n : Nat} (h : ¬ s.size = n) : ((s.size : Int) == (n : Int)) = false ∧ ((s.size : Int) != (n : Int)) = true := by
  have : ¬ (s.size : Int) = (n : Int) := by omega
  simp [this]
theorem qB_zone {v : Int} (h : qB (sg v) = true) : zoneB (15 * sg v) = true := by
  unfold qB at h
  have h := of_decide_eq_true h
  exact zoneB_true.2 (by omega)

set_option maxHeartbeats 400000 in
theorem readRecord_no (s : ByteArray) (hs : ¬ s.size = 7) (w : World) : Calls Tryz.prog 82 #[.string s] w fun e w' => e = .returned (.tuple #[.int .i64 0, .int .i64 0, .int .i64 1]) ∧ Below w.heap.size w w' := by
  obtain ⟨h1, h2⟩ := size_ne hs
  have HL : Live w [] := trivial
  go_enter Tryz.func82, Tryz.ntmps82
  go_wp2
  go_ret3
  exact ⟨rfl, by (repeat' (first | (with_reducible exact Below.refl _ _) | (with_reducible refine Below.alloc ?_ ?_ _) | (with_reducible refine Below.setCell ?_ ?_ _) | (with_reducible refine Below.drew ?_) | (with_reducible refine below_drewN' ?_) | (with_reducible refine below_bytesW ?_ ?_) | (with_reducible refine Below.trans ?_ (Below.mono (by assumption) ?_)) | omega | (simp only [World.size_alloc, World.size_setCell, World.size_drew]; omega) | (simp [size_bytesW]; omega) | (simp; omega)))⟩
set_option maxHeartbeats 1000000 in
theorem readRecord_yes (s : ByteArray) (hs : s.size = 7) (w : World) : Calls Tryz.prog 82 #[.string s] w (RoP (1900 + bt s 0) (bt s 1) (bt s 2) (bt s 3) (bt s 4) (bt s 5) (15 * sg (bt s 6)) (qB (sg (bt s 6))) w) := by
  have hg := get_bt s
  have b0 := bt_nonneg s 0
  have b0' := bt_le s 0
  have b6 := bt_nonneg s 6
  have b6' := bt_le s 6
  have RD := hide (fun W => read_any (1900 + bt s 0) (bt s 1) (bt s 2) (bt s 3) (bt s 4) (bt s 5) (15 * sg (bt s 6)) (qB (sg (bt s 6))) qB_zone W)
  have HL : Live w [] := trivial
  go_enter Tryz.func82, Tryz.ntmps82
  go_wp2_with (first | (go_at_call 112; (with_reducible refine (quarter_any _ (by omega) _).mono ?_); rintro e w' ⟨rfl, rfl⟩))
  have wb : ∀ j, IntKind.i64.wrap (bt s j) = bt s j := fun j => IntWalk.i64_in _ ⟨by have := bt_nonneg s j; omega, by have := bt_le s j; omega⟩
  have ws : IntKind.i64.wrap (1900 + bt s 0) = 1900 + bt s 0 := IntWalk.i64_in _ (by omega)
  refine wp_region_noPanic ?_
  refine wp_region_held_drew (S := (fun _ => True ∧ True)) (by kernel_rfl) (by (try dsimp only); first | assumption | (simp [*, go_sem]; done) | (refine ⟨?_, ?_⟩ <;> simp [*, go_sem])) (fun hHeld => ?_)
  refine wpAnyH_take (i := 0) (oi := { dst := some 16, op := Go.Op.move (Go.Operand.tmp 0), type := 9, pos := "datetime.go:134", after := #[], guard := none }) (v := ?_) rfl (by kernel_rfl) (by kernel_rfl) (by kernel_rfl) (fun _ _ _ h => h) (Or.inl ⟨by rfl, ?_⟩) (by assumption) ?_
  rotate_left
  · intro w hSw; (try dsimp only at hSw); go_simp; (try with_reducible rfl)
  try simp only [Act.put, List.setIfInBounds_toArray, List.set_cons_zero, List.set_cons_succ]
  refine wpAnyH_take (i := 1) (oi := { dst := some 17, op := Go.Op.index 9 (Go.Operand.tmp 16) (Go.Operand.const (Go.Value.int Go.IntKind.i64 0)), type := 5, pos := "datetime.go:134", after := #[{ on := 0, ground := Go.Ground.data }], guard := none }) (v := ?_) rfl (by kernel_rfl) (by kernel_rfl) (by kernel_rfl) (fun _ _ _ h => h) (Or.inl ⟨by rfl, ?_⟩) (by assumption) ?_
  rotate_left
  · intro w hSw; (try dsimp only at hSw); go_simp; (try with_reducible rfl)
  try simp only [Act.put, List.setIfInBounds_toArray, List.set_cons_zero, List.set_cons_succ]
  refine wpAnyH_take (i := 2) (oi := { dst := some 18, op := Go.Op.convert 5 3 (Go.Operand.tmp 17), type := 3, pos := "datetime.go:134", after := #[{ on := 1, ground := Go.Ground.data }], guard := none }) (v := ?_) rfl (by kernel_rfl) (by kernel_rfl) (by kernel_rfl) (fun _ _ _ h => h) (Or.inl ⟨by rfl, ?_⟩) (by assumption) ?_
  rotate_left
  · intro w hSw; (try dsimp only at hSw); go_simp; (try with_reducible rfl)
  try simp only [Act.put, List.setIfInBounds_toArray, List.set_cons_zero, List.set_cons_succ]
  refine wpAnyH_take (i := 3) (oi := { dst := some 19, op := Go.Op.binOp Go.BinOp.add 3 (Go.Operand.const (Go.Value.int Go.IntKind.i64 1900)) (Go.Operand.tmp 18) 3, type := 3, pos := "datetime.go:134", after := #[{ on := 2, ground := Go.Ground.data }], guard := none }) (v := ?_) rfl (by kernel_rfl) (by kernel_rfl) (by kernel_rfl) (fun _ _ _ h => h) (Or.inl ⟨by rfl, ?_⟩) (by assumption) ?_
  rotate_left
  · intro w hSw; (try dsimp only at hSw); go_simp; (try with_reducible rfl)
  try simp only [Act.put, List.setIfInBounds_toArray, List.set_cons_zero, List.set_cons_succ]
  refine wpAnyH_take (i := 4) (oi := { dst := some 20, op := Go.Op.move (Go.Operand.tmp 0), type := 9, pos := "datetime.go:134", after := #[], guard := none }) (v := ?_) rfl (by kernel_rfl) (by kernel_rfl) (by kernel_rfl) (fun _ _ _ h => h) (Or.inl ⟨by rfl, ?_⟩) (by assumption) ?_
  rotate_left
  · intro w hSw; (try dsimp only at hSw); go_simp; (try with_reducible rfl)
  try simp only [Act.put, List.setIfInBounds_toArray, List.set_cons_zero, List.set_cons_succ]
  refine wpAnyH_take (i := 5) (oi := { dst := some 21, op := Go.Op.index 9 (Go.Operand.tmp 20) (Go.Operand.const (Go.Value.int Go.IntKind.i64 1)), type := 5, pos := "datetime.go:134", after := #[{ on := 4, ground := Go.Ground.data }], guard := none }) (v := ?_) rfl (by kernel_rfl) (by kernel_rfl) (by kernel_rfl) (fun _ _ _ h => h) (Or.inl ⟨by rfl, ?_⟩) (by assumption) ?_
  rotate_left
  · intro w hSw; (try dsimp only at hSw); go_simp; (try with_reducible rfl)
  try simp only [Act.put, List.setIfInBounds_toArray, List.set_cons_zero, List.set_cons_succ]
  refine wpAnyH_take (i := 6) (oi := { dst := some 22, op := Go.Op.convert 5 3 (Go.Operand.tmp 21), type := 3, pos := "datetime.go:134", after := #[{ on := 5, ground := Go.Ground.data }], guard := none }) (v := ?_) rfl (by kernel_rfl) (by kernel_rfl) (by kernel_rfl) (fun _ _ _ h => h) (Or.inl ⟨by rfl, ?_⟩) (by assumption) ?_
  rotate_left
  · intro w hSw; (try dsimp only at hSw); go_simp; (try with_reducible rfl)
  try simp only [Act.put, List.setIfInBounds_toArray, List.set_cons_zero, List.set_cons_succ]
  refine wpAnyH_take (i := 7) (oi := { dst := some 23, op := Go.Op.move (Go.Operand.tmp 0), type := 9, pos := "datetime.go:134", after := #[], guard := none }) (v := ?_) rfl (by kernel_rfl) (by kernel_rfl) (by kernel_rfl) (fun _ _ _ h => h) (Or.inl ⟨by rfl, ?_⟩) (by assumption) ?_
  rotate_left
  · intro w hSw; (try dsimp only at hSw); go_simp; (try with_reducible rfl)
  try simp only [Act.put, List.setIfInBounds_toArray, List.set_cons_zero, List.set_cons_succ]
  refine wpAnyH_take (i := 8) (oi := { dst := some 24, op := Go.Op.index 9 (Go.Operand.tmp 23) (Go.Operand.const (Go.Value.int Go.IntKind.i64 2)), type := 5, pos := "datetime.go:134", after := #[{ on := 7, ground := Go.Ground.data }], guard := none }) (v := ?_) rfl (by kernel_rfl) (by kernel_rfl) (by kernel_rfl) (fun _ _ _ h => h) (Or.inl ⟨by rfl, ?_⟩) (by assumption) ?_
  rotate_left
  · intro w hSw; (try dsimp only at hSw); go_simp; (try with_reducible rfl)
  try simp only [Act.put, List.setIfInBounds_toArray, List.set_cons_zero, List.set_cons_succ]
  refine wpAnyH_take (i := 9) (oi := { dst := some 25, op := Go.Op.convert 5 3 (Go.Operand.tmp 24), type := 3, pos := "datetime.go:134", after := #[{ on := 8, ground := Go.Ground.data }], guard := none }) (v := ?_) rfl (by kernel_rfl) (by kernel_rfl) (by kernel_rfl) (fun _ _ _ h => h) (Or.inl ⟨by rfl, ?_⟩) (by assumption) ?_
  rotate_left
  · intro w hSw; (try dsimp only at hSw); go_simp; (try with_reducible rfl)
  try simp only [Act.put, List.setIfInBounds_toArray, List.set_cons_zero, List.set_cons_succ]
  refine wpAnyH_take (i := 10) (oi := { dst := some 26, op := Go.Op.move (Go.Operand.tmp 0), type := 9, pos := "datetime.go:134", after := #[], guard := none }) (v := ?_) rfl (by kernel_rfl) (by kernel_rfl) (by kernel_rfl) (fun _ _ _ h => h) (Or.inl ⟨by rfl, ?_⟩) (by assumption) ?_
  rotate_left
  · intro w hSw; (try dsimp only at hSw); go_simp; (try with_reducible rfl)
  try simp only [Act.put, List.setIfInBounds_toArray, List.set_cons_zero, List.set_cons_succ]
  refine wpAnyH_take (i := 11) (oi := { dst := some 27, op := Go.Op.index 9 (Go.Operand.tmp 26) (Go.Operand.const (Go.Value.int Go.IntKind.i64 3)), type := 5, pos := "datetime.go:134", after := #[{ on := 10, ground := Go.Ground.data }], guard := none }) (v := ?_) rfl (by kernel_rfl) (by kernel_rfl) (by kernel_rfl) (fun _ _ _ h => h) (Or.inl ⟨by rfl, ?_⟩) (by assumption) ?_
  rotate_left
  · intro w hSw; (try dsimp only at hSw); go_simp; (try with_reducible rfl)
  try simp only [Act.put, List.setIfInBounds_toArray, List.set_cons_zero, List.set_cons_succ]
  refine wpAnyH_take (i := 12) (oi := { dst := some 28, op := Go.Op.convert 5 3 (Go.Operand.tmp 27), type := 3, pos := "datetime.go:134", after := #[{ on := 11, ground := Go.Ground.data }], guard := none }) (v := ?_) rfl (by kernel_rfl) (by kernel_rfl) (by kernel_rfl) (fun _ _ _ h => h) (Or.inl ⟨by rfl, ?_⟩) (by assumption) ?_
  rotate_left
  · intro w hSw; (try dsimp only at hSw); go_simp; (try with_reducible rfl)
  try simp only [Act.put, List.setIfInBounds_toArray, List.set_cons_zero, List.set_cons_succ]
  refine wpAnyH_take (i := 13) (oi := { dst := some 29, op := Go.Op.move (Go.Operand.tmp 0), type := 9, pos := "datetime.go:134", after := #[], guard := none }) (v := ?_) rfl (by kernel_rfl) (by kernel_rfl) (by kernel_rfl) (fun _ _ _ h => h) (Or.inl ⟨by rfl, ?_⟩) (by assumption) ?_
  rotate_left
  · intro w hSw; (try dsimp only at hSw); go_simp; (try with_reducible rfl)
  try simp only [Act.put, List.setIfInBounds_toArray, List.set_cons_zero, List.set_cons_succ]
  refine wpAnyH_take (i := 14) (oi := { dst := some 30, op := Go.Op.index 9 (Go.Operand.tmp 29) (Go.Operand.const (Go.Value.int Go.IntKind.i64 4)), type := 5, pos := "datetime.go:134", after := #[{ on := 13, ground := Go.Ground.data }], guard := none }) (v := ?_) rfl (by kernel_rfl) (by kernel_rfl) (by kernel_rfl) (fun _ _ _ h => h) (Or.inl ⟨by rfl, ?_⟩) (by assumption) ?_
  rotate_left
  · intro w hSw; (try dsimp only at hSw); go_simp; (try with_reducible rfl)
  try simp only [Act.put, List.setIfInBounds_toArray, List.set_cons_zero, List.set_cons_succ]
  refine wpAnyH_take (i := 15) (oi := { dst := some 31, op := Go.Op.convert 5 3 (Go.Operand.tmp 30), type := 3, pos := "datetime.go:134", after := #[{ on := 14, ground := Go.Ground.data }], guard := none }) (v := ?_) rfl (by kernel_rfl) (by kernel_rfl) (by kernel_rfl) (fun _ _ _ h => h) (Or.inl ⟨by rfl, ?_⟩) (by assumption) ?_
  rotate_left
  · intro w hSw; (try dsimp only at hSw); go_simp; (try with_reducible rfl)
  try simp only [Act.put, List.setIfInBounds_toArray, List.set_cons_zero, List.set_cons_succ]
  refine wpAnyH_take (i := 16) (oi := { dst := some 32, op := Go.Op.move (Go.Operand.tmp 0), type := 9, pos := "datetime.go:134", after := #[], guard := none }) (v := ?_) rfl (by kernel_rfl) (by kernel_rfl) (by kernel_rfl) (fun _ _ _ h => h) (Or.inl ⟨by rfl, ?_⟩) (by assumption) ?_
  rotate_left
  · intro w hSw; (try dsimp only at hSw); go_simp; (try with_reducible rfl)
  try simp only [Act.put, List.setIfInBounds_toArray, List.set_cons_zero, List.set_cons_succ]
  refine wpAnyH_take (i := 17) (oi := { dst := some 33, op := Go.Op.index 9 (Go.Operand.tmp 32) (Go.Operand.const (Go.Value.int Go.IntKind.i64 5)), type := 5, pos := "datetime.go:134", after := #[{ on := 16, ground := Go.Ground.data }], guard := none }) (v := ?_) rfl (by kernel_rfl) (by kernel_rfl) (by kernel_rfl) (fun _ _ _ h => h) (Or.inl ⟨by rfl, ?_⟩) (by assumption) ?_
  rotate_left
  · intro w hSw; (try dsimp only at hSw); go_simp; (try with_reducible rfl)
  try simp only [Act.put, List.setIfInBounds_toArray, List.set_cons_zero, List.set_cons_succ]
  refine wpAnyH_take (i := 18) (oi := { dst := some 34, op := Go.Op.convert 5 3 (Go.Operand.tmp 33), type := 3, pos := "datetime.go:134", after := #[{ on := 17, ground := Go.Ground.data }], guard := none }) (v := ?_) rfl (by kernel_rfl) (by kernel_rfl) (by kernel_rfl) (fun _ _ _ h => h) (Or.inl ⟨by rfl, ?_⟩) (by assumption) ?_
  rotate_left
  · intro w hSw; (try dsimp only at hSw); go_simp; (try with_reducible rfl)
  try simp only [Act.put, List.setIfInBounds_toArray, List.set_cons_zero, List.set_cons_succ]
  refine wpAnyH_take (i := 19) (oi := { dst := some 35, op := Go.Op.build 96 #[(0, Go.Operand.tmp 19), (1, Go.Operand.tmp 22), (2, Go.Operand.tmp 25), (3, Go.Operand.tmp 28), (4, Go.Operand.tmp 31), (5, Go.Operand.tmp 34)], type := 96, pos := "datetime.go:134", after := #[{ on := 3, ground := Go.Ground.data }, { on := 6, ground := Go.Ground.data }, { on := 9, ground := Go.Ground.data }, { on := 12, ground := Go.Ground.data }, { on := 15, ground := Go.Ground.data }, { on := 18, ground := Go.Ground.data }], guard := none }) (v := ?_) rfl (by kernel_rfl) (by kernel_rfl) (by kernel_rfl) (fun _ _ _ h => h) (Or.inl ⟨by rfl, ?_⟩) (by assumption) ?_
  rotate_left
  · intro w hSw; (try dsimp only at hSw); go_simp; (try with_reducible rfl)
  try simp only [Act.put, List.setIfInBounds_toArray, List.set_cons_zero, List.set_cons_succ]
  refine wpAnyH_take (i := 20) (oi := { dst := some 36, op := Go.Op.move (Go.Operand.tmp 5), type := 3, pos := "datetime.go:134", after := #[], guard := none }) (v := ?_) rfl (by kernel_rfl) (by kernel_rfl) (by kernel_rfl) (fun _ _ _ h => h) (Or.inl ⟨by rfl, ?_⟩) (by assumption) ?_
  rotate_left
  · intro w hSw; (try dsimp only at hSw); go_simp; (try with_reducible rfl)
  try simp only [Act.put, List.setIfInBounds_toArray, List.set_cons_zero, List.set_cons_succ]
  refine wpAnyH_take (i := 21) (oi := { dst := some 37, op := Go.Op.move (Go.Operand.tmp 6), type := 4, pos := "datetime.go:134", after := #[], guard := none }) (v := ?_) rfl (by kernel_rfl) (by kernel_rfl) (by kernel_rfl) (fun _ _ _ h => h) (Or.inl ⟨by rfl, ?_⟩) (by assumption) ?_
  rotate_left
  · intro w hSw; (try dsimp only at hSw); go_simp; (try with_reducible rfl)
  try simp only [Act.put, List.setIfInBounds_toArray, List.set_cons_zero, List.set_cons_succ]
  refine wpAnyH_ready (rs := [22]) (by kernel_rfl) (by simp) ?_
  refine AllReadyH.cons (o := { dst := some 38, op := Go.Op.call { callee := Go.Callee.value (Go.Operand.func 113), args := #[Go.Operand.tmp 35, Go.Operand.tmp 36, Go.Operand.tmp 37], argTypes := #[96, 3, 4] }, type := 111, pos := "datetime.go:134", after := #[{ on := 19, ground := Go.Ground.data }, { on := 20, ground := Go.Ground.data }, { on := 21, ground := Go.Ground.data }], guard := none }) rfl (fun K hK => ?_) AllReadyH.nil
  go_simp
  (first | (go_at_call 113; (with_reducible refine (RD.out _).mono ?_); rintro e w' ⟨rfl, hb⟩; have hz := hb.size))
  go_wp2_with fail
  refine hK.out _ _ (by (try dsimp only); first | assumption | (simp [*, go_sem]; done) | (refine ⟨?_, ?_⟩ <;> simp [*, go_sem])) (fun hHeld => ?_)
  clear hK K
  try simp only [Act.put, List.setIfInBounds_toArray, List.set_cons_zero, List.set_cons_succ]
  refine wpAnyH_take (i := 23) (oi := { dst := some 39, op := Go.Op.extract (Go.Operand.tmp 38) 0, type := 3, pos := "datetime.go:134", after := #[{ on := 22, ground := Go.Ground.data }], guard := none }) (v := ?_) rfl (by kernel_rfl) (by kernel_rfl) (by kernel_rfl) (fun _ _ _ h => h) (Or.inl ⟨by rfl, ?_⟩) (by assumption) ?_
  rotate_left
  · intro w hSw; (try dsimp only at hSw); go_simp; (try with_reducible rfl)
  try simp only [Act.put, List.setIfInBounds_toArray, List.set_cons_zero, List.set_cons_succ]
  refine wpAnyH_take (i := 24) (oi := { dst := some 40, op := Go.Op.extract (Go.Operand.tmp 38) 1, type := 3, pos := "datetime.go:134", after := #[{ on := 22, ground := Go.Ground.data }], guard := none }) (v := ?_) rfl (by kernel_rfl) (by kernel_rfl) (by kernel_rfl) (fun _ _ _ h => h) (Or.inl ⟨by rfl, ?_⟩) (by assumption) ?_
  rotate_left
  · intro w hSw; (try dsimp only at hSw); go_simp; (try with_reducible rfl)
  try simp only [Act.put, List.setIfInBounds_toArray, List.set_cons_zero, List.set_cons_succ]
  refine wpAnyH_take (i := 25) (oi := { dst := some 41, op := Go.Op.extract (Go.Operand.tmp 38) 2, type := 27, pos := "datetime.go:134", after := #[{ on := 22, ground := Go.Ground.data }], guard := none }) (v := ?_) rfl (by kernel_rfl) (by kernel_rfl) (by kernel_rfl) (fun _ _ _ h => h) (Or.inl ⟨by rfl, ?_⟩) (by assumption) ?_
  rotate_left
  · intro w hSw; (try dsimp only at hSw); go_simp; (try with_reducible rfl)
  try simp only [Act.put, List.setIfInBounds_toArray, List.set_cons_zero, List.set_cons_succ]
  refine wpAnyH_take (i := 26) (oi := { dst := some 2, op := Go.Op.assign (Go.Operand.tmp 39), type := 3, pos := "datetime.go:134", after := #[{ on := 23, ground := Go.Ground.data }, { on := 22, ground := Go.Ground.chain }, { on := 0, ground := Go.Ground.phase }, { on := 1, ground := Go.Ground.phase }, { on := 2, ground := Go.Ground.phase }, { on := 3, ground := Go.Ground.phase }, { on := 4, ground := Go.Ground.phase }, { on := 5, ground := Go.Ground.phase }, { on := 6, ground := Go.Ground.phase }, { on := 7, ground := Go.Ground.phase }, { on := 8, ground := Go.Ground.phase }, { on := 9, ground := Go.Ground.phase }, { on := 10, ground := Go.Ground.phase }, { on := 11, ground := Go.Ground.phase }, { on := 12, ground := Go.Ground.phase }, { on := 13, ground := Go.Ground.phase }, { on := 14, ground := Go.Ground.phase }, { on := 15, ground := Go.Ground.phase }, { on := 16, ground := Go.Ground.phase }, { on := 17, ground := Go.Ground.phase }, { on := 18, ground := Go.Ground.phase }, { on := 19, ground := Go.Ground.phase }, { on := 20, ground := Go.Ground.phase }, { on := 21, ground := Go.Ground.phase }, { on := 22, ground := Go.Ground.phase }, { on := 23, ground := Go.Ground.phase }, { on := 24, ground := Go.Ground.phase }, { on := 25, ground := Go.Ground.phase }], guard := none }) (v := ?_) rfl (by kernel_rfl) (by kernel_rfl) (by kernel_rfl) (fun _ _ _ h => h) (Or.inl ⟨by rfl, ?_⟩) (by assumption) ?_
  rotate_left
  · intro w hSw; (try dsimp only at hSw); go_simp; (try with_reducible rfl)
  try simp only [Act.put, List.setIfInBounds_toArray, List.set_cons_zero, List.set_cons_succ]
  refine wpAnyH_take (i := 27) (oi := { dst := some 3, op := Go.Op.assign (Go.Operand.tmp 40), type := 3, pos := "datetime.go:134", after := #[{ on := 24, ground := Go.Ground.data }, { on := 26, ground := Go.Ground.chain }, { on := 0, ground := Go.Ground.phase }, { on := 1, ground := Go.Ground.phase }, { on := 2, ground := Go.Ground.phase }, { on := 3, ground := Go.Ground.phase }, { on := 4, ground := Go.Ground.phase }, { on := 5, ground := Go.Ground.phase }, { on := 6, ground := Go.Ground.phase }, { on := 7, ground := Go.Ground.phase }, { on := 8, ground := Go.Ground.phase }, { on := 9, ground := Go.Ground.phase }, { on := 10, ground := Go.Ground.phase }, { on := 11, ground := Go.Ground.phase }, { on := 12, ground := Go.Ground.phase }, { on := 13, ground := Go.Ground.phase }, { on := 14, ground := Go.Ground.phase }, { on := 15, ground := Go.Ground.phase }, { on := 16, ground := Go.Ground.phase }, { on := 17, ground := Go.Ground.phase }, { on := 18, ground := Go.Ground.phase }, { on := 19, ground := Go.Ground.phase }, { on := 20, ground := Go.Ground.phase }, { on := 21, ground := Go.Ground.phase }, { on := 22, ground := Go.Ground.phase }, { on := 23, ground := Go.Ground.phase }, { on := 24, ground := Go.Ground.phase }, { on := 25, ground := Go.Ground.phase }, { on := 26, ground := Go.Ground.phase }], guard := none }) (v := ?_) rfl (by kernel_rfl) (by kernel_rfl) (by kernel_rfl) (fun _ _ _ h => h) (Or.inl ⟨by rfl, ?_⟩) (by assumption) ?_
  rotate_left
  · intro w hSw; (try dsimp only at hSw); go_simp; (try with_reducible rfl)
  try simp only [Act.put, List.setIfInBounds_toArray, List.set_cons_zero, List.set_cons_succ]
  refine wpAnyH_take (i := 28) (oi := { dst := some 4, op := Go.Op.assign (Go.Operand.tmp 41), type := 27, pos := "datetime.go:134", after := #[{ on := 25, ground := Go.Ground.data }, { on := 27, ground := Go.Ground.chain }, { on := 0, ground := Go.Ground.phase }, { on := 1, ground := Go.Ground.phase }, { on := 2, ground := Go.Ground.phase }, { on := 3, ground := Go.Ground.phase }, { on := 4, ground := Go.Ground.phase }, { on := 5, ground := Go.Ground.phase }, { on := 6, ground := Go.Ground.phase }, { on := 7, ground := Go.Ground.phase }, { on := 8, ground := Go.Ground.phase }, { on := 9, ground := Go.Ground.phase }, { on := 10, ground := Go.Ground.phase }, { on := 11, ground := Go.Ground.phase }, { on := 12, ground := Go.Ground.phase }, { on := 13, ground := Go.Ground.phase }, { on := 14, ground := Go.Ground.phase }, { on := 15, ground := Go.Ground.phase }, { on := 16, ground := Go.Ground.phase }, { on := 17, ground := Go.Ground.phase }, { on := 18, ground := Go.Ground.phase }, { on := 19, ground := Go.Ground.phase }, { on := 20, ground := Go.Ground.phase }, { on := 21, ground := Go.Ground.phase }, { on := 22, ground := Go.Ground.phase }, { on := 23, ground := Go.Ground.phase }, { on := 24, ground := Go.Ground.phase }, { on := 25, ground := Go.Ground.phase }, { on := 26, ground := Go.Ground.phase }, { on := 27, ground := Go.Ground.phase }], guard := none }) (v := ?_) rfl (by kernel_rfl) (by kernel_rfl) (by kernel_rfl) (fun _ _ _ h => h) (Or.inl ⟨by rfl, ?_⟩) (by assumption) ?_
  rotate_left
  · intro w hSw; (try dsimp only at hSw); go_simp; (try with_reducible rfl)
  try simp only [Act.put, List.setIfInBounds_toArray, List.set_cons_zero, List.set_cons_succ]
  refine wpAnyH_done (by kernel_rfl) ?_ _
  refine NoPanic.normal ?_
  clear wb ws
  all_goals (go_wp2; go_ret3; exact ⟨rfl, by (repeat' (first | (with_reducible exact Below.refl _ _) | (with_reducible refine Below.alloc ?_ ?_ _) | (with_reducible refine Below.setCell ?_ ?_ _) | (with_reducible refine Below.drew ?_) | (with_reducible refine below_drewN' ?_) | (with_reducible refine below_bytesW ?_ ?_) | (with_reducible refine Below.trans ?_ (Below.mono (by assumption) ?_)) | omega | (simp only [World.size_alloc, World.size_setCell, World.size_drew]; omega) | (simp [size_bytesW]; omega) | (simp; omega)))⟩)

end Go.Proofs.YtopajpomhflgbaaGreatDoor.Dt
/- Record and ReadRecord at zone 0: the bytes of a time. -/
namespace Go.Proofs.YtopajpomhflgbaaGreatDoor.Dt
set_option linter.unusedSimpArgs false
set_option linter.unusedVariables false
open Go.RowKit
open Go.PlainAid (bt get_bt bt_nonneg bt_le)

theorem bt_lit (l : List UInt8) (i : Nat) (x : UInt8) (h : l[i]? = some x) : bt ⟨l.toArray⟩ i = (x.toNat : Int) := by
  obtain ⟨hi, hx⟩ := List.getElem?_eq_some_iff.1 h
  unfold bt
  rw [dif_pos (show i < (ByteArray.mk l.toArray).size from hi)]
  show (((l.toArray)[i]).toNat : Int) = _
  simp [hx]
theorem u8v (v : Int) (h : 0 ≤ v ∧ v ≤ 255) : ((UInt8.ofNat v.toNat).toNat : Int) = v := by
  rw [UInt8.toNat_ofNat']; omega
theorem bt_at (l : List UInt8) (i : Nat) (v : Int) (h : l[i]? = some (UInt8.ofNat v.toNat)) (hv : 0 ≤ v ∧ v ≤ 255) : bt ⟨l.toArray⟩ i = v := (bt_lit l i _ h).trans (u8v v hv)

theorem ro_yes {Y M D h m s z t : Int} (hv : vClk Y M D h m s) (he : secs Y M D h m s = t + 60 * z) (ht : 315532800 ≤ t ∧ t ≤ 4102444799) :
    ro1 Y M D h m s z true = t ∧ ro2 Y M D h m s z true = z ∧ ro3 Y M D h m s z true = 0 := by
  have hv' := vClkB_true.2 hv
  have e1 : secs Y M D h m s - 60 * z = t := by omega
  have tb := timeB_true.2 ht
  unfold ro1 ro2 ro3
  rw [e1, hv', tb]
  exact ⟨rfl, rfl, rfl⟩
theorem readRecord_at (t z q Y M D h m s : Int) (hv : vClk Y M D h m s) (he : secs Y M D h m s = t + 60 * z) (ht : 315532800 ≤ t ∧ t ≤ 4102444799) (hz : z = 15 * q) (hq : -48 ≤ q ∧ q ≤ 52) (w : World) :
    Calls Tryz.prog 82 #[.string (recS Y M D h m s q)] w fun e w' => e = .returned (.tuple #[.int .i64 t, .int .i64 z, .int .i64 0]) ∧ Below w.heap.size w w' := by
  have hvv := hv
  unfold vClk at hvv
  have hmd := mdays_bd Y M
  refine (readRecord_yes _ rfl w).mono fun e w' ⟨h1, h2⟩ => ⟨?_, h2⟩
  have b0 : bt (recS Y M D h m s q) 0 = Y - 1900 := bt_at _ 0 _ rfl (by omega)
  have b1 : bt (recS Y M D h m s q) 1 = M := bt_at _ 1 _ rfl (by omega)
  have b2 : bt (recS Y M D h m s q) 2 = D := bt_at _ 2 _ rfl (by omega)
  have b3 : bt (recS Y M D h m s q) 3 = h := bt_at _ 3 _ rfl (by omega)
  have b4 : bt (recS Y M D h m s q) 4 = m := bt_at _ 4 _ rfl (by omega)
  have b5 : bt (recS Y M D h m s q) 5 = s := bt_at _ 5 _ rfl (by omega)
  have b6 : bt (recS Y M D h m s q) 6 = q % 256 := bt_at _ 6 _ rfl (by omega)
  have sq : sg (q % 256) = q := by unfold sg; split <;> omega
  have qb : qB q = true := decide_eq_true hq
  have ey : 1900 + (Y - 1900) = Y := by omega
  rw [h1, b0, b1, b2, b3, b4, b5, b6, sq, qb, ey, ← hz]
  obtain ⟨r1, r2, r3⟩ := ro_yes hv he ht
  rw [r1, r2, r3]


def yrF (n : Int) : Nat → Int
  | 0 => 1970
  | k + 1 => if dby (1970 + ((k + 1 : Nat) : Int)) ≤ n then 1970 + ((k + 1 : Nat) : Int) else yrF n k
def moF (y n : Int) : Nat → Int
  | 0 => 1
  | k + 1 => if cum y (1 + ((k + 1 : Nat) : Int)) ≤ n then 1 + ((k + 1 : Nat) : Int) else moF y n k
theorem yr_ok (n : Int) (h0 : dby 1970 ≤ n) : ∀ k : Nat, n < dby (1970 + ((k + 1 : Nat) : Int)) → 1970 ≤ yrF n k ∧ yrF n k ≤ 1970 + k ∧ dby (yrF n k) ≤ n ∧ n < dby (yrF n k + 1)
  | 0, h => ⟨by simp [yrF], by simp [yrF], h0, h⟩
  | k + 1, h => by
    unfold yrF
    split
    · rename_i hk
      exact ⟨by omega, by omega, hk, by rw [show (1970 : Int) + ((k + 1 : Nat) : Int) + 1 = 1970 + ((k + 1 + 1 : Nat) : Int) from by omega]; exact h⟩
    · rename_i hk
      obtain ⟨h1, h2, h3, h4⟩ := yr_ok n h0 k (by omega)
      exact ⟨h1, by omega, h3, h4⟩
theorem mo_ok (y n : Int) (h0 : 0 ≤ n) : ∀ k : Nat, n < cum y (1 + ((k + 1 : Nat) : Int)) → 1 ≤ moF y n k ∧ moF y n k ≤ 1 + k ∧ cum y (moF y n k) ≤ n ∧ n < cum y (moF y n k + 1)
  | 0, h => ⟨by simp [moF], by simp [moF], by simp [moF, cum_one]; exact h0, h⟩
  | k + 1, h => by
    unfold moF
    split
    · rename_i hk
      exact ⟨by omega, by omega, hk, by rw [show (1 : Int) + ((k + 1 : Nat) : Int) + 1 = 1 + ((k + 1 + 1 : Nat) : Int) from by omega]; exact h⟩
    · rename_i hk
      obtain ⟨h1, h2, h3, h4⟩ := mo_ok y n h0 k (by omega)
      exact ⟨h1, by omega, h3, h4⟩
def Clk (L Y M D h m s : Int) : Prop := vClk Y M D h m s ∧ secs Y M D h m s = L
def yOf (t : Int) : Int := yrF (t / 86400 + 719528) 130
def mOf (t : Int) : Int := moF (yOf t) (t / 86400 + 719528 - dby (yOf t)) 11
theorem clk_of (t : Int) (ht : 315532800 ≤ t ∧ t ≤ 4102444799) : Clk t (yOf t) (mOf t) (t / 86400 + 719528 - dby (yOf t) - cum (yOf t) (mOf t) + 1) (t % 86400 / 3600) (t % 86400 / 60 % 60) (t % 86400 % 60) := by
  obtain ⟨h1, h2, h3, h4⟩ := yr_ok (t / 86400 + 719528) (by rw [dby1970]; omega) 130 (by
    rw [show (1970 : Int) + ((130 + 1 : Nat) : Int) = 2101 from rfl]
    have : 767300 ≤ dby 2101 := by decide +kernel
    omega)
  have hy : yrF (t / 86400 + 719528) 130 = yOf t := rfl
  rw [hy] at h1 h2 h3 h4
  rw [dby_succ] at h4
  obtain ⟨h5, h6, h7, h8⟩ := mo_ok (yOf t) (t / 86400 + 719528 - dby (yOf t)) (by omega) 11 (by
    rw [show (1 : Int) + ((11 + 1 : Nat) : Int) = 13 from rfl, cum_end]; omega)
  have hm : moF (yOf t) (t / 86400 + 719528 - dby (yOf t)) 11 = mOf t := rfl
  rw [hm] at h5 h6 h7 h8
  rw [cum_succ _ _ h5 (by omega)] at h8
  exact split_fin (by omega) (by omega) h1 (by omega) h5 (by omega) (by omega) (by omega) (by omega)
/-- The seven bytes of a time at zone 0. -/
def recT (t : Int) : ByteArray := recS (yOf t) (mOf t) (t / 86400 + 719528 - dby (yOf t) - cum (yOf t) (mOf t) + 1) (t % 86400 / 3600) (t % 86400 / 60 % 60) (t % 86400 % 60) 0
theorem recT_ex (t : Int) (ht : 315532800 ≤ t ∧ t ≤ 4102444799) : ∃ Y M D h m s, Clk t Y M D h m s ∧ recT t = recS Y M D h m s 0 := ⟨_, _, _, _, _, _, clk_of t ht, rfl⟩
theorem recT_eq {t Y M D h m s : Int} (ht : 315532800 ≤ t ∧ t ≤ 4102444799) (hc : Clk t Y M D h m s) : recS Y M D h m s 0 = recT t := by
  obtain ⟨Y', M', D', h', m', s', hc', e⟩ := recT_ex t ht
  obtain ⟨rfl, rfl, rfl, rfl, rfl, rfl⟩ := secs_inj hc.1 hc'.1 (hc.2.trans hc'.2.symm)
  exact e.symm
theorem recT_size (t : Int) (ht : 315532800 ≤ t ∧ t ≤ 4102444799) : (recT t).size = 7 := by
  obtain ⟨Y, M, D, h, m, s, _, e⟩ := recT_ex t ht
  rw [e]; rfl
theorem record_zero (t : Int) (ht : 315532800 ≤ t ∧ t ≤ 4102444799) (w : World) : Calls Tryz.prog 32 #[.int .i64 t, .int .i64 0] w fun e w' => e = .returned (.tuple #[.string (recT t), .int .i64 0]) ∧ Below w.heap.size w w' := by
  refine (record_yes t 0 ht (by omega) w).mono fun e w' ⟨cY, cM, cD, ch, cm, cs, h1, h2, h3, h4⟩ => ?_
  rw [h1, recT_eq ht ⟨h2, by rw [h3]; omega⟩]
  exact ⟨rfl, h4⟩
theorem rrecord_zero (t : Int) (ht : 315532800 ≤ t ∧ t ≤ 4102444799) (w : World) : Calls Tryz.prog 36 #[.int .i64 t, .int .i64 0] w fun e w' => e = .returned (.tuple #[.string (recT t), .int .i64 0]) ∧ Below w.heap.size w w' := by
  refine (rrecord_yes t 0 ht (by omega) w).mono fun e w' ⟨cY, cM, cD, ch, cm, cs, h1, h2, h3, h4⟩ => ?_
  rw [h1, recT_eq ht ⟨h2, by rw [h3]; omega⟩]
  exact ⟨rfl, h4⟩
theorem readRecord_zero (t : Int) (ht : 315532800 ≤ t ∧ t ≤ 4102444799) (w : World) : Calls Tryz.prog 82 #[.string (recT t)] w fun e w' => e = .returned (.tuple #[.int .i64 t, .int .i64 0, .int .i64 0]) ∧ Below w.heap.size w w' := by
  obtain ⟨Y, M, D, h, m, s, hc, e⟩ := recT_ex t ht
  rw [e]
  exact readRecord_at t 0 0 Y M D h m s hc.1 (by rw [hc.2]; omega) ht rfl (by omega) w
end Go.Proofs.YtopajpomhflgbaaGreatDoor.Dt
