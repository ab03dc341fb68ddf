/- Contracts of Format of package address and its reference. -/
import Derived.Test.YtihnkanmlbgidaaDoorC
import Derived.Test.YtihnkanmlbgidaaDoorLib
namespace Go.Proofs.YtihnkanmlbgidaaDoor
set_option linter.unusedSimpArgs false
set_option linter.unusedVariables false
open Go.RowKit

def d3 (n : Int) : ByteArray := ⟨#[UInt8.ofNat (48 + n / 10).toNat, UInt8.ofNat (48 + n % 10).toNat, 58]⟩
def d2 (n : Int) : ByteArray := ⟨#[UInt8.ofNat (48 + n / 10).toNat, UInt8.ofNat (48 + n % 10).toNat]⟩
theorem d3_size (n : Int) : (d3 n).size = 3 := rfl
theorem d2_size (n : Int) : (d2 n).size = 2 := rfl
/-- The text of an address. -/
def txtS (m s f : Int) : ByteArray := ⟨#[UInt8.ofNat (48 + m / 10).toNat, UInt8.ofNat (48 + m % 10).toNat, 58, UInt8.ofNat (48 + s / 10).toNat, UInt8.ofNat (48 + s % 10).toNat, 58, UInt8.ofNat (48 + f / 10).toNat, UInt8.ofNat (48 + f % 10).toNat]⟩
theorem ret_s {a b : ByteArray} (h : a = b) : Ending.returned (.string a) = .returned (.string b) := by rw [h]

theorem itoa_1 (n : Int) (h0 : 0 ≤ n) (h1 : n < 10) (w : World) : Calls Tryd.prog 24 #[.int .i64 n] w fun e w' => e = .returned (.string ⟨#[UInt8.ofNat (48 + n).toNat]⟩) ∧ w = w' := by
  obtain ⟨i, rfl⟩ := Int.eq_ofNat_of_zero_le h0
  refine (Any.strconv_Itoa_small Tryd.lays171 i (by omega) w).mono fun e w' ⟨he, hw⟩ => ⟨?_, hw.symm⟩
  rw [he]
  have : Lib.decDigits i = [UInt8.ofNat (48 + (i : Int)).toNat] := by
    rw [Lib.decDigits, dif_pos (by omega), show (48 + (i : Int)).toNat = 48 + i from by omega]
  rw [this]
set_option maxHeartbeats 400000 in
theorem fmtLit_any (n : Int) (h0 : 0 ≤ n) (h1 : n ≤ 99) (w : World) : Calls Tryd.prog 23 #[.int .i64 n] w fun e w' => e = .returned (.string (d3 n)) ∧ w = w' := by
  have HL : Live w [] := trivial
  go_enter Tryd.func23, Tryd.ntmps23
  go_wp2_with (first | (go_at_call 24; (with_reducible refine (itoa_1 _ (by omega) (by omega) _).mono ?_); rintro e w' ⟨rfl, rfl⟩))
  go_ret
  exact ⟨ret_s (by rfl), rfl⟩

set_option maxHeartbeats 1000000 in
theorem write_fmt (m s f : Int) (h0 : 0 ≤ m ∧ m ≤ 99) (h1 : 0 ≤ s ∧ s ≤ 99) (h2 : 0 ≤ f ∧ f ≤ 99) (w : World) :
    Calls Tryd.prog 19 #[.agg #[.int .i64 m, .int .i64 s, .int .i64 f], .func (.func 23) #[] #[]] w fun e w' => e = .returned (.string ⟨((d3 m).data.toList ++ (d3 s).data.toList ++ (d3 f).data.toList).toArray⟩) ∧ Below w.heap.size w w' := by
  have i0 : ∀ w, (Instr.index 51 (.agg #[.int .i64 m, .int .i64 s, .int .i64 f]) (.int .i64 0)).run Tryd.prog w = .ok (.int .i64 m) w := fun _ => by kernel_rfl
  have i1 : ∀ w, (Instr.index 51 (.agg #[.int .i64 m, .int .i64 s, .int .i64 f]) (.int .i64 1)).run Tryd.prog w = .ok (.int .i64 s) w := fun _ => by kernel_rfl
  have i2 : ∀ w, (Instr.index 51 (.agg #[.int .i64 m, .int .i64 s, .int .i64 f]) (.int .i64 2)).run Tryd.prog w = .ok (.int .i64 f) w := fun _ => by kernel_rfl
  have HL : Live w [] := trivial
  go_enter Tryd.func19, Tryd.ntmps19
  have HB := Lib.fresh_isBuilder 63 5 (w.alloc (.cells #[.int .i64 m, .int .i64 s, .int .i64 f] 23))
  simp only [World.size_alloc] at HB
  go_wp2_with ((first | (go_at_call 32; (with_reducible refine (split_any _ _ _ _).mono ?_); rintro e w' ⟨rfl, hb⟩; have hz := hb.size; (try simp only [SZ, Nat.reduceAdd] at hz); (first | obtain ⟨HL, hk⟩ := HL.callA hb hz | obtain ⟨HL, hk⟩ := HL.call0A hb hz); (try simp only [addN, Nat.add_zero] at HL hk); have hl := HL; simp only [Live] at hl; (try simp only [Kept] at hk))); have HB := builder_below HB hb)
  refine wp_loop_rounds 4 ?_
  repeat any_goals (rw [rounds_succ]; go_wp2_with (first | (go_at_call 23; (with_reducible refine (fmtLit_any _ (by omega) (by omega) _).mono ?_); rintro e w' ⟨rfl, rfl⟩) | (go_at_call 34; (with_reducible refine (Tryd.Builder_WriteString _ _ _ _ _ HB (by simp [Lib.strCells_length, d3_size]) (by omega)).mono ?_); rintro e w' ⟨rfl, hB, hb⟩; have HB : Lib.IsBuilder _ _ _ _ _ _ := Or.inr hB; have hz := hb.size; have HL := Live.lift hz HL)))
  simp only [List.nil_append, strs3] at HB
  go_wp2_with (go_at_call 35; (with_reducible refine (Tryd.Builder_String_any _ _ _ _ HB (by omega)).mono ?_); rintro e w' ⟨rfl, hb⟩; have hz := hb.size)
  go_ret
  exact ⟨rfl, by (exact bl)⟩

theorem trim_txt (m s f : Int) : Lib.trimSuffix ((d3 m).data.toList ++ (d3 s).data.toList ++ (d3 f).data.toList) [58] = (txtS m s f).data.toList := by
  have h : Lib.hasSuffix ((d3 m).data.toList ++ (d3 s).data.toList ++ (d3 f).data.toList) [58] = true := by
    unfold Lib.hasSuffix d3
    simp [List.isSuffixOf]
  unfold Lib.trimSuffix
  rw [if_pos h]
  rfl
theorem trim_any (m s f : Int) (w : World) : Calls Tryd.prog 22 #[.string ⟨((d3 m).data.toList ++ (d3 s).data.toList ++ (d3 f).data.toList).toArray⟩, .string ⟨#[58]⟩] w fun e w' => e = .returned (.string (txtS m s f)) ∧ w = w' := by
  refine (Any.strings_TrimSuffix Tryd.lays102 _ ⟨#[58]⟩ w (by simp [ByteArray.size, d3])).mono fun e w' ⟨he, hw⟩ => ⟨?_, hw.symm⟩
  rw [he]
  have := trim_txt m s f
  exact ret_s (by show ByteArray.mk (Lib.trimSuffix ((d3 m).data.toList ++ (d3 s).data.toList ++ (d3 f).data.toList) [58]).toArray = _; rw [this])

set_option maxHeartbeats 400000 in
theorem format_no (m s f : Int) (hv : validB m s f = false) (w : World) :
    Calls Tryd.prog 10 #[.agg #[.int .i64 m, .int .i64 s, .int .i64 f]] w fun e w' => e = .returned (.tuple #[.string ⟨#[]⟩, .int .i64 1]) ∧ Below w.heap.size w w' := by
  have HL : Live w [] := trivial
  go_enter Tryd.func10, Tryd.ntmps10
  go_wp2_with (first | (go_at_call 17; (with_reducible refine (valid_any _ _ _ _).mono ?_); rintro e w' ⟨rfl, hb⟩; have hz := hb.size; (try simp only [SZ, Nat.reduceAdd] at hz); (first | obtain ⟨HL, hk⟩ := HL.callA hb hz | obtain ⟨HL, hk⟩ := HL.call0A hb hz); (try simp only [addN, Nat.add_zero] at HL hk); have hl := HL; simp only [Live] at hl; (try simp only [Kept] at hk)))
  go_ret2
  exact ⟨rfl, by (exact bl)⟩
set_option maxHeartbeats 400000 in
theorem format_yes (m s f : Int) (hv : validB m s f = true) (w : World) :
    Calls Tryd.prog 10 #[.agg #[.int .i64 m, .int .i64 s, .int .i64 f]] w fun e w' => e = .returned (.tuple #[.string (txtS m s f), .int .i64 0]) ∧ Below w.heap.size w w' := by
  have hr := validB_true.1 hv
  have TR := hide (fun W => trim_any m s f W)
  generalize hg : (⟨((d3 m).data.toList ++ (d3 s).data.toList ++ (d3 f).data.toList).toArray⟩ : ByteArray) = L at TR
  have WF := hide (fun W => write_fmt m s f (by omega) (by omega) (by omega) W)
  rw [hg] at WF
  clear hg
  have HL : Live w [] := trivial
  go_enter Tryd.func10, Tryd.ntmps10
  go_wp2_with (first | (go_at_call 17; (with_reducible refine (valid_any _ _ _ _).mono ?_); rintro e w' ⟨rfl, hb⟩; have hz := hb.size; (try simp only [SZ, Nat.reduceAdd] at hz); (first | obtain ⟨HL, hk⟩ := HL.callA hb hz | obtain ⟨HL, hk⟩ := HL.call0A hb hz); (try simp only [addN, Nat.add_zero] at HL hk); have hl := HL; simp only [Live] at hl; (try simp only [Kept] at hk)) | (go_at_call 22; (with_reducible refine (TR.out _).mono ?_); rintro e w' ⟨rfl, rfl⟩) | (go_at_call 19; (with_reducible refine (WF.out _).mono ?_); rintro e w' ⟨rfl, hb⟩; have hz := hb.size))
  go_ret2
  exact ⟨rfl, by (exact bl)⟩

set_option maxHeartbeats 400000 in
theorem rdigits_any (n : Int) (h0 : 0 ≤ n) (h1 : n ≤ 99) (w : World) : Calls Tryd.prog 27 #[.int .i64 n] w fun e w' => e = .returned (.string (d2 n)) ∧ Below w.heap.size w w' := by
  have cv := fun (W : World) (x y : Int) => conv_lit (P := Tryd.prog) 44 9 5 Tryd.underlying44 Tryd.underlying5 Tryd.underlying9 W 5 [x, y] #[.int .u8 x, .int .u8 y] rfl 2 2 rfl
  have HL : Live w [] := trivial
  go_enter Tryd.func27, Tryd.ntmps27
  go_wp2
  go_ret
  exact ⟨rfl, by (exact bl)⟩
set_option maxHeartbeats 400000 in
theorem rformat_no (m s f : Int) (hv : validB m s f = false) (w : World) :
    Calls Tryd.prog 12 #[.agg #[.int .i64 m, .int .i64 s, .int .i64 f]] w fun e w' => e = .returned (.tuple #[.string ⟨#[]⟩, .int .i64 1]) ∧ Below w.heap.size w w' := by
  have HL : Live w [] := trivial
  go_enter Tryd.func12, Tryd.ntmps12
  go_wp2_with (first | (go_at_call 26; (with_reducible refine (rvalid_any _ _ _ _).mono ?_); rintro e w' ⟨rfl, hb⟩; have hz := hb.size; (try simp only [SZ, Nat.reduceAdd] at hz); (first | obtain ⟨HL, hk⟩ := HL.callA hb hz | obtain ⟨HL, hk⟩ := HL.call0A hb hz); (try simp only [addN, Nat.add_zero] at HL hk); have hl := HL; simp only [Live] at hl; (try simp only [Kept] at hk)))
  go_ret2
  exact ⟨rfl, by (exact bl)⟩
set_option maxHeartbeats 1000000 in
theorem rformat_yes (m s f : Int) (hv : validB m s f = true) (w : World) :
    Calls Tryd.prog 12 #[.agg #[.int .i64 m, .int .i64 s, .int .i64 f]] w fun e w' => e = .returned (.tuple #[.string (txtS m s f), .int .i64 0]) ∧ Below w.heap.size w w' := by
  have hr := validB_true.1 hv
  have HL : Live w [] := trivial
  go_enter Tryd.func12, Tryd.ntmps12
  go_wp2_with fail
  (first | ((with_reducible refine (rvalid_any _ _ _ _).mono ?_); rintro e w1 ⟨rfl, hb⟩; have hz := hb.size; (try simp only [SZ, Nat.reduceAdd] at hz); (first | obtain ⟨HL, hk⟩ := HL.callA hb hz | obtain ⟨HL, hk⟩ := HL.call0A hb hz); (try simp only [addN, Nat.add_zero] at HL hk); have hl := HL; simp only [Live] at hl; (try simp only [Kept] at hk)))
  go_wp2_with fail
  have l2 : ∀ n, (d2 n).size = 2 := fun _ => rfl
  refine wp_region_noPanic ?_
  refine wp_region_held_drew (S := (fun x => x.cell? ⟨w.heap.size, 0, none⟩ = some (.int .i64 m) ∧ x.cell? ⟨w.heap.size, 1, none⟩ = some (.int .i64 s) ∧ x.cell? ⟨w.heap.size, 2, none⟩ = some (.int .i64 f))) (by kernel_rfl) kp (fun hHeld => ?_)
  refine tkY 0 ⟨some 7, .fieldAddr 23 (.tmp 1) 0, 0, "ref.go:87", #[], none⟩ ?_ ?_ ?_
  rotate_left
  · intro w hSw; (try dsimp only at hSw); go_simp; (try with_reducible rfl)
  try simp only [PT]
  refine tkY 1 ⟨some 8, .load 3 (.tmp 7), 3, "ref.go:87", #[⟨0, .data⟩], none⟩ ?_ ?_ ?_
  rotate_left
  · intro w hSw; (try dsimp only at hSw); go_simp; (try with_reducible rfl)
  try simp only [PT]
  refine tkY 4 ⟨some 11, .fieldAddr 23 (.tmp 1) 1, 0, "ref.go:87", #[], none⟩ ?_ ?_ ?_
  rotate_left
  · intro w hSw; (try dsimp only at hSw); go_simp; (try with_reducible rfl)
  try simp only [PT]
  refine tkY 5 ⟨some 12, .load 3 (.tmp 11), 3, "ref.go:87", #[⟨4, .data⟩], none⟩ ?_ ?_ ?_
  rotate_left
  · intro w hSw; (try dsimp only at hSw); go_simp; (try with_reducible rfl)
  try simp only [PT]
  refine tkY 9 ⟨some 16, .fieldAddr 23 (.tmp 1) 2, 0, "ref.go:87", #[], none⟩ ?_ ?_ ?_
  rotate_left
  · intro w hSw; (try dsimp only at hSw); go_simp; (try with_reducible rfl)
  try simp only [PT]
  refine tkY 10 ⟨some 17, .load 3 (.tmp 16), 3, "ref.go:87", #[⟨9, .data⟩], none⟩ ?_ ?_ ?_
  rotate_left
  · intro w hSw; (try dsimp only at hSw); go_simp; (try with_reducible rfl)
  try simp only [PT]
  refine wpAnyH_ready (rs := [2]) (by kernel_rfl) (by simp) ?_
  refine AllReadyH.cons (o := ⟨some 9, .call ⟨.value (.func 27), #[.tmp 8], #[3]⟩, 9, "ref.go:87", #[⟨1, .data⟩], none⟩) rfl (fun K hK => ?_) AllReadyH.nil
  go_simp
  (go_at_call 27; (with_reducible refine (rdigits_any _ (by omega) (by omega) _).mono ?_); rintro e w' ⟨rfl, hb⟩; have hz := hb.size; (try simp only [SZ, Nat.reduceAdd] at hz); (first | obtain ⟨HL, hk⟩ := HL.callA hb hz | obtain ⟨HL, hk⟩ := HL.call0A hb hz); (try simp only [addN, Nat.add_zero] at HL hk); have hl := HL; simp only [Live] at hl; (try simp only [Kept] at hk))
  go_wp2_with fail
  refine hK.out _ _ kp (fun hHeld => ?_)
  clear hK K
  try simp only [PT]
  refine tkY 3 ⟨some 10, .binOp .add 9 (.tmp 9) (.const (.string { data := #[58] })) 9, 9, "ref.go:87", #[⟨2, .data⟩], none⟩ ?_ ?_ ?_
  rotate_left
  · intro w hSw; (try dsimp only at hSw); go_simp; (try with_reducible rfl)
  try simp only [PT]
  refine wpAnyH_ready (rs := [6]) (by kernel_rfl) (by simp) ?_
  refine AllReadyH.cons (o := ⟨some 13, .call ⟨.value (.func 27), #[.tmp 12], #[3]⟩, 9, "ref.go:87", #[⟨5, .data⟩, ⟨2, .chain⟩], none⟩) rfl (fun K hK => ?_) AllReadyH.nil
  go_simp
  (go_at_call 27; (with_reducible refine (rdigits_any _ (by omega) (by omega) _).mono ?_); rintro e w' ⟨rfl, hb⟩; have hz := hb.size; (try simp only [SZ, Nat.reduceAdd] at hz); (first | obtain ⟨HL, hk⟩ := HL.callA hb hz | obtain ⟨HL, hk⟩ := HL.call0A hb hz); (try simp only [addN, Nat.add_zero] at HL hk); have hl := HL; simp only [Live] at hl; (try simp only [Kept] at hk))
  go_wp2_with fail
  refine hK.out _ _ kp (fun hHeld => ?_)
  clear hK K
  try simp only [PT]
  refine tkY 7 ⟨some 14, .binOp .add 9 (.tmp 10) (.tmp 13) 9, 9, "ref.go:87", #[⟨3, .data⟩, ⟨6, .data⟩], none⟩ ?_ ?_ ?_
  rotate_left
  · intro w hSw; (try dsimp only at hSw); go_simp; (try with_reducible rfl)
  try simp only [PT]
  refine tkY 8 ⟨some 15, .binOp .add 9 (.tmp 14) (.const (.string { data := #[58] })) 9, 9, "ref.go:87", #[⟨7, .data⟩], none⟩ ?_ ?_ ?_
  rotate_left
  · intro w hSw; (try dsimp only at hSw); go_simp; (try with_reducible rfl)
  try simp only [PT]
  refine wpAnyH_ready (rs := [11]) (by kernel_rfl) (by simp) ?_
  refine AllReadyH.cons (o := ⟨some 18, .call ⟨.value (.func 27), #[.tmp 17], #[3]⟩, 9, "ref.go:87", #[⟨10, .data⟩, ⟨6, .chain⟩], none⟩) rfl (fun K hK => ?_) AllReadyH.nil
  go_simp
  (go_at_call 27; (with_reducible refine (rdigits_any _ (by omega) (by omega) _).mono ?_); rintro e w' ⟨rfl, hb⟩; have hz := hb.size; (try simp only [SZ, Nat.reduceAdd] at hz); (first | obtain ⟨HL, hk⟩ := HL.callA hb hz | obtain ⟨HL, hk⟩ := HL.call0A hb hz); (try simp only [addN, Nat.add_zero] at HL hk); have hl := HL; simp only [Live] at hl; (try simp only [Kept] at hk))
  go_wp2_with fail
  refine hK.out _ _ kp (fun hHeld => ?_)
  clear hK K
  try simp only [PT]
  refine tkY 12 ⟨some 19, .binOp .add 9 (.tmp 15) (.tmp 18) 9, 9, "ref.go:87", #[⟨8, .data⟩, ⟨11, .data⟩], none⟩ ?_ ?_ ?_
  rotate_left
  · intro w hSw; (try dsimp only at hSw); go_simp; (try with_reducible rfl)
  try simp only [PT]
  refine tkY 13 ⟨some 2, .assign (.tmp 19), 9, "ref.go:87", #[⟨12, .data⟩, ⟨11, .chain⟩, ⟨0, .phase⟩, ⟨1, .phase⟩, ⟨2, .phase⟩, ⟨3, .phase⟩, ⟨4, .phase⟩, ⟨5, .phase⟩, ⟨6, .phase⟩, ⟨7, .phase⟩, ⟨8, .phase⟩, ⟨9, .phase⟩, ⟨10, .phase⟩, ⟨11, .phase⟩, ⟨12, .phase⟩], none⟩ ?_ ?_ ?_
  rotate_left
  · intro w hSw; (try dsimp only at hSw); go_simp; (try with_reducible rfl)
  try simp only [PT]
  refine tkY 14 ⟨some 3, .assign (.const (.int .i64 0)), 25, "ref.go:87", #[⟨13, .chain⟩, ⟨0, .phase⟩, ⟨1, .phase⟩, ⟨2, .phase⟩, ⟨3, .phase⟩, ⟨4, .phase⟩, ⟨5, .phase⟩, ⟨6, .phase⟩, ⟨7, .phase⟩, ⟨8, .phase⟩, ⟨9, .phase⟩, ⟨10, .phase⟩, ⟨11, .phase⟩, ⟨12, .phase⟩, ⟨13, .phase⟩], none⟩ ?_ ?_ ?_
  rotate_left
  · intro w hSw; (try dsimp only at hSw); go_simp; (try with_reducible rfl)
  try simp only [PT]
  refine wpAnyH_done (by kernel_rfl) ?_ _
  refine NoPanic.normal ?_
  all_goals (go_wp2; go_ret2; exact ⟨rfl, by (exact bl)⟩)
end Go.Proofs.YtihnkanmlbgidaaDoor
