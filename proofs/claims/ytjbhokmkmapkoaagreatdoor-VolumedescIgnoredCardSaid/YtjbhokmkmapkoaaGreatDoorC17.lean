/- Contracts and plain words for the laws of volume descriptors, part 17: B1. No condition. -/
import Derived.Test.YtjbhokmkmapkoaaGreatDoorC16
namespace Go.Proofs.YtjbhokmkmapkoaaGreatDoor
set_option linter.unusedSimpArgs false
set_option linter.unusedVariables false
open Go.RowKit
theorem conv2' {P : Program} (src dst e : TypeId) (hs : P.underlying src = some (.slice e)) (he : P.underlying e = some (.int .u8)) (hd : P.underlying dst = some .string) (w : World) (T : TypeId) (x y : Int) :
    (convert src dst (.slice (some ⟨w.heap.size, 0, none⟩) 2 2)).run P (w.alloc (.cells #[.int .u8 x, .int .u8 y] T)).drew.drew = .ok (.string ⟨#[u8 x, u8 y]⟩) (w.alloc (.cells #[.int .u8 x, .int .u8 y] T)).drew.drew :=
  conv_lit src dst e hs he hd w.drew.drew T [x, y] #[.int .u8 x, .int .u8 y] rfl 2 2 rfl
theorem conv4' {P : Program} (src dst e : TypeId) (hs : P.underlying src = some (.slice e)) (he : P.underlying e = some (.int .u8)) (hd : P.underlying dst = some .string) (w : World) (T : TypeId) (x y z v : Int) :
    (convert src dst (.slice (some ⟨w.heap.size, 0, none⟩) 4 4)).run P (w.alloc (.cells #[.int .u8 x, .int .u8 y, .int .u8 z, .int .u8 v] T)).drew.drew.drew.drew = .ok (.string ⟨#[u8 x, u8 y, u8 z, u8 v]⟩) (w.alloc (.cells #[.int .u8 x, .int .u8 y, .int .u8 z, .int .u8 v] T)).drew.drew.drew.drew :=
  conv_lit src dst e hs he hd w.drew.drew.drew.drew T [x, y, z, v] #[.int .u8 x, .int .u8 y, .int .u8 z, .int .u8 v] rfl 4 4 rfl
set_option maxHeartbeats 400000 in
theorem up1_any (i : Int) (w : World) : Calls Tryz.prog 131 #[.int .i64 i] w fun e w' => e = .returned (.int .i64 i) ∧ w = w' := by
  have HL : Live w [] := trivial
  go_enter Tryz.func131, Tryz.ntmps131
  go_wp2
  go_ret
  exact ⟨rfl, rfl⟩
set_option maxHeartbeats 400000 in
theorem up_any (i : Int) (w : World) : Calls Tryz.prog 70 #[.int .i64 i] w fun e w' => e = .returned (.func (.func 131) #[] #[]) ∧ w = w' := by
  have HL : Live w [] := trivial
  go_enter Tryz.func70, Tryz.ntmps70
  go_wp2
  go_ret
  exact ⟨rfl, rfl⟩
set_option maxHeartbeats 2000000 in
theorem write_up2 (n : Int) (h : 0 ≤ n ∧ n ≤ 65535) (w : World) : Calls Tryz.prog 69 #[.int .i64 n, .int .i64 2, .func (.func 131) #[] #[]] w fun e w' => e = .returned (.string ⟨(l2 n).toArray⟩) ∧ Below w.heap.size w w' := by
  have hmk : ∀ W : World, (Instr.makeSlice 48 (.int .i64 2) (.int .i64 2)).run Tryz.prog W = .ok (.slice (some ⟨W.heap.size, 0, none⟩) 2 2) (W.alloc (.cells #[.int .u8 0, .int .u8 0] 5)) := fun _ => by kernel_rfl
  have wn : IntKind.i64.wrap n = n := IntWalk.i64_in _ (by omega)
  have cv := fun (x y : Int) => conv2' 48 9 5 Tryz.underlying48 Tryz.underlying5 Tryz.underlying9 w 5 x y
  have HL : Live w [] := trivial
  go_enter Tryz.func69, Tryz.ntmps69
  go_wp2_with fail
  refine wp_loop_rounds 3 ?_
  rw [rounds_succ]
  go_upto_region 5 with fail
  have ka0 : IntKind.i64.wrap 0 = 0 := by decide
  have kb0 : IntKind.i64.wrap 0 = 0 := by decide
  have kc0 : IntKind.u8.wrap n = n % 256 := by rw [IntKind.wrap_u8]
  refine wp_region_noPanic ?_
  refine wp_region_held_drew (S := (fun _ => True ∧ True)) (by kernel_rfl) kp (fun hHeld => ?_)
  refine tkY 0 ⟨some 15, .move (.tmp 7), 48, "endian.go:24", #[], none⟩ ?_ ?_ ?_
  rotate_left
  · intro w hSw; (try dsimp only at hSw); go_simp; (try with_reducible rfl)
  try simp only [PT]
  refine tkY 1 ⟨some 16, .move (.tmp 2), 95, "endian.go:24", #[], none⟩ ?_ ?_ ?_
  rotate_left
  · intro w hSw; (try dsimp only at hSw); go_simp; (try with_reducible rfl)
  try simp only [PT]
  refine tkY 2 ⟨some 17, .move (.tmp 8), 3, "endian.go:24", #[], none⟩ ?_ ?_ ?_
  rotate_left
  · intro w hSw; (try dsimp only at hSw); go_simp; (try with_reducible rfl)
  try simp only [PT]
  refine tkY 4 ⟨some 19, .move (.tmp 0), 3, "endian.go:24", #[], none⟩ ?_ ?_ ?_
  rotate_left
  · intro w hSw; (try dsimp only at hSw); go_simp; (try with_reducible rfl)
  try simp only [PT]
  refine tkY 5 ⟨some 20, .move (.tmp 8), 3, "endian.go:24", #[], none⟩ ?_ ?_ ?_
  rotate_left
  · intro w hSw; (try dsimp only at hSw); go_simp; (try with_reducible rfl)
  try simp only [PT]
  refine tkY 6 ⟨some 21, .binOp .mul 3 (.const (.int .i64 8)) (.tmp 20) 3, 3, "endian.go:24", #[⟨5, .data⟩], none⟩ ?_ ?_ ?_
  rotate_left
  · intro w hSw; (try dsimp only at hSw); go_simp; (try with_reducible rfl)
  try simp only [PT]
  refine tkY 7 ⟨some 22, .binOp .shr 3 (.tmp 19) (.tmp 21) 3, 3, "endian.go:24", #[⟨4, .data⟩, ⟨6, .data⟩], none⟩ ?_ ?_ ?_
  rotate_left
  · intro w hSw; (try dsimp only at hSw); go_simp; (try with_reducible rfl)
  try simp only [PT]
  refine tkY 8 ⟨some 23, .convert 3 5 (.tmp 22), 5, "endian.go:24", #[⟨7, .data⟩], none⟩ ?_ ?_ ?_
  rotate_left
  · intro w hSw; (try dsimp only at hSw); go_simp; (try with_reducible rfl)
  try simp only [PT]
  refine wpAnyH_ready (rs := [3]) (by kernel_rfl) (by simp) ?_
  refine AllReadyH.cons (o := ⟨some 18, .call ⟨.value (.tmp 16), #[.tmp 17], #[3]⟩, 3, "endian.go:24", #[⟨1, .data⟩, ⟨2, .data⟩], none⟩) rfl (fun K hK => ?_) AllReadyH.nil
  go_simp
  (go_at_call 131; (with_reducible refine (up1_any _ _).mono ?_); rintro e w' ⟨rfl, rfl⟩)
  go_wp2_with fail
  refine hK.out _ _ kp (fun hHeld => ?_)
  clear hK K
  try simp only [PT]
  refine tkY 9 ⟨some 24, .indexAddr 48 (.tmp 15) (.tmp 18), 0, "endian.go:24", #[⟨0, .data⟩, ⟨3, .data⟩, ⟨0, .phase⟩, ⟨1, .phase⟩, ⟨2, .phase⟩, ⟨3, .phase⟩, ⟨4, .phase⟩, ⟨5, .phase⟩, ⟨6, .phase⟩, ⟨7, .phase⟩, ⟨8, .phase⟩], none⟩ ?_ ?_ ?_
  rotate_left
  · intro w hSw; (try dsimp only at hSw); go_simp; (try with_reducible rfl)
  try simp only [PT]
  refine wpAnyH_ready (rs := [10]) (by kernel_rfl) (by simp) ?_
  refine AllReadyH.cons (o := ⟨none, .store 5 (.tmp 24) (.tmp 23), 0, "endian.go:24", #[⟨9, .data⟩, ⟨8, .data⟩, ⟨3, .chain⟩, ⟨0, .phase⟩, ⟨1, .phase⟩, ⟨2, .phase⟩, ⟨3, .phase⟩, ⟨4, .phase⟩, ⟨5, .phase⟩, ⟨6, .phase⟩, ⟨7, .phase⟩, ⟨8, .phase⟩], none⟩) rfl (fun K hK => ?_) AllReadyH.nil
  go_simp
  refine hK.out _ _ kp (fun hHeld => ?_)
  clear hK K
  try simp only [PT]
  refine wpAnyH_done (by kernel_rfl) ?_ _
  refine NoPanic.normal ?_
  clear ka0 kb0 kc0
  go_wp2_with fail
  rw [rounds_succ]
  go_upto_region 5 with fail
  have ka1 : IntKind.i64.wrap 8 = 8 := by decide
  have kb1 : IntKind.i64.wrap 1 = 1 := by decide
  have kc1 : IntKind.u8.wrap (n / 256) = n / 256 % 256 := by rw [IntKind.wrap_u8]
  refine wp_region_noPanic ?_
  refine wp_region_held_drew (S := (fun _ => True ∧ True)) (by kernel_rfl) kp (fun hHeld => ?_)
  refine tkY 0 ⟨some 15, .move (.tmp 7), 48, "endian.go:24", #[], none⟩ ?_ ?_ ?_
  rotate_left
  · intro w hSw; (try dsimp only at hSw); go_simp; (try with_reducible rfl)
  try simp only [PT]
  refine tkY 1 ⟨some 16, .move (.tmp 2), 95, "endian.go:24", #[], none⟩ ?_ ?_ ?_
  rotate_left
  · intro w hSw; (try dsimp only at hSw); go_simp; (try with_reducible rfl)
  try simp only [PT]
  refine tkY 2 ⟨some 17, .move (.tmp 8), 3, "endian.go:24", #[], none⟩ ?_ ?_ ?_
  rotate_left
  · intro w hSw; (try dsimp only at hSw); go_simp; (try with_reducible rfl)
  try simp only [PT]
  refine tkY 4 ⟨some 19, .move (.tmp 0), 3, "endian.go:24", #[], none⟩ ?_ ?_ ?_
  rotate_left
  · intro w hSw; (try dsimp only at hSw); go_simp; (try with_reducible rfl)
  try simp only [PT]
  refine tkY 5 ⟨some 20, .move (.tmp 8), 3, "endian.go:24", #[], none⟩ ?_ ?_ ?_
  rotate_left
  · intro w hSw; (try dsimp only at hSw); go_simp; (try with_reducible rfl)
  try simp only [PT]
  refine tkY 6 ⟨some 21, .binOp .mul 3 (.const (.int .i64 8)) (.tmp 20) 3, 3, "endian.go:24", #[⟨5, .data⟩], none⟩ ?_ ?_ ?_
  rotate_left
  · intro w hSw; (try dsimp only at hSw); go_simp; (try with_reducible rfl)
  try simp only [PT]
  refine tkY 7 ⟨some 22, .binOp .shr 3 (.tmp 19) (.tmp 21) 3, 3, "endian.go:24", #[⟨4, .data⟩, ⟨6, .data⟩], none⟩ ?_ ?_ ?_
  rotate_left
  · intro w hSw; (try dsimp only at hSw); go_simp; (try with_reducible rfl)
  try simp only [PT]
  refine tkY 8 ⟨some 23, .convert 3 5 (.tmp 22), 5, "endian.go:24", #[⟨7, .data⟩], none⟩ ?_ ?_ ?_
  rotate_left
  · intro w hSw; (try dsimp only at hSw); go_simp; (try with_reducible rfl)
  try simp only [PT]
  refine wpAnyH_ready (rs := [3]) (by kernel_rfl) (by simp) ?_
  refine AllReadyH.cons (o := ⟨some 18, .call ⟨.value (.tmp 16), #[.tmp 17], #[3]⟩, 3, "endian.go:24", #[⟨1, .data⟩, ⟨2, .data⟩], none⟩) rfl (fun K hK => ?_) AllReadyH.nil
  go_simp
  (go_at_call 131; (with_reducible refine (up1_any _ _).mono ?_); rintro e w' ⟨rfl, rfl⟩)
  go_wp2_with fail
  refine hK.out _ _ kp (fun hHeld => ?_)
  clear hK K
  try simp only [PT]
  refine tkY 9 ⟨some 24, .indexAddr 48 (.tmp 15) (.tmp 18), 0, "endian.go:24", #[⟨0, .data⟩, ⟨3, .data⟩, ⟨0, .phase⟩, ⟨1, .phase⟩, ⟨2, .phase⟩, ⟨3, .phase⟩, ⟨4, .phase⟩, ⟨5, .phase⟩, ⟨6, .phase⟩, ⟨7, .phase⟩, ⟨8, .phase⟩], none⟩ ?_ ?_ ?_
  rotate_left
  · intro w hSw; (try dsimp only at hSw); go_simp; (try with_reducible rfl)
  try simp only [PT]
  refine wpAnyH_ready (rs := [10]) (by kernel_rfl) (by simp) ?_
  refine AllReadyH.cons (o := ⟨none, .store 5 (.tmp 24) (.tmp 23), 0, "endian.go:24", #[⟨9, .data⟩, ⟨8, .data⟩, ⟨3, .chain⟩, ⟨0, .phase⟩, ⟨1, .phase⟩, ⟨2, .phase⟩, ⟨3, .phase⟩, ⟨4, .phase⟩, ⟨5, .phase⟩, ⟨6, .phase⟩, ⟨7, .phase⟩, ⟨8, .phase⟩], none⟩) rfl (fun K hK => ?_) AllReadyH.nil
  go_simp
  refine hK.out _ _ kp (fun hHeld => ?_)
  clear hK K
  try simp only [PT]
  refine wpAnyH_done (by kernel_rfl) ?_ _
  refine NoPanic.normal ?_
  clear ka1 kb1 kc1
  go_wp2_with fail
  rw [rounds_succ]
  go_wp2_with fail
  go_ret
  exact ⟨rfl, by (exact bl)⟩
set_option maxHeartbeats 2000000 in
theorem write_up4 (n : Int) (h : 0 ≤ n ∧ n ≤ 4294967295) (w : World) : Calls Tryz.prog 69 #[.int .i64 n, .int .i64 4, .func (.func 131) #[] #[]] w fun e w' => e = .returned (.string ⟨(l4 n).toArray⟩) ∧ Below w.heap.size w w' := by
  have hmk : ∀ W : World, (Instr.makeSlice 48 (.int .i64 4) (.int .i64 4)).run Tryz.prog W = .ok (.slice (some ⟨W.heap.size, 0, none⟩) 4 4) (W.alloc (.cells #[.int .u8 0, .int .u8 0, .int .u8 0, .int .u8 0] 5)) := fun _ => by kernel_rfl
  have wn : IntKind.i64.wrap n = n := IntWalk.i64_in _ (by omega)
  have cv := fun (x y z v : Int) => conv4' 48 9 5 Tryz.underlying48 Tryz.underlying5 Tryz.underlying9 w 5 x y z v
  have HL : Live w [] := trivial
  go_enter Tryz.func69, Tryz.ntmps69
  go_wp2_with fail
  refine wp_loop_rounds 5 ?_
  rw [rounds_succ]
  go_upto_region 5 with fail
  have ka0 : IntKind.i64.wrap 0 = 0 := by decide
  have kb0 : IntKind.i64.wrap 0 = 0 := by decide
  have kc0 : IntKind.u8.wrap n = n % 256 := by rw [IntKind.wrap_u8]
  refine wp_region_noPanic ?_
  refine wp_region_held_drew (S := (fun _ => True ∧ True)) (by kernel_rfl) kp (fun hHeld => ?_)
  refine tkY 0 ⟨some 15, .move (.tmp 7), 48, "endian.go:24", #[], none⟩ ?_ ?_ ?_
  rotate_left
  · intro w hSw; (try dsimp only at hSw); go_simp; (try with_reducible rfl)
  try simp only [PT]
  refine tkY 1 ⟨some 16, .move (.tmp 2), 95, "endian.go:24", #[], none⟩ ?_ ?_ ?_
  rotate_left
  · intro w hSw; (try dsimp only at hSw); go_simp; (try with_reducible rfl)
  try simp only [PT]
  refine tkY 2 ⟨some 17, .move (.tmp 8), 3, "endian.go:24", #[], none⟩ ?_ ?_ ?_
  rotate_left
  · intro w hSw; (try dsimp only at hSw); go_simp; (try with_reducible rfl)
  try simp only [PT]
  refine tkY 4 ⟨some 19, .move (.tmp 0), 3, "endian.go:24", #[], none⟩ ?_ ?_ ?_
  rotate_left
  · intro w hSw; (try dsimp only at hSw); go_simp; (try with_reducible rfl)
  try simp only [PT]
  refine tkY 5 ⟨some 20, .move (.tmp 8), 3, "endian.go:24", #[], none⟩ ?_ ?_ ?_
  rotate_left
  · intro w hSw; (try dsimp only at hSw); go_simp; (try with_reducible rfl)
  try simp only [PT]
  refine tkY 6 ⟨some 21, .binOp .mul 3 (.const (.int .i64 8)) (.tmp 20) 3, 3, "endian.go:24", #[⟨5, .data⟩], none⟩ ?_ ?_ ?_
  rotate_left
  · intro w hSw; (try dsimp only at hSw); go_simp; (try with_reducible rfl)
  try simp only [PT]
  refine tkY 7 ⟨some 22, .binOp .shr 3 (.tmp 19) (.tmp 21) 3, 3, "endian.go:24", #[⟨4, .data⟩, ⟨6, .data⟩], none⟩ ?_ ?_ ?_
  rotate_left
  · intro w hSw; (try dsimp only at hSw); go_simp; (try with_reducible rfl)
  try simp only [PT]
  refine tkY 8 ⟨some 23, .convert 3 5 (.tmp 22), 5, "endian.go:24", #[⟨7, .data⟩], none⟩ ?_ ?_ ?_
  rotate_left
  · intro w hSw; (try dsimp only at hSw); go_simp; (try with_reducible rfl)
  try simp only [PT]
  refine wpAnyH_ready (rs := [3]) (by kernel_rfl) (by simp) ?_
  refine AllReadyH.cons (o := ⟨some 18, .call ⟨.value (.tmp 16), #[.tmp 17], #[3]⟩, 3, "endian.go:24", #[⟨1, .data⟩, ⟨2, .data⟩], none⟩) rfl (fun K hK => ?_) AllReadyH.nil
  go_simp
  (go_at_call 131; (with_reducible refine (up1_any _ _).mono ?_); rintro e w' ⟨rfl, rfl⟩)
  go_wp2_with fail
  refine hK.out _ _ kp (fun hHeld => ?_)
  clear hK K
  try simp only [PT]
  refine tkY 9 ⟨some 24, .indexAddr 48 (.tmp 15) (.tmp 18), 0, "endian.go:24", #[⟨0, .data⟩, ⟨3, .data⟩, ⟨0, .phase⟩, ⟨1, .phase⟩, ⟨2, .phase⟩, ⟨3, .phase⟩, ⟨4, .phase⟩, ⟨5, .phase⟩, ⟨6, .phase⟩, ⟨7, .phase⟩, ⟨8, .phase⟩], none⟩ ?_ ?_ ?_
  rotate_left
  · intro w hSw; (try dsimp only at hSw); go_simp; (try with_reducible rfl)
  try simp only [PT]
  refine wpAnyH_ready (rs := [10]) (by kernel_rfl) (by simp) ?_
  refine AllReadyH.cons (o := ⟨none, .store 5 (.tmp 24) (.tmp 23), 0, "endian.go:24", #[⟨9, .data⟩, ⟨8, .data⟩, ⟨3, .chain⟩, ⟨0, .phase⟩, ⟨1, .phase⟩, ⟨2, .phase⟩, ⟨3, .phase⟩, ⟨4, .phase⟩, ⟨5, .phase⟩, ⟨6, .phase⟩, ⟨7, .phase⟩, ⟨8, .phase⟩], none⟩) rfl (fun K hK => ?_) AllReadyH.nil
  go_simp
  refine hK.out _ _ kp (fun hHeld => ?_)
  clear hK K
  try simp only [PT]
  refine wpAnyH_done (by kernel_rfl) ?_ _
  refine NoPanic.normal ?_
  clear ka0 kb0 kc0
  go_wp2_with fail
  rw [rounds_succ]
  go_upto_region 5 with fail
  have ka1 : IntKind.i64.wrap 8 = 8 := by decide
  have kb1 : IntKind.i64.wrap 1 = 1 := by decide
  have kc1 : IntKind.u8.wrap (n / 256) = n / 256 % 256 := by rw [IntKind.wrap_u8]
  refine wp_region_noPanic ?_
  refine wp_region_held_drew (S := (fun _ => True ∧ True)) (by kernel_rfl) kp (fun hHeld => ?_)
  refine tkY 0 ⟨some 15, .move (.tmp 7), 48, "endian.go:24", #[], none⟩ ?_ ?_ ?_
  rotate_left
  · intro w hSw; (try dsimp only at hSw); go_simp; (try with_reducible rfl)
  try simp only [PT]
  refine tkY 1 ⟨some 16, .move (.tmp 2), 95, "endian.go:24", #[], none⟩ ?_ ?_ ?_
  rotate_left
  · intro w hSw; (try dsimp only at hSw); go_simp; (try with_reducible rfl)
  try simp only [PT]
  refine tkY 2 ⟨some 17, .move (.tmp 8), 3, "endian.go:24", #[], none⟩ ?_ ?_ ?_
  rotate_left
  · intro w hSw; (try dsimp only at hSw); go_simp; (try with_reducible rfl)
  try simp only [PT]
  refine tkY 4 ⟨some 19, .move (.tmp 0), 3, "endian.go:24", #[], none⟩ ?_ ?_ ?_
  rotate_left
  · intro w hSw; (try dsimp only at hSw); go_simp; (try with_reducible rfl)
  try simp only [PT]
  refine tkY 5 ⟨some 20, .move (.tmp 8), 3, "endian.go:24", #[], none⟩ ?_ ?_ ?_
  rotate_left
  · intro w hSw; (try dsimp only at hSw); go_simp; (try with_reducible rfl)
  try simp only [PT]
  refine tkY 6 ⟨some 21, .binOp .mul 3 (.const (.int .i64 8)) (.tmp 20) 3, 3, "endian.go:24", #[⟨5, .data⟩], none⟩ ?_ ?_ ?_
  rotate_left
  · intro w hSw; (try dsimp only at hSw); go_simp; (try with_reducible rfl)
  try simp only [PT]
  refine tkY 7 ⟨some 22, .binOp .shr 3 (.tmp 19) (.tmp 21) 3, 3, "endian.go:24", #[⟨4, .data⟩, ⟨6, .data⟩], none⟩ ?_ ?_ ?_
  rotate_left
  · intro w hSw; (try dsimp only at hSw); go_simp; (try with_reducible rfl)
  try simp only [PT]
  refine tkY 8 ⟨some 23, .convert 3 5 (.tmp 22), 5, "endian.go:24", #[⟨7, .data⟩], none⟩ ?_ ?_ ?_
  rotate_left
  · intro w hSw; (try dsimp only at hSw); go_simp; (try with_reducible rfl)
  try simp only [PT]
  refine wpAnyH_ready (rs := [3]) (by kernel_rfl) (by simp) ?_
  refine AllReadyH.cons (o := ⟨some 18, .call ⟨.value (.tmp 16), #[.tmp 17], #[3]⟩, 3, "endian.go:24", #[⟨1, .data⟩, ⟨2, .data⟩], none⟩) rfl (fun K hK => ?_) AllReadyH.nil
  go_simp
  (go_at_call 131; (with_reducible refine (up1_any _ _).mono ?_); rintro e w' ⟨rfl, rfl⟩)
  go_wp2_with fail
  refine hK.out _ _ kp (fun hHeld => ?_)
  clear hK K
  try simp only [PT]
  refine tkY 9 ⟨some 24, .indexAddr 48 (.tmp 15) (.tmp 18), 0, "endian.go:24", #[⟨0, .data⟩, ⟨3, .data⟩, ⟨0, .phase⟩, ⟨1, .phase⟩, ⟨2, .phase⟩, ⟨3, .phase⟩, ⟨4, .phase⟩, ⟨5, .phase⟩, ⟨6, .phase⟩, ⟨7, .phase⟩, ⟨8, .phase⟩], none⟩ ?_ ?_ ?_
  rotate_left
  · intro w hSw; (try dsimp only at hSw); go_simp; (try with_reducible rfl)
  try simp only [PT]
  refine wpAnyH_ready (rs := [10]) (by kernel_rfl) (by simp) ?_
  refine AllReadyH.cons (o := ⟨none, .store 5 (.tmp 24) (.tmp 23), 0, "endian.go:24", #[⟨9, .data⟩, ⟨8, .data⟩, ⟨3, .chain⟩, ⟨0, .phase⟩, ⟨1, .phase⟩, ⟨2, .phase⟩, ⟨3, .phase⟩, ⟨4, .phase⟩, ⟨5, .phase⟩, ⟨6, .phase⟩, ⟨7, .phase⟩, ⟨8, .phase⟩], none⟩) rfl (fun K hK => ?_) AllReadyH.nil
  go_simp
  refine hK.out _ _ kp (fun hHeld => ?_)
  clear hK K
  try simp only [PT]
  refine wpAnyH_done (by kernel_rfl) ?_ _
  refine NoPanic.normal ?_
  clear ka1 kb1 kc1
  go_wp2_with fail
  rw [rounds_succ]
  go_upto_region 5 with fail
  have ka2 : IntKind.i64.wrap 16 = 16 := by decide
  have kb2 : IntKind.i64.wrap 2 = 2 := by decide
  have kc2 : IntKind.u8.wrap (n / 65536) = n / 65536 % 256 := by rw [IntKind.wrap_u8]
  refine wp_region_noPanic ?_
  refine wp_region_held_drew (S := (fun _ => True ∧ True)) (by kernel_rfl) kp (fun hHeld => ?_)
  refine tkY 0 ⟨some 15, .move (.tmp 7), 48, "endian.go:24", #[], none⟩ ?_ ?_ ?_
  rotate_left
  · intro w hSw; (try dsimp only at hSw); go_simp; (try with_reducible rfl)
  try simp only [PT]
  refine tkY 1 ⟨some 16, .move (.tmp 2), 95, "endian.go:24", #[], none⟩ ?_ ?_ ?_
  rotate_left
  · intro w hSw; (try dsimp only at hSw); go_simp; (try with_reducible rfl)
  try simp only [PT]
  refine tkY 2 ⟨some 17, .move (.tmp 8), 3, "endian.go:24", #[], none⟩ ?_ ?_ ?_
  rotate_left
  · intro w hSw; (try dsimp only at hSw); go_simp; (try with_reducible rfl)
  try simp only [PT]
  refine tkY 4 ⟨some 19, .move (.tmp 0), 3, "endian.go:24", #[], none⟩ ?_ ?_ ?_
  rotate_left
  · intro w hSw; (try dsimp only at hSw); go_simp; (try with_reducible rfl)
  try simp only [PT]
  refine tkY 5 ⟨some 20, .move (.tmp 8), 3, "endian.go:24", #[], none⟩ ?_ ?_ ?_
  rotate_left
  · intro w hSw; (try dsimp only at hSw); go_simp; (try with_reducible rfl)
  try simp only [PT]
  refine tkY 6 ⟨some 21, .binOp .mul 3 (.const (.int .i64 8)) (.tmp 20) 3, 3, "endian.go:24", #[⟨5, .data⟩], none⟩ ?_ ?_ ?_
  rotate_left
  · intro w hSw; (try dsimp only at hSw); go_simp; (try with_reducible rfl)
  try simp only [PT]
  refine tkY 7 ⟨some 22, .binOp .shr 3 (.tmp 19) (.tmp 21) 3, 3, "endian.go:24", #[⟨4, .data⟩, ⟨6, .data⟩], none⟩ ?_ ?_ ?_
  rotate_left
  · intro w hSw; (try dsimp only at hSw); go_simp; (try with_reducible rfl)
  try simp only [PT]
  refine tkY 8 ⟨some 23, .convert 3 5 (.tmp 22), 5, "endian.go:24", #[⟨7, .data⟩], none⟩ ?_ ?_ ?_
  rotate_left
  · intro w hSw; (try dsimp only at hSw); go_simp; (try with_reducible rfl)
  try simp only [PT]
  refine wpAnyH_ready (rs := [3]) (by kernel_rfl) (by simp) ?_
  refine AllReadyH.cons (o := ⟨some 18, .call ⟨.value (.tmp 16), #[.tmp 17], #[3]⟩, 3, "endian.go:24", #[⟨1, .data⟩, ⟨2, .data⟩], none⟩) rfl (fun K hK => ?_) AllReadyH.nil
  go_simp
  (go_at_call 131; (with_reducible refine (up1_any _ _).mono ?_); rintro e w' ⟨rfl, rfl⟩)
  go_wp2_with fail
  refine hK.out _ _ kp (fun hHeld => ?_)
  clear hK K
  try simp only [PT]
  refine tkY 9 ⟨some 24, .indexAddr 48 (.tmp 15) (.tmp 18), 0, "endian.go:24", #[⟨0, .data⟩, ⟨3, .data⟩, ⟨0, .phase⟩, ⟨1, .phase⟩, ⟨2, .phase⟩, ⟨3, .phase⟩, ⟨4, .phase⟩, ⟨5, .phase⟩, ⟨6, .phase⟩, ⟨7, .phase⟩, ⟨8, .phase⟩], none⟩ ?_ ?_ ?_
  rotate_left
  · intro w hSw; (try dsimp only at hSw); go_simp; (try with_reducible rfl)
  try simp only [PT]
  refine wpAnyH_ready (rs := [10]) (by kernel_rfl) (by simp) ?_
  refine AllReadyH.cons (o := ⟨none, .store 5 (.tmp 24) (.tmp 23), 0, "endian.go:24", #[⟨9, .data⟩, ⟨8, .data⟩, ⟨3, .chain⟩, ⟨0, .phase⟩, ⟨1, .phase⟩, ⟨2, .phase⟩, ⟨3, .phase⟩, ⟨4, .phase⟩, ⟨5, .phase⟩, ⟨6, .phase⟩, ⟨7, .phase⟩, ⟨8, .phase⟩], none⟩) rfl (fun K hK => ?_) AllReadyH.nil
  go_simp
  refine hK.out _ _ kp (fun hHeld => ?_)
  clear hK K
  try simp only [PT]
  refine wpAnyH_done (by kernel_rfl) ?_ _
  refine NoPanic.normal ?_
  clear ka2 kb2 kc2
  go_wp2_with fail
  rw [rounds_succ]
  go_upto_region 5 with fail
  have ka3 : IntKind.i64.wrap 24 = 24 := by decide
  have kb3 : IntKind.i64.wrap 3 = 3 := by decide
  have kc3 : IntKind.u8.wrap (n / 16777216) = n / 16777216 % 256 := by rw [IntKind.wrap_u8]
  refine wp_region_noPanic ?_
  refine wp_region_held_drew (S := (fun _ => True ∧ True)) (by kernel_rfl) kp (fun hHeld => ?_)
  refine tkY 0 ⟨some 15, .move (.tmp 7), 48, "endian.go:24", #[], none⟩ ?_ ?_ ?_
  rotate_left
  · intro w hSw; (try dsimp only at hSw); go_simp; (try with_reducible rfl)
  try simp only [PT]
  refine tkY 1 ⟨some 16, .move (.tmp 2), 95, "endian.go:24", #[], none⟩ ?_ ?_ ?_
  rotate_left
  · intro w hSw; (try dsimp only at hSw); go_simp; (try with_reducible rfl)
  try simp only [PT]
  refine tkY 2 ⟨some 17, .move (.tmp 8), 3, "endian.go:24", #[], none⟩ ?_ ?_ ?_
  rotate_left
  · intro w hSw; (try dsimp only at hSw); go_simp; (try with_reducible rfl)
  try simp only [PT]
  refine tkY 4 ⟨some 19, .move (.tmp 0), 3, "endian.go:24", #[], none⟩ ?_ ?_ ?_
  rotate_left
  · intro w hSw; (try dsimp only at hSw); go_simp; (try with_reducible rfl)
  try simp only [PT]
  refine tkY 5 ⟨some 20, .move (.tmp 8), 3, "endian.go:24", #[], none⟩ ?_ ?_ ?_
  rotate_left
  · intro w hSw; (try dsimp only at hSw); go_simp; (try with_reducible rfl)
  try simp only [PT]
  refine tkY 6 ⟨some 21, .binOp .mul 3 (.const (.int .i64 8)) (.tmp 20) 3, 3, "endian.go:24", #[⟨5, .data⟩], none⟩ ?_ ?_ ?_
  rotate_left
  · intro w hSw; (try dsimp only at hSw); go_simp; (try with_reducible rfl)
  try simp only [PT]
  refine tkY 7 ⟨some 22, .binOp .shr 3 (.tmp 19) (.tmp 21) 3, 3, "endian.go:24", #[⟨4, .data⟩, ⟨6, .data⟩], none⟩ ?_ ?_ ?_
  rotate_left
  · intro w hSw; (try dsimp only at hSw); go_simp; (try with_reducible rfl)
  try simp only [PT]
  refine tkY 8 ⟨some 23, .convert 3 5 (.tmp 22), 5, "endian.go:24", #[⟨7, .data⟩], none⟩ ?_ ?_ ?_
  rotate_left
  · intro w hSw; (try dsimp only at hSw); go_simp; (try with_reducible rfl)
  try simp only [PT]
  refine wpAnyH_ready (rs := [3]) (by kernel_rfl) (by simp) ?_
  refine AllReadyH.cons (o := ⟨some 18, .call ⟨.value (.tmp 16), #[.tmp 17], #[3]⟩, 3, "endian.go:24", #[⟨1, .data⟩, ⟨2, .data⟩], none⟩) rfl (fun K hK => ?_) AllReadyH.nil
  go_simp
  (go_at_call 131; (with_reducible refine (up1_any _ _).mono ?_); rintro e w' ⟨rfl, rfl⟩)
  go_wp2_with fail
  refine hK.out _ _ kp (fun hHeld => ?_)
  clear hK K
  try simp only [PT]
  refine tkY 9 ⟨some 24, .indexAddr 48 (.tmp 15) (.tmp 18), 0, "endian.go:24", #[⟨0, .data⟩, ⟨3, .data⟩, ⟨0, .phase⟩, ⟨1, .phase⟩, ⟨2, .phase⟩, ⟨3, .phase⟩, ⟨4, .phase⟩, ⟨5, .phase⟩, ⟨6, .phase⟩, ⟨7, .phase⟩, ⟨8, .phase⟩], none⟩ ?_ ?_ ?_
  rotate_left
  · intro w hSw; (try dsimp only at hSw); go_simp; (try with_reducible rfl)
  try simp only [PT]
  refine wpAnyH_ready (rs := [10]) (by kernel_rfl) (by simp) ?_
  refine AllReadyH.cons (o := ⟨none, .store 5 (.tmp 24) (.tmp 23), 0, "endian.go:24", #[⟨9, .data⟩, ⟨8, .data⟩, ⟨3, .chain⟩, ⟨0, .phase⟩, ⟨1, .phase⟩, ⟨2, .phase⟩, ⟨3, .phase⟩, ⟨4, .phase⟩, ⟨5, .phase⟩, ⟨6, .phase⟩, ⟨7, .phase⟩, ⟨8, .phase⟩], none⟩) rfl (fun K hK => ?_) AllReadyH.nil
  go_simp
  refine hK.out _ _ kp (fun hHeld => ?_)
  clear hK K
  try simp only [PT]
  refine wpAnyH_done (by kernel_rfl) ?_ _
  refine NoPanic.normal ?_
  clear ka3 kb3 kc3
  go_wp2_with fail
  rw [rounds_succ]
  go_wp2_with fail
  go_ret
  exact ⟨rfl, by (exact bl)⟩
end Go.Proofs.YtjbhokmkmapkoaaGreatDoor
