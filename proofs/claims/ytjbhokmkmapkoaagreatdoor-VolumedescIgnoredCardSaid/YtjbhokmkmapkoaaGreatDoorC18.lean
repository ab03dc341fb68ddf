/- Contracts and plain words for the laws of volume descriptors, part 18: B2, B3, I1. No condition. -/
import Derived.Test.YtjbhokmkmapkoaaGreatDoorC17
import Derived.Lib.BufferWrite
import Derived.Test.YtjbhokmkmapkoaaGreatDoorC12
import Derived.Test.YtjbhokmkmapkoaaGreatDoorC15
namespace Go.Proofs.YtjbhokmkmapkoaaGreatDoor
set_option linter.unusedSimpArgs false
set_option linter.unusedVariables false
open Go.RowKit
set_option maxHeartbeats 400000 in
theorem down1_2 (i : Int) (b : Nat) (h : 0 ≤ i ∧ i ≤ 1) (w : World) (hc : w.cell? ⟨b, 0, none⟩ = some (.int .i64 2)) : Calls Tryz.prog 136 #[.int .i64 i, .pointer (some ⟨b, 0, none⟩)] w fun e w' => e = .returned (.int .i64 (1 - i)) ∧ w = w' := by
  have HL : Live w [] := trivial
  go_enter Tryz.func136, Tryz.ntmps136
  go_wp2
  go_ret
  exact ⟨rfl, rfl⟩
def DownP2 (w : World) (e : Ending) (w' : World) : Prop := e = .returned (.func (.func 136) #[] #[.pointer (some ⟨w.heap.size, 0, none⟩)]) ∧ w' = w.alloc (.cells #[.int .i64 2] 3)
set_option maxHeartbeats 400000 in
theorem down_2 (w : World) : Calls Tryz.prog 75 #[.int .i64 2] w (DownP2 w) := by
  have HL : Live w [] := trivial
  go_enter Tryz.func75, Tryz.ntmps75
  go_wp2
  go_ret
  exact ⟨rfl, rfl⟩
set_option maxHeartbeats 400000 in
theorem down1_4 (i : Int) (b : Nat) (h : 0 ≤ i ∧ i ≤ 3) (w : World) (hc : w.cell? ⟨b, 0, none⟩ = some (.int .i64 4)) : Calls Tryz.prog 136 #[.int .i64 i, .pointer (some ⟨b, 0, none⟩)] w fun e w' => e = .returned (.int .i64 (3 - i)) ∧ w = w' := by
  have HL : Live w [] := trivial
  go_enter Tryz.func136, Tryz.ntmps136
  go_wp2
  go_ret
  exact ⟨rfl, rfl⟩
def DownP4 (w : World) (e : Ending) (w' : World) : Prop := e = .returned (.func (.func 136) #[] #[.pointer (some ⟨w.heap.size, 0, none⟩)]) ∧ w' = w.alloc (.cells #[.int .i64 4] 3)
set_option maxHeartbeats 400000 in
theorem down_4 (w : World) : Calls Tryz.prog 75 #[.int .i64 4] w (DownP4 w) := by
  have HL : Live w [] := trivial
  go_enter Tryz.func75, Tryz.ntmps75
  go_wp2
  go_ret
  exact ⟨rfl, rfl⟩
set_option maxHeartbeats 2000000 in
theorem write_down2 (n : Int) (b : Nat) (h : 0 ≤ n ∧ n ≤ 65535) (w : World) (hc : w.cell? ⟨b, 0, none⟩ = some (.int .i64 2)) : Calls Tryz.prog 69 #[.int .i64 n, .int .i64 2, .func (.func 136) #[] #[.pointer (some ⟨b, 0, none⟩)]] w fun e w' => e = .returned (.string ⟨(b2 n).toArray⟩) ∧ Below w.heap.size w w' := by
  have hlt := cell_lt hc
  have hmk : ∀ W : World, (Instr.makeSlice 48 (.int .i64 2) (.int .i64 2)).run Tryz.prog W = .ok (.slice (some ⟨W.heap.size, 0, none⟩) 2 2) (W.alloc (.cells #[.int .u8 0, .int .u8 0] 5)) := fun _ => by kernel_rfl
  have wn : IntKind.i64.wrap n = n := IntWalk.i64_in _ (by omega)
  have cv := fun (x y : Int) => conv2' 48 9 5 Tryz.underlying48 Tryz.underlying5 Tryz.underlying9 w 5 x y
  have hne : b ≠ w.heap.size := by omega
  have HL : Live w [] := trivial
  go_enter Tryz.func69, Tryz.ntmps69
  go_wp2_with fail
  refine wp_loop_rounds 3 ?_
  rw [rounds_succ]
  go_upto_region 5 with fail
  have ka0 : IntKind.i64.wrap 0 = 0 := by decide
  have kb0 : IntKind.i64.wrap 0 = 0 := by decide
  have kc0 : IntKind.u8.wrap n = n % 256 := by rw [IntKind.wrap_u8]
  refine wp_region_noPanic ?_
  refine wp_region_held_drew (S := (fun x => x.cell? ⟨b, 0, none⟩ = some (.int .i64 2))) (by kernel_rfl) kp (fun hHeld => ?_)
  refine tkY 0 ⟨some 15, .move (.tmp 7), 48, "endian.go:24", #[], none⟩ ?_ ?_ ?_
  rotate_left
  · intro w hSw; (try dsimp only at hSw); go_simp; (try with_reducible rfl)
  try simp only [PT]
  refine tkY 1 ⟨some 16, .move (.tmp 2), 95, "endian.go:24", #[], none⟩ ?_ ?_ ?_
  rotate_left
  · intro w hSw; (try dsimp only at hSw); go_simp; (try with_reducible rfl)
  try simp only [PT]
  refine tkY 2 ⟨some 17, .move (.tmp 8), 3, "endian.go:24", #[], none⟩ ?_ ?_ ?_
  rotate_left
  · intro w hSw; (try dsimp only at hSw); go_simp; (try with_reducible rfl)
  try simp only [PT]
  refine tkY 4 ⟨some 19, .move (.tmp 0), 3, "endian.go:24", #[], none⟩ ?_ ?_ ?_
  rotate_left
  · intro w hSw; (try dsimp only at hSw); go_simp; (try with_reducible rfl)
  try simp only [PT]
  refine tkY 5 ⟨some 20, .move (.tmp 8), 3, "endian.go:24", #[], none⟩ ?_ ?_ ?_
  rotate_left
  · intro w hSw; (try dsimp only at hSw); go_simp; (try with_reducible rfl)
  try simp only [PT]
  refine tkY 6 ⟨some 21, .binOp .mul 3 (.const (.int .i64 8)) (.tmp 20) 3, 3, "endian.go:24", #[⟨5, .data⟩], none⟩ ?_ ?_ ?_
  rotate_left
  · intro w hSw; (try dsimp only at hSw); go_simp; (try with_reducible rfl)
  try simp only [PT]
  refine tkY 7 ⟨some 22, .binOp .shr 3 (.tmp 19) (.tmp 21) 3, 3, "endian.go:24", #[⟨4, .data⟩, ⟨6, .data⟩], none⟩ ?_ ?_ ?_
  rotate_left
  · intro w hSw; (try dsimp only at hSw); go_simp; (try with_reducible rfl)
  try simp only [PT]
  refine tkY 8 ⟨some 23, .convert 3 5 (.tmp 22), 5, "endian.go:24", #[⟨7, .data⟩], none⟩ ?_ ?_ ?_
  rotate_left
  · intro w hSw; (try dsimp only at hSw); go_simp; (try with_reducible rfl)
  try simp only [PT]
  refine wpAnyH_ready (rs := [3]) (by kernel_rfl) (by simp) ?_
  refine AllReadyH.cons (o := ⟨some 18, .call ⟨.value (.tmp 16), #[.tmp 17], #[3]⟩, 3, "endian.go:24", #[⟨1, .data⟩, ⟨2, .data⟩], none⟩) rfl (fun K hK => ?_) AllReadyH.nil
  go_simp
  (go_at_call 136; (with_reducible refine (down1_2 _ _ (by omega) _ (by assumption)).mono ?_); rintro e w' ⟨rfl, rfl⟩)
  go_wp2_with fail
  refine hK.out _ _ kp (fun hHeld => ?_)
  clear hK K
  try simp only [PT]
  refine tkY 9 ⟨some 24, .indexAddr 48 (.tmp 15) (.tmp 18), 0, "endian.go:24", #[⟨0, .data⟩, ⟨3, .data⟩, ⟨0, .phase⟩, ⟨1, .phase⟩, ⟨2, .phase⟩, ⟨3, .phase⟩, ⟨4, .phase⟩, ⟨5, .phase⟩, ⟨6, .phase⟩, ⟨7, .phase⟩, ⟨8, .phase⟩], none⟩ ?_ ?_ ?_
  rotate_left
  · intro w hSw; (try dsimp only at hSw); go_simp; (try with_reducible rfl)
  try simp only [PT]
  refine wpAnyH_ready (rs := [10]) (by kernel_rfl) (by simp) ?_
  refine AllReadyH.cons (o := ⟨none, .store 5 (.tmp 24) (.tmp 23), 0, "endian.go:24", #[⟨9, .data⟩, ⟨8, .data⟩, ⟨3, .chain⟩, ⟨0, .phase⟩, ⟨1, .phase⟩, ⟨2, .phase⟩, ⟨3, .phase⟩, ⟨4, .phase⟩, ⟨5, .phase⟩, ⟨6, .phase⟩, ⟨7, .phase⟩, ⟨8, .phase⟩], none⟩) rfl (fun K hK => ?_) AllReadyH.nil
  go_simp
  refine hK.out _ _ kp (fun hHeld => ?_)
  clear hK K
  try simp only [PT]
  refine wpAnyH_done (by kernel_rfl) ?_ _
  refine NoPanic.normal ?_
  clear ka0 kb0 kc0
  go_wp2_with fail
  rw [rounds_succ]
  go_upto_region 5 with fail
  have ka1 : IntKind.i64.wrap 8 = 8 := by decide
  have kb1 : IntKind.i64.wrap 1 = 1 := by decide
  have kc1 : IntKind.u8.wrap (n / 256) = n / 256 % 256 := by rw [IntKind.wrap_u8]
  refine wp_region_noPanic ?_
  refine wp_region_held_drew (S := (fun x => x.cell? ⟨b, 0, none⟩ = some (.int .i64 2))) (by kernel_rfl) kp (fun hHeld => ?_)
  refine tkY 0 ⟨some 15, .move (.tmp 7), 48, "endian.go:24", #[], none⟩ ?_ ?_ ?_
  rotate_left
  · intro w hSw; (try dsimp only at hSw); go_simp; (try with_reducible rfl)
  try simp only [PT]
  refine tkY 1 ⟨some 16, .move (.tmp 2), 95, "endian.go:24", #[], none⟩ ?_ ?_ ?_
  rotate_left
  · intro w hSw; (try dsimp only at hSw); go_simp; (try with_reducible rfl)
  try simp only [PT]
  refine tkY 2 ⟨some 17, .move (.tmp 8), 3, "endian.go:24", #[], none⟩ ?_ ?_ ?_
  rotate_left
  · intro w hSw; (try dsimp only at hSw); go_simp; (try with_reducible rfl)
  try simp only [PT]
  refine tkY 4 ⟨some 19, .move (.tmp 0), 3, "endian.go:24", #[], none⟩ ?_ ?_ ?_
  rotate_left
  · intro w hSw; (try dsimp only at hSw); go_simp; (try with_reducible rfl)
  try simp only [PT]
  refine tkY 5 ⟨some 20, .move (.tmp 8), 3, "endian.go:24", #[], none⟩ ?_ ?_ ?_
  rotate_left
  · intro w hSw; (try dsimp only at hSw); go_simp; (try with_reducible rfl)
  try simp only [PT]
  refine tkY 6 ⟨some 21, .binOp .mul 3 (.const (.int .i64 8)) (.tmp 20) 3, 3, "endian.go:24", #[⟨5, .data⟩], none⟩ ?_ ?_ ?_
  rotate_left
  · intro w hSw; (try dsimp only at hSw); go_simp; (try with_reducible rfl)
  try simp only [PT]
  refine tkY 7 ⟨some 22, .binOp .shr 3 (.tmp 19) (.tmp 21) 3, 3, "endian.go:24", #[⟨4, .data⟩, ⟨6, .data⟩], none⟩ ?_ ?_ ?_
  rotate_left
  · intro w hSw; (try dsimp only at hSw); go_simp; (try with_reducible rfl)
  try simp only [PT]
  refine tkY 8 ⟨some 23, .convert 3 5 (.tmp 22), 5, "endian.go:24", #[⟨7, .data⟩], none⟩ ?_ ?_ ?_
  rotate_left
  · intro w hSw; (try dsimp only at hSw); go_simp; (try with_reducible rfl)
  try simp only [PT]
  refine wpAnyH_ready (rs := [3]) (by kernel_rfl) (by simp) ?_
  refine AllReadyH.cons (o := ⟨some 18, .call ⟨.value (.tmp 16), #[.tmp 17], #[3]⟩, 3, "endian.go:24", #[⟨1, .data⟩, ⟨2, .data⟩], none⟩) rfl (fun K hK => ?_) AllReadyH.nil
  go_simp
  (go_at_call 136; (with_reducible refine (down1_2 _ _ (by omega) _ (by assumption)).mono ?_); rintro e w' ⟨rfl, rfl⟩)
  go_wp2_with fail
  refine hK.out _ _ kp (fun hHeld => ?_)
  clear hK K
  try simp only [PT]
  refine tkY 9 ⟨some 24, .indexAddr 48 (.tmp 15) (.tmp 18), 0, "endian.go:24", #[⟨0, .data⟩, ⟨3, .data⟩, ⟨0, .phase⟩, ⟨1, .phase⟩, ⟨2, .phase⟩, ⟨3, .phase⟩, ⟨4, .phase⟩, ⟨5, .phase⟩, ⟨6, .phase⟩, ⟨7, .phase⟩, ⟨8, .phase⟩], none⟩ ?_ ?_ ?_
  rotate_left
  · intro w hSw; (try dsimp only at hSw); go_simp; (try with_reducible rfl)
  try simp only [PT]
  refine wpAnyH_ready (rs := [10]) (by kernel_rfl) (by simp) ?_
  refine AllReadyH.cons (o := ⟨none, .store 5 (.tmp 24) (.tmp 23), 0, "endian.go:24", #[⟨9, .data⟩, ⟨8, .data⟩, ⟨3, .chain⟩, ⟨0, .phase⟩, ⟨1, .phase⟩, ⟨2, .phase⟩, ⟨3, .phase⟩, ⟨4, .phase⟩, ⟨5, .phase⟩, ⟨6, .phase⟩, ⟨7, .phase⟩, ⟨8, .phase⟩], none⟩) rfl (fun K hK => ?_) AllReadyH.nil
  go_simp
  refine hK.out _ _ kp (fun hHeld => ?_)
  clear hK K
  try simp only [PT]
  refine wpAnyH_done (by kernel_rfl) ?_ _
  refine NoPanic.normal ?_
  clear ka1 kb1 kc1
  go_wp2_with fail
  rw [rounds_succ]
  go_wp2_with fail
  go_ret
  exact ⟨rfl, by (exact bl)⟩
set_option maxHeartbeats 2000000 in
theorem write_down4 (n : Int) (b : Nat) (h : 0 ≤ n ∧ n ≤ 4294967295) (w : World) (hc : w.cell? ⟨b, 0, none⟩ = some (.int .i64 4)) : Calls Tryz.prog 69 #[.int .i64 n, .int .i64 4, .func (.func 136) #[] #[.pointer (some ⟨b, 0, none⟩)]] w fun e w' => e = .returned (.string ⟨(b4 n).toArray⟩) ∧ Below w.heap.size w w' := by
  have hlt := cell_lt hc
  have hmk : ∀ W : World, (Instr.makeSlice 48 (.int .i64 4) (.int .i64 4)).run Tryz.prog W = .ok (.slice (some ⟨W.heap.size, 0, none⟩) 4 4) (W.alloc (.cells #[.int .u8 0, .int .u8 0, .int .u8 0, .int .u8 0] 5)) := fun _ => by kernel_rfl
  have wn : IntKind.i64.wrap n = n := IntWalk.i64_in _ (by omega)
  have cv := fun (x y z v : Int) => conv4' 48 9 5 Tryz.underlying48 Tryz.underlying5 Tryz.underlying9 w 5 x y z v
  have hne : b ≠ w.heap.size := by omega
  have HL : Live w [] := trivial
  go_enter Tryz.func69, Tryz.ntmps69
  go_wp2_with fail
  refine wp_loop_rounds 5 ?_
  rw [rounds_succ]
  go_upto_region 5 with fail
  have ka0 : IntKind.i64.wrap 0 = 0 := by decide
  have kb0 : IntKind.i64.wrap 0 = 0 := by decide
  have kc0 : IntKind.u8.wrap n = n % 256 := by rw [IntKind.wrap_u8]
  refine wp_region_noPanic ?_
  refine wp_region_held_drew (S := (fun x => x.cell? ⟨b, 0, none⟩ = some (.int .i64 4))) (by kernel_rfl) kp (fun hHeld => ?_)
  refine tkY 0 ⟨some 15, .move (.tmp 7), 48, "endian.go:24", #[], none⟩ ?_ ?_ ?_
  rotate_left
  · intro w hSw; (try dsimp only at hSw); go_simp; (try with_reducible rfl)
  try simp only [PT]
  refine tkY 1 ⟨some 16, .move (.tmp 2), 95, "endian.go:24", #[], none⟩ ?_ ?_ ?_
  rotate_left
  · intro w hSw; (try dsimp only at hSw); go_simp; (try with_reducible rfl)
  try simp only [PT]
  refine tkY 2 ⟨some 17, .move (.tmp 8), 3, "endian.go:24", #[], none⟩ ?_ ?_ ?_
  rotate_left
  · intro w hSw; (try dsimp only at hSw); go_simp; (try with_reducible rfl)
  try simp only [PT]
  refine tkY 4 ⟨some 19, .move (.tmp 0), 3, "endian.go:24", #[], none⟩ ?_ ?_ ?_
  rotate_left
  · intro w hSw; (try dsimp only at hSw); go_simp; (try with_reducible rfl)
  try simp only [PT]
  refine tkY 5 ⟨some 20, .move (.tmp 8), 3, "endian.go:24", #[], none⟩ ?_ ?_ ?_
  rotate_left
  · intro w hSw; (try dsimp only at hSw); go_simp; (try with_reducible rfl)
  try simp only [PT]
  refine tkY 6 ⟨some 21, .binOp .mul 3 (.const (.int .i64 8)) (.tmp 20) 3, 3, "endian.go:24", #[⟨5, .data⟩], none⟩ ?_ ?_ ?_
  rotate_left
  · intro w hSw; (try dsimp only at hSw); go_simp; (try with_reducible rfl)
  try simp only [PT]
  refine tkY 7 ⟨some 22, .binOp .shr 3 (.tmp 19) (.tmp 21) 3, 3, "endian.go:24", #[⟨4, .data⟩, ⟨6, .data⟩], none⟩ ?_ ?_ ?_
  rotate_left
  · intro w hSw; (try dsimp only at hSw); go_simp; (try with_reducible rfl)
  try simp only [PT]
  refine tkY 8 ⟨some 23, .convert 3 5 (.tmp 22), 5, "endian.go:24", #[⟨7, .data⟩], none⟩ ?_ ?_ ?_
  rotate_left
  · intro w hSw; (try dsimp only at hSw); go_simp; (try with_reducible rfl)
  try simp only [PT]
  refine wpAnyH_ready (rs := [3]) (by kernel_rfl) (by simp) ?_
  refine AllReadyH.cons (o := ⟨some 18, .call ⟨.value (.tmp 16), #[.tmp 17], #[3]⟩, 3, "endian.go:24", #[⟨1, .data⟩, ⟨2, .data⟩], none⟩) rfl (fun K hK => ?_) AllReadyH.nil
  go_simp
  (go_at_call 136; (with_reducible refine (down1_4 _ _ (by omega) _ (by assumption)).mono ?_); rintro e w' ⟨rfl, rfl⟩)
  go_wp2_with fail
  refine hK.out _ _ kp (fun hHeld => ?_)
  clear hK K
  try simp only [PT]
  refine tkY 9 ⟨some 24, .indexAddr 48 (.tmp 15) (.tmp 18), 0, "endian.go:24", #[⟨0, .data⟩, ⟨3, .data⟩, ⟨0, .phase⟩, ⟨1, .phase⟩, ⟨2, .phase⟩, ⟨3, .phase⟩, ⟨4, .phase⟩, ⟨5, .phase⟩, ⟨6, .phase⟩, ⟨7, .phase⟩, ⟨8, .phase⟩], none⟩ ?_ ?_ ?_
  rotate_left
  · intro w hSw; (try dsimp only at hSw); go_simp; (try with_reducible rfl)
  try simp only [PT]
  refine wpAnyH_ready (rs := [10]) (by kernel_rfl) (by simp) ?_
  refine AllReadyH.cons (o := ⟨none, .store 5 (.tmp 24) (.tmp 23), 0, "endian.go:24", #[⟨9, .data⟩, ⟨8, .data⟩, ⟨3, .chain⟩, ⟨0, .phase⟩, ⟨1, .phase⟩, ⟨2, .phase⟩, ⟨3, .phase⟩, ⟨4, .phase⟩, ⟨5, .phase⟩, ⟨6, .phase⟩, ⟨7, .phase⟩, ⟨8, .phase⟩], none⟩) rfl (fun K hK => ?_) AllReadyH.nil
  go_simp
  refine hK.out _ _ kp (fun hHeld => ?_)
  clear hK K
  try simp only [PT]
  refine wpAnyH_done (by kernel_rfl) ?_ _
  refine NoPanic.normal ?_
  clear ka0 kb0 kc0
  go_wp2_with fail
  rw [rounds_succ]
  go_upto_region 5 with fail
  have ka1 : IntKind.i64.wrap 8 = 8 := by decide
  have kb1 : IntKind.i64.wrap 1 = 1 := by decide
  have kc1 : IntKind.u8.wrap (n / 256) = n / 256 % 256 := by rw [IntKind.wrap_u8]
  refine wp_region_noPanic ?_
  refine wp_region_held_drew (S := (fun x => x.cell? ⟨b, 0, none⟩ = some (.int .i64 4))) (by kernel_rfl) kp (fun hHeld => ?_)
  refine tkY 0 ⟨some 15, .move (.tmp 7), 48, "endian.go:24", #[], none⟩ ?_ ?_ ?_
  rotate_left
  · intro w hSw; (try dsimp only at hSw); go_simp; (try with_reducible rfl)
  try simp only [PT]
  refine tkY 1 ⟨some 16, .move (.tmp 2), 95, "endian.go:24", #[], none⟩ ?_ ?_ ?_
  rotate_left
  · intro w hSw; (try dsimp only at hSw); go_simp; (try with_reducible rfl)
  try simp only [PT]
  refine tkY 2 ⟨some 17, .move (.tmp 8), 3, "endian.go:24", #[], none⟩ ?_ ?_ ?_
  rotate_left
  · intro w hSw; (try dsimp only at hSw); go_simp; (try with_reducible rfl)
  try simp only [PT]
  refine tkY 4 ⟨some 19, .move (.tmp 0), 3, "endian.go:24", #[], none⟩ ?_ ?_ ?_
  rotate_left
  · intro w hSw; (try dsimp only at hSw); go_simp; (try with_reducible rfl)
  try simp only [PT]
  refine tkY 5 ⟨some 20, .move (.tmp 8), 3, "endian.go:24", #[], none⟩ ?_ ?_ ?_
  rotate_left
  · intro w hSw; (try dsimp only at hSw); go_simp; (try with_reducible rfl)
  try simp only [PT]
  refine tkY 6 ⟨some 21, .binOp .mul 3 (.const (.int .i64 8)) (.tmp 20) 3, 3, "endian.go:24", #[⟨5, .data⟩], none⟩ ?_ ?_ ?_
  rotate_left
  · intro w hSw; (try dsimp only at hSw); go_simp; (try with_reducible rfl)
  try simp only [PT]
  refine tkY 7 ⟨some 22, .binOp .shr 3 (.tmp 19) (.tmp 21) 3, 3, "endian.go:24", #[⟨4, .data⟩, ⟨6, .data⟩], none⟩ ?_ ?_ ?_
  rotate_left
  · intro w hSw; (try dsimp only at hSw); go_simp; (try with_reducible rfl)
  try simp only [PT]
  refine tkY 8 ⟨some 23, .convert 3 5 (.tmp 22), 5, "endian.go:24", #[⟨7, .data⟩], none⟩ ?_ ?_ ?_
  rotate_left
  · intro w hSw; (try dsimp only at hSw); go_simp; (try with_reducible rfl)
  try simp only [PT]
  refine wpAnyH_ready (rs := [3]) (by kernel_rfl) (by simp) ?_
  refine AllReadyH.cons (o := ⟨some 18, .call ⟨.value (.tmp 16), #[.tmp 17], #[3]⟩, 3, "endian.go:24", #[⟨1, .data⟩, ⟨2, .data⟩], none⟩) rfl (fun K hK => ?_) AllReadyH.nil
  go_simp
  (go_at_call 136; (with_reducible refine (down1_4 _ _ (by omega) _ (by assumption)).mono ?_); rintro e w' ⟨rfl, rfl⟩)
  go_wp2_with fail
  refine hK.out _ _ kp (fun hHeld => ?_)
  clear hK K
  try simp only [PT]
  refine tkY 9 ⟨some 24, .indexAddr 48 (.tmp 15) (.tmp 18), 0, "endian.go:24", #[⟨0, .data⟩, ⟨3, .data⟩, ⟨0, .phase⟩, ⟨1, .phase⟩, ⟨2, .phase⟩, ⟨3, .phase⟩, ⟨4, .phase⟩, ⟨5, .phase⟩, ⟨6, .phase⟩, ⟨7, .phase⟩, ⟨8, .phase⟩], none⟩ ?_ ?_ ?_
  rotate_left
  · intro w hSw; (try dsimp only at hSw); go_simp; (try with_reducible rfl)
  try simp only [PT]
  refine wpAnyH_ready (rs := [10]) (by kernel_rfl) (by simp) ?_
  refine AllReadyH.cons (o := ⟨none, .store 5 (.tmp 24) (.tmp 23), 0, "endian.go:24", #[⟨9, .data⟩, ⟨8, .data⟩, ⟨3, .chain⟩, ⟨0, .phase⟩, ⟨1, .phase⟩, ⟨2, .phase⟩, ⟨3, .phase⟩, ⟨4, .phase⟩, ⟨5, .phase⟩, ⟨6, .phase⟩, ⟨7, .phase⟩, ⟨8, .phase⟩], none⟩) rfl (fun K hK => ?_) AllReadyH.nil
  go_simp
  refine hK.out _ _ kp (fun hHeld => ?_)
  clear hK K
  try simp only [PT]
  refine wpAnyH_done (by kernel_rfl) ?_ _
  refine NoPanic.normal ?_
  clear ka1 kb1 kc1
  go_wp2_with fail
  rw [rounds_succ]
  go_upto_region 5 with fail
  have ka2 : IntKind.i64.wrap 16 = 16 := by decide
  have kb2 : IntKind.i64.wrap 2 = 2 := by decide
  have kc2 : IntKind.u8.wrap (n / 65536) = n / 65536 % 256 := by rw [IntKind.wrap_u8]
  refine wp_region_noPanic ?_
  refine wp_region_held_drew (S := (fun x => x.cell? ⟨b, 0, none⟩ = some (.int .i64 4))) (by kernel_rfl) kp (fun hHeld => ?_)
  refine tkY 0 ⟨some 15, .move (.tmp 7), 48, "endian.go:24", #[], none⟩ ?_ ?_ ?_
  rotate_left
  · intro w hSw; (try dsimp only at hSw); go_simp; (try with_reducible rfl)
  try simp only [PT]
  refine tkY 1 ⟨some 16, .move (.tmp 2), 95, "endian.go:24", #[], none⟩ ?_ ?_ ?_
  rotate_left
  · intro w hSw; (try dsimp only at hSw); go_simp; (try with_reducible rfl)
  try simp only [PT]
  refine tkY 2 ⟨some 17, .move (.tmp 8), 3, "endian.go:24", #[], none⟩ ?_ ?_ ?_
  rotate_left
  · intro w hSw; (try dsimp only at hSw); go_simp; (try with_reducible rfl)
  try simp only [PT]
  refine tkY 4 ⟨some 19, .move (.tmp 0), 3, "endian.go:24", #[], none⟩ ?_ ?_ ?_
  rotate_left
  · intro w hSw; (try dsimp only at hSw); go_simp; (try with_reducible rfl)
  try simp only [PT]
  refine tkY 5 ⟨some 20, .move (.tmp 8), 3, "endian.go:24", #[], none⟩ ?_ ?_ ?_
  rotate_left
  · intro w hSw; (try dsimp only at hSw); go_simp; (try with_reducible rfl)
  try simp only [PT]
  refine tkY 6 ⟨some 21, .binOp .mul 3 (.const (.int .i64 8)) (.tmp 20) 3, 3, "endian.go:24", #[⟨5, .data⟩], none⟩ ?_ ?_ ?_
  rotate_left
  · intro w hSw; (try dsimp only at hSw); go_simp; (try with_reducible rfl)
  try simp only [PT]
  refine tkY 7 ⟨some 22, .binOp .shr 3 (.tmp 19) (.tmp 21) 3, 3, "endian.go:24", #[⟨4, .data⟩, ⟨6, .data⟩], none⟩ ?_ ?_ ?_
  rotate_left
  · intro w hSw; (try dsimp only at hSw); go_simp; (try with_reducible rfl)
  try simp only [PT]
  refine tkY 8 ⟨some 23, .convert 3 5 (.tmp 22), 5, "endian.go:24", #[⟨7, .data⟩], none⟩ ?_ ?_ ?_
  rotate_left
  · intro w hSw; (try dsimp only at hSw); go_simp; (try with_reducible rfl)
  try simp only [PT]
  refine wpAnyH_ready (rs := [3]) (by kernel_rfl) (by simp) ?_
  refine AllReadyH.cons (o := ⟨some 18, .call ⟨.value (.tmp 16), #[.tmp 17], #[3]⟩, 3, "endian.go:24", #[⟨1, .data⟩, ⟨2, .data⟩], none⟩) rfl (fun K hK => ?_) AllReadyH.nil
  go_simp
  (go_at_call 136; (with_reducible refine (down1_4 _ _ (by omega) _ (by assumption)).mono ?_); rintro e w' ⟨rfl, rfl⟩)
  go_wp2_with fail
  refine hK.out _ _ kp (fun hHeld => ?_)
  clear hK K
  try simp only [PT]
  refine tkY 9 ⟨some 24, .indexAddr 48 (.tmp 15) (.tmp 18), 0, "endian.go:24", #[⟨0, .data⟩, ⟨3, .data⟩, ⟨0, .phase⟩, ⟨1, .phase⟩, ⟨2, .phase⟩, ⟨3, .phase⟩, ⟨4, .phase⟩, ⟨5, .phase⟩, ⟨6, .phase⟩, ⟨7, .phase⟩, ⟨8, .phase⟩], none⟩ ?_ ?_ ?_
  rotate_left
  · intro w hSw; (try dsimp only at hSw); go_simp; (try with_reducible rfl)
  try simp only [PT]
  refine wpAnyH_ready (rs := [10]) (by kernel_rfl) (by simp) ?_
  refine AllReadyH.cons (o := ⟨none, .store 5 (.tmp 24) (.tmp 23), 0, "endian.go:24", #[⟨9, .data⟩, ⟨8, .data⟩, ⟨3, .chain⟩, ⟨0, .phase⟩, ⟨1, .phase⟩, ⟨2, .phase⟩, ⟨3, .phase⟩, ⟨4, .phase⟩, ⟨5, .phase⟩, ⟨6, .phase⟩, ⟨7, .phase⟩, ⟨8, .phase⟩], none⟩) rfl (fun K hK => ?_) AllReadyH.nil
  go_simp
  refine hK.out _ _ kp (fun hHeld => ?_)
  clear hK K
  try simp only [PT]
  refine wpAnyH_done (by kernel_rfl) ?_ _
  refine NoPanic.normal ?_
  clear ka2 kb2 kc2
  go_wp2_with fail
  rw [rounds_succ]
  go_upto_region 5 with fail
  have ka3 : IntKind.i64.wrap 24 = 24 := by decide
  have kb3 : IntKind.i64.wrap 3 = 3 := by decide
  have kc3 : IntKind.u8.wrap (n / 16777216) = n / 16777216 % 256 := by rw [IntKind.wrap_u8]
  refine wp_region_noPanic ?_
  refine wp_region_held_drew (S := (fun x => x.cell? ⟨b, 0, none⟩ = some (.int .i64 4))) (by kernel_rfl) kp (fun hHeld => ?_)
  refine tkY 0 ⟨some 15, .move (.tmp 7), 48, "endian.go:24", #[], none⟩ ?_ ?_ ?_
  rotate_left
  · intro w hSw; (try dsimp only at hSw); go_simp; (try with_reducible rfl)
  try simp only [PT]
  refine tkY 1 ⟨some 16, .move (.tmp 2), 95, "endian.go:24", #[], none⟩ ?_ ?_ ?_
  rotate_left
  · intro w hSw; (try dsimp only at hSw); go_simp; (try with_reducible rfl)
  try simp only [PT]
  refine tkY 2 ⟨some 17, .move (.tmp 8), 3, "endian.go:24", #[], none⟩ ?_ ?_ ?_
  rotate_left
  · intro w hSw; (try dsimp only at hSw); go_simp; (try with_reducible rfl)
  try simp only [PT]
  refine tkY 4 ⟨some 19, .move (.tmp 0), 3, "endian.go:24", #[], none⟩ ?_ ?_ ?_
  rotate_left
  · intro w hSw; (try dsimp only at hSw); go_simp; (try with_reducible rfl)
  try simp only [PT]
  refine tkY 5 ⟨some 20, .move (.tmp 8), 3, "endian.go:24", #[], none⟩ ?_ ?_ ?_
  rotate_left
  · intro w hSw; (try dsimp only at hSw); go_simp; (try with_reducible rfl)
  try simp only [PT]
  refine tkY 6 ⟨some 21, .binOp .mul 3 (.const (.int .i64 8)) (.tmp 20) 3, 3, "endian.go:24", #[⟨5, .data⟩], none⟩ ?_ ?_ ?_
  rotate_left
  · intro w hSw; (try dsimp only at hSw); go_simp; (try with_reducible rfl)
  try simp only [PT]
  refine tkY 7 ⟨some 22, .binOp .shr 3 (.tmp 19) (.tmp 21) 3, 3, "endian.go:24", #[⟨4, .data⟩, ⟨6, .data⟩], none⟩ ?_ ?_ ?_
  rotate_left
  · intro w hSw; (try dsimp only at hSw); go_simp; (try with_reducible rfl)
  try simp only [PT]
  refine tkY 8 ⟨some 23, .convert 3 5 (.tmp 22), 5, "endian.go:24", #[⟨7, .data⟩], none⟩ ?_ ?_ ?_
  rotate_left
  · intro w hSw; (try dsimp only at hSw); go_simp; (try with_reducible rfl)
  try simp only [PT]
  refine wpAnyH_ready (rs := [3]) (by kernel_rfl) (by simp) ?_
  refine AllReadyH.cons (o := ⟨some 18, .call ⟨.value (.tmp 16), #[.tmp 17], #[3]⟩, 3, "endian.go:24", #[⟨1, .data⟩, ⟨2, .data⟩], none⟩) rfl (fun K hK => ?_) AllReadyH.nil
  go_simp
  (go_at_call 136; (with_reducible refine (down1_4 _ _ (by omega) _ (by assumption)).mono ?_); rintro e w' ⟨rfl, rfl⟩)
  go_wp2_with fail
  refine hK.out _ _ kp (fun hHeld => ?_)
  clear hK K
  try simp only [PT]
  refine tkY 9 ⟨some 24, .indexAddr 48 (.tmp 15) (.tmp 18), 0, "endian.go:24", #[⟨0, .data⟩, ⟨3, .data⟩, ⟨0, .phase⟩, ⟨1, .phase⟩, ⟨2, .phase⟩, ⟨3, .phase⟩, ⟨4, .phase⟩, ⟨5, .phase⟩, ⟨6, .phase⟩, ⟨7, .phase⟩, ⟨8, .phase⟩], none⟩ ?_ ?_ ?_
  rotate_left
  · intro w hSw; (try dsimp only at hSw); go_simp; (try with_reducible rfl)
  try simp only [PT]
  refine wpAnyH_ready (rs := [10]) (by kernel_rfl) (by simp) ?_
  refine AllReadyH.cons (o := ⟨none, .store 5 (.tmp 24) (.tmp 23), 0, "endian.go:24", #[⟨9, .data⟩, ⟨8, .data⟩, ⟨3, .chain⟩, ⟨0, .phase⟩, ⟨1, .phase⟩, ⟨2, .phase⟩, ⟨3, .phase⟩, ⟨4, .phase⟩, ⟨5, .phase⟩, ⟨6, .phase⟩, ⟨7, .phase⟩, ⟨8, .phase⟩], none⟩) rfl (fun K hK => ?_) AllReadyH.nil
  go_simp
  refine hK.out _ _ kp (fun hHeld => ?_)
  clear hK K
  try simp only [PT]
  refine wpAnyH_done (by kernel_rfl) ?_ _
  refine NoPanic.normal ?_
  clear ka3 kb3 kc3
  go_wp2_with fail
  rw [rounds_succ]
  go_wp2_with fail
  go_ret
  exact ⟨rfl, by (exact bl)⟩
end Go.Proofs.YtjbhokmkmapkoaaGreatDoor
namespace Go.Proofs.YtjbhokmkmapkoaaGreatDoor
set_option linter.unusedSimpArgs false
set_option linter.unusedVariables false
open Go.RowKit
set_option maxHeartbeats 400000 in
theorem double2 (w : World) : Calls Tryz.prog 73 #[.int .i64 2] w fun e w' => e = .returned (.bool true) ∧ w = w' := by
  have HL : Live w [] := trivial
  go_enter Tryz.func73, Tryz.ntmps73
  go_wp2
  go_ret
  exact ⟨rfl, rfl⟩
set_option maxHeartbeats 400000 in
theorem fits2 (n : Int) (h : 0 ≤ n ∧ n ≤ 65535) (w : World) : Calls Tryz.prog 74 #[.int .i64 n, .int .i64 2] w fun e w' => e = .returned (.bool true) ∧ w = w' := by
  have HL : Live w [] := trivial
  go_enter Tryz.func74, Tryz.ntmps74
  go_wp2
  go_ret
  exact ⟨ret_b (decide_eq_true (by omega)), rfl⟩
set_option maxHeartbeats 400000 in
theorem double4 (w : World) : Calls Tryz.prog 73 #[.int .i64 4] w fun e w' => e = .returned (.bool true) ∧ w = w' := by
  have HL : Live w [] := trivial
  go_enter Tryz.func73, Tryz.ntmps73
  go_wp2
  go_ret
  exact ⟨rfl, rfl⟩
set_option maxHeartbeats 400000 in
theorem fits4 (n : Int) (h : 0 ≤ n ∧ n ≤ 4294967295) (w : World) : Calls Tryz.prog 74 #[.int .i64 n, .int .i64 4] w fun e w' => e = .returned (.bool true) ∧ w = w' := by
  have HL : Live w [] := trivial
  go_enter Tryz.func74, Tryz.ntmps74
  go_wp2
  go_ret
  exact ⟨ret_b (decide_eq_true (by omega)), rfl⟩
set_option maxHeartbeats 400000 in
theorem check4 (n : Int) (h : 0 ≤ n ∧ n ≤ 4294967295) (w : World) : Calls Tryz.prog 68 #[.int .i64 n, .int .i64 4] w fun e w' => e = .returned (.int .i64 0) ∧ w = w' := by
  have HL : Live w [] := trivial
  go_enter Tryz.func68, Tryz.ntmps68
  go_wp2_with (first | (go_at_call 74; (with_reducible refine (fits4 _ (by omega) _).mono ?_); rintro e w' ⟨rfl, rfl⟩))
  go_ret
  exact ⟨rfl, rfl⟩
set_option maxHeartbeats 1000000 in
theorem little4_any (n : Int) (h : 0 ≤ n ∧ n ≤ 4294967295) (w : World) : Calls Tryz.prog 29 #[.int .i64 n, .int .i64 4] w fun e w' => e = .returned (.tuple #[.string ⟨(l4 n).toArray⟩, .int .i64 0]) ∧ Below w.heap.size w w' := by
  have HL : Live w [] := trivial
  go_enter Tryz.func29, Tryz.ntmps29
  go_wp2_with (first | (go_at_call 68; (with_reducible refine (check4 _ (by omega) _).mono ?_); rintro e w' ⟨rfl, rfl⟩) | (go_at_call 70; (with_reducible refine (up_any _ _).mono ?_); rintro e w' ⟨rfl, rfl⟩))
  (first | ((with_reducible refine (write_up4 n h _).mono ?_); rintro e w1 ⟨rfl, hb⟩; have hz := hb.size; (try simp only [SZ, Nat.reduceAdd] at hz); (first | obtain ⟨HL, hk⟩ := HL.callA hb hz | obtain ⟨HL, hk⟩ := HL.call0A hb hz); (try simp only [addN, Nat.add_zero] at HL hk); have hl := HL; simp only [Live] at hl; (try simp only [Kept] at hk)))
  go_wp2_with fail
  go_ret2
  exact ⟨rfl, by (exact bl)⟩
set_option maxHeartbeats 1000000 in
theorem big4_any (n : Int) (h : 0 ≤ n ∧ n ≤ 4294967295) (w : World) : Calls Tryz.prog 35 #[.int .i64 n, .int .i64 4] w fun e w' => e = .returned (.tuple #[.string ⟨(b4 n).toArray⟩, .int .i64 0]) ∧ Below w.heap.size w w' := by
  have HL : Live w [] := trivial
  go_enter Tryz.func35, Tryz.ntmps35
  go_wp2_with (first | (go_at_call 68; (with_reducible refine (check4 _ (by omega) _).mono ?_); rintro e w' ⟨rfl, rfl⟩) | (go_at_call 75; (with_reducible refine (down_4 _).mono ?_); rintro e w' ⟨rfl, rfl⟩))
  (first | ((with_reducible refine (write_down4 n w.heap.size h _ (by go_simp)).mono ?_); rintro e w1 ⟨rfl, hb⟩; have hz := hb.size; (try simp only [SZ, Nat.reduceAdd] at hz); (first | obtain ⟨HL, hk⟩ := HL.callA hb hz | obtain ⟨HL, hk⟩ := HL.call0A hb hz); (try simp only [addN, Nat.add_zero] at HL hk); have hl := HL; simp only [Live] at hl; (try simp only [Kept] at hk)))
  go_wp2_with fail
  go_ret2
  exact ⟨rfl, by (exact bl)⟩
set_option maxHeartbeats 1000000 in
theorem both2_any (n : Int) (h : 0 ≤ n ∧ n ≤ 65535) (w : World) : Calls Tryz.prog 34 #[.int .i64 n, .int .i64 2] w fun e w' => e = .returned (.tuple #[.string ⟨(both2 n).toArray⟩, .int .i64 0]) ∧ Below w.heap.size w w' := by
  have HL : Live w [] := trivial
  go_enter Tryz.func34, Tryz.ntmps34
  go_wp2_with (first | (go_at_call 73; (with_reducible refine (double2 _).mono ?_); rintro e w' ⟨rfl, rfl⟩) | (go_at_call 74; (with_reducible refine (fits2 _ (by omega) _).mono ?_); rintro e w' ⟨rfl, rfl⟩) | (go_at_call 70; (with_reducible refine (up_any _ _).mono ?_); rintro e w' ⟨rfl, rfl⟩))
  (first | ((with_reducible refine (write_up2 n h _).mono ?_); rintro e w1 ⟨rfl, hb⟩; have hz := hb.size; (try simp only [SZ, Nat.reduceAdd] at hz); (first | obtain ⟨HL, hk⟩ := HL.callA hb hz | obtain ⟨HL, hk⟩ := HL.call0A hb hz); (try simp only [addN, Nat.add_zero] at HL hk); have hl := HL; simp only [Live] at hl; (try simp only [Kept] at hk)))
  go_wp2_with (first | (go_at_call 75; (with_reducible refine (down_2 _).mono ?_); rintro e w' ⟨rfl, rfl⟩))
  (first | ((with_reducible refine (write_down2 n w1.heap.size h _ (by go_simp)).mono ?_); rintro e w2 ⟨rfl, hb⟩; have hz := hb.size; (try simp only [SZ, Nat.reduceAdd] at hz); (first | obtain ⟨HL, hk⟩ := HL.callA hb hz | obtain ⟨HL, hk⟩ := HL.call0A hb hz); (try simp only [addN, Nat.add_zero] at HL hk); have hl := HL; simp only [Live] at hl; (try simp only [Kept] at hk)))
  go_wp2_with fail
  go_ret2
  exact ⟨rfl, by (exact bl)⟩
set_option maxHeartbeats 1000000 in
theorem both4_any (n : Int) (h : 0 ≤ n ∧ n ≤ 4294967295) (w : World) : Calls Tryz.prog 34 #[.int .i64 n, .int .i64 4] w fun e w' => e = .returned (.tuple #[.string ⟨(both4 n).toArray⟩, .int .i64 0]) ∧ Below w.heap.size w w' := by
  have HL : Live w [] := trivial
  go_enter Tryz.func34, Tryz.ntmps34
  go_wp2_with (first | (go_at_call 73; (with_reducible refine (double4 _).mono ?_); rintro e w' ⟨rfl, rfl⟩) | (go_at_call 74; (with_reducible refine (fits4 _ (by omega) _).mono ?_); rintro e w' ⟨rfl, rfl⟩) | (go_at_call 70; (with_reducible refine (up_any _ _).mono ?_); rintro e w' ⟨rfl, rfl⟩))
  (first | ((with_reducible refine (write_up4 n h _).mono ?_); rintro e w1 ⟨rfl, hb⟩; have hz := hb.size; (try simp only [SZ, Nat.reduceAdd] at hz); (first | obtain ⟨HL, hk⟩ := HL.callA hb hz | obtain ⟨HL, hk⟩ := HL.call0A hb hz); (try simp only [addN, Nat.add_zero] at HL hk); have hl := HL; simp only [Live] at hl; (try simp only [Kept] at hk)))
  go_wp2_with (first | (go_at_call 75; (with_reducible refine (down_4 _).mono ?_); rintro e w' ⟨rfl, rfl⟩))
  (first | ((with_reducible refine (write_down4 n w1.heap.size h _ (by go_simp)).mono ?_); rintro e w2 ⟨rfl, hb⟩; have hz := hb.size; (try simp only [SZ, Nat.reduceAdd] at hz); (first | obtain ⟨HL, hk⟩ := HL.callA hb hz | obtain ⟨HL, hk⟩ := HL.call0A hb hz); (try simp only [addN, Nat.add_zero] at HL hk); have hl := HL; simp only [Live] at hl; (try simp only [Kept] at hk)))
  go_wp2_with fail
  go_ret2
  exact ⟨rfl, by (exact bl)⟩
end Go.Proofs.YtjbhokmkmapkoaaGreatDoor
namespace Go.Proofs.YtjbhokmkmapkoaaGreatDoor
set_option linter.unusedSimpArgs false
set_option linter.unusedVariables false
open Go.RowKit
open Go.PlainAid (bt get_bt bt_nonneg bt_le bt_end)
/-- The cells of a record. -/
def Rec.cells (r : Rec) : Array Value := #[.string r.id, .int .i64 r.lba, .int .i64 r.len, .int .i64 r.time, .int .i64 r.zone, .int .i64 r.flags, .int .i64 r.seq, .string r.use]
/-- A block reads as a record from a place on. -/
def Rat (w : World) (b : Nat) (r : Rec) : Prop := w.cell? ⟨b, 0, none⟩ = some (.string r.id) ∧ w.cell? ⟨b, 1, none⟩ = some (.int .i64 r.lba) ∧ w.cell? ⟨b, 2, none⟩ = some (.int .i64 r.len) ∧ w.cell? ⟨b, 3, none⟩ = some (.int .i64 r.time) ∧ w.cell? ⟨b, 4, none⟩ = some (.int .i64 r.zone) ∧ w.cell? ⟨b, 5, none⟩ = some (.int .i64 r.flags) ∧ w.cell? ⟨b, 6, none⟩ = some (.int .i64 r.seq) ∧ w.cell? ⟨b, 7, none⟩ = some (.string r.use)
theorem Rat.of {w : World} {b : Nat} {r : Rec} {T : TypeId} (h : Blk w b r.cells T) : Rat w b r := by
  unfold Rat
  have hc := h.cells
  exact ⟨(hc 0).trans rfl, (hc 1).trans rfl, (hc 2).trans rfl, (hc 3).trans rfl, (hc 4).trans rfl, (hc 5).trans rfl, (hc 6).trans rfl, (hc 7).trans rfl⟩
/-- A number and its size: it fits, its bytes in both orders, its error. -/
def okP (n s : Int) : Bool := if s = 4 then wordB n else halfB n
def bS (n s : Int) : List UInt8 := if okP n s = true then (if s = 4 then both4 n else both2 n) else []
def eP (n s : Int) : Int := if okP n s = true then 0 else 2
theorem bS_len (n s : Int) : (bS n s).length ≤ 8 := by
  unfold bS both4 both2 l4 b4 l2 b2
  repeat' split
  all_goals simp
set_option maxHeartbeats 400000 in
theorem fits_no (n s : Int) (hs : s = 2 ∨ s = 4) (h : okP n s = false) (w : World) : Calls Tryz.prog 74 #[.int .i64 n, .int .i64 s] w fun e w' => e = .returned (.bool false) ∧ w = w' := by
  by_cases n0 : 0 ≤ n
  · have hk : (if s = 4 then (4294967295 : Int) else 65535) < n := by
      unfold okP wordB halfB at h
      rcases hs with rfl | rfl
      · have := of_decide_eq_false h; simp; omega
      · have := of_decide_eq_false h; simp; omega
    clear h
    rcases hs with rfl | rfl
    · simp at hk
      have HL : Live w [] := trivial
      go_enter Tryz.func74, Tryz.ntmps74
      go_wp2
      go_ret
      exact ⟨ret_b (decide_eq_false (by omega)), rfl⟩
    · simp at hk
      have HL : Live w [] := trivial
      go_enter Tryz.func74, Tryz.ntmps74
      go_wp2
      go_ret
      exact ⟨ret_b (decide_eq_false (by omega)), rfl⟩
  · clear h
    rcases hs with rfl | rfl
    · have HL : Live w [] := trivial
      go_enter Tryz.func74, Tryz.ntmps74
      go_wp2
      go_ret
      exact ⟨rfl, rfl⟩
    · have HL : Live w [] := trivial
      go_enter Tryz.func74, Tryz.ntmps74
      go_wp2
      go_ret
      exact ⟨rfl, rfl⟩
theorem ret2_sb {a b : ByteArray} {c d : Int} (h1 : a = b) (h2 : c = d) : Ending.returned (.tuple #[.string a, .int .i64 c]) = .returned (.tuple #[.string b, .int .i64 d]) := by rw [h1, h2]
theorem okP4 {n : Int} (h : okP n 4 = true) : 0 ≤ n ∧ n ≤ 4294967295 := of_decide_eq_true h
theorem okP2 {n : Int} (h : okP n 2 = true) : 0 ≤ n ∧ n ≤ 65535 := of_decide_eq_true h
set_option maxHeartbeats 1000000 in
theorem both_any (n s : Int) (hs : s = 2 ∨ s = 4) (w : World) : Calls Tryz.prog 34 #[.int .i64 n, .int .i64 s] w fun e w' => e = .returned (.tuple #[.string ⟨(bS n s).toArray⟩, .int .i64 (eP n s)]) ∧ Below w.heap.size w w' := by
  cases h : okP n s
  · have e1 := hide (show bS n s = [] by unfold bS; rw [h]; rfl)
    have e2 := hide (show eP n s = 2 by unfold eP; rw [h]; rfl)
    have H := hide h
    clear h
    rcases hs with rfl | rfl
    · have FN := hide (fun W => fits_no n 2 (Or.inl rfl) H.out W)
      have HL : Live w [] := trivial
      go_enter Tryz.func34, Tryz.ntmps34
      go_wp2_with (first | (go_at_call 73; (with_reducible refine (double2 _).mono ?_); rintro e w' ⟨rfl, rfl⟩) | (go_at_call 74; (with_reducible refine (FN.out _).mono ?_); rintro e w' ⟨rfl, rfl⟩))
      go_ret2
      exact ⟨ret2_sb (by rw [e1.out]) e2.out.symm, Below.refl _ _⟩
    · have FN := hide (fun W => fits_no n 4 (Or.inr rfl) H.out W)
      have HL : Live w [] := trivial
      go_enter Tryz.func34, Tryz.ntmps34
      go_wp2_with (first | (go_at_call 73; (with_reducible refine (double4 _).mono ?_); rintro e w' ⟨rfl, rfl⟩) | (go_at_call 74; (with_reducible refine (FN.out _).mono ?_); rintro e w' ⟨rfl, rfl⟩))
      go_ret2
      exact ⟨ret2_sb (by rw [e1.out]) e2.out.symm, Below.refl _ _⟩
  · have e2 : eP n s = 0 := by unfold eP; rw [h]; rfl
    rw [e2]
    rcases hs with rfl | rfl
    · have e1 : bS n 2 = both2 n := by unfold bS; rw [h]; rfl
      rw [e1]
      exact both2_any n (okP2 h) w
    · have e1 : bS n 4 = both4 n := by unfold bS; rw [h]; rfl
      rw [e1]
      exact both4_any n (okP4 h) w
set_option maxHeartbeats 400000 in
theorem padded_any (n : Nat) (h : n ≤ 255) (w : World) : Calls Tryz.prog 112 #[.int .i64 n] w fun e w' => e = .returned (.int .i64 (padN n)) ∧ w = w' := by
  have HL : Live w [] := trivial
  go_enter Tryz.func112, Tryz.ntmps112
  go_wp2
  go_ret
  exact ⟨ret_i (by unfold padN; omega), rfl⟩
set_option maxHeartbeats 400000 in
theorem size_self (w : World) : Calls Tryz.prog 76 #[.int .i64 1, .int .i64 0] w fun e w' => e = .returned (.int .i64 34) ∧ w = w' := by
  have PA : Hid (∀ W, Calls Tryz.prog 112 #[.int .i64 1] W fun e w' => e = .returned (.int .i64 34) ∧ W = w') := hide (fun W => padded_any 1 (by decide) W)
  have HL : Live w [] := trivial
  go_enter Tryz.func76, Tryz.ntmps76
  go_wp2_with (go_at_call 112; refine (PA.out _).mono ?_; rintro e w' ⟨rfl, rfl⟩)
  go_ret
  exact ⟨rfl, rfl⟩
set_option maxHeartbeats 400000 in
theorem rsize_self (w : World) : Calls Tryz.prog 89 #[.int .i64 1, .int .i64 0] w fun e w' => e = .returned (.int .i64 34) ∧ w = w' := by
  have HL : Live w [] := trivial
  go_enter Tryz.func89, Tryz.ntmps89
  go_wp2
  go_ret
  exact ⟨rfl, rfl⟩
theorem byteInfo : (Tryz.prog.info? 5).map (fun i => (i.zero, i.size, i.bytes)) = some (some (.int .u8 0), 1, 1) := by kernel_rfl
set_option maxHeartbeats 1000000 in
theorem ccheck (B b : Nat) (l : List UInt8) (w : World) (h : BF B b l w) : Calls Tryz.prog 137 #[.pointer (some ⟨b, 0, none⟩)] w fun e w' => e = .returned (.tuple #[]) ∧
    (Lib.BuilderAtF 101 5 B b (.pointer (some ⟨b, 0, none⟩)) (Lib.byteCells l) w' ∧ Below B w w' ∧ OK8 b w w' ∧ (∀ p : Addr, p.block ≠ b → w'.cell? p = w.cell? p) ∧ w'.heap.size = w.heap.size) := by
  rcases h with h | h
  · refine (Any.Builder_copyCheck_fresh { Tryz.lays166 with } Tryz.Builder_Extra_166.toX72 b w h.cell0 h.shape h.frozen0).mono ?_
    rintro e w' ⟨rfl, rfl⟩
    exact ⟨rfl, h.used _, (Below.refl B w).setCell (p := ⟨b, 0, none⟩) h.1 _, (Lib.OthersKept.refl _ _ w).setCell ⟨b, 0, none⟩ rfl _, fun p hp => World.cell?_setCell_other w _ p _ (fun e => hp (by subst e; rfl)), World.size_setCell _ _ _⟩
  · refine (Any.Builder_copyCheck_used { Tryz.lays166 with } Tryz.Builder_Extra_166.toX72 b w h.cell0).mono ?_
    rintro e w' ⟨rfl, rfl⟩
    exact ⟨rfl, h, Below.refl B _, Lib.OthersKept.refl _ _ _, fun p _ => rfl, rfl⟩
set_option maxHeartbeats 2000000 in
set_option maxRecDepth 100000 in
theorem wbytes (B b : Nat) (l m : List UInt8) (g n c : Nat) (w : World) (h : BF B b l w) (hlen : l.length + m.length ≤ 140737488355328) (hBw : B ≤ w.heap.size) (hn : m.length = n) (hg : g ≠ b)
    (hc : ∀ j u, (Lib.byteCells m)[j]? = some u → w.cell? ((⟨g, 0, none⟩ : Addr).add j) = some u) :
    Calls Tryz.prog 80 #[.pointer (some ⟨b, 0, none⟩), .slice (some ⟨g, 0, none⟩) n c] w fun e w' => e = .returned (.tuple #[.int .i64 n, .nilIface]) ∧ BWP B b (l ++ m) w w' := by
  subst hn
  obtain ⟨i0, hi, hz0, hz1, hz2⟩ := info_parts byteInfo
  go_enter Tryz.func80, Tryz.ntmps80
  go_wp2_with (go_at_call 137; refine (ccheck B b l _ h).mono ?_)
  rintro e w1 ⟨rfl, h1, hb1, hk1, hcell, hsz⟩
  obtain ⟨hB, v, hbk, hown, hne⟩ := h1
  rw [Lib.byteCells_length] at hown
  have c0 : w1.cell? ⟨b, 0, none⟩ = some (.pointer (some ⟨b, 0, none⟩)) := by rw [Lib.cell_of_heap hbk]; rfl
  have c1 : w1.cell? ⟨b, 1, none⟩ = some v := by rw [Lib.cell_of_heap hbk]; rfl
  have hcc : ∀ j u, (Lib.byteCells m)[j]? = some u → w1.cell? ((⟨g, 0, none⟩ : Addr).add j) = some u := fun j u hj => (hcell _ (by unfold Addr.add; split <;> exact hg)).trans (hc j u hj)
  have HC := hide hcc
  clear hc hcc hcell hsz
  go_wp2_with (at_builtin; refine wpList_append_ownF _ rfl _ _ 48 rfl B 5 i0 (.int .u8 0) 1 1 Tryz.underlying48 hi hz0 hz1 hz2 rfl (by decide) _ _ _ rfl hown ⟨g, 0, none⟩ m.length c (Lib.byteCells m) rfl (by rw [Lib.byteCells_length]; omega) HC.out (Lib.byteCells_one _) ?c3 ?c4 ?c5 ?_)
  case c3 => unfold maxLen; omega
  case c4 => omega
  case c5 => have := hb1.size; omega
  intro v' w2 hown' hgrow _
  have hlt : b < w1.heap.size := by
    rcases Nat.lt_or_ge b w1.heap.size with h' | h'
    · exact h'
    · simp [Array.getElem?_eq_none h'] at hbk
  have hb2 : w2.heap[b]? = some (.cells #[.pointer (some ⟨b, 0, none⟩), v] 101 (0, 0)) := by
    rw [hgrow.block b hlt (fun e => hne e.symm)]
    exact hbk
  have d0 : w2.cell? ⟨b, 0, none⟩ = some (.pointer (some ⟨b, 0, none⟩)) := by rw [Lib.cell_of_heap hb2]; rfl
  have d1 : w2.cell? ⟨b, 1, none⟩ = some v := by rw [Lib.cell_of_heap hb2]; rfl
  have f1 : w2.frozen? ⟨b, 1, none⟩ = false := Lib.frozen_of_heap hb2 1
  obtain ⟨ao, n', cap, rfl⟩ : ∃ ao n' cap, v' = .slice ao n' cap := by
    rcases hown'.2 with ⟨hv, _⟩ | ⟨g, cap, cur, fz, hv, _⟩
    · exact ⟨_, _, _, hv⟩
    · exact ⟨_, _, _, hv⟩
  go_wp2
  go_ret2
  refine ⟨rfl, Or.inr ?_, ?_, (hk1.grown hgrow (Lib.ownsRowF_kind hown)).setCell ⟨b, 1, none⟩ rfl _⟩
  · refine Lib.BuilderAtF.put (T := 101) (e := 5) hB hb2 (bs' := Lib.byteCells (l ++ m)) ?_ Tryz.Builder_Extra_166.neB5
    rw [Lib.byteCells_length, List.length_append, Lib.byteCells_append]
    exact hown'
  · exact (hb1.grown hgrow (by have := hb1.size; omega) (fun k hk => (hown.lt k hk).1)).setCell (p := ⟨b, 1, none⟩) hB _
theorem wbyte (B b : Nat) (l : List UInt8) (c : Int) (w : World) (h : BF B b l w) (hc : 0 ≤ c ∧ c ≤ 255) (hlen : l.length ≤ 100000000) (hBw : B ≤ w.heap.size) :
    Calls Tryz.prog 81 #[.pointer (some ⟨b, 0, none⟩), .int .u8 c] w fun e w' => e = .returned .nilIface ∧ BWP B b (l ++ [u8 c]) w w' := by
  refine (Any.Builder_WriteByte_k Tryz.lays167 Tryz.Builder_Extra_167 B b (Lib.byteCells l) c w h (by rw [Lib.byteCells_length]; omega) hBw).mono ?_
  rintro e w' ⟨he, h1, h2, h3⟩
  refine ⟨he, Or.inr ?_, h2, h3⟩
  have e1 : Lib.byteCells l ++ [Value.int .u8 c] = Lib.byteCells (l ++ [u8 c]) := by
    rw [Lib.byteCells_append]
    simp only [Lib.byteCells, List.map_cons, List.map_nil, u8_nat hc]
  rw [e1] at h1
  exact h1
theorem Blk.ok8 {w w1 : World} {n b : Nat} {cs : Array Value} {T : TypeId} (h : Blk w n cs T) (hk : OK8 b w w1) (hT : T ≠ 5) (hne : n ≠ b) : Blk w1 n cs T :=
  hk n _ h (by intro e; exact hne (Option.some.inj e)) (fun c fz e => by injection e with _ e2; exact hT e2)
theorem OK8.below {b : Nat} {w w1 : World} (hb : Below w.heap.size w w1) : OK8 b w w1 := fun n o h _ _ => some_below hb h
end Go.Proofs.YtjbhokmkmapkoaaGreatDoor
