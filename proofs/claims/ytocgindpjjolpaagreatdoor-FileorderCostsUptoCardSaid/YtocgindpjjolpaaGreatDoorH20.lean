/- Contracts and plain words for the laws of this chapter, part 20: K1, K2. No condition. -/
import Derived.Test.YtocgindpjjolpaaGreatDoorH16
import Derived.Test.YtocgindpjjolpaaGreatDoorH9
namespace Go.Proofs.YtocgindpjjolpaaGreatDoor
set_option linter.unusedSimpArgs false
set_option linter.unusedVariables false
open Go.RowKit
set_option maxHeartbeats 2000000 in
theorem rblocks_any (n : Int) (h : -9223372036854775808 ≤ n ∧ n ≤ 9223372036854775807) (w : World) : Calls Tryz.prog 25 #[.int .i64 n] w fun e w' => e = .returned (.int .i64 (blocksI n)) ∧ w = w' := by
  by_cases hn : n ≤ 0
  · have e : blocksI n = 0 := by unfold blocksI; rw [if_pos hn]
    have HL : Live w [] := trivial
    go_enter Tryz.func25, Tryz.ntmps25
    go_wp2
    go_ret
    first | exact ⟨rfl, rfl⟩ | exact ⟨ret_i e.symm, rfl⟩
  · have e : blocksI n = (n - 1) / 2048 + 1 := by unfold blocksI; rw [if_neg hn]
    have k1 : IntKind.i64.wrap (n - 1) = n - 1 := IntWalk.i64_in _ (by omega)
    have k2 : IntKind.i64.wrap ((n - 1) / 2048) = (n - 1) / 2048 := IntWalk.i64_in _ (by omega)
    have k3 : IntKind.i64.wrap ((n - 1) / 2048 + 1) = (n - 1) / 2048 + 1 := IntWalk.i64_in _ (by omega)
    have HL : Live w [] := trivial
    go_enter Tryz.func25, Tryz.ntmps25
    go_wp2
    go_ret
    first | exact ⟨rfl, rfl⟩ | exact ⟨ret_i e.symm, rfl⟩
set_option maxRecDepth 100000 in
set_option maxHeartbeats 4000000 in
theorem vfile_any (f : Ext) (hf : extOK f) (w : World) : Calls Tryz.prog 59 #[.agg (extA f)] w fun e w' => e = .returned (.bool (extB f)) ∧ Below w.heap.size w w' := by
  obtain ⟨hs1, hs2, hs3⟩ := hf
  have RBK := hide (fun W => rblocks_any f.len hs2 W)
  have HL : Live w [] := trivial
  go_enter Tryz.func59, Tryz.ntmps59
  go_upto_region 1 with fail
  have HFB := hide (show Blk (w.alloc (.cells (extA f) 69)) w.heap.size (extA f) 69 from Blk.newAt rfl)
  have hb5 : Below w.heap.size w (w.alloc (.cells (extA f) 69)) := (Below.refl _ _).alloc (Nat.le_refl _) _
  generalize w.alloc (.cells (extA f) 69) = W5 at *
  obtain ⟨fb, hfb⟩ : ∃ fb, fb = w.heap.size := ⟨_, rfl⟩
  rw [← hfb] at HFB ⊢
  clear hfb
  have hk0 : Blk W5 fb (extA f) 69 ∧ True := ⟨HFB.out, trivial⟩
  have hk0d : Blk W5.drew fb (extA f) 69 ∧ True := ⟨HFB.out, trivial⟩
  by_cases c1 : f.start < 0
  · have HZ := hide (show extB f = false from decide_eq_false (fun h => by omega))
    have n1 : decide (0 ≤ f.start) = false := decide_eq_false (by omega)
    refine wp_region_noPanic ?_
    refine wp_region_held_drew (S := (fun z => Blk z fb (extA f) 69 ∧ True)) (by kernel_rfl) kp (fun hHeld => ?_)
    refine tkZ 0 ⟨some 3, .fieldAddr 69 (.tmp 1) 1, 0, "ref.go:149", #[], none⟩ ?_
    refine tkZ 1 ⟨some 4, .load 3 (.tmp 3), 3, "ref.go:149", #[⟨0, .data⟩], none⟩ ?_ (by intro w hSw; (try dsimp only at hSw); have c1 := hSw.1.cells 1; go_simp; (try with_reducible rfl))
    refine tkZ 2 ⟨some 5, .binOp .geq 3 (.tmp 4) (.const (.int .i64 0)) 3, 4, "ref.go:149", #[⟨1, .data⟩], none⟩ ?_
    refine tkZ 3 ⟨some 6, .move (.tmp 5), 4, "ref.go:149", #[⟨2, .data⟩], none⟩ ?_
    refine tkM 4 ⟨some 7, .fieldAddr 69 (.tmp 1) 2, 0, "ref.go:149", #[⟨3, .guard⟩], some (3, true)⟩ ?_
    refine tkM 5 ⟨some 8, .load 3 (.tmp 7), 3, "ref.go:149", #[⟨4, .data⟩, ⟨3, .guard⟩], some (3, true)⟩ ?_
    refine tkM 6 ⟨some 9, .binOp .geq 3 (.tmp 8) (.const (.int .i64 0)) 3, 4, "ref.go:149", #[⟨5, .data⟩, ⟨3, .guard⟩], some (3, true)⟩ ?_
    refine tkZ 7 ⟨some 10, .pick (.tmp 6) (.tmp 9) (.const (.bool false)), 4, "ref.go:149", #[⟨3, .data⟩, ⟨6, .data⟩], none⟩ ?_
    refine tkZ 8 ⟨some 11, .move (.tmp 10), 4, "ref.go:149", #[⟨7, .data⟩, ⟨3, .chain⟩], none⟩ ?_
    refine tkM 9 ⟨some 12, .fieldAddr 69 (.tmp 1) 1, 0, "ref.go:149", #[⟨8, .guard⟩], some (8, true)⟩ ?_
    refine tkM 10 ⟨some 13, .load 3 (.tmp 12), 3, "ref.go:149", #[⟨9, .data⟩, ⟨8, .guard⟩], some (8, true)⟩ ?_
    refine tkM 11 ⟨some 14, .binOp .leq 3 (.tmp 13) (.const (.int .i64 4096)) 3, 4, "ref.go:149", #[⟨10, .data⟩, ⟨8, .guard⟩], some (8, true)⟩ ?_
    refine tkZ 12 ⟨some 15, .pick (.tmp 11) (.tmp 14) (.const (.bool false)), 4, "ref.go:149", #[⟨8, .data⟩, ⟨11, .data⟩], none⟩ ?_
    refine tkZ 13 ⟨some 16, .move (.tmp 15), 4, "ref.go:149", #[⟨12, .data⟩, ⟨8, .chain⟩], none⟩ ?_
    refine tkM 14 ⟨some 17, .fieldAddr 69 (.tmp 1) 2, 0, "ref.go:149", #[⟨13, .guard⟩], some (13, true)⟩ ?_
    refine tkM 15 ⟨some 18, .load 3 (.tmp 17), 3, "ref.go:149", #[⟨14, .data⟩, ⟨13, .guard⟩], some (13, true)⟩ ?_
    refine tkM 16 ⟨some 19, .call ⟨.value (.func 25), #[.tmp 18], #[3]⟩, 3, "ref.go:149", #[⟨15, .data⟩, ⟨13, .chain⟩, ⟨13, .guard⟩], some (13, true)⟩ ?_
    refine tkM 17 ⟨some 20, .fieldAddr 69 (.tmp 1) 1, 0, "ref.go:149", #[⟨13, .guard⟩], some (13, true)⟩ ?_
    refine tkM 18 ⟨some 21, .load 3 (.tmp 20), 3, "ref.go:149", #[⟨17, .data⟩, ⟨13, .guard⟩], some (13, true)⟩ ?_
    refine tkM 19 ⟨some 22, .binOp .sub 3 (.const (.int .i64 4096)) (.tmp 21) 3, 3, "ref.go:149", #[⟨18, .data⟩, ⟨13, .guard⟩], some (13, true)⟩ ?_
    refine tkM 20 ⟨some 23, .binOp .leq 3 (.tmp 19) (.tmp 22) 3, 4, "ref.go:149", #[⟨16, .data⟩, ⟨19, .data⟩, ⟨13, .guard⟩], some (13, true)⟩ ?_
    refine tkZ 21 ⟨some 24, .pick (.tmp 16) (.tmp 23) (.const (.bool false)), 4, "ref.go:149", #[⟨13, .data⟩, ⟨20, .data⟩], none⟩ ?_
    refine tkZ 22 ⟨some 2, .assign (.tmp 24), 4, "ref.go:149", #[⟨21, .data⟩, ⟨16, .chain⟩, ⟨0, .phase⟩, ⟨1, .phase⟩, ⟨2, .phase⟩, ⟨3, .phase⟩, ⟨4, .phase⟩, ⟨5, .phase⟩, ⟨6, .phase⟩, ⟨7, .phase⟩, ⟨8, .phase⟩, ⟨9, .phase⟩, ⟨10, .phase⟩, ⟨11, .phase⟩, ⟨12, .phase⟩, ⟨13, .phase⟩, ⟨14, .phase⟩, ⟨15, .phase⟩, ⟨16, .phase⟩, ⟨17, .phase⟩, ⟨18, .phase⟩, ⟨19, .phase⟩, ⟨20, .phase⟩, ⟨21, .phase⟩], none⟩ ?_
    refine wpAnyH_done (by kernel_rfl) ?_ _
    refine NoPanic.normal ?_
    go_wp2_with fail
    go_ret
    exact ⟨ret_b HZ.out.symm, hb5.drew⟩
  have n1 : decide (0 ≤ f.start) = true := decide_eq_true (by omega)
  by_cases c2 : f.len < 0
  · have HZ := hide (show extB f = false from decide_eq_false (fun h => by omega))
    have n2 : decide (0 ≤ f.len) = false := decide_eq_false (by omega)
    refine wp_region_noPanic ?_
    refine wp_region_held_drew (S := (fun z => Blk z fb (extA f) 69 ∧ True)) (by kernel_rfl) kp (fun hHeld => ?_)
    refine tkZ 0 ⟨some 3, .fieldAddr 69 (.tmp 1) 1, 0, "ref.go:149", #[], none⟩ ?_
    refine tkZ 1 ⟨some 4, .load 3 (.tmp 3), 3, "ref.go:149", #[⟨0, .data⟩], none⟩ ?_ (by intro w hSw; (try dsimp only at hSw); have c1 := hSw.1.cells 1; go_simp; (try with_reducible rfl))
    refine tkZ 2 ⟨some 5, .binOp .geq 3 (.tmp 4) (.const (.int .i64 0)) 3, 4, "ref.go:149", #[⟨1, .data⟩], none⟩ ?_
    refine tkZ 3 ⟨some 6, .move (.tmp 5), 4, "ref.go:149", #[⟨2, .data⟩], none⟩ ?_
    refine tkZ 4 ⟨some 7, .fieldAddr 69 (.tmp 1) 2, 0, "ref.go:149", #[⟨3, .guard⟩], some (3, true)⟩ ?_
    refine tkZ 5 ⟨some 8, .load 3 (.tmp 7), 3, "ref.go:149", #[⟨4, .data⟩, ⟨3, .guard⟩], some (3, true)⟩ ?_ (by intro w hSw; (try dsimp only at hSw); have c1 := hSw.1.cells 2; go_simp; (try with_reducible rfl))
    refine tkZ 6 ⟨some 9, .binOp .geq 3 (.tmp 8) (.const (.int .i64 0)) 3, 4, "ref.go:149", #[⟨5, .data⟩, ⟨3, .guard⟩], some (3, true)⟩ ?_
    refine tkZ 7 ⟨some 10, .pick (.tmp 6) (.tmp 9) (.const (.bool false)), 4, "ref.go:149", #[⟨3, .data⟩, ⟨6, .data⟩], none⟩ ?_
    refine tkZ 8 ⟨some 11, .move (.tmp 10), 4, "ref.go:149", #[⟨7, .data⟩, ⟨3, .chain⟩], none⟩ ?_
    refine tkM 9 ⟨some 12, .fieldAddr 69 (.tmp 1) 1, 0, "ref.go:149", #[⟨8, .guard⟩], some (8, true)⟩ ?_
    refine tkM 10 ⟨some 13, .load 3 (.tmp 12), 3, "ref.go:149", #[⟨9, .data⟩, ⟨8, .guard⟩], some (8, true)⟩ ?_
    refine tkM 11 ⟨some 14, .binOp .leq 3 (.tmp 13) (.const (.int .i64 4096)) 3, 4, "ref.go:149", #[⟨10, .data⟩, ⟨8, .guard⟩], some (8, true)⟩ ?_
    refine tkZ 12 ⟨some 15, .pick (.tmp 11) (.tmp 14) (.const (.bool false)), 4, "ref.go:149", #[⟨8, .data⟩, ⟨11, .data⟩], none⟩ ?_
    refine tkZ 13 ⟨some 16, .move (.tmp 15), 4, "ref.go:149", #[⟨12, .data⟩, ⟨8, .chain⟩], none⟩ ?_
    refine tkM 14 ⟨some 17, .fieldAddr 69 (.tmp 1) 2, 0, "ref.go:149", #[⟨13, .guard⟩], some (13, true)⟩ ?_
    refine tkM 15 ⟨some 18, .load 3 (.tmp 17), 3, "ref.go:149", #[⟨14, .data⟩, ⟨13, .guard⟩], some (13, true)⟩ ?_
    refine tkM 16 ⟨some 19, .call ⟨.value (.func 25), #[.tmp 18], #[3]⟩, 3, "ref.go:149", #[⟨15, .data⟩, ⟨13, .chain⟩, ⟨13, .guard⟩], some (13, true)⟩ ?_
    refine tkM 17 ⟨some 20, .fieldAddr 69 (.tmp 1) 1, 0, "ref.go:149", #[⟨13, .guard⟩], some (13, true)⟩ ?_
    refine tkM 18 ⟨some 21, .load 3 (.tmp 20), 3, "ref.go:149", #[⟨17, .data⟩, ⟨13, .guard⟩], some (13, true)⟩ ?_
    refine tkM 19 ⟨some 22, .binOp .sub 3 (.const (.int .i64 4096)) (.tmp 21) 3, 3, "ref.go:149", #[⟨18, .data⟩, ⟨13, .guard⟩], some (13, true)⟩ ?_
    refine tkM 20 ⟨some 23, .binOp .leq 3 (.tmp 19) (.tmp 22) 3, 4, "ref.go:149", #[⟨16, .data⟩, ⟨19, .data⟩, ⟨13, .guard⟩], some (13, true)⟩ ?_
    refine tkZ 21 ⟨some 24, .pick (.tmp 16) (.tmp 23) (.const (.bool false)), 4, "ref.go:149", #[⟨13, .data⟩, ⟨20, .data⟩], none⟩ ?_
    refine tkZ 22 ⟨some 2, .assign (.tmp 24), 4, "ref.go:149", #[⟨21, .data⟩, ⟨16, .chain⟩, ⟨0, .phase⟩, ⟨1, .phase⟩, ⟨2, .phase⟩, ⟨3, .phase⟩, ⟨4, .phase⟩, ⟨5, .phase⟩, ⟨6, .phase⟩, ⟨7, .phase⟩, ⟨8, .phase⟩, ⟨9, .phase⟩, ⟨10, .phase⟩, ⟨11, .phase⟩, ⟨12, .phase⟩, ⟨13, .phase⟩, ⟨14, .phase⟩, ⟨15, .phase⟩, ⟨16, .phase⟩, ⟨17, .phase⟩, ⟨18, .phase⟩, ⟨19, .phase⟩, ⟨20, .phase⟩, ⟨21, .phase⟩], none⟩ ?_
    refine wpAnyH_done (by kernel_rfl) ?_ _
    refine NoPanic.normal ?_
    go_wp2_with fail
    go_ret
    exact ⟨ret_b HZ.out.symm, hb5.drew⟩
  have n2 : decide (0 ≤ f.len) = true := decide_eq_true (by omega)
  by_cases c3 : 4096 < f.start
  · have HZ := hide (show extB f = false from decide_eq_false (fun h => by omega))
    have n3 : decide (f.start ≤ 4096) = false := decide_eq_false (by omega)
    refine wp_region_noPanic ?_
    refine wp_region_held_drew (S := (fun z => Blk z fb (extA f) 69 ∧ True)) (by kernel_rfl) kp (fun hHeld => ?_)
    refine tkZ 0 ⟨some 3, .fieldAddr 69 (.tmp 1) 1, 0, "ref.go:149", #[], none⟩ ?_
    refine tkZ 1 ⟨some 4, .load 3 (.tmp 3), 3, "ref.go:149", #[⟨0, .data⟩], none⟩ ?_ (by intro w hSw; (try dsimp only at hSw); have c1 := hSw.1.cells 1; go_simp; (try with_reducible rfl))
    refine tkZ 2 ⟨some 5, .binOp .geq 3 (.tmp 4) (.const (.int .i64 0)) 3, 4, "ref.go:149", #[⟨1, .data⟩], none⟩ ?_
    refine tkZ 3 ⟨some 6, .move (.tmp 5), 4, "ref.go:149", #[⟨2, .data⟩], none⟩ ?_
    refine tkZ 4 ⟨some 7, .fieldAddr 69 (.tmp 1) 2, 0, "ref.go:149", #[⟨3, .guard⟩], some (3, true)⟩ ?_
    refine tkZ 5 ⟨some 8, .load 3 (.tmp 7), 3, "ref.go:149", #[⟨4, .data⟩, ⟨3, .guard⟩], some (3, true)⟩ ?_ (by intro w hSw; (try dsimp only at hSw); have c1 := hSw.1.cells 2; go_simp; (try with_reducible rfl))
    refine tkZ 6 ⟨some 9, .binOp .geq 3 (.tmp 8) (.const (.int .i64 0)) 3, 4, "ref.go:149", #[⟨5, .data⟩, ⟨3, .guard⟩], some (3, true)⟩ ?_
    refine tkZ 7 ⟨some 10, .pick (.tmp 6) (.tmp 9) (.const (.bool false)), 4, "ref.go:149", #[⟨3, .data⟩, ⟨6, .data⟩], none⟩ ?_
    refine tkZ 8 ⟨some 11, .move (.tmp 10), 4, "ref.go:149", #[⟨7, .data⟩, ⟨3, .chain⟩], none⟩ ?_
    refine tkZ 9 ⟨some 12, .fieldAddr 69 (.tmp 1) 1, 0, "ref.go:149", #[⟨8, .guard⟩], some (8, true)⟩ ?_
    refine tkZ 10 ⟨some 13, .load 3 (.tmp 12), 3, "ref.go:149", #[⟨9, .data⟩, ⟨8, .guard⟩], some (8, true)⟩ ?_ (by intro w hSw; (try dsimp only at hSw); have c1 := hSw.1.cells 1; go_simp; (try with_reducible rfl))
    refine tkZ 11 ⟨some 14, .binOp .leq 3 (.tmp 13) (.const (.int .i64 4096)) 3, 4, "ref.go:149", #[⟨10, .data⟩, ⟨8, .guard⟩], some (8, true)⟩ ?_
    refine tkZ 12 ⟨some 15, .pick (.tmp 11) (.tmp 14) (.const (.bool false)), 4, "ref.go:149", #[⟨8, .data⟩, ⟨11, .data⟩], none⟩ ?_
    refine tkZ 13 ⟨some 16, .move (.tmp 15), 4, "ref.go:149", #[⟨12, .data⟩, ⟨8, .chain⟩], none⟩ ?_
    refine tkM 14 ⟨some 17, .fieldAddr 69 (.tmp 1) 2, 0, "ref.go:149", #[⟨13, .guard⟩], some (13, true)⟩ ?_
    refine tkM 15 ⟨some 18, .load 3 (.tmp 17), 3, "ref.go:149", #[⟨14, .data⟩, ⟨13, .guard⟩], some (13, true)⟩ ?_
    refine tkM 16 ⟨some 19, .call ⟨.value (.func 25), #[.tmp 18], #[3]⟩, 3, "ref.go:149", #[⟨15, .data⟩, ⟨13, .chain⟩, ⟨13, .guard⟩], some (13, true)⟩ ?_
    refine tkM 17 ⟨some 20, .fieldAddr 69 (.tmp 1) 1, 0, "ref.go:149", #[⟨13, .guard⟩], some (13, true)⟩ ?_
    refine tkM 18 ⟨some 21, .load 3 (.tmp 20), 3, "ref.go:149", #[⟨17, .data⟩, ⟨13, .guard⟩], some (13, true)⟩ ?_
    refine tkM 19 ⟨some 22, .binOp .sub 3 (.const (.int .i64 4096)) (.tmp 21) 3, 3, "ref.go:149", #[⟨18, .data⟩, ⟨13, .guard⟩], some (13, true)⟩ ?_
    refine tkM 20 ⟨some 23, .binOp .leq 3 (.tmp 19) (.tmp 22) 3, 4, "ref.go:149", #[⟨16, .data⟩, ⟨19, .data⟩, ⟨13, .guard⟩], some (13, true)⟩ ?_
    refine tkZ 21 ⟨some 24, .pick (.tmp 16) (.tmp 23) (.const (.bool false)), 4, "ref.go:149", #[⟨13, .data⟩, ⟨20, .data⟩], none⟩ ?_
    refine tkZ 22 ⟨some 2, .assign (.tmp 24), 4, "ref.go:149", #[⟨21, .data⟩, ⟨16, .chain⟩, ⟨0, .phase⟩, ⟨1, .phase⟩, ⟨2, .phase⟩, ⟨3, .phase⟩, ⟨4, .phase⟩, ⟨5, .phase⟩, ⟨6, .phase⟩, ⟨7, .phase⟩, ⟨8, .phase⟩, ⟨9, .phase⟩, ⟨10, .phase⟩, ⟨11, .phase⟩, ⟨12, .phase⟩, ⟨13, .phase⟩, ⟨14, .phase⟩, ⟨15, .phase⟩, ⟨16, .phase⟩, ⟨17, .phase⟩, ⟨18, .phase⟩, ⟨19, .phase⟩, ⟨20, .phase⟩, ⟨21, .phase⟩], none⟩ ?_
    refine wpAnyH_done (by kernel_rfl) ?_ _
    refine NoPanic.normal ?_
    go_wp2_with fail
    go_ret
    exact ⟨ret_b HZ.out.symm, hb5.drew⟩
  have n3 : decide (f.start ≤ 4096) = true := decide_eq_true (by omega)
  have hw1 : IntKind.i64.wrap (4096 - f.start) = 4096 - f.start := IntWalk.i64_in _ (by omega)
  have HZ := hide (show extB f = decide (blocksI f.len ≤ 4096 - f.start) by unfold extB; rw [decide_eq_decide]; constructor <;> intro h <;> omega)
  obtain ⟨bl, hbl⟩ : ∃ bl, blocksI f.len = bl := ⟨_, rfl⟩
  rw [hbl] at RBK HZ
  clear hbl
  refine wp_region_noPanic ?_
  refine wp_region_held_drew (S := (fun z => Blk z fb (extA f) 69 ∧ True)) (by kernel_rfl) kp (fun hHeld => ?_)
  refine tkZ 0 ⟨some 3, .fieldAddr 69 (.tmp 1) 1, 0, "ref.go:149", #[], none⟩ ?_
  refine tkZ 1 ⟨some 4, .load 3 (.tmp 3), 3, "ref.go:149", #[⟨0, .data⟩], none⟩ ?_ (by intro w hSw; (try dsimp only at hSw); have c1 := hSw.1.cells 1; go_simp; (try with_reducible rfl))
  refine tkZ 2 ⟨some 5, .binOp .geq 3 (.tmp 4) (.const (.int .i64 0)) 3, 4, "ref.go:149", #[⟨1, .data⟩], none⟩ ?_
  refine tkZ 3 ⟨some 6, .move (.tmp 5), 4, "ref.go:149", #[⟨2, .data⟩], none⟩ ?_
  refine tkZ 4 ⟨some 7, .fieldAddr 69 (.tmp 1) 2, 0, "ref.go:149", #[⟨3, .guard⟩], some (3, true)⟩ ?_
  refine tkZ 5 ⟨some 8, .load 3 (.tmp 7), 3, "ref.go:149", #[⟨4, .data⟩, ⟨3, .guard⟩], some (3, true)⟩ ?_ (by intro w hSw; (try dsimp only at hSw); have c1 := hSw.1.cells 2; go_simp; (try with_reducible rfl))
  refine tkZ 6 ⟨some 9, .binOp .geq 3 (.tmp 8) (.const (.int .i64 0)) 3, 4, "ref.go:149", #[⟨5, .data⟩, ⟨3, .guard⟩], some (3, true)⟩ ?_
  refine tkZ 7 ⟨some 10, .pick (.tmp 6) (.tmp 9) (.const (.bool false)), 4, "ref.go:149", #[⟨3, .data⟩, ⟨6, .data⟩], none⟩ ?_
  refine tkZ 8 ⟨some 11, .move (.tmp 10), 4, "ref.go:149", #[⟨7, .data⟩, ⟨3, .chain⟩], none⟩ ?_
  refine tkZ 9 ⟨some 12, .fieldAddr 69 (.tmp 1) 1, 0, "ref.go:149", #[⟨8, .guard⟩], some (8, true)⟩ ?_
  refine tkZ 10 ⟨some 13, .load 3 (.tmp 12), 3, "ref.go:149", #[⟨9, .data⟩, ⟨8, .guard⟩], some (8, true)⟩ ?_ (by intro w hSw; (try dsimp only at hSw); have c1 := hSw.1.cells 1; go_simp; (try with_reducible rfl))
  refine tkZ 11 ⟨some 14, .binOp .leq 3 (.tmp 13) (.const (.int .i64 4096)) 3, 4, "ref.go:149", #[⟨10, .data⟩, ⟨8, .guard⟩], some (8, true)⟩ ?_
  refine tkZ 12 ⟨some 15, .pick (.tmp 11) (.tmp 14) (.const (.bool false)), 4, "ref.go:149", #[⟨8, .data⟩, ⟨11, .data⟩], none⟩ ?_
  refine tkZ 13 ⟨some 16, .move (.tmp 15), 4, "ref.go:149", #[⟨12, .data⟩, ⟨8, .chain⟩], none⟩ ?_
  refine tkZ 14 ⟨some 17, .fieldAddr 69 (.tmp 1) 2, 0, "ref.go:149", #[⟨13, .guard⟩], some (13, true)⟩ ?_
  refine tkZ 15 ⟨some 18, .load 3 (.tmp 17), 3, "ref.go:149", #[⟨14, .data⟩, ⟨13, .guard⟩], some (13, true)⟩ ?_ (by intro w hSw; (try dsimp only at hSw); have c1 := hSw.1.cells 2; go_simp; (try with_reducible rfl))
  refine tkZ 17 ⟨some 20, .fieldAddr 69 (.tmp 1) 1, 0, "ref.go:149", #[⟨13, .guard⟩], some (13, true)⟩ ?_
  refine tkZ 18 ⟨some 21, .load 3 (.tmp 20), 3, "ref.go:149", #[⟨17, .data⟩, ⟨13, .guard⟩], some (13, true)⟩ ?_ (by intro w hSw; (try dsimp only at hSw); have c1 := hSw.1.cells 1; go_simp; (try with_reducible rfl))
  refine tkZ 19 ⟨some 22, .binOp .sub 3 (.const (.int .i64 4096)) (.tmp 21) 3, 3, "ref.go:149", #[⟨18, .data⟩, ⟨13, .guard⟩], some (13, true)⟩ ?_
  refine rqS [16] (rqC ⟨some 19, .call ⟨.value (.func 25), #[.tmp 18], #[3]⟩, 3, "ref.go:149", #[⟨15, .data⟩, ⟨13, .chain⟩, ⟨13, .guard⟩], some (13, true)⟩ (fun K hK => ?_) rq0)
  go_simp
  (go_at_call 25; (with_reducible refine (RBK.out _).mono ?_); rintro e w8 ⟨rfl, hw8⟩; have hk8 : Blk w8 fb (extA f) 69 ∧ True := ⟨by rw [← hw8]; exact hHeld.1, trivial⟩)
  go_wp2_with fail
  refine hK.out _ _ kp (fun hHeld => ?_)
  clear hK K
  try simp only [PT]
  refine tkZ 20 ⟨some 23, .binOp .leq 3 (.tmp 19) (.tmp 22) 3, 4, "ref.go:149", #[⟨16, .data⟩, ⟨19, .data⟩, ⟨13, .guard⟩], some (13, true)⟩ ?_
  refine tkZ 21 ⟨some 24, .pick (.tmp 16) (.tmp 23) (.const (.bool false)), 4, "ref.go:149", #[⟨13, .data⟩, ⟨20, .data⟩], none⟩ ?_
  refine tkZ 22 ⟨some 2, .assign (.tmp 24), 4, "ref.go:149", #[⟨21, .data⟩, ⟨16, .chain⟩, ⟨0, .phase⟩, ⟨1, .phase⟩, ⟨2, .phase⟩, ⟨3, .phase⟩, ⟨4, .phase⟩, ⟨5, .phase⟩, ⟨6, .phase⟩, ⟨7, .phase⟩, ⟨8, .phase⟩, ⟨9, .phase⟩, ⟨10, .phase⟩, ⟨11, .phase⟩, ⟨12, .phase⟩, ⟨13, .phase⟩, ⟨14, .phase⟩, ⟨15, .phase⟩, ⟨16, .phase⟩, ⟨17, .phase⟩, ⟨18, .phase⟩, ⟨19, .phase⟩, ⟨20, .phase⟩, ⟨21, .phase⟩], none⟩ ?_
  refine wpAnyH_done (by kernel_rfl) ?_ _
  refine NoPanic.normal ?_
  subst hw8
  go_wp2_with fail
  go_ret
  exact ⟨ret_b HZ.out.symm, hb5.drew⟩
def twoFA (f : Ext) (p : ByteArray) (g o g2 o2 : Nat) (z : World) : Prop := (z.cell? ⟨g, o, none⟩ = some (.string f.path) ∧ z.cell? ⟨g, o + 1, none⟩ = some (.int .i64 f.start) ∧ z.cell? ⟨g, o + 2, none⟩ = some (.int .i64 f.len)) ∧ z.cell? ⟨g2, o2, none⟩ = some (.string p)
theorem at47_take {fs : List Ext} {k : Nat} {f : Ext} (h : fs[k]? = some f) (p : ByteArray) : at47 (fs.take (k + 1)) p = if f.path = p then at47 (fs.take k) p ++ [f] else at47 (fs.take k) p := by
  rw [all_snoc h, at47_snoc]
set_option maxRecDepth 100000 in
set_option maxHeartbeats 8000000 in
theorem rcost_any (files : List Ext) (acc : List ByteArray) (hfo : ∀ f ∈ files, extOK f) (hfl : files.length ≤ 100000000) (hal : acc.length ≤ 100000000) (vf va : Value) (w : World) (hf : SlF w w.heap.size vf files) (ha : SlR w w.heap.size va acc) :
    Calls Tryz.prog 28 #[vf, va] w fun e w' => e = .returned (.tuple #[.int .i64 (costT files acc).1, .int .i64 (costT files acc).2]) ∧ Below w.heap.size w w' := by
  have HFO := hide hfo
  obtain ⟨aF, cF, rfl, hF⟩ := hf
  obtain ⟨aA, cA, rfl, hA⟩ := ha
  have HF := hide hF
  have HA := hide hA
  clear hF hA hfo
  by_cases hbig : 1024 < files.length ∨ 1024 < acc.length
  · have HZ := hide (costT_big hbig)
    by_cases hb1 : 1024 < files.length
    · have HL : Live w [] := trivial
      go_enter Tryz.func28, Tryz.ntmps28
      go_wp2_with fail
      go_ret2
      exact ⟨ret_w HZ.out, Below.refl _ _⟩
    · have hb2 : 1024 < acc.length := by omega
      have HL : Live w [] := trivial
      go_enter Tryz.func28, Tryz.ntmps28
      go_wp2_with fail
      go_ret2
      exact ⟨ret_w HZ.out, Below.refl _ _⟩
  have HBAD := hide (costT_bad hbig)
  have HGO := hide (costT_go hbig)
  have hb1 : files.length ≤ 1024 := by omega
  have hb2 : acc.length ≤ 1024 := by omega
  clear hbig
  have HL : Live w [] := trivial
  go_enter Tryz.func28, Tryz.ntmps28
  go_wp2_with fail
  go_loopw [6] (fun i wr => ∃ k : Nat, i = .int .i64 (k : Int) ∧ k ≤ files.length ∧ (files.take k).all extB = true ∧ Below w.heap.size w wr) (fun i _ => files.length - (intOf i).toNat)
  case atStart => exact ⟨0, rfl, Nat.zero_le _, rfl, Below.refl _ _⟩
  case round =>
    obtain ⟨k, rfl, hk, hall, hbelr⟩ := hrel
    have HALL := hide hall
    have HB := hide hbelr
    have hszr := hbelr.size
    clear hall hbelr
    by_cases hlt : k < files.length
    · obtain ⟨f, hp⟩ : ∃ f, files[k]? = some f := ⟨files[k], List.getElem?_eq_getElem hlt⟩
      obtain ⟨g, o, rfl, hg, hcl⟩ := HF.out (by omega)
      have R1 := hide (show wr.rangeAt g (o + k * 3) (extA f).toList from range_below HB.out (by omega) (hcl k f hp))
      have hmem := List.mem_of_getElem? hp
      have VF := hide (vfile_any f (HFO.out f hmem) wr)
      have HMEM := hide hmem
      have HTK := hide (all_snoc hp)
      clear hcl hp hmem
      cases hx : extB f with
      | false =>
        rw [hx] at VF
        have HZ := hide (HBAD.out (fun h => by have := List.all_eq_true.1 h f HMEM.out; rw [hx] at this; exact absurd this (by decide)))
        clear hx
        go_wp2_with (first | ((with_reducible show wpList _ _ _ (Oper.mk (some 29) _ _ _ _ _ :: _) _ _); refine wpList_load_midA rfl 69 (.tmp 28) rfl g (o + k * 3) rfl (extA f) _ R1.out Tryz.underlying69 rfl (by rw [Array.length_toList]; exact infF rfl) ?_) | (go_at_call 59; refine VF.out.mono ?_; rintro e w4 ⟨rfl, hb4⟩))
        go_ret2
        exact ⟨ret_w HZ.out, HB.out.trans (hb4.mono hszr)⟩
      | true =>
        rw [hx] at VF
        have HA2 := hide (show (files.take (k + 1)).all extB = true by rw [HTK.out, List.all_append, HALL.out]; simp [hx])
        clear hx
        go_wp2_with (first | ((with_reducible show wpList _ _ _ (Oper.mk (some 29) _ _ _ _ _ :: _) _ _); refine wpList_load_midA rfl 69 (.tmp 28) rfl g (o + k * 3) rfl (extA f) _ R1.out Tryz.underlying69 rfl (by rw [Array.length_toList]; exact infF rfl) ?_) | (go_at_call 59; refine VF.out.mono ?_; rintro e w4 ⟨rfl, hb4⟩))
        go_roundw
        case rel => exact ⟨k + 1, by go_num, by omega, HA2.out, HB.out.trans (hb4.mono hszr)⟩
        case measure => simp [intOf]; omega
    · obtain rfl : k = files.length := by omega
      have HAF := hide (by have h := HALL.out; rwa [List.take_length] at h : files.all extB = true)
      have HZ := hide (HGO.out HAF.out)
      clear HALL HBAD HGO
      go_wp2_with fail
      generalize hW9 : wr = W9 at *
      clear hW9
      go_loopw [7, 8, 9, 10, 11] (fun cv av i _ _ w2 => ∃ (k : Nat) (c a : Int), cv = .int .i64 c ∧ av = .int .i64 a ∧ i = .int .i64 (k : Int) ∧ k ≤ acc.length ∧ 0 ≤ a ∧ a ≤ 4096 ∧ 0 ≤ c ∧ c ≤ (k : Int) * 4194304 ∧ costL files (acc.drop k) (c, a) = costL files acc (0, 0) ∧ Below W9.heap.size W9 w2) (fun _ _ i _ _ _ => acc.length - (intOf i).toNat)
      case atStart => exact ⟨0, 0, 0, rfl, rfl, rfl, Nat.zero_le _, by omega, by omega, by omega, by omega, rfl, Below.refl _ _⟩
      case round =>
        obtain ⟨k, c, a, rfl, rfl, rfl, hk2, ha0, ha1, hc0, hc1, hcl, hb2'⟩ := hrel
        have HCL := hide hcl
        have HB2 := hide hb2'
        have hsz2 := hb2'.size
        clear hcl hb2'
        by_cases hlt2 : k < acc.length
        · obtain ⟨p, hp⟩ : ∃ p, acc[k]? = some p := ⟨acc[k], List.getElem?_eq_getElem hlt2⟩
          obtain ⟨g2, o2, rfl, hg2, hcp⟩ := HA.out (by omega)
          have HP := hide (show ∀ W, Below W9.heap.size W9 W → W.cell? ⟨g2, o2 + k, none⟩ = some (.string p) from fun W h => ((HB.out.trans (h.mono hszr)).cell (p := ⟨g2, o2 + k, none⟩) hg2).trans (hcp k p hp))
          have HST := hide (costL_step (fs := files) hp (c, a))
          clear hcp hp
          go_wp2_with fail
          go_loopw [7, 8, 10, 11] (fun cv av fd i w3 => ∃ (j : Nat) (c' a' : Int), cv = .int .i64 c' ∧ av = .int .i64 a' ∧ fd = .bool (decide (at47 (files.take j) p ≠ [])) ∧ i = .int .i64 (j : Int) ∧ j ≤ files.length ∧ 0 ≤ a' ∧ a' ≤ 4096 ∧ 0 ≤ c' ∧ c' ≤ c + (j : Int) * 4096 ∧ (at47 (files.take j) p).foldl seek (c, a) = (c', a') ∧ Below W9.heap.size W9 w3) (fun _ _ _ i _ => files.length - (intOf i).toNat)
          case atStart => exact ⟨0, c, a, rfl, rfl, rfl, rfl, Nat.zero_le _, ha0, ha1, hc0, by omega, rfl, HB2.out⟩
          case round =>
            obtain ⟨j, c', a', rfl, rfl, rfl, rfl, hj, hp0, hp1, hq0, hq1, hsk, hb3⟩ := hrel
            have HSK := hide hsk
            have HB3 := hide hb3
            have hsz3 := hb3.size
            clear hsk hb3
            by_cases hltj : j < files.length
            · obtain ⟨f, hf⟩ : ∃ f, files[j]? = some f := ⟨files[j], List.getElem?_eq_getElem hltj⟩
              obtain ⟨g, o, rfl, hg, hcl⟩ := HF.out (by omega)
              have R2 := range_below (HB.out.trans (HB3.out.mono hszr)) hg (hcl j f hf)
              have hT : ∀ z, (∀ a : Addr, z.cell? a = wr.cell? a) → twoFA f p g (o + j * 3) g2 (o2 + k) z := fun z hz => ⟨⟨(hz _).trans (R2 0 _ rfl), (hz _).trans (R2 1 _ rfl), (hz _).trans (R2 2 _ rfl)⟩, (hz _).trans (HP.out _ HB3.out)⟩
              have hk0 : twoFA f p g (o + j * 3) g2 (o2 + k) wr ∧ True := ⟨hT _ (fun _ => rfl), trivial⟩
              have hk0d : twoFA f p g (o + j * 3) g2 (o2 + k) wr.drew ∧ True := ⟨hT _ (fun _ => rfl), trivial⟩
              have hk0dd : twoFA f p g (o + j * 3) g2 (o2 + k) wr.drew.drew ∧ True := ⟨hT _ (fun _ => rfl), trivial⟩
              have hk0ddd : twoFA f p g (o + j * 3) g2 (o2 + k) wr.drew.drew.drew ∧ True := ⟨hT _ (fun _ => rfl), trivial⟩
              have hmem := List.mem_of_getElem? hf
              obtain ⟨hx1, hx2, hx3, hx4⟩ := extB_all HAF.out hmem
              obtain ⟨hy1, hy2, -⟩ := HFO.out f hmem
              have HTK := hide (at47_take hf p)
              have c1 : wr.cell? ⟨g, o + j * 3 + 2, none⟩ = some (.int .i64 f.len) := R2 2 _ rfl
              clear hT hcl hf hmem R2
              by_cases q : f.path = p
              · have q1 : (f.path.toList != p.toList) = false := sne_n q
                have q2 : (f.path.toList == p.toList) = true := seq_y q
                have HTK2 := hide (show at47 (files.take (j + 1)) p = at47 (files.take j) p ++ [f] by rw [HTK.out, if_pos q])
                have HFD := hide (show decide (at47 (files.take (j + 1)) p ≠ []) = true from decide_eq_true (by rw [HTK2.out]; simp))
                by_cases hpos : 0 < f.len
                · have w1 : IntKind.i64.wrap (f.start - a') = f.start - a' := IntWalk.i64_in _ (by omega)
                  have w2 : IntKind.i64.wrap (a' - f.start) = a' - f.start := IntWalk.i64_in _ (by omega)
                  have w3 : IntKind.i64.wrap (c' + max (a' - f.start) (f.start - a')) = c' + max (a' - f.start) (f.start - a') := IntWalk.i64_in _ (by omega)
                  have RBL := hide (fun W => rblocks_any f.len (by omega) W)
                  have hbr := blocks_rng hx2
                  have HSS2 := hide (show (at47 (files.take (j + 1)) p).foldl seek (c, a) = (c' + max (a' - f.start) (f.start - a'), f.start + blocksI f.len) by rw [HTK2.out, List.foldl_append, HSK.out]; show seek (c', a') f = _; unfold seek; rw [if_pos hpos, Int.max_comm])
                  generalize blocksI f.len = bl at *
                  have w4 : IntKind.i64.wrap (f.start + bl) = f.start + bl := IntWalk.i64_in _ (by omega)
                  clear q
                  go_upto_region 16 with fail
                  refine wp_region_noPanic ?_
                  refine wp_region_held_drew (S := (fun z => twoFA f p g (o + j * 3) g2 (o2 + k) z ∧ True)) (by kernel_rfl) kp (fun hHeld => ?_)
                  refine tkZ 0 ⟨some 44, .move (.tmp 0), 37, "ref.go:166", #[], none⟩ ?_
                  refine tkZ 1 ⟨some 45, .move (.tmp 11), 3, "ref.go:166", #[], none⟩ ?_
                  refine tkZ 2 ⟨some 46, .indexAddr 37 (.tmp 44) (.tmp 45), 0, "ref.go:166", #[⟨0, .data⟩, ⟨1, .data⟩], none⟩ ?_
                  refine tkZ 3 ⟨some 47, .fieldAddr 69 (.tmp 46) 0, 0, "ref.go:166", #[⟨2, .data⟩], none⟩ ?_
                  refine tkZ 4 ⟨some 48, .load 9 (.tmp 47), 9, "ref.go:166", #[⟨3, .data⟩], none⟩ ?_ (by intro w hSw; (try dsimp only at hSw); have c1 := hSw.1.1.1; go_simp; (try with_reducible rfl))
                  refine tkZ 5 ⟨some 49, .move (.tmp 1), 26, "ref.go:166", #[], none⟩ ?_
                  refine tkZ 6 ⟨some 50, .move (.tmp 9), 3, "ref.go:166", #[], none⟩ ?_
                  refine tkZ 7 ⟨some 51, .indexAddr 26 (.tmp 49) (.tmp 50), 0, "ref.go:166", #[⟨5, .data⟩, ⟨6, .data⟩], none⟩ ?_
                  refine tkZ 8 ⟨some 52, .load 9 (.tmp 51), 9, "ref.go:166", #[⟨7, .data⟩], none⟩ ?_ (by intro w hSw; (try dsimp only at hSw); have c1 := hSw.1.2; go_simp; (try with_reducible rfl))
                  refine tkZ 9 ⟨some 53, .binOp .neq 9 (.tmp 48) (.tmp 52) 9, 4, "ref.go:166", #[⟨4, .data⟩, ⟨8, .data⟩], none⟩ ?_
                  refine wpAnyH_done (by kernel_rfl) ?_ _
                  refine NoPanic.normal ?_
                  go_upto_region 19 with fail
                  refine wp_region_noPanic ?_
                  refine wp_region_held_drew (S := (fun z => twoFA f p g (o + j * 3) g2 (o2 + k) z ∧ True)) (by kernel_rfl) kp (fun hHeld => ?_)
                  refine tkZ 0 ⟨some 60, .move (.tmp 7), 3, "ref.go:171", #[], none⟩ ?_
                  refine tkZ 1 ⟨some 61, .move (.tmp 8), 3, "ref.go:171", #[], none⟩ ?_
                  refine tkZ 2 ⟨some 62, .move (.tmp 0), 37, "ref.go:171", #[], none⟩ ?_
                  refine tkZ 3 ⟨some 63, .move (.tmp 11), 3, "ref.go:171", #[], none⟩ ?_
                  refine tkZ 4 ⟨some 64, .indexAddr 37 (.tmp 62) (.tmp 63), 0, "ref.go:171", #[⟨2, .data⟩, ⟨3, .data⟩], none⟩ ?_
                  refine tkZ 5 ⟨some 65, .fieldAddr 69 (.tmp 64) 1, 0, "ref.go:171", #[⟨4, .data⟩], none⟩ ?_
                  refine tkZ 6 ⟨some 66, .load 3 (.tmp 65), 3, "ref.go:171", #[⟨5, .data⟩], none⟩ ?_ (by intro w hSw; (try dsimp only at hSw); have c1 := hSw.1.1.2.1; go_simp; (try with_reducible rfl))
                  refine tkZ 7 ⟨some 67, .binOp .sub 3 (.tmp 61) (.tmp 66) 3, 3, "ref.go:171", #[⟨1, .data⟩, ⟨6, .data⟩], none⟩ ?_
                  refine tkZ 8 ⟨some 68, .move (.tmp 0), 37, "ref.go:171", #[], none⟩ ?_
                  refine tkZ 9 ⟨some 69, .move (.tmp 11), 3, "ref.go:171", #[], none⟩ ?_
                  refine tkZ 10 ⟨some 70, .indexAddr 37 (.tmp 68) (.tmp 69), 0, "ref.go:171", #[⟨8, .data⟩, ⟨9, .data⟩], none⟩ ?_
                  refine tkZ 11 ⟨some 71, .fieldAddr 69 (.tmp 70) 1, 0, "ref.go:171", #[⟨10, .data⟩], none⟩ ?_
                  refine tkZ 12 ⟨some 72, .load 3 (.tmp 71), 3, "ref.go:171", #[⟨11, .data⟩], none⟩ ?_ (by intro w hSw; (try dsimp only at hSw); have c1 := hSw.1.1.2.1; go_simp; (try with_reducible rfl))
                  refine tkZ 13 ⟨some 73, .move (.tmp 8), 3, "ref.go:171", #[], none⟩ ?_
                  refine tkZ 14 ⟨some 74, .binOp .sub 3 (.tmp 72) (.tmp 73) 3, 3, "ref.go:171", #[⟨12, .data⟩, ⟨13, .data⟩], none⟩ ?_
                  refine rqS [15] (rqC ⟨some 75, .call ⟨.builtin .max, #[.tmp 67, .tmp 74], #[3, 3]⟩, 3, "ref.go:171", #[⟨7, .data⟩, ⟨14, .data⟩], none⟩ (fun K hK => ?_) rq0)
                  go_simp
                  refine hK.out _ _ kp (fun hHeld => ?_)
                  clear hK K
                  try simp only [PT]
                  refine tkZ 16 ⟨some 76, .binOp .add 3 (.tmp 60) (.tmp 75) 3, 3, "ref.go:171", #[⟨0, .data⟩, ⟨15, .data⟩], none⟩ ?_
                  refine tkZ 17 ⟨some 7, .assign (.tmp 76), 3, "ref.go:171", #[⟨16, .data⟩, ⟨0, .phase⟩, ⟨1, .phase⟩, ⟨2, .phase⟩, ⟨3, .phase⟩, ⟨4, .phase⟩, ⟨5, .phase⟩, ⟨6, .phase⟩, ⟨7, .phase⟩, ⟨8, .phase⟩, ⟨9, .phase⟩, ⟨10, .phase⟩, ⟨11, .phase⟩, ⟨12, .phase⟩, ⟨13, .phase⟩, ⟨14, .phase⟩, ⟨15, .phase⟩, ⟨16, .phase⟩], none⟩ ?_
                  refine wpAnyH_done (by kernel_rfl) ?_ _
                  refine NoPanic.normal ?_
                  go_upto_region 20 with fail
                  refine wp_region_noPanic ?_
                  refine wp_region_held_drew (S := (fun z => twoFA f p g (o + j * 3) g2 (o2 + k) z ∧ True)) (by kernel_rfl) kp (fun hHeld => ?_)
                  refine tkZ 0 ⟨some 77, .move (.tmp 0), 37, "ref.go:172", #[], none⟩ ?_
                  refine tkZ 1 ⟨some 78, .move (.tmp 11), 3, "ref.go:172", #[], none⟩ ?_
                  refine tkZ 2 ⟨some 79, .indexAddr 37 (.tmp 77) (.tmp 78), 0, "ref.go:172", #[⟨0, .data⟩, ⟨1, .data⟩], none⟩ ?_
                  refine tkZ 3 ⟨some 80, .fieldAddr 69 (.tmp 79) 1, 0, "ref.go:172", #[⟨2, .data⟩], none⟩ ?_
                  refine tkZ 4 ⟨some 81, .load 3 (.tmp 80), 3, "ref.go:172", #[⟨3, .data⟩], none⟩ ?_ (by intro w hSw; (try dsimp only at hSw); have c1 := hSw.1.1.2.1; go_simp; (try with_reducible rfl))
                  refine tkZ 5 ⟨some 82, .move (.tmp 0), 37, "ref.go:172", #[], none⟩ ?_
                  refine tkZ 6 ⟨some 83, .move (.tmp 11), 3, "ref.go:172", #[], none⟩ ?_
                  refine tkZ 7 ⟨some 84, .indexAddr 37 (.tmp 82) (.tmp 83), 0, "ref.go:172", #[⟨5, .data⟩, ⟨6, .data⟩], none⟩ ?_
                  refine tkZ 8 ⟨some 85, .fieldAddr 69 (.tmp 84) 2, 0, "ref.go:172", #[⟨7, .data⟩], none⟩ ?_
                  refine tkZ 9 ⟨some 86, .load 3 (.tmp 85), 3, "ref.go:172", #[⟨8, .data⟩], none⟩ ?_ (by intro w hSw; (try dsimp only at hSw); have c1 := hSw.1.1.2.2; go_simp; (try with_reducible rfl))
                  refine rqS [10] (rqC ⟨some 87, .call ⟨.value (.func 25), #[.tmp 86], #[3]⟩, 3, "ref.go:172", #[⟨9, .data⟩], none⟩ (fun K hK => ?_) rq0)
                  go_simp
                  (go_at_call 25; (with_reducible refine (RBL.out _).mono ?_); rintro e w8 ⟨rfl, hw8⟩; have hk8 : twoFA f p g (o + j * 3) g2 (o2 + k) w8 ∧ True := ⟨by rw [← hw8]; exact hHeld.1, trivial⟩)
                  go_wp2_with fail
                  refine hK.out _ _ kp (fun hHeld => ?_)
                  clear hK K
                  try simp only [PT]
                  refine tkZ 11 ⟨some 88, .binOp .add 3 (.tmp 81) (.tmp 87) 3, 3, "ref.go:172", #[⟨4, .data⟩, ⟨10, .data⟩], none⟩ ?_
                  refine tkZ 12 ⟨some 8, .assign (.tmp 88), 3, "ref.go:172", #[⟨11, .data⟩, ⟨10, .chain⟩, ⟨0, .phase⟩, ⟨1, .phase⟩, ⟨2, .phase⟩, ⟨3, .phase⟩, ⟨4, .phase⟩, ⟨5, .phase⟩, ⟨6, .phase⟩, ⟨7, .phase⟩, ⟨8, .phase⟩, ⟨9, .phase⟩, ⟨10, .phase⟩, ⟨11, .phase⟩], none⟩ ?_
                  refine wpAnyH_done (by kernel_rfl) ?_ _
                  refine NoPanic.normal ?_
                  subst hw8
                  go_wp2_with fail
                  go_roundw
                  case rel => exact ⟨j + 1, _, _, rfl, rfl, by rw [HFD.out], by go_num, by omega, by omega, by omega, by omega, by omega, HSS2.out, HB3.out.drew.drew.drew⟩
                  case measure => simp [intOf]; omega
                · have HSS2 := hide (show (at47 (files.take (j + 1)) p).foldl seek (c, a) = (c', a') by rw [HTK2.out, List.foldl_append, HSK.out]; show seek (c', a') f = _; unfold seek; rw [if_neg hpos])
                  clear q
                  go_upto_region 16 with fail
                  refine wp_region_noPanic ?_
                  refine wp_region_held_drew (S := (fun z => twoFA f p g (o + j * 3) g2 (o2 + k) z ∧ True)) (by kernel_rfl) kp (fun hHeld => ?_)
                  refine tkZ 0 ⟨some 44, .move (.tmp 0), 37, "ref.go:166", #[], none⟩ ?_
                  refine tkZ 1 ⟨some 45, .move (.tmp 11), 3, "ref.go:166", #[], none⟩ ?_
                  refine tkZ 2 ⟨some 46, .indexAddr 37 (.tmp 44) (.tmp 45), 0, "ref.go:166", #[⟨0, .data⟩, ⟨1, .data⟩], none⟩ ?_
                  refine tkZ 3 ⟨some 47, .fieldAddr 69 (.tmp 46) 0, 0, "ref.go:166", #[⟨2, .data⟩], none⟩ ?_
                  refine tkZ 4 ⟨some 48, .load 9 (.tmp 47), 9, "ref.go:166", #[⟨3, .data⟩], none⟩ ?_ (by intro w hSw; (try dsimp only at hSw); have c1 := hSw.1.1.1; go_simp; (try with_reducible rfl))
                  refine tkZ 5 ⟨some 49, .move (.tmp 1), 26, "ref.go:166", #[], none⟩ ?_
                  refine tkZ 6 ⟨some 50, .move (.tmp 9), 3, "ref.go:166", #[], none⟩ ?_
                  refine tkZ 7 ⟨some 51, .indexAddr 26 (.tmp 49) (.tmp 50), 0, "ref.go:166", #[⟨5, .data⟩, ⟨6, .data⟩], none⟩ ?_
                  refine tkZ 8 ⟨some 52, .load 9 (.tmp 51), 9, "ref.go:166", #[⟨7, .data⟩], none⟩ ?_ (by intro w hSw; (try dsimp only at hSw); have c1 := hSw.1.2; go_simp; (try with_reducible rfl))
                  refine tkZ 9 ⟨some 53, .binOp .neq 9 (.tmp 48) (.tmp 52) 9, 4, "ref.go:166", #[⟨4, .data⟩, ⟨8, .data⟩], none⟩ ?_
                  refine wpAnyH_done (by kernel_rfl) ?_ _
                  refine NoPanic.normal ?_
                  go_wp2_with fail
                  go_roundw
                  case rel => exact ⟨j + 1, c', a', rfl, rfl, by rw [HFD.out], by go_num, by omega, hp0, hp1, hq0, by omega, HSS2.out, HB3.out.drew⟩
                  case measure => simp [intOf]; omega
              · have q1 : (f.path.toList != p.toList) = true := sne_y q
                have q2 : (f.path.toList == p.toList) = false := seq_n q
                have HTK2 := hide (show at47 (files.take (j + 1)) p = at47 (files.take j) p by rw [HTK.out, if_neg q])
                clear q
                go_upto_region 16 with fail
                refine wp_region_noPanic ?_
                refine wp_region_held_drew (S := (fun z => twoFA f p g (o + j * 3) g2 (o2 + k) z ∧ True)) (by kernel_rfl) kp (fun hHeld => ?_)
                refine tkZ 0 ⟨some 44, .move (.tmp 0), 37, "ref.go:166", #[], none⟩ ?_
                refine tkZ 1 ⟨some 45, .move (.tmp 11), 3, "ref.go:166", #[], none⟩ ?_
                refine tkZ 2 ⟨some 46, .indexAddr 37 (.tmp 44) (.tmp 45), 0, "ref.go:166", #[⟨0, .data⟩, ⟨1, .data⟩], none⟩ ?_
                refine tkZ 3 ⟨some 47, .fieldAddr 69 (.tmp 46) 0, 0, "ref.go:166", #[⟨2, .data⟩], none⟩ ?_
                refine tkZ 4 ⟨some 48, .load 9 (.tmp 47), 9, "ref.go:166", #[⟨3, .data⟩], none⟩ ?_ (by intro w hSw; (try dsimp only at hSw); have c1 := hSw.1.1.1; go_simp; (try with_reducible rfl))
                refine tkZ 5 ⟨some 49, .move (.tmp 1), 26, "ref.go:166", #[], none⟩ ?_
                refine tkZ 6 ⟨some 50, .move (.tmp 9), 3, "ref.go:166", #[], none⟩ ?_
                refine tkZ 7 ⟨some 51, .indexAddr 26 (.tmp 49) (.tmp 50), 0, "ref.go:166", #[⟨5, .data⟩, ⟨6, .data⟩], none⟩ ?_
                refine tkZ 8 ⟨some 52, .load 9 (.tmp 51), 9, "ref.go:166", #[⟨7, .data⟩], none⟩ ?_ (by intro w hSw; (try dsimp only at hSw); have c1 := hSw.1.2; go_simp; (try with_reducible rfl))
                refine tkZ 9 ⟨some 53, .binOp .neq 9 (.tmp 48) (.tmp 52) 9, 4, "ref.go:166", #[⟨4, .data⟩, ⟨8, .data⟩], none⟩ ?_
                refine wpAnyH_done (by kernel_rfl) ?_ _
                refine NoPanic.normal ?_
                go_wp2_with fail
                go_roundw
                case rel => exact ⟨j + 1, c', a', rfl, rfl, by rw [HTK2.out], by go_num, by omega, hp0, hp1, hq0, by omega, by rw [HTK2.out]; exact HSK.out, HB3.out.drew⟩
                case measure => simp [intOf]; omega
            · obtain rfl : j = files.length := by omega
              have hsk2 := HSK.out
              rw [List.take_length] at hsk2
              have HFD := hide (show decide (at47 (files.take files.length) p ≠ []) = decide (at47 files p ≠ []) by rw [List.take_length])
              by_cases hn0 : at47 files p = []
              · have HZ2 := hide (show costT files acc = (0, 6) by rw [HZ.out, ← HCL.out, HST.out, if_pos hn0])
                have hbf := HB.out.trans (HB3.out.mono (by omega))
                have hfd : decide (at47 (files.take files.length) p ≠ []) = false := by rw [HFD.out]; simp [hn0]
                rw [hfd]
                clear hn0 hfd hsk2 HST
                go_wp2_with fail
                go_ret2
                exact ⟨ret_w HZ2.out, hbf⟩
              · have HSK2 := hide (show costL files (acc.drop (k + 1)) (c', a') = costL files acc (0, 0) by rw [← HCL.out, HST.out, if_neg hn0, hsk2])
                have hfd : decide (at47 (files.take files.length) p ≠ []) = true := by rw [HFD.out]; simp [hn0]
                rw [hfd]
                clear hn0 hfd hsk2 HST
                go_wp2_with fail
                go_roundw
                case rel => exact ⟨k + 1, c', a', rfl, rfl, by go_num, by omega, hp0, hp1, hq0, by omega, HSK2.out, HB3.out⟩
                case measure => simp [intOf]; omega
        · obtain rfl : k = acc.length := by omega
          have HZ2 := hide (show costT files acc = (c, 0) by rw [HZ.out, ← HCL.out, List.drop_length, costL])
          have hbf := HB.out.trans (HB2.out.mono (by omega))
          go_wp2_with fail
          go_ret2
          exact ⟨ret_w HZ2.out, hbf⟩
end Go.Proofs.YtocgindpjjolpaaGreatDoor
