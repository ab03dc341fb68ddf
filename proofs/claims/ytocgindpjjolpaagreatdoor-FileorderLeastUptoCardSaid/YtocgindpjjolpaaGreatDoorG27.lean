/- Contracts and plain words for the laws of this chapter, part 27: K1, K3. No condition. -/
import Derived.Test.YtocgindpjjolpaaGreatDoorG21
import Derived.Test.YtocgindpjjolpaaGreatDoorG14
import Derived.Test.YtocgindpjjolpaaGreatDoorG12
namespace Go.Proofs.YtocgindpjjolpaaGreatDoor
set_option linter.unusedSimpArgs false
set_option linter.unusedVariables false
open Go.RowKit
set_option maxHeartbeats 2000000 in
theorem rblocks_any (n : Int) (h : -9223372036854775808 ≤ n ∧ n ≤ 9223372036854775807) (w : World) : Calls Tryz.prog 25 #[.int .i64 n] w fun e w' => e = .returned (.int .i64 (blocksI n)) ∧ w = w' := by
  by_cases hn : n ≤ 0
  · have e : blocksI n = 0 := by unfold blocksI; rw [if_pos hn]
    have HL : Live w [] := trivial
    go_enter Tryz.func25, Tryz.ntmps25
    go_wp2
    go_ret
    first | exact ⟨rfl, rfl⟩ | exact ⟨ret_i e.symm, rfl⟩
  · have e : blocksI n = (n - 1) / 2048 + 1 := by unfold blocksI; rw [if_neg hn]
    have k1 : IntKind.i64.wrap (n - 1) = n - 1 := IntWalk.i64_in _ (by omega)
    have k2 : IntKind.i64.wrap ((n - 1) / 2048) = (n - 1) / 2048 := IntWalk.i64_in _ (by omega)
    have k3 : IntKind.i64.wrap ((n - 1) / 2048 + 1) = (n - 1) / 2048 + 1 := IntWalk.i64_in _ (by omega)
    have HL : Live w [] := trivial
    go_enter Tryz.func25, Tryz.ntmps25
    go_wp2
    go_ret
    first | exact ⟨rfl, rfl⟩ | exact ⟨ret_i e.symm, rfl⟩
set_option maxRecDepth 100000 in
set_option maxHeartbeats 4000000 in
theorem vfile_any (f : Ext) (hf : extOK f) (w : World) : Calls Tryz.prog 59 #[.agg (extA f)] w fun e w' => e = .returned (.bool (extB f)) ∧ Below w.heap.size w w' := by
  obtain ⟨hs1, hs2, hs3⟩ := hf
  have RBK := hide (fun W => rblocks_any f.len hs2 W)
  have HL : Live w [] := trivial
  go_enter Tryz.func59, Tryz.ntmps59
  go_upto_region 1 with fail
  have HFB := hide (show Blk (w.alloc (.cells (extA f) 69)) w.heap.size (extA f) 69 from Blk.newAt rfl)
  have hb5 : Below w.heap.size w (w.alloc (.cells (extA f) 69)) := (Below.refl _ _).alloc (Nat.le_refl _) _
  generalize w.alloc (.cells (extA f) 69) = W5 at *
  obtain ⟨fb, hfb⟩ : ∃ fb, fb = w.heap.size := ⟨_, rfl⟩
  rw [← hfb] at HFB ⊢
  clear hfb
  have hk0 : Blk W5 fb (extA f) 69 ∧ True := ⟨HFB.out, trivial⟩
  have hk0d : Blk W5.drew fb (extA f) 69 ∧ True := ⟨HFB.out, trivial⟩
  by_cases c1 : f.start < 0
  · have HZ := hide (show extB f = false from decide_eq_false (fun h => by omega))
    have n1 : decide (0 ≤ f.start) = false := decide_eq_false (by omega)
    refine wp_region_noPanic ?_
    refine wp_region_held_drew (S := (fun z => Blk z fb (extA f) 69 ∧ True)) (by kernel_rfl) kp (fun hHeld => ?_)
    refine tkZ 0 ⟨some 3, .fieldAddr 69 (.tmp 1) 1, 0, "ref.go:149", #[], none⟩ ?_
    refine tkZ 1 ⟨some 4, .load 3 (.tmp 3), 3, "ref.go:149", #[⟨0, .data⟩], none⟩ ?_ (by intro w hSw; (try dsimp only at hSw); have c1 := hSw.1.cells 1; go_simp; (try with_reducible rfl))
    refine tkZ 2 ⟨some 5, .binOp .geq 3 (.tmp 4) (.const (.int .i64 0)) 3, 4, "ref.go:149", #[⟨1, .data⟩], none⟩ ?_
    refine tkZ 3 ⟨some 6, .move (.tmp 5), 4, "ref.go:149", #[⟨2, .data⟩], none⟩ ?_
    refine tkM 4 ⟨some 7, .fieldAddr 69 (.tmp 1) 2, 0, "ref.go:149", #[⟨3, .guard⟩], some (3, true)⟩ ?_
    refine tkM 5 ⟨some 8, .load 3 (.tmp 7), 3, "ref.go:149", #[⟨4, .data⟩, ⟨3, .guard⟩], some (3, true)⟩ ?_
    refine tkM 6 ⟨some 9, .binOp .geq 3 (.tmp 8) (.const (.int .i64 0)) 3, 4, "ref.go:149", #[⟨5, .data⟩, ⟨3, .guard⟩], some (3, true)⟩ ?_
    refine tkZ 7 ⟨some 10, .pick (.tmp 6) (.tmp 9) (.const (.bool false)), 4, "ref.go:149", #[⟨3, .data⟩, ⟨6, .data⟩], none⟩ ?_
    refine tkZ 8 ⟨some 11, .move (.tmp 10), 4, "ref.go:149", #[⟨7, .data⟩, ⟨3, .chain⟩], none⟩ ?_
    refine tkM 9 ⟨some 12, .fieldAddr 69 (.tmp 1) 1, 0, "ref.go:149", #[⟨8, .guard⟩], some (8, true)⟩ ?_
    refine tkM 10 ⟨some 13, .load 3 (.tmp 12), 3, "ref.go:149", #[⟨9, .data⟩, ⟨8, .guard⟩], some (8, true)⟩ ?_
    refine tkM 11 ⟨some 14, .binOp .leq 3 (.tmp 13) (.const (.int .i64 4096)) 3, 4, "ref.go:149", #[⟨10, .data⟩, ⟨8, .guard⟩], some (8, true)⟩ ?_
    refine tkZ 12 ⟨some 15, .pick (.tmp 11) (.tmp 14) (.const (.bool false)), 4, "ref.go:149", #[⟨8, .data⟩, ⟨11, .data⟩], none⟩ ?_
    refine tkZ 13 ⟨some 16, .move (.tmp 15), 4, "ref.go:149", #[⟨12, .data⟩, ⟨8, .chain⟩], none⟩ ?_
    refine tkM 14 ⟨some 17, .fieldAddr 69 (.tmp 1) 2, 0, "ref.go:149", #[⟨13, .guard⟩], some (13, true)⟩ ?_
    refine tkM 15 ⟨some 18, .load 3 (.tmp 17), 3, "ref.go:149", #[⟨14, .data⟩, ⟨13, .guard⟩], some (13, true)⟩ ?_
    refine tkM 16 ⟨some 19, .call ⟨.value (.func 25), #[.tmp 18], #[3]⟩, 3, "ref.go:149", #[⟨15, .data⟩, ⟨13, .chain⟩, ⟨13, .guard⟩], some (13, true)⟩ ?_
    refine tkM 17 ⟨some 20, .fieldAddr 69 (.tmp 1) 1, 0, "ref.go:149", #[⟨13, .guard⟩], some (13, true)⟩ ?_
    refine tkM 18 ⟨some 21, .load 3 (.tmp 20), 3, "ref.go:149", #[⟨17, .data⟩, ⟨13, .guard⟩], some (13, true)⟩ ?_
    refine tkM 19 ⟨some 22, .binOp .sub 3 (.const (.int .i64 4096)) (.tmp 21) 3, 3, "ref.go:149", #[⟨18, .data⟩, ⟨13, .guard⟩], some (13, true)⟩ ?_
    refine tkM 20 ⟨some 23, .binOp .leq 3 (.tmp 19) (.tmp 22) 3, 4, "ref.go:149", #[⟨16, .data⟩, ⟨19, .data⟩, ⟨13, .guard⟩], some (13, true)⟩ ?_
    refine tkZ 21 ⟨some 24, .pick (.tmp 16) (.tmp 23) (.const (.bool false)), 4, "ref.go:149", #[⟨13, .data⟩, ⟨20, .data⟩], none⟩ ?_
    refine tkZ 22 ⟨some 2, .assign (.tmp 24), 4, "ref.go:149", #[⟨21, .data⟩, ⟨16, .chain⟩, ⟨0, .phase⟩, ⟨1, .phase⟩, ⟨2, .phase⟩, ⟨3, .phase⟩, ⟨4, .phase⟩, ⟨5, .phase⟩, ⟨6, .phase⟩, ⟨7, .phase⟩, ⟨8, .phase⟩, ⟨9, .phase⟩, ⟨10, .phase⟩, ⟨11, .phase⟩, ⟨12, .phase⟩, ⟨13, .phase⟩, ⟨14, .phase⟩, ⟨15, .phase⟩, ⟨16, .phase⟩, ⟨17, .phase⟩, ⟨18, .phase⟩, ⟨19, .phase⟩, ⟨20, .phase⟩, ⟨21, .phase⟩], none⟩ ?_
    refine wpAnyH_done (by kernel_rfl) ?_ _
    refine NoPanic.normal ?_
    go_wp2_with fail
    go_ret
    exact ⟨ret_b HZ.out.symm, hb5.drew⟩
  have n1 : decide (0 ≤ f.start) = true := decide_eq_true (by omega)
  by_cases c2 : f.len < 0
  · have HZ := hide (show extB f = false from decide_eq_false (fun h => by omega))
    have n2 : decide (0 ≤ f.len) = false := decide_eq_false (by omega)
    refine wp_region_noPanic ?_
    refine wp_region_held_drew (S := (fun z => Blk z fb (extA f) 69 ∧ True)) (by kernel_rfl) kp (fun hHeld => ?_)
    refine tkZ 0 ⟨some 3, .fieldAddr 69 (.tmp 1) 1, 0, "ref.go:149", #[], none⟩ ?_
    refine tkZ 1 ⟨some 4, .load 3 (.tmp 3), 3, "ref.go:149", #[⟨0, .data⟩], none⟩ ?_ (by intro w hSw; (try dsimp only at hSw); have c1 := hSw.1.cells 1; go_simp; (try with_reducible rfl))
    refine tkZ 2 ⟨some 5, .binOp .geq 3 (.tmp 4) (.const (.int .i64 0)) 3, 4, "ref.go:149", #[⟨1, .data⟩], none⟩ ?_
    refine tkZ 3 ⟨some 6, .move (.tmp 5), 4, "ref.go:149", #[⟨2, .data⟩], none⟩ ?_
    refine tkZ 4 ⟨some 7, .fieldAddr 69 (.tmp 1) 2, 0, "ref.go:149", #[⟨3, .guard⟩], some (3, true)⟩ ?_
    refine tkZ 5 ⟨some 8, .load 3 (.tmp 7), 3, "ref.go:149", #[⟨4, .data⟩, ⟨3, .guard⟩], some (3, true)⟩ ?_ (by intro w hSw; (try dsimp only at hSw); have c1 := hSw.1.cells 2; go_simp; (try with_reducible rfl))
    refine tkZ 6 ⟨some 9, .binOp .geq 3 (.tmp 8) (.const (.int .i64 0)) 3, 4, "ref.go:149", #[⟨5, .data⟩, ⟨3, .guard⟩], some (3, true)⟩ ?_
    refine tkZ 7 ⟨some 10, .pick (.tmp 6) (.tmp 9) (.const (.bool false)), 4, "ref.go:149", #[⟨3, .data⟩, ⟨6, .data⟩], none⟩ ?_
    refine tkZ 8 ⟨some 11, .move (.tmp 10), 4, "ref.go:149", #[⟨7, .data⟩, ⟨3, .chain⟩], none⟩ ?_
    refine tkM 9 ⟨some 12, .fieldAddr 69 (.tmp 1) 1, 0, "ref.go:149", #[⟨8, .guard⟩], some (8, true)⟩ ?_
    refine tkM 10 ⟨some 13, .load 3 (.tmp 12), 3, "ref.go:149", #[⟨9, .data⟩, ⟨8, .guard⟩], some (8, true)⟩ ?_
    refine tkM 11 ⟨some 14, .binOp .leq 3 (.tmp 13) (.const (.int .i64 4096)) 3, 4, "ref.go:149", #[⟨10, .data⟩, ⟨8, .guard⟩], some (8, true)⟩ ?_
    refine tkZ 12 ⟨some 15, .pick (.tmp 11) (.tmp 14) (.const (.bool false)), 4, "ref.go:149", #[⟨8, .data⟩, ⟨11, .data⟩], none⟩ ?_
    refine tkZ 13 ⟨some 16, .move (.tmp 15), 4, "ref.go:149", #[⟨12, .data⟩, ⟨8, .chain⟩], none⟩ ?_
    refine tkM 14 ⟨some 17, .fieldAddr 69 (.tmp 1) 2, 0, "ref.go:149", #[⟨13, .guard⟩], some (13, true)⟩ ?_
    refine tkM 15 ⟨some 18, .load 3 (.tmp 17), 3, "ref.go:149", #[⟨14, .data⟩, ⟨13, .guard⟩], some (13, true)⟩ ?_
    refine tkM 16 ⟨some 19, .call ⟨.value (.func 25), #[.tmp 18], #[3]⟩, 3, "ref.go:149", #[⟨15, .data⟩, ⟨13, .chain⟩, ⟨13, .guard⟩], some (13, true)⟩ ?_
    refine tkM 17 ⟨some 20, .fieldAddr 69 (.tmp 1) 1, 0, "ref.go:149", #[⟨13, .guard⟩], some (13, true)⟩ ?_
    refine tkM 18 ⟨some 21, .load 3 (.tmp 20), 3, "ref.go:149", #[⟨17, .data⟩, ⟨13, .guard⟩], some (13, true)⟩ ?_
    refine tkM 19 ⟨some 22, .binOp .sub 3 (.const (.int .i64 4096)) (.tmp 21) 3, 3, "ref.go:149", #[⟨18, .data⟩, ⟨13, .guard⟩], some (13, true)⟩ ?_
    refine tkM 20 ⟨some 23, .binOp .leq 3 (.tmp 19) (.tmp 22) 3, 4, "ref.go:149", #[⟨16, .data⟩, ⟨19, .data⟩, ⟨13, .guard⟩], some (13, true)⟩ ?_
    refine tkZ 21 ⟨some 24, .pick (.tmp 16) (.tmp 23) (.const (.bool false)), 4, "ref.go:149", #[⟨13, .data⟩, ⟨20, .data⟩], none⟩ ?_
    refine tkZ 22 ⟨some 2, .assign (.tmp 24), 4, "ref.go:149", #[⟨21, .data⟩, ⟨16, .chain⟩, ⟨0, .phase⟩, ⟨1, .phase⟩, ⟨2, .phase⟩, ⟨3, .phase⟩, ⟨4, .phase⟩, ⟨5, .phase⟩, ⟨6, .phase⟩, ⟨7, .phase⟩, ⟨8, .phase⟩, ⟨9, .phase⟩, ⟨10, .phase⟩, ⟨11, .phase⟩, ⟨12, .phase⟩, ⟨13, .phase⟩, ⟨14, .phase⟩, ⟨15, .phase⟩, ⟨16, .phase⟩, ⟨17, .phase⟩, ⟨18, .phase⟩, ⟨19, .phase⟩, ⟨20, .phase⟩, ⟨21, .phase⟩], none⟩ ?_
    refine wpAnyH_done (by kernel_rfl) ?_ _
    refine NoPanic.normal ?_
    go_wp2_with fail
    go_ret
    exact ⟨ret_b HZ.out.symm, hb5.drew⟩
  have n2 : decide (0 ≤ f.len) = true := decide_eq_true (by omega)
  by_cases c3 : 4096 < f.start
  · have HZ := hide (show extB f = false from decide_eq_false (fun h => by omega))
    have n3 : decide (f.start ≤ 4096) = false := decide_eq_false (by omega)
    refine wp_region_noPanic ?_
    refine wp_region_held_drew (S := (fun z => Blk z fb (extA f) 69 ∧ True)) (by kernel_rfl) kp (fun hHeld => ?_)
    refine tkZ 0 ⟨some 3, .fieldAddr 69 (.tmp 1) 1, 0, "ref.go:149", #[], none⟩ ?_
    refine tkZ 1 ⟨some 4, .load 3 (.tmp 3), 3, "ref.go:149", #[⟨0, .data⟩], none⟩ ?_ (by intro w hSw; (try dsimp only at hSw); have c1 := hSw.1.cells 1; go_simp; (try with_reducible rfl))
    refine tkZ 2 ⟨some 5, .binOp .geq 3 (.tmp 4) (.const (.int .i64 0)) 3, 4, "ref.go:149", #[⟨1, .data⟩], none⟩ ?_
    refine tkZ 3 ⟨some 6, .move (.tmp 5), 4, "ref.go:149", #[⟨2, .data⟩], none⟩ ?_
    refine tkZ 4 ⟨some 7, .fieldAddr 69 (.tmp 1) 2, 0, "ref.go:149", #[⟨3, .guard⟩], some (3, true)⟩ ?_
    refine tkZ 5 ⟨some 8, .load 3 (.tmp 7), 3, "ref.go:149", #[⟨4, .data⟩, ⟨3, .guard⟩], some (3, true)⟩ ?_ (by intro w hSw; (try dsimp only at hSw); have c1 := hSw.1.cells 2; go_simp; (try with_reducible rfl))
    refine tkZ 6 ⟨some 9, .binOp .geq 3 (.tmp 8) (.const (.int .i64 0)) 3, 4, "ref.go:149", #[⟨5, .data⟩, ⟨3, .guard⟩], some (3, true)⟩ ?_
    refine tkZ 7 ⟨some 10, .pick (.tmp 6) (.tmp 9) (.const (.bool false)), 4, "ref.go:149", #[⟨3, .data⟩, ⟨6, .data⟩], none⟩ ?_
    refine tkZ 8 ⟨some 11, .move (.tmp 10), 4, "ref.go:149", #[⟨7, .data⟩, ⟨3, .chain⟩], none⟩ ?_
    refine tkZ 9 ⟨some 12, .fieldAddr 69 (.tmp 1) 1, 0, "ref.go:149", #[⟨8, .guard⟩], some (8, true)⟩ ?_
    refine tkZ 10 ⟨some 13, .load 3 (.tmp 12), 3, "ref.go:149", #[⟨9, .data⟩, ⟨8, .guard⟩], some (8, true)⟩ ?_ (by intro w hSw; (try dsimp only at hSw); have c1 := hSw.1.cells 1; go_simp; (try with_reducible rfl))
    refine tkZ 11 ⟨some 14, .binOp .leq 3 (.tmp 13) (.const (.int .i64 4096)) 3, 4, "ref.go:149", #[⟨10, .data⟩, ⟨8, .guard⟩], some (8, true)⟩ ?_
    refine tkZ 12 ⟨some 15, .pick (.tmp 11) (.tmp 14) (.const (.bool false)), 4, "ref.go:149", #[⟨8, .data⟩, ⟨11, .data⟩], none⟩ ?_
    refine tkZ 13 ⟨some 16, .move (.tmp 15), 4, "ref.go:149", #[⟨12, .data⟩, ⟨8, .chain⟩], none⟩ ?_
    refine tkM 14 ⟨some 17, .fieldAddr 69 (.tmp 1) 2, 0, "ref.go:149", #[⟨13, .guard⟩], some (13, true)⟩ ?_
    refine tkM 15 ⟨some 18, .load 3 (.tmp 17), 3, "ref.go:149", #[⟨14, .data⟩, ⟨13, .guard⟩], some (13, true)⟩ ?_
    refine tkM 16 ⟨some 19, .call ⟨.value (.func 25), #[.tmp 18], #[3]⟩, 3, "ref.go:149", #[⟨15, .data⟩, ⟨13, .chain⟩, ⟨13, .guard⟩], some (13, true)⟩ ?_
    refine tkM 17 ⟨some 20, .fieldAddr 69 (.tmp 1) 1, 0, "ref.go:149", #[⟨13, .guard⟩], some (13, true)⟩ ?_
    refine tkM 18 ⟨some 21, .load 3 (.tmp 20), 3, "ref.go:149", #[⟨17, .data⟩, ⟨13, .guard⟩], some (13, true)⟩ ?_
    refine tkM 19 ⟨some 22, .binOp .sub 3 (.const (.int .i64 4096)) (.tmp 21) 3, 3, "ref.go:149", #[⟨18, .data⟩, ⟨13, .guard⟩], some (13, true)⟩ ?_
    refine tkM 20 ⟨some 23, .binOp .leq 3 (.tmp 19) (.tmp 22) 3, 4, "ref.go:149", #[⟨16, .data⟩, ⟨19, .data⟩, ⟨13, .guard⟩], some (13, true)⟩ ?_
    refine tkZ 21 ⟨some 24, .pick (.tmp 16) (.tmp 23) (.const (.bool false)), 4, "ref.go:149", #[⟨13, .data⟩, ⟨20, .data⟩], none⟩ ?_
    refine tkZ 22 ⟨some 2, .assign (.tmp 24), 4, "ref.go:149", #[⟨21, .data⟩, ⟨16, .chain⟩, ⟨0, .phase⟩, ⟨1, .phase⟩, ⟨2, .phase⟩, ⟨3, .phase⟩, ⟨4, .phase⟩, ⟨5, .phase⟩, ⟨6, .phase⟩, ⟨7, .phase⟩, ⟨8, .phase⟩, ⟨9, .phase⟩, ⟨10, .phase⟩, ⟨11, .phase⟩, ⟨12, .phase⟩, ⟨13, .phase⟩, ⟨14, .phase⟩, ⟨15, .phase⟩, ⟨16, .phase⟩, ⟨17, .phase⟩, ⟨18, .phase⟩, ⟨19, .phase⟩, ⟨20, .phase⟩, ⟨21, .phase⟩], none⟩ ?_
    refine wpAnyH_done (by kernel_rfl) ?_ _
    refine NoPanic.normal ?_
    go_wp2_with fail
    go_ret
    exact ⟨ret_b HZ.out.symm, hb5.drew⟩
  have n3 : decide (f.start ≤ 4096) = true := decide_eq_true (by omega)
  have hw1 : IntKind.i64.wrap (4096 - f.start) = 4096 - f.start := IntWalk.i64_in _ (by omega)
  have HZ := hide (show extB f = decide (blocksI f.len ≤ 4096 - f.start) by unfold extB; rw [decide_eq_decide]; constructor <;> intro h <;> omega)
  obtain ⟨bl, hbl⟩ : ∃ bl, blocksI f.len = bl := ⟨_, rfl⟩
  rw [hbl] at RBK HZ
  clear hbl
  refine wp_region_noPanic ?_
  refine wp_region_held_drew (S := (fun z => Blk z fb (extA f) 69 ∧ True)) (by kernel_rfl) kp (fun hHeld => ?_)
  refine tkZ 0 ⟨some 3, .fieldAddr 69 (.tmp 1) 1, 0, "ref.go:149", #[], none⟩ ?_
  refine tkZ 1 ⟨some 4, .load 3 (.tmp 3), 3, "ref.go:149", #[⟨0, .data⟩], none⟩ ?_ (by intro w hSw; (try dsimp only at hSw); have c1 := hSw.1.cells 1; go_simp; (try with_reducible rfl))
  refine tkZ 2 ⟨some 5, .binOp .geq 3 (.tmp 4) (.const (.int .i64 0)) 3, 4, "ref.go:149", #[⟨1, .data⟩], none⟩ ?_
  refine tkZ 3 ⟨some 6, .move (.tmp 5), 4, "ref.go:149", #[⟨2, .data⟩], none⟩ ?_
  refine tkZ 4 ⟨some 7, .fieldAddr 69 (.tmp 1) 2, 0, "ref.go:149", #[⟨3, .guard⟩], some (3, true)⟩ ?_
  refine tkZ 5 ⟨some 8, .load 3 (.tmp 7), 3, "ref.go:149", #[⟨4, .data⟩, ⟨3, .guard⟩], some (3, true)⟩ ?_ (by intro w hSw; (try dsimp only at hSw); have c1 := hSw.1.cells 2; go_simp; (try with_reducible rfl))
  refine tkZ 6 ⟨some 9, .binOp .geq 3 (.tmp 8) (.const (.int .i64 0)) 3, 4, "ref.go:149", #[⟨5, .data⟩, ⟨3, .guard⟩], some (3, true)⟩ ?_
  refine tkZ 7 ⟨some 10, .pick (.tmp 6) (.tmp 9) (.const (.bool false)), 4, "ref.go:149", #[⟨3, .data⟩, ⟨6, .data⟩], none⟩ ?_
  refine tkZ 8 ⟨some 11, .move (.tmp 10), 4, "ref.go:149", #[⟨7, .data⟩, ⟨3, .chain⟩], none⟩ ?_
  refine tkZ 9 ⟨some 12, .fieldAddr 69 (.tmp 1) 1, 0, "ref.go:149", #[⟨8, .guard⟩], some (8, true)⟩ ?_
  refine tkZ 10 ⟨some 13, .load 3 (.tmp 12), 3, "ref.go:149", #[⟨9, .data⟩, ⟨8, .guard⟩], some (8, true)⟩ ?_ (by intro w hSw; (try dsimp only at hSw); have c1 := hSw.1.cells 1; go_simp; (try with_reducible rfl))
  refine tkZ 11 ⟨some 14, .binOp .leq 3 (.tmp 13) (.const (.int .i64 4096)) 3, 4, "ref.go:149", #[⟨10, .data⟩, ⟨8, .guard⟩], some (8, true)⟩ ?_
  refine tkZ 12 ⟨some 15, .pick (.tmp 11) (.tmp 14) (.const (.bool false)), 4, "ref.go:149", #[⟨8, .data⟩, ⟨11, .data⟩], none⟩ ?_
  refine tkZ 13 ⟨some 16, .move (.tmp 15), 4, "ref.go:149", #[⟨12, .data⟩, ⟨8, .chain⟩], none⟩ ?_
  refine tkZ 14 ⟨some 17, .fieldAddr 69 (.tmp 1) 2, 0, "ref.go:149", #[⟨13, .guard⟩], some (13, true)⟩ ?_
  refine tkZ 15 ⟨some 18, .load 3 (.tmp 17), 3, "ref.go:149", #[⟨14, .data⟩, ⟨13, .guard⟩], some (13, true)⟩ ?_ (by intro w hSw; (try dsimp only at hSw); have c1 := hSw.1.cells 2; go_simp; (try with_reducible rfl))
  refine tkZ 17 ⟨some 20, .fieldAddr 69 (.tmp 1) 1, 0, "ref.go:149", #[⟨13, .guard⟩], some (13, true)⟩ ?_
  refine tkZ 18 ⟨some 21, .load 3 (.tmp 20), 3, "ref.go:149", #[⟨17, .data⟩, ⟨13, .guard⟩], some (13, true)⟩ ?_ (by intro w hSw; (try dsimp only at hSw); have c1 := hSw.1.cells 1; go_simp; (try with_reducible rfl))
  refine tkZ 19 ⟨some 22, .binOp .sub 3 (.const (.int .i64 4096)) (.tmp 21) 3, 3, "ref.go:149", #[⟨18, .data⟩, ⟨13, .guard⟩], some (13, true)⟩ ?_
  refine rqS [16] (rqC ⟨some 19, .call ⟨.value (.func 25), #[.tmp 18], #[3]⟩, 3, "ref.go:149", #[⟨15, .data⟩, ⟨13, .chain⟩, ⟨13, .guard⟩], some (13, true)⟩ (fun K hK => ?_) rq0)
  go_simp
  (go_at_call 25; (with_reducible refine (RBK.out _).mono ?_); rintro e w8 ⟨rfl, hw8⟩; have hk8 : Blk w8 fb (extA f) 69 ∧ True := ⟨by rw [← hw8]; exact hHeld.1, trivial⟩)
  go_wp2_with fail
  refine hK.out _ _ kp (fun hHeld => ?_)
  clear hK K
  try simp only [PT]
  refine tkZ 20 ⟨some 23, .binOp .leq 3 (.tmp 19) (.tmp 22) 3, 4, "ref.go:149", #[⟨16, .data⟩, ⟨19, .data⟩, ⟨13, .guard⟩], some (13, true)⟩ ?_
  refine tkZ 21 ⟨some 24, .pick (.tmp 16) (.tmp 23) (.const (.bool false)), 4, "ref.go:149", #[⟨13, .data⟩, ⟨20, .data⟩], none⟩ ?_
  refine tkZ 22 ⟨some 2, .assign (.tmp 24), 4, "ref.go:149", #[⟨21, .data⟩, ⟨16, .chain⟩, ⟨0, .phase⟩, ⟨1, .phase⟩, ⟨2, .phase⟩, ⟨3, .phase⟩, ⟨4, .phase⟩, ⟨5, .phase⟩, ⟨6, .phase⟩, ⟨7, .phase⟩, ⟨8, .phase⟩, ⟨9, .phase⟩, ⟨10, .phase⟩, ⟨11, .phase⟩, ⟨12, .phase⟩, ⟨13, .phase⟩, ⟨14, .phase⟩, ⟨15, .phase⟩, ⟨16, .phase⟩, ⟨17, .phase⟩, ⟨18, .phase⟩, ⟨19, .phase⟩, ⟨20, .phase⟩, ⟨21, .phase⟩], none⟩ ?_
  refine wpAnyH_done (by kernel_rfl) ?_ _
  refine NoPanic.normal ?_
  subst hw8
  go_wp2_with fail
  go_ret
  exact ⟨ret_b HZ.out.symm, hb5.drew⟩
set_option maxRecDepth 100000 in
set_option maxHeartbeats 4000000 in
theorem has_any (L : List ByteArray) (s : ByteArray) (v : Value) (B : Nat) (hL : L.length ≤ 100000000) (w : World) (hv : SlR w B v L) : Calls Tryz.prog 55 #[v, .string s] w fun e w' => e = .returned (.bool (hasS L s)) ∧ w = w' := by
  obtain ⟨A, c, rfl, h⟩ := hv
  have HC := hide h
  clear h
  have HL : Live w [] := trivial
  go_enter Tryz.func55, Tryz.ntmps55
  go_wp2_with fail
  go_loop [5] (fun i => ∃ k : Nat, k ≤ L.length ∧ i = .int .i64 (k : Int) ∧ hasS (L.take k) s = false) (fun i => L.length - (intOf i).toNat)
  case atStart => exact ⟨0, by omega, rfl, rfl⟩
  case round =>
    obtain ⟨k, hk, rfl, ha⟩ := hrel
    have HA := hide ha
    clear ha
    by_cases hlt : k < L.length
    · obtain ⟨x, hx⟩ : ∃ x, L[k]? = some x := ⟨_, List.getElem?_eq_getElem hlt⟩
      obtain ⟨g, o, rfl, hg, hcl⟩ := HC.out (by omega)
      have hcell := hcl k x hx
      have HM := hide (List.mem_of_getElem? hx)
      have HTK := hide (show L.take (k + 1) = L.take k ++ [x] by rw [List.take_add_one, hx]; rfl)
      clear hx hcl
      by_cases q : x = s
      · have q1 : (x.toList == s.toList) = true := seq_y q
        have HZ := hide (show hasS L s = true from hasS_iff.2 (q ▸ HM.out))
        clear q
        go_wp2_with fail
        go_ret
        exact ⟨ret_b HZ.out.symm, rfl⟩
      · have q1 : (x.toList == s.toList) = false := seq_n q
        have HZ := hide (show hasS (L.take (k + 1)) s = false by rw [HTK.out, hasS_no, List.mem_append, List.mem_singleton]; exact fun h => h.elim (hasS_no.1 HA.out) (fun e => q e.symm))
        clear q
        go_wp2_with fail
        go_round
        case rel => exact ⟨k + 1, by omega, by go_num, HZ.out⟩
        case measure => simp [intOf]; omega
    · obtain rfl : k = L.length := by omega
      have HZ := hide (show hasS L s = false by have h := HA.out; rwa [List.take_length] at h)
      go_wp2
      go_ret
      exact ⟨ret_b HZ.out.symm, rfl⟩
def findR (t : Tr) (p : ByteArray) : Tr × Bool := match findT t (partsP p) with
  | some x => (x, true)
  | none => (Tr.zero, false)
def restP (p : ByteArray) (f : Nat) : List ByteArray := if f ≤ p.size then (partsL (p.data.toList.drop f) []).map (fun q => (⟨q.toArray⟩ : ByteArray)) else []
theorem words_pieces (s : ByteArray) : words s = (partsL s.data.toList []).map (fun q => (⟨q.toArray⟩ : ByteArray)) := by
  have h := congrArg (List.map (fun v => match v with | Value.string s => s | _ => eS)) (words_strs s)
  unfold strsOf at h
  rw [List.map_map, List.map_map] at h
  have e1 : ((fun v => match v with | Value.string s => s | _ => eS) ∘ Value.string) = (id : ByteArray → ByteArray) := rfl
  rw [e1, List.map_id] at h
  rw [h]
  rfl
theorem restP_0 (p : ByteArray) : restP p 0 = words p := by rw [words_pieces, restP, if_pos (Nat.zero_le _), List.drop_zero]
def Scan (p : ByteArray) (f k : Nat) : Prop := partsL (p.data.toList.drop f) [] = partsL (p.data.toList.drop k) ((p.data.toList.drop f).take (k - f))
theorem scan_0 (p : ByteArray) (f : Nat) : Scan p f f := by unfold Scan; rw [Nat.sub_self, List.take_zero]
theorem scan_next {p : ByteArray} {f k : Nat} (h : Scan p f k) (hf : f ≤ k) (hk : k < p.size) (hc : (p[k]'hk) ≠ 47) : Scan p f (k + 1) := by
  have hk' : k < p.data.toList.length := by simpa using hk
  unfold Scan at h ⊢
  rw [h, List.drop_eq_getElem_cons hk', partsL, if_neg (by rw [Array.getElem_toList]; exact hc)]
  congr 1
  rw [show k + 1 - f = (k - f) + 1 by omega, List.take_add_one, List.getElem?_drop, show f + (k - f) = k by omega, List.getElem?_eq_getElem hk']
  rfl
theorem extract_at (p : ByteArray) (f k : Nat) : p.extract f k = ⟨((p.data.toList.drop f).take (k - f)).toArray⟩ := by
  apply ByteArray.ext
  apply Array.toList_inj.1
  rw [← ByteArray.toList_eq, Lib.extract_toList]
theorem scan_out {p : ByteArray} {f k : Nat} (h : Scan p f k) (hf : f ≤ k ∧ k ≤ p.size) (hx : k = p.size ∨ ∃ hk : k < p.size, (p[k]'hk) = 47) : restP p f = p.extract f k :: restP p (k + 1) := by
  unfold Scan at h
  rw [restP, if_pos (by omega), h, extract_at]
  rcases hx with rfl | ⟨hk, hc⟩
  · rw [List.drop_of_length_le (show p.data.toList.length ≤ p.size by simp), restP, if_neg (by omega), partsL]
    rfl
  · have hk' : k < p.data.toList.length := by simpa using hk
    rw [List.drop_eq_getElem_cons hk', partsL, if_pos (by rw [Array.getElem_toList]; exact hc), restP, if_pos (by omega)]
    rfl
set_option maxRecDepth 100000 in
set_option maxHeartbeats 8000000 in
theorem rfind_any (t : Tr) (p : ByteArray) (hsz : t.sz ≤ 120000) (hp : p.size ≤ 2000000) (v : Value) (w : World) (hv : TreeR w w.heap.size v t) : Calls Tryz.prog 49 #[v, .string p] w fun e w' => ∃ r, e = .returned (.tuple #[r, .bool (findR t p).2]) ∧ TreeR w' w'.heap.size r (findR t p).1 ∧ Below w.heap.size w w' := by
  have HV := hide hv
  obtain ⟨A, c, A2, c2, rfl, hkl, hstl⟩ := hv.openL
  clear hv hkl hstl
  have HL : Live w [] := trivial
  go_enter Tryz.func49, Tryz.ntmps49
  go_upto_region 1 with fail
  have HB := hide (show Blk ((w.alloc (.cells (t.h.cells (.slice A t.ks.len c) (.slice A2 t.ss.length c2)) 25)).alloc (.cells zeroN 25)) w.heap.size (t.h.cells (.slice A t.ks.len c) (.slice A2 t.ss.length c2)) 25 from (Blk.newAt rfl).alloc _)
  have HR := hide (show Blk ((w.alloc (.cells (t.h.cells (.slice A t.ks.len c) (.slice A2 t.ss.length c2)) 25)).alloc (.cells zeroN 25)) (w.heap.size + 1) zeroN 25 from Blk.newAt (by rw [World.size_alloc]))
  have hbel1 : Below w.heap.size w ((w.alloc (.cells (t.h.cells (.slice A t.ks.len c) (.slice A2 t.ss.length c2)) 25)).alloc (.cells zeroN 25)) := ((Below.refl _ _).alloc (Nat.le_refl _) _).alloc (by rw [World.size_alloc]; omega) _
  obtain ⟨W1, hW1⟩ : ∃ W1, W1 = (w.alloc (.cells (t.h.cells (.slice A t.ks.len c) (.slice A2 t.ss.length c2)) 25)).alloc (.cells zeroN 25) := ⟨_, rfl⟩
  rw [← hW1] at HB HR hbel1
  unfold zeroN at hW1
  rw [← hW1]
  clear hW1
  obtain ⟨r, hr⟩ : ∃ r, r = w.heap.size + 1 := ⟨_, rfl⟩
  rw [← hr] at HR ⊢
  obtain ⟨b, hb⟩ : ∃ b, b = w.heap.size := ⟨_, rfl⟩
  rw [← hb] at HB ⊢
  have hlo : b ≠ r ∧ w.heap.size ≤ b ∧ w.heap.size ≤ r := by omega
  obtain ⟨hbr, hwb, hwr⟩ := hlo
  clear hb hr
  have BZ := hide built_zero
  by_cases hpe : p = eS
  case pos =>
    have HE := hide (show findR t p = (t, true) by unfold findR partsP; rw [if_pos hpe]; rfl)
    subst hpe
    have hbel9 := hbel1.trans ((FrO.setRow (O := fun j => j = r) (w := W1) (cs := (t.h.cells (.slice A t.ks.len c) (.slice A2 t.ss.length c2))) rfl).below (B := w.heap.size) hbel1.size fun j hj => by subst hj; exact hwr)
    go_wp2_with fail
    go_loopw [6, 7, 8] (fun i _ _ wr => i = .int .i64 0 ∧ wr = W1) (fun _ _ _ _ => 0)
    case atStart => exact ⟨rfl, rfl⟩
    case round =>
      obtain ⟨rfl, rfl⟩ := hrel
      go_wp2_with (first | (refine wpList_load_row rfl 25 (.tmp 2) rfl b rfl 25 (t.h.cells (.slice A t.ks.len c) (.slice A2 t.ss.length c2)) (0, 0) _ HB.out Tryz.underlying25 rfl (infN rfl) ?_) | (refine wpList_store_row rfl 25 (.tmp 4) (.tmp 46) rfl r (t.h.cells (.slice A t.ks.len c) (.slice A2 t.ss.length c2)) rfl rfl 25 zeroN HR.out (infN rfl) rfl (nodeLit _ _ _ _ _ _ _) ?_))
      refine bodyPost_ret (results_cell2 rfl _ _ r 25 (t.h.cells (.slice A t.ks.len c) (.slice A2 t.ss.length c2)) (0, 0) _ rfl (setRow_heap _ _ _ _ _ _ HR.out) (.bool true) rfl Tryz.underlying25 rfl (infN rfl)) rfl ?_
      rw [HE.out]
      exact ⟨_, rfl, HV.out.own_below hbel9, hbel9⟩
  case neg =>
  have hpp : partsP p = restP p 0 := by rw [restP_0]; unfold partsP; rw [if_neg hpe]
  have q1 : (p.toList == []) = false := by
    rw [beq_eq_false_iff_ne]
    exact fun e => hpe (nil_list e)
  have q2 : (p.toList != []) = true := by rw [bne, q1]; rfl
  have HPP := hide hpp
  clear hpe hpp
  go_wp2_with fail
  go_loopw [6, 7, 8] (fun i _ _ wr => ∃ (f : Nat) (x : Tr) (kv sv : Value), i = .int .i64 (f : Int) ∧ f ≤ p.size + 1 ∧ Blk wr b (x.h.cells kv sv) 25 ∧ Blk wr r zeroN 25 ∧ TreeR w w.heap.size (.agg (x.h.cells kv sv)) x ∧ x.sz ≤ 120000 ∧ findT t (partsP p) = findT x (restP p f) ∧ FrO (fun j => j = b) W1 wr) (fun i _ _ _ => p.size + 1 - (intOf i).toNat)
  case atStart => exact ⟨0, t, _, _, rfl, Nat.zero_le _, HB.out, HR.out, HV.out, hsz, by rw [HPP.out], FrO.of (Below.refl _ _)⟩
  case round =>
    clear HB HR HV HPP
    obtain ⟨f, x, kv, sv, rfl, hf, hB, hRz, htx, hxs, hfd, hfr⟩ := hrel
    have HB := hide hB
    have HR := hide hRz
    have HTX := hide htx
    have HF := hide hfd
    have HFR := hide hfr
    obtain ⟨A3, c3, A4, c4, ecells, hkl, -⟩ := htx.openL
    injection ecells with ecells
    have ekv : kv = .slice A3 x.ks.len c3 := by have := congrArg (fun a : Array Value => a[10]?) ecells; simpa [Hd.cells] using this
    have esv : sv = .slice A4 x.ss.length c4 := by have := congrArg (fun a : Array Value => a[11]?) ecells; simpa [Hd.cells] using this
    subst ekv; subst esv
    have HKL := hide hkl
    have hbel : Below w.heap.size w wr := hbel1.trans (hfr.below hbel1.size fun j hj => by subst hj; exact hwb)
    clear hB hRz htx hfd hfr ecells hkl
    by_cases hlt : f ≤ p.size
    case neg =>
      have HE := hide (show findR t p = (x, true) by unfold findR; rw [HF.out, restP, if_neg hlt]; rfl)
      go_wp2_with (first | (refine wpList_load_row rfl 25 (.tmp 2) rfl b rfl 25 (x.h.cells (.slice A3 x.ks.len c3) (.slice A4 x.ss.length c4)) (0, 0) _ HB.out Tryz.underlying25 rfl (infN rfl) ?_) | (refine wpList_store_row rfl 25 (.tmp 4) (.tmp 46) rfl r (x.h.cells (.slice A3 x.ks.len c3) (.slice A4 x.ss.length c4)) rfl rfl 25 zeroN HR.out (infN rfl) rfl (nodeLit _ _ _ _ _ _ _) ?_))
      refine bodyPost_ret (results_cell2 rfl _ _ r 25 (x.h.cells (.slice A3 x.ks.len c3) (.slice A4 x.ss.length c4)) (0, 0) _ rfl (setRow_heap _ _ _ _ _ _ HR.out) (.bool true) rfl Tryz.underlying25 rfl (infN rfl)) rfl ?_
      have hbel9 := hbel.trans ((FrO.setRow (O := fun j => j = r) (cs := (x.h.cells (.slice A3 x.ks.len c3) (.slice A4 x.ss.length c4))) rfl).below (B := w.heap.size) hbel.size fun j hj => by subst hj; exact hwr)
      rw [HE.out]
      exact ⟨_, rfl, HTX.out.own_below hbel9, hbel9⟩
    case pos =>
    have hkl2 : x.ks.len ≤ 120000 := by have := x.ks.len_sz; unfold Tr.sz at hxs; omega
    have HTD := hide (show TreeR wr.drew wr.drew.heap.size (.agg (x.h.cells (.slice A3 x.ks.len c3) (.slice A4 x.ss.length c4))) x from (HTX.out.own_below hbel).own_below ((Below.refl _ _).drew))
    have hkeepd : Blk wr.drew b (x.h.cells (.slice A3 x.ks.len c3) (.slice A4 x.ss.length c4)) 25 ∧ True := ⟨HB.out, trivial⟩
    have hkeep : Blk wr b (x.h.cells (.slice A3 x.ks.len c3) (.slice A4 x.ss.length c4)) 25 ∧ True := ⟨HB.out, trivial⟩
    go_wp2_with fail
    go_loop [7] (fun v => ∃ k : Nat, v = .int .i64 (k : Int) ∧ f ≤ k ∧ k ≤ p.size ∧ Scan p f k) (fun v => p.size - (intOf v).toNat)
    case atStart => exact ⟨f, rfl, Nat.le_refl _, hlt, scan_0 p f⟩
    case round =>
      obtain ⟨k, rfl, hfk, hks, hsc⟩ := hrel
      have HSC := hide hsc
      have RKF := hide (fun W hW => rkid_any x (p.extract f k) (by omega) (.agg (x.h.cells (.slice A3 x.ks.len c3) (.slice A4 x.ss.length c4))) W hW)
      clear hsc
      by_cases hkl3 : k < p.size
      · by_cases hc : (p[k]'hkl3) = 47
        · have hcb : (((p[k]'hkl3).toNat : Int) != 47) = false := by rw [hc]; rfl
          have hcb2 : (((p[k]'hkl3).toNat : Int) == 47) = true := by rw [hc]; rfl
          have hxx : k = p.size ∨ ∃ hk : k < p.size, (p[k]'hk) = 47 := Or.inr ⟨hkl3, hc⟩
          clear hc
          have HDR := hide (scan_out HSC.out ⟨hfk, hks⟩ hxx)
          clear hxx HSC
          go_upto_region 6 with fail
          refine wp_region_noPanic ?_
          refine wp_region_held_drew (S := (fun z => Blk z b (x.h.cells (.slice A3 x.ks.len c3) (.slice A4 x.ss.length c4)) 25 ∧ True)) (by kernel_rfl) kp (fun hHeld => ?_)
          refine tkZ 0 ⟨some 30, .load 25 (.tmp 2), 25, "ref.go:16", #[], none⟩ ?_ (by intro w hSw; (try dsimp only at hSw); refine (exec_load_row 25 (.tmp 2) (by rfl) b (by rfl) 25 (x.h.cells (.slice A3 x.ks.len c3) (.slice A4 x.ss.length c4)) (0, 0) _ hSw.1 Tryz.underlying25 (by rfl) (infN rfl)).trans ?_; with_reducible rfl)
          refine tkZ 1 ⟨some 31, .move (.tmp 1), 9, "ref.go:16", #[], none⟩ ?_
          refine tkZ 2 ⟨some 32, .move (.tmp 6), 3, "ref.go:16", #[], none⟩ ?_
          refine tkZ 3 ⟨some 33, .move (.tmp 7), 3, "ref.go:16", #[], none⟩ ?_
          refine tkZ 4 ⟨some 34, .slice 9 (.tmp 31) (some (.tmp 32)) (some (.tmp 33)) none, 9, "ref.go:16", #[⟨1, .data⟩, ⟨2, .data⟩, ⟨3, .data⟩], none⟩ ?_
          refine rqS [5] (rqC ⟨some 35, .call ⟨.value (.func 67), #[.tmp 30, .tmp 34], #[25, 9]⟩, 3, "ref.go:16", #[⟨0, .data⟩, ⟨4, .data⟩], none⟩ (fun K hK => ?_) rq0)
          go_simp
          (go_at_call 67; (with_reducible refine (RKF.out _ HTD.out).mono ?_); rintro e w8 ⟨rfl, hb8⟩; have hkeep8 : Blk w8 b (x.h.cells (.slice A3 x.ks.len c3) (.slice A4 x.ss.length c4)) 25 ∧ True := ⟨Blk.below hb8 hkeepd.1, trivial⟩)
          go_wp2_with fail
          refine hK.out _ _ kp (fun hHeld => ?_)
          clear hK K
          try simp only [PT]
          refine tkZ 6 ⟨some 8, .assign (.tmp 35), 3, "ref.go:16", #[⟨5, .data⟩, ⟨5, .chain⟩, ⟨0, .phase⟩, ⟨1, .phase⟩, ⟨2, .phase⟩, ⟨3, .phase⟩, ⟨4, .phase⟩, ⟨5, .phase⟩], none⟩ ?_
          refine wpAnyH_done (by kernel_rfl) ?_ _
          refine NoPanic.normal ?_
          have hbr8 : Below wr.heap.size wr w8 := (Below.refl wr.heap.size wr).drew.trans hb8
          have HB8 := hide (Blk.below hbr8 HB.out)
          have HR8 := hide (Blk.below hbr8 HR.out)
          have HFR8 := hide (HFR.out.trans (FrO.of (O := fun j => j = b) hbr8) (fun j h => Or.inl h))
          have hbel8 := hbel.trans (hbr8.mono hbel.size)
          clear hkeep hkeepd hkeep8 hHeld HB HR HFR hb8 hbr8 RKF
          cases hki : kidI x.ks (p.extract f k) with
          | none =>
            have HZ := hide (show findT t (partsP p) = none by rw [HF.out, HDR.out, findT_miss (kid_none hki)])
            clear hki
            go_wp2_with (first | (refine wpList_build_is rfl 25 #[] rfl [] (by simp) _ BZ.out ?_) | (refine wpList_store_row rfl 25 (.tmp 4) (.tmp 38) rfl r zeroN rfl rfl 25 zeroN HR8.out (infN rfl) rfl (by kernel_rfl) ?_))
            refine bodyPost_ret (results_cell2 rfl _ _ r 25 zeroN (0, 0) _ rfl (setRow_heap _ _ _ _ _ _ HR8.out) (.bool false) rfl Tryz.underlying25 rfl (infN rfl)) rfl ?_
            have e : findR t p = (Tr.zero, false) := by unfold findR; rw [HZ.out]
            rw [e]
            exact ⟨_, rfl, zero_reads _ _, hbel8.trans ((FrO.setRow (O := fun j => j = r) rfl).below hbel8.size fun j hj => by subst hj; exact hwr)⟩
          | some i =>
            have hil := kidI_lt hki
            obtain ⟨kk, hk1, hk2, -⟩ := kid_some hki
            have HZ := hide (show findT t (partsP p) = findT kk (restP p (k + 1)) by rw [HF.out, HDR.out, findT_hit hk2])
            obtain ⟨g, o', hA, hg, hfo⟩ := HKL.out (by omega)
            subst hA
            obtain ⟨hsk, kv', sv', h3, h4, h5⟩ := hfo.at hk1
            have XR := hide (show w8.rangeAt g (o' + i * 12) (kk.h.cells kv' sv').toList by
              have h := range_below hbel8 hg h3
              rw [show o' + 0 * 12 + i * 12 = o' + i * 12 by omega] at h
              exact h)
            have HTK := hide (show TreeR w w.heap.size (.agg (kk.h.cells kv' sv')) kk from ⟨kv', sv', rfl, h4, h5⟩)
            obtain ⟨A7, c7, rfl⟩ : ∃ A7 c7, kv' = .slice A7 kk.ks.len c7 := by obtain ⟨A, c, e, _⟩ := h5; exact ⟨A, c, e⟩
            obtain ⟨A8, c8, rfl⟩ : ∃ A8 c8, sv' = .slice A8 kk.ss.length c8 := by obtain ⟨A, c, e, _⟩ := h4; exact ⟨A, c, e⟩
            have d10 : w8.cell? ⟨b, 10, none⟩ = some (.slice (some ⟨g, o', none⟩) x.ks.len c3) := HB8.out.cells 10
            have hks6 : kk.sz ≤ 120000 := by unfold Tr.sz at hxs; omega
            have hkv : kidV (some i) = (i : Int) := rfl
            rw [hkv]
            clear hki hk1 hk2 HF HDR h3 h4 h5 hfo hsk HKL hkv
            go_wp2_with (first | (refine wpList_load_midA rfl 25 (.tmp 42) rfl g (o' + i * 12) rfl (kk.h.cells (.slice A7 kk.ks.len c7) (.slice A8 kk.ss.length c8)) _ XR.out Tryz.underlying25 rfl (infNl rfl) ?_) | (refine wpList_store_row rfl 25 (.tmp 2) (.tmp 43) rfl b (kk.h.cells (.slice A7 kk.ks.len c7) (.slice A8 kk.ss.length c8)) rfl rfl 25 (x.h.cells (.slice (some ⟨g, o', none⟩) x.ks.len c3) (.slice A4 x.ss.length c4)) HB8.out (infN rfl) rfl (nodeLit _ _ _ _ _ _ _) ?_))
            have HBn := hide (show Blk (w8.setRow b (kk.h.cells (.slice A7 kk.ks.len c7) (.slice A8 kk.ss.length c8))) b (kk.h.cells (.slice A7 kk.ks.len c7) (.slice A8 kk.ss.length c8)) 25 from setRow_heap _ _ _ _ _ _ HB8.out)
            have HRn := hide (show Blk (w8.setRow b (kk.h.cells (.slice A7 kk.ks.len c7) (.slice A8 kk.ss.length c8))) r zeroN 25 from (setRow_other _ _ _ _ (Ne.symm hbr)).trans HR8.out)
            have HFn := hide (HFR8.out.trans (FrO.setRow (O := fun j => j = b) (w := w8) (cs := (kk.h.cells (.slice A7 kk.ks.len c7) (.slice A8 kk.ss.length c8))) rfl) (fun j h => Or.inl h))
            clear HB8 HR8 HFR8 XR d10
            go_roundw
            case rel => exact ⟨k + 1, kk, _, _, by go_num, by omega, HBn.out, HRn.out, HTK.out, hks6, HZ.out, HFn.out⟩
            case measure => simp [intOf]; omega
        · have hcb2 : (((p[k]'hkl3).toNat : Int) == 47) = false := by
            rw [beq_eq_false_iff_ne]; intro h; exact hc (UInt8.toNat_inj.1 (by simpa using (show ((p[k]'hkl3).toNat) = 47 by omega)))
          have hcb : (((p[k]'hkl3).toNat : Int) != 47) = true := by rw [bne, hcb2]; rfl
          have HSN := hide (scan_next HSC.out hfk hkl3 hc)
          clear hc
          go_wp2_with fail
          go_round
          case rel => exact ⟨k + 1, by go_num, by omega, by omega, HSN.out⟩
          case measure => simp [intOf]; omega
      · have hxx : k = p.size ∨ ∃ hk : k < p.size, (p[k]'hk) = 47 := Or.inl (by omega)
        have HDR := hide (scan_out HSC.out ⟨hfk, hks⟩ hxx)
        clear hxx HSC
        go_upto_region 6 with fail
        refine wp_region_noPanic ?_
        refine wp_region_held_drew (S := (fun z => Blk z b (x.h.cells (.slice A3 x.ks.len c3) (.slice A4 x.ss.length c4)) 25 ∧ True)) (by kernel_rfl) kp (fun hHeld => ?_)
        refine tkZ 0 ⟨some 30, .load 25 (.tmp 2), 25, "ref.go:16", #[], none⟩ ?_ (by intro w hSw; (try dsimp only at hSw); refine (exec_load_row 25 (.tmp 2) (by rfl) b (by rfl) 25 (x.h.cells (.slice A3 x.ks.len c3) (.slice A4 x.ss.length c4)) (0, 0) _ hSw.1 Tryz.underlying25 (by rfl) (infN rfl)).trans ?_; with_reducible rfl)
        refine tkZ 1 ⟨some 31, .move (.tmp 1), 9, "ref.go:16", #[], none⟩ ?_
        refine tkZ 2 ⟨some 32, .move (.tmp 6), 3, "ref.go:16", #[], none⟩ ?_
        refine tkZ 3 ⟨some 33, .move (.tmp 7), 3, "ref.go:16", #[], none⟩ ?_
        refine tkZ 4 ⟨some 34, .slice 9 (.tmp 31) (some (.tmp 32)) (some (.tmp 33)) none, 9, "ref.go:16", #[⟨1, .data⟩, ⟨2, .data⟩, ⟨3, .data⟩], none⟩ ?_
        refine rqS [5] (rqC ⟨some 35, .call ⟨.value (.func 67), #[.tmp 30, .tmp 34], #[25, 9]⟩, 3, "ref.go:16", #[⟨0, .data⟩, ⟨4, .data⟩], none⟩ (fun K hK => ?_) rq0)
        go_simp
        (go_at_call 67; (with_reducible refine (RKF.out _ HTD.out).mono ?_); rintro e w8 ⟨rfl, hb8⟩; have hkeep8 : Blk w8 b (x.h.cells (.slice A3 x.ks.len c3) (.slice A4 x.ss.length c4)) 25 ∧ True := ⟨Blk.below hb8 hkeepd.1, trivial⟩)
        go_wp2_with fail
        refine hK.out _ _ kp (fun hHeld => ?_)
        clear hK K
        try simp only [PT]
        refine tkZ 6 ⟨some 8, .assign (.tmp 35), 3, "ref.go:16", #[⟨5, .data⟩, ⟨5, .chain⟩, ⟨0, .phase⟩, ⟨1, .phase⟩, ⟨2, .phase⟩, ⟨3, .phase⟩, ⟨4, .phase⟩, ⟨5, .phase⟩], none⟩ ?_
        refine wpAnyH_done (by kernel_rfl) ?_ _
        refine NoPanic.normal ?_
        have hbr8 : Below wr.heap.size wr w8 := (Below.refl wr.heap.size wr).drew.trans hb8
        have HB8 := hide (Blk.below hbr8 HB.out)
        have HR8 := hide (Blk.below hbr8 HR.out)
        have HFR8 := hide (HFR.out.trans (FrO.of (O := fun j => j = b) hbr8) (fun j h => Or.inl h))
        have hbel8 := hbel.trans (hbr8.mono hbel.size)
        clear hkeep hkeepd hkeep8 hHeld HB HR HFR hb8 hbr8 RKF
        cases hki : kidI x.ks (p.extract f k) with
        | none =>
          have HZ := hide (show findT t (partsP p) = none by rw [HF.out, HDR.out, findT_miss (kid_none hki)])
          clear hki
          go_wp2_with (first | (refine wpList_build_is rfl 25 #[] rfl [] (by simp) _ BZ.out ?_) | (refine wpList_store_row rfl 25 (.tmp 4) (.tmp 38) rfl r zeroN rfl rfl 25 zeroN HR8.out (infN rfl) rfl (by kernel_rfl) ?_))
          refine bodyPost_ret (results_cell2 rfl _ _ r 25 zeroN (0, 0) _ rfl (setRow_heap _ _ _ _ _ _ HR8.out) (.bool false) rfl Tryz.underlying25 rfl (infN rfl)) rfl ?_
          have e : findR t p = (Tr.zero, false) := by unfold findR; rw [HZ.out]
          rw [e]
          exact ⟨_, rfl, zero_reads _ _, hbel8.trans ((FrO.setRow (O := fun j => j = r) rfl).below hbel8.size fun j hj => by subst hj; exact hwr)⟩
        | some i =>
          have hil := kidI_lt hki
          obtain ⟨kk, hk1, hk2, -⟩ := kid_some hki
          have HZ := hide (show findT t (partsP p) = findT kk (restP p (k + 1)) by rw [HF.out, HDR.out, findT_hit hk2])
          obtain ⟨g, o', hA, hg, hfo⟩ := HKL.out (by omega)
          subst hA
          obtain ⟨hsk, kv', sv', h3, h4, h5⟩ := hfo.at hk1
          have XR := hide (show w8.rangeAt g (o' + i * 12) (kk.h.cells kv' sv').toList by
            have h := range_below hbel8 hg h3
            rw [show o' + 0 * 12 + i * 12 = o' + i * 12 by omega] at h
            exact h)
          have HTK := hide (show TreeR w w.heap.size (.agg (kk.h.cells kv' sv')) kk from ⟨kv', sv', rfl, h4, h5⟩)
          obtain ⟨A7, c7, rfl⟩ : ∃ A7 c7, kv' = .slice A7 kk.ks.len c7 := by obtain ⟨A, c, e, _⟩ := h5; exact ⟨A, c, e⟩
          obtain ⟨A8, c8, rfl⟩ : ∃ A8 c8, sv' = .slice A8 kk.ss.length c8 := by obtain ⟨A, c, e, _⟩ := h4; exact ⟨A, c, e⟩
          have d10 : w8.cell? ⟨b, 10, none⟩ = some (.slice (some ⟨g, o', none⟩) x.ks.len c3) := HB8.out.cells 10
          have hks6 : kk.sz ≤ 120000 := by unfold Tr.sz at hxs; omega
          have hkv : kidV (some i) = (i : Int) := rfl
          rw [hkv]
          clear hki hk1 hk2 HF HDR h3 h4 h5 hfo hsk HKL hkv
          go_wp2_with (first | (refine wpList_load_midA rfl 25 (.tmp 42) rfl g (o' + i * 12) rfl (kk.h.cells (.slice A7 kk.ks.len c7) (.slice A8 kk.ss.length c8)) _ XR.out Tryz.underlying25 rfl (infNl rfl) ?_) | (refine wpList_store_row rfl 25 (.tmp 2) (.tmp 43) rfl b (kk.h.cells (.slice A7 kk.ks.len c7) (.slice A8 kk.ss.length c8)) rfl rfl 25 (x.h.cells (.slice (some ⟨g, o', none⟩) x.ks.len c3) (.slice A4 x.ss.length c4)) HB8.out (infN rfl) rfl (nodeLit _ _ _ _ _ _ _) ?_))
          have HBn := hide (show Blk (w8.setRow b (kk.h.cells (.slice A7 kk.ks.len c7) (.slice A8 kk.ss.length c8))) b (kk.h.cells (.slice A7 kk.ks.len c7) (.slice A8 kk.ss.length c8)) 25 from setRow_heap _ _ _ _ _ _ HB8.out)
          have HRn := hide (show Blk (w8.setRow b (kk.h.cells (.slice A7 kk.ks.len c7) (.slice A8 kk.ss.length c8))) r zeroN 25 from (setRow_other _ _ _ _ (Ne.symm hbr)).trans HR8.out)
          have HFn := hide (HFR8.out.trans (FrO.setRow (O := fun j => j = b) (w := w8) (cs := (kk.h.cells (.slice A7 kk.ks.len c7) (.slice A8 kk.ss.length c8))) rfl) (fun j h => Or.inl h))
          clear HB8 HR8 HFR8 XR d10
          go_roundw
          case rel => exact ⟨k + 1, kk, _, _, by go_num, by omega, HBn.out, HRn.out, HTK.out, hks6, HZ.out, HFn.out⟩
          case measure => simp [intOf]; omega
end Go.Proofs.YtocgindpjjolpaaGreatDoor
