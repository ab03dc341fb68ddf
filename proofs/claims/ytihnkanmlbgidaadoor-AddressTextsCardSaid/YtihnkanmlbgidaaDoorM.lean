/- Contracts of the reference of Parse. -/
import Derived.Test.YtihnkanmlbgidaaDoorJ
import Derived.Test.YtihnkanmlbgidaaDoorK
import Derived.Deep.AppendLies
import Derived.Lib.SmallJoins
namespace Go.Proofs.YtihnkanmlbgidaaDoor
set_option linter.unusedSimpArgs false
set_option linter.unusedVariables false
open Go.RowKit
open Go.PlainAid (bt get_bt bt_nonneg bt_le)

theorem intInfo : (Tryd.prog.info? 3).map (fun i => (i.zero, i.size, i.bytes)) = some (some (.int .i64 0), 1, 8) := by kernel_rfl
def n2 (x : ByteArray) (i : Nat) : Int := 10 * (bt x i - 48) + (bt x (i + 1) - 48)
def DG (x : ByteArray) (i : Nat) : Prop := (48 ≤ bt x i ∧ bt x i ≤ 57) ∧ (48 ≤ bt x (i + 1) ∧ bt x (i + 1) ≤ 57)
def RPost (x : ByteArray) (w : World) (e : Ending) (w' : World) : Prop :=
  (((DG x 0 ∧ DG x 3 ∧ DG x 6) ∧ validB (n2 x 0) (n2 x 3) (n2 x 6) = true ∧ e = .returned (.tuple #[.agg #[.int .i64 (n2 x 0), .int .i64 (n2 x 3), .int .i64 (n2 x 6)], .int .i64 0])) ∨
   (¬ ((DG x 0 ∧ DG x 3 ∧ DG x 6) ∧ validB (n2 x 0) (n2 x 3) (n2 x 6) = true) ∧ e = .returned (.tuple #[.agg #[.int .i64 0, .int .i64 0, .int .i64 0], .int .i64 3]))) ∧ Below w.heap.size w w'

def XS (x : ByteArray) (k : Nat) : List Value := ([.int .i64 (n2 x 0), .int .i64 (n2 x 3), .int .i64 (n2 x 6)] : List Value).take k
def DGs (x : ByteArray) (k : Nat) : Prop := (0 < k → DG x 0) ∧ (1 < k → DG x 3) ∧ (2 < k → DG x 6)
theorem n2_bd {x : ByteArray} {i : Nat} (h : DG x i) : 0 ≤ n2 x i ∧ n2 x i ≤ 99 := by obtain ⟨h1, h2⟩ := h; unfold n2; omega
theorem bad_post {x : ByteArray} {w : World} {e : Ending} {w' : World} (h : ¬ ((DG x 0 ∧ DG x 3 ∧ DG x 6) ∧ validB (n2 x 0) (n2 x 3) (n2 x 6) = true)) (he : e = .returned (.tuple #[.agg #[.int .i64 0, .int .i64 0, .int .i64 0], .int .i64 3])) (hb : Below w.heap.size w w') : RPost x w e w' := ⟨Or.inr ⟨h, he⟩, hb⟩
set_option maxRecDepth 100000 in
set_option maxHeartbeats 8000000 in
theorem rparse_8 (x : ByteArray) (hs : x.size = 8) (c2 : bt x 2 = 58) (c5 : bt x 5 = 58) (w : World) : Calls Tryd.prog 14 #[.string x] w (RPost x w) := by
  have hg := get_bt x
  have k2 : (bt x 2 == 58) = true := by simp [c2]
  have k5 : (bt x 5 == 58) = true := by simp [c5]
  have k2' : (bt x 2 != 58) = false := by simp [c2]
  have k5' : (bt x 5 != 58) = false := by simp [c5]
  clear c2 c5
  have hm := World.ownsRow_made (w.alloc (.cells #[.int .i64 0, .int .i64 0, .int .i64 0] 23)) #[] 0 (base := w.heap.size + 1) (e := 3) (size := 1) (by simp) (by unfold maxLen; omega) rfl
  rw [World.size_alloc] at hm
  obtain ⟨i0, hi, hz0, hz1, hz2⟩ := info_parts intInfo
  have HL : Live w [] := trivial
  go_enter Tryd.func14, Tryd.ntmps14
  go_wp2
  go_loopw [4, 5] (fun l c wr => ∃ k : Nat, k ≤ 3 ∧ c = .int .i64 (3 * (k : Int)) ∧ wr.ownsRow (w.heap.size + 1) 3 1 l k (XS x k) ∧ DGs x k ∧ Below w.heap.size w wr ∧ Blk wr w.heap.size #[.int .i64 0, .int .i64 0, .int .i64 0] 23) (fun _ c _ => 9 - (intOf c).toNat)
  case atStart => exact ⟨0, by omega, rfl, hm, ⟨fun h => by omega, fun h => by omega, fun h => by omega⟩, by (exact bl), (Blk.newAt rfl).alloc _⟩
  case round =>
    clear hm
    obtain ⟨k, hk, rfl, hown, hdg, hbel, hR⟩ := hrel
    have hR1 := hR.cells
    have hR2 := hR.free
    have hsz := hbel.size
    have hlt := hR.lt
    have HDG := hide hdg
    clear hdg
    rcases (show k = 0 ∨ k = 1 ∨ k = 2 ∨ k = 3 by omega) with rfl | rfl | rfl | rfl
    · by_cases d0 : 48 ≤ bt x 0
      case neg =>
        go_wp2
        ((try simp only [Exit.inBlock, Exit.then]); refine bodyPost_ret (by simp only [results, Tryd.results14]; go_simp; try rfl) rfl ?_)
        exact bad_post (fun hh => by have := hh.1; simp only [DG, Nat.reduceAdd] at this; omega) rfl (by (exact bl))
      by_cases d1 : bt x 0 ≤ 57
      case neg =>
        go_wp2
        ((try simp only [Exit.inBlock, Exit.then]); refine bodyPost_ret (by simp only [results, Tryd.results14]; go_simp; try rfl) rfl ?_)
        exact bad_post (fun hh => by have := hh.1; simp only [DG, Nat.reduceAdd] at this; omega) rfl (by (exact bl))
      by_cases d2 : 48 ≤ bt x 1
      case neg =>
        go_wp2
        ((try simp only [Exit.inBlock, Exit.then]); refine bodyPost_ret (by simp only [results, Tryd.results14]; go_simp; try rfl) rfl ?_)
        exact bad_post (fun hh => by have := hh.1; simp only [DG, Nat.reduceAdd] at this; omega) rfl (by (exact bl))
      by_cases d3 : bt x 1 ≤ 57
      case neg =>
        go_wp2
        ((try simp only [Exit.inBlock, Exit.then]); refine bodyPost_ret (by simp only [results, Tryd.results14]; go_simp; try rfl) rfl ?_)
        exact bad_post (fun hh => by have := hh.1; simp only [DG, Nat.reduceAdd] at this; omega) rfl (by (exact bl))
      go_upto_region 9 with fail
      have wu0 : IntKind.u8.wrap (bt x 0 - 48) = bt x 0 - 48 := IntWalk.u8_in _ (by omega)
      have wi0 : IntKind.i64.wrap (bt x 0 - 48) = bt x 0 - 48 := IntWalk.i64_in _ (by omega)
      have wu1 : IntKind.u8.wrap (bt x 1 - 48) = bt x 1 - 48 := IntWalk.u8_in _ (by omega)
      have wi1 : IntKind.i64.wrap (bt x 1 - 48) = bt x 1 - 48 := IntWalk.i64_in _ (by omega)
      have wm : IntKind.i64.wrap (10 * (bt x 0 - 48)) = 10 * (bt x 0 - 48) := IntWalk.i64_in _ (by omega)
      have wa : IntKind.i64.wrap (10 * (bt x 0 - 48) + (bt x 1 - 48)) = 10 * (bt x 0 - 48) + (bt x 1 - 48) := IntWalk.i64_in _ (by omega)
      have wl : IntKind.i64.wrap 1 = 1 := by decide
      refine wp_region_noPanic ?_
      refine wp_region_held_drew (S := (fun _ => True ∧ True)) (by kernel_rfl) kp (fun hHeld => ?_)
      refine tkY 0 ⟨some 51, .move (.tmp 4), 57, "ref.go:100", #[], none⟩ ?_ ?_ ?_
      rotate_left
      · intro w hSw; (try dsimp only at hSw); go_simp; (try with_reducible rfl)
      try simp only [PT]
      refine tkY 1 ⟨some 52, .move (.tmp 0), 9, "ref.go:100", #[], none⟩ ?_ ?_ ?_
      rotate_left
      · intro w hSw; (try dsimp only at hSw); go_simp; (try with_reducible rfl)
      try simp only [PT]
      refine tkY 2 ⟨some 53, .move (.tmp 5), 3, "ref.go:100", #[], none⟩ ?_ ?_ ?_
      rotate_left
      · intro w hSw; (try dsimp only at hSw); go_simp; (try with_reducible rfl)
      try simp only [PT]
      refine tkY 3 ⟨some 54, .index 9 (.tmp 52) (.tmp 53), 5, "ref.go:100", #[⟨1, .data⟩, ⟨2, .data⟩], none⟩ ?_ ?_ ?_
      rotate_left
      · intro w hSw; (try dsimp only at hSw); go_simp; (try with_reducible rfl)
      try simp only [PT]
      refine tkY 4 ⟨some 55, .binOp .sub 5 (.tmp 54) (.const (.int .u8 48)) 5, 5, "ref.go:100", #[⟨3, .data⟩], none⟩ ?_ ?_ ?_
      rotate_left
      · intro w hSw; (try dsimp only at hSw); go_simp; (try with_reducible rfl)
      try simp only [PT]
      refine tkY 5 ⟨some 56, .convert 5 3 (.tmp 55), 3, "ref.go:100", #[⟨4, .data⟩], none⟩ ?_ ?_ ?_
      rotate_left
      · intro w hSw; (try dsimp only at hSw); go_simp; (try with_reducible rfl)
      try simp only [PT]
      refine tkY 6 ⟨some 57, .binOp .mul 3 (.const (.int .i64 10)) (.tmp 56) 3, 3, "ref.go:100", #[⟨5, .data⟩], none⟩ ?_ ?_ ?_
      rotate_left
      · intro w hSw; (try dsimp only at hSw); go_simp; (try with_reducible rfl)
      try simp only [PT]
      refine tkY 7 ⟨some 58, .move (.tmp 0), 9, "ref.go:100", #[], none⟩ ?_ ?_ ?_
      rotate_left
      · intro w hSw; (try dsimp only at hSw); go_simp; (try with_reducible rfl)
      try simp only [PT]
      refine tkY 8 ⟨some 59, .move (.tmp 5), 3, "ref.go:100", #[], none⟩ ?_ ?_ ?_
      rotate_left
      · intro w hSw; (try dsimp only at hSw); go_simp; (try with_reducible rfl)
      try simp only [PT]
      refine tkY 9 ⟨some 60, .binOp .add 3 (.tmp 59) (.const (.int .i64 1)) 3, 3, "ref.go:100", #[⟨8, .data⟩], none⟩ ?_ ?_ ?_
      rotate_left
      · intro w hSw; (try dsimp only at hSw); go_simp; (try with_reducible rfl)
      try simp only [PT]
      refine tkY 10 ⟨some 61, .index 9 (.tmp 58) (.tmp 60), 5, "ref.go:100", #[⟨7, .data⟩, ⟨9, .data⟩], none⟩ ?_ ?_ ?_
      rotate_left
      · intro w hSw; (try dsimp only at hSw); go_simp; (try with_reducible rfl)
      try simp only [PT]
      refine tkY 11 ⟨some 62, .binOp .sub 5 (.tmp 61) (.const (.int .u8 48)) 5, 5, "ref.go:100", #[⟨10, .data⟩], none⟩ ?_ ?_ ?_
      rotate_left
      · intro w hSw; (try dsimp only at hSw); go_simp; (try with_reducible rfl)
      try simp only [PT]
      refine tkY 12 ⟨some 63, .convert 5 3 (.tmp 62), 3, "ref.go:100", #[⟨11, .data⟩], none⟩ ?_ ?_ ?_
      rotate_left
      · intro w hSw; (try dsimp only at hSw); go_simp; (try with_reducible rfl)
      try simp only [PT]
      refine tkY 13 ⟨some 64, .binOp .add 3 (.tmp 57) (.tmp 63) 3, 3, "ref.go:100", #[⟨6, .data⟩, ⟨12, .data⟩], none⟩ ?_ ?_ ?_
      rotate_left
      · intro w hSw; (try dsimp only at hSw); go_simp; (try with_reducible rfl)
      try simp only [PT]
      refine wpAnyH_ready (rs := [14]) (by kernel_rfl) (by simp) ?_
      refine AllReadyH.cons (o := ⟨some 65, .buildSlice 57 1 #[(0, .tmp 64)], 57, "ref.go:100", #[⟨13, .data⟩], none⟩) rfl (fun K hK => ?_) AllReadyH.nil
      go_simp
      refine hK.out _ _ kp (fun hHeld => ?_)
      clear hK K
      try simp only [PT]
      refine wpAnyH_ready (rs := [15]) (by kernel_rfl) (by simp) ?_
      refine AllReadyH.cons (o := ⟨some 66, .call ⟨.builtin .append, #[.tmp 51, .tmp 65], #[57, 57]⟩, 57, "ref.go:100", #[⟨0, .data⟩, ⟨14, .data⟩], none⟩) rfl (fun K hK => ?_) AllReadyH.nil
      refine step_append_lies _ (by rfl) _ _ _ (by rfl) (w.heap.size + 1) 3 i0 (.int .i64 0) 1 8 Tryd.underlying57 hi hz0 hz1 hz2 rfl (by decide) _ 0 (XS x 0) (by rfl) ((hown.alloc _).drew) ⟨wr.heap.size, 0, none⟩ 1 1 [.int .i64 (n2 x 0)] (by rfl) rfl (World.news_of_block (cs := #[.int .i64 (n2 x 0)]) (t := 3) (fr := (0, 0)) (heap_alloc_new wr _)) (by simp [Value.oneCell']) (by omega) (by unfold maxLen; omega) (by omega) (by show w.heap.size + 1 ≤ (wr.alloc _).heap.size; rw [World.size_alloc]; omega) (wr.heap.size + 1) (World.size_alloc _ _) ?_; intro g cap w1 hown1 hgrow hat hlt1
      refine hK.out _ _ kp (fun hHeld => ?_)
      clear hK K
      try simp only [PT]
      refine tkY 16 ⟨some 4, .assign (.tmp 66), 57, "ref.go:100", #[⟨15, .data⟩, ⟨15, .chain⟩, ⟨0, .phase⟩, ⟨1, .phase⟩, ⟨2, .phase⟩, ⟨3, .phase⟩, ⟨4, .phase⟩, ⟨5, .phase⟩, ⟨6, .phase⟩, ⟨7, .phase⟩, ⟨8, .phase⟩, ⟨9, .phase⟩, ⟨10, .phase⟩, ⟨11, .phase⟩, ⟨12, .phase⟩, ⟨13, .phase⟩, ⟨14, .phase⟩, ⟨15, .phase⟩], none⟩ ?_ ?_ ?_
      rotate_left
      · intro w hSw; (try dsimp only at hSw); go_simp; (try with_reducible rfl)
      try simp only [PT]
      refine wpAnyH_done (by kernel_rfl) ?_ _
      refine NoPanic.normal ?_
      clear wu0 wi0 wu1 wi1 wm wa wl
      have d : DG x 0 := ⟨⟨d0, d1⟩, ⟨d2, d3⟩⟩
      have D := hide d
      clear d d0 d1 d2 d3 hR1 hR2
      have hbw : Below (w.heap.size + 1) wr w1 := ((Below.refl (w.heap.size + 1) wr).alloc (by omega) _).drew.grown hgrow (by show w.heap.size + 1 ≤ (wr.alloc _).heap.size; rw [World.size_alloc]; omega) (fun q hq => (hown.lt q hq).1)
      have hz1 := hgrow.size
      go_wp2
      go_roundw
      case rel => exact ⟨1, by omega, by go_num, hown1, ⟨fun _ => D.out, fun _ => by omega, fun _ => by omega⟩, hbel.trans (hbw.mono (by omega)), hR.under hbw (by omega)⟩
      case measure => simp [intOf]; try omega
    · by_cases d0 : 48 ≤ bt x 3
      case neg =>
        go_wp2
        ((try simp only [Exit.inBlock, Exit.then]); refine bodyPost_ret (by simp only [results, Tryd.results14]; go_simp; try rfl) rfl ?_)
        exact bad_post (fun hh => by have := hh.1; simp only [DG, Nat.reduceAdd] at this; omega) rfl (by (exact bl))
      by_cases d1 : bt x 3 ≤ 57
      case neg =>
        go_wp2
        ((try simp only [Exit.inBlock, Exit.then]); refine bodyPost_ret (by simp only [results, Tryd.results14]; go_simp; try rfl) rfl ?_)
        exact bad_post (fun hh => by have := hh.1; simp only [DG, Nat.reduceAdd] at this; omega) rfl (by (exact bl))
      by_cases d2 : 48 ≤ bt x 4
      case neg =>
        go_wp2
        ((try simp only [Exit.inBlock, Exit.then]); refine bodyPost_ret (by simp only [results, Tryd.results14]; go_simp; try rfl) rfl ?_)
        exact bad_post (fun hh => by have := hh.1; simp only [DG, Nat.reduceAdd] at this; omega) rfl (by (exact bl))
      by_cases d3 : bt x 4 ≤ 57
      case neg =>
        go_wp2
        ((try simp only [Exit.inBlock, Exit.then]); refine bodyPost_ret (by simp only [results, Tryd.results14]; go_simp; try rfl) rfl ?_)
        exact bad_post (fun hh => by have := hh.1; simp only [DG, Nat.reduceAdd] at this; omega) rfl (by (exact bl))
      go_upto_region 9 with fail
      have wu3 : IntKind.u8.wrap (bt x 3 - 48) = bt x 3 - 48 := IntWalk.u8_in _ (by omega)
      have wi3 : IntKind.i64.wrap (bt x 3 - 48) = bt x 3 - 48 := IntWalk.i64_in _ (by omega)
      have wu4 : IntKind.u8.wrap (bt x 4 - 48) = bt x 4 - 48 := IntWalk.u8_in _ (by omega)
      have wi4 : IntKind.i64.wrap (bt x 4 - 48) = bt x 4 - 48 := IntWalk.i64_in _ (by omega)
      have wm : IntKind.i64.wrap (10 * (bt x 3 - 48)) = 10 * (bt x 3 - 48) := IntWalk.i64_in _ (by omega)
      have wa : IntKind.i64.wrap (10 * (bt x 3 - 48) + (bt x 4 - 48)) = 10 * (bt x 3 - 48) + (bt x 4 - 48) := IntWalk.i64_in _ (by omega)
      have wl : IntKind.i64.wrap 4 = 4 := by decide
      refine wp_region_noPanic ?_
      refine wp_region_held_drew (S := (fun _ => True ∧ True)) (by kernel_rfl) kp (fun hHeld => ?_)
      refine tkY 0 ⟨some 51, .move (.tmp 4), 57, "ref.go:100", #[], none⟩ ?_ ?_ ?_
      rotate_left
      · intro w hSw; (try dsimp only at hSw); go_simp; (try with_reducible rfl)
      try simp only [PT]
      refine tkY 1 ⟨some 52, .move (.tmp 0), 9, "ref.go:100", #[], none⟩ ?_ ?_ ?_
      rotate_left
      · intro w hSw; (try dsimp only at hSw); go_simp; (try with_reducible rfl)
      try simp only [PT]
      refine tkY 2 ⟨some 53, .move (.tmp 5), 3, "ref.go:100", #[], none⟩ ?_ ?_ ?_
      rotate_left
      · intro w hSw; (try dsimp only at hSw); go_simp; (try with_reducible rfl)
      try simp only [PT]
      refine tkY 3 ⟨some 54, .index 9 (.tmp 52) (.tmp 53), 5, "ref.go:100", #[⟨1, .data⟩, ⟨2, .data⟩], none⟩ ?_ ?_ ?_
      rotate_left
      · intro w hSw; (try dsimp only at hSw); go_simp; (try with_reducible rfl)
      try simp only [PT]
      refine tkY 4 ⟨some 55, .binOp .sub 5 (.tmp 54) (.const (.int .u8 48)) 5, 5, "ref.go:100", #[⟨3, .data⟩], none⟩ ?_ ?_ ?_
      rotate_left
      · intro w hSw; (try dsimp only at hSw); go_simp; (try with_reducible rfl)
      try simp only [PT]
      refine tkY 5 ⟨some 56, .convert 5 3 (.tmp 55), 3, "ref.go:100", #[⟨4, .data⟩], none⟩ ?_ ?_ ?_
      rotate_left
      · intro w hSw; (try dsimp only at hSw); go_simp; (try with_reducible rfl)
      try simp only [PT]
      refine tkY 6 ⟨some 57, .binOp .mul 3 (.const (.int .i64 10)) (.tmp 56) 3, 3, "ref.go:100", #[⟨5, .data⟩], none⟩ ?_ ?_ ?_
      rotate_left
      · intro w hSw; (try dsimp only at hSw); go_simp; (try with_reducible rfl)
      try simp only [PT]
      refine tkY 7 ⟨some 58, .move (.tmp 0), 9, "ref.go:100", #[], none⟩ ?_ ?_ ?_
      rotate_left
      · intro w hSw; (try dsimp only at hSw); go_simp; (try with_reducible rfl)
      try simp only [PT]
      refine tkY 8 ⟨some 59, .move (.tmp 5), 3, "ref.go:100", #[], none⟩ ?_ ?_ ?_
      rotate_left
      · intro w hSw; (try dsimp only at hSw); go_simp; (try with_reducible rfl)
      try simp only [PT]
      refine tkY 9 ⟨some 60, .binOp .add 3 (.tmp 59) (.const (.int .i64 1)) 3, 3, "ref.go:100", #[⟨8, .data⟩], none⟩ ?_ ?_ ?_
      rotate_left
      · intro w hSw; (try dsimp only at hSw); go_simp; (try with_reducible rfl)
      try simp only [PT]
      refine tkY 10 ⟨some 61, .index 9 (.tmp 58) (.tmp 60), 5, "ref.go:100", #[⟨7, .data⟩, ⟨9, .data⟩], none⟩ ?_ ?_ ?_
      rotate_left
      · intro w hSw; (try dsimp only at hSw); go_simp; (try with_reducible rfl)
      try simp only [PT]
      refine tkY 11 ⟨some 62, .binOp .sub 5 (.tmp 61) (.const (.int .u8 48)) 5, 5, "ref.go:100", #[⟨10, .data⟩], none⟩ ?_ ?_ ?_
      rotate_left
      · intro w hSw; (try dsimp only at hSw); go_simp; (try with_reducible rfl)
      try simp only [PT]
      refine tkY 12 ⟨some 63, .convert 5 3 (.tmp 62), 3, "ref.go:100", #[⟨11, .data⟩], none⟩ ?_ ?_ ?_
      rotate_left
      · intro w hSw; (try dsimp only at hSw); go_simp; (try with_reducible rfl)
      try simp only [PT]
      refine tkY 13 ⟨some 64, .binOp .add 3 (.tmp 57) (.tmp 63) 3, 3, "ref.go:100", #[⟨6, .data⟩, ⟨12, .data⟩], none⟩ ?_ ?_ ?_
      rotate_left
      · intro w hSw; (try dsimp only at hSw); go_simp; (try with_reducible rfl)
      try simp only [PT]
      refine wpAnyH_ready (rs := [14]) (by kernel_rfl) (by simp) ?_
      refine AllReadyH.cons (o := ⟨some 65, .buildSlice 57 1 #[(0, .tmp 64)], 57, "ref.go:100", #[⟨13, .data⟩], none⟩) rfl (fun K hK => ?_) AllReadyH.nil
      go_simp
      refine hK.out _ _ kp (fun hHeld => ?_)
      clear hK K
      try simp only [PT]
      refine wpAnyH_ready (rs := [15]) (by kernel_rfl) (by simp) ?_
      refine AllReadyH.cons (o := ⟨some 66, .call ⟨.builtin .append, #[.tmp 51, .tmp 65], #[57, 57]⟩, 57, "ref.go:100", #[⟨0, .data⟩, ⟨14, .data⟩], none⟩) rfl (fun K hK => ?_) AllReadyH.nil
      refine step_append_lies _ (by rfl) _ _ _ (by rfl) (w.heap.size + 1) 3 i0 (.int .i64 0) 1 8 Tryd.underlying57 hi hz0 hz1 hz2 rfl (by decide) _ 1 (XS x 1) (by rfl) ((hown.alloc _).drew) ⟨wr.heap.size, 0, none⟩ 1 1 [.int .i64 (n2 x 3)] (by rfl) rfl (World.news_of_block (cs := #[.int .i64 (n2 x 3)]) (t := 3) (fr := (0, 0)) (heap_alloc_new wr _)) (by simp [Value.oneCell']) (by omega) (by unfold maxLen; omega) (by omega) (by show w.heap.size + 1 ≤ (wr.alloc _).heap.size; rw [World.size_alloc]; omega) (wr.heap.size + 1) (World.size_alloc _ _) ?_; intro g cap w1 hown1 hgrow hat hlt1
      refine hK.out _ _ kp (fun hHeld => ?_)
      clear hK K
      try simp only [PT]
      refine tkY 16 ⟨some 4, .assign (.tmp 66), 57, "ref.go:100", #[⟨15, .data⟩, ⟨15, .chain⟩, ⟨0, .phase⟩, ⟨1, .phase⟩, ⟨2, .phase⟩, ⟨3, .phase⟩, ⟨4, .phase⟩, ⟨5, .phase⟩, ⟨6, .phase⟩, ⟨7, .phase⟩, ⟨8, .phase⟩, ⟨9, .phase⟩, ⟨10, .phase⟩, ⟨11, .phase⟩, ⟨12, .phase⟩, ⟨13, .phase⟩, ⟨14, .phase⟩, ⟨15, .phase⟩], none⟩ ?_ ?_ ?_
      rotate_left
      · intro w hSw; (try dsimp only at hSw); go_simp; (try with_reducible rfl)
      try simp only [PT]
      refine wpAnyH_done (by kernel_rfl) ?_ _
      refine NoPanic.normal ?_
      clear wu3 wi3 wu4 wi4 wm wa wl
      have d : DG x 3 := ⟨⟨d0, d1⟩, ⟨d2, d3⟩⟩
      have D := hide d
      clear d d0 d1 d2 d3 hR1 hR2
      have hbw : Below (w.heap.size + 1) wr w1 := ((Below.refl (w.heap.size + 1) wr).alloc (by omega) _).drew.grown hgrow (by show w.heap.size + 1 ≤ (wr.alloc _).heap.size; rw [World.size_alloc]; omega) (fun q hq => (hown.lt q hq).1)
      have hz1 := hgrow.size
      go_wp2
      go_roundw
      case rel => exact ⟨2, by omega, by go_num, hown1, ⟨fun _ => HDG.out.1 (by omega), fun _ => D.out, fun _ => by omega⟩, hbel.trans (hbw.mono (by omega)), hR.under hbw (by omega)⟩
      case measure => simp [intOf]; try omega
    · by_cases d0 : 48 ≤ bt x 6
      case neg =>
        go_wp2
        ((try simp only [Exit.inBlock, Exit.then]); refine bodyPost_ret (by simp only [results, Tryd.results14]; go_simp; try rfl) rfl ?_)
        exact bad_post (fun hh => by have := hh.1; simp only [DG, Nat.reduceAdd] at this; omega) rfl (by (exact bl))
      by_cases d1 : bt x 6 ≤ 57
      case neg =>
        go_wp2
        ((try simp only [Exit.inBlock, Exit.then]); refine bodyPost_ret (by simp only [results, Tryd.results14]; go_simp; try rfl) rfl ?_)
        exact bad_post (fun hh => by have := hh.1; simp only [DG, Nat.reduceAdd] at this; omega) rfl (by (exact bl))
      by_cases d2 : 48 ≤ bt x 7
      case neg =>
        go_wp2
        ((try simp only [Exit.inBlock, Exit.then]); refine bodyPost_ret (by simp only [results, Tryd.results14]; go_simp; try rfl) rfl ?_)
        exact bad_post (fun hh => by have := hh.1; simp only [DG, Nat.reduceAdd] at this; omega) rfl (by (exact bl))
      by_cases d3 : bt x 7 ≤ 57
      case neg =>
        go_wp2
        ((try simp only [Exit.inBlock, Exit.then]); refine bodyPost_ret (by simp only [results, Tryd.results14]; go_simp; try rfl) rfl ?_)
        exact bad_post (fun hh => by have := hh.1; simp only [DG, Nat.reduceAdd] at this; omega) rfl (by (exact bl))
      go_upto_region 9 with fail
      have wu6 : IntKind.u8.wrap (bt x 6 - 48) = bt x 6 - 48 := IntWalk.u8_in _ (by omega)
      have wi6 : IntKind.i64.wrap (bt x 6 - 48) = bt x 6 - 48 := IntWalk.i64_in _ (by omega)
      have wu7 : IntKind.u8.wrap (bt x 7 - 48) = bt x 7 - 48 := IntWalk.u8_in _ (by omega)
      have wi7 : IntKind.i64.wrap (bt x 7 - 48) = bt x 7 - 48 := IntWalk.i64_in _ (by omega)
      have wm : IntKind.i64.wrap (10 * (bt x 6 - 48)) = 10 * (bt x 6 - 48) := IntWalk.i64_in _ (by omega)
      have wa : IntKind.i64.wrap (10 * (bt x 6 - 48) + (bt x 7 - 48)) = 10 * (bt x 6 - 48) + (bt x 7 - 48) := IntWalk.i64_in _ (by omega)
      have wl : IntKind.i64.wrap 7 = 7 := by decide
      refine wp_region_noPanic ?_
      refine wp_region_held_drew (S := (fun _ => True ∧ True)) (by kernel_rfl) kp (fun hHeld => ?_)
      refine tkY 0 ⟨some 51, .move (.tmp 4), 57, "ref.go:100", #[], none⟩ ?_ ?_ ?_
      rotate_left
      · intro w hSw; (try dsimp only at hSw); go_simp; (try with_reducible rfl)
      try simp only [PT]
      refine tkY 1 ⟨some 52, .move (.tmp 0), 9, "ref.go:100", #[], none⟩ ?_ ?_ ?_
      rotate_left
      · intro w hSw; (try dsimp only at hSw); go_simp; (try with_reducible rfl)
      try simp only [PT]
      refine tkY 2 ⟨some 53, .move (.tmp 5), 3, "ref.go:100", #[], none⟩ ?_ ?_ ?_
      rotate_left
      · intro w hSw; (try dsimp only at hSw); go_simp; (try with_reducible rfl)
      try simp only [PT]
      refine tkY 3 ⟨some 54, .index 9 (.tmp 52) (.tmp 53), 5, "ref.go:100", #[⟨1, .data⟩, ⟨2, .data⟩], none⟩ ?_ ?_ ?_
      rotate_left
      · intro w hSw; (try dsimp only at hSw); go_simp; (try with_reducible rfl)
      try simp only [PT]
      refine tkY 4 ⟨some 55, .binOp .sub 5 (.tmp 54) (.const (.int .u8 48)) 5, 5, "ref.go:100", #[⟨3, .data⟩], none⟩ ?_ ?_ ?_
      rotate_left
      · intro w hSw; (try dsimp only at hSw); go_simp; (try with_reducible rfl)
      try simp only [PT]
      refine tkY 5 ⟨some 56, .convert 5 3 (.tmp 55), 3, "ref.go:100", #[⟨4, .data⟩], none⟩ ?_ ?_ ?_
      rotate_left
      · intro w hSw; (try dsimp only at hSw); go_simp; (try with_reducible rfl)
      try simp only [PT]
      refine tkY 6 ⟨some 57, .binOp .mul 3 (.const (.int .i64 10)) (.tmp 56) 3, 3, "ref.go:100", #[⟨5, .data⟩], none⟩ ?_ ?_ ?_
      rotate_left
      · intro w hSw; (try dsimp only at hSw); go_simp; (try with_reducible rfl)
      try simp only [PT]
      refine tkY 7 ⟨some 58, .move (.tmp 0), 9, "ref.go:100", #[], none⟩ ?_ ?_ ?_
      rotate_left
      · intro w hSw; (try dsimp only at hSw); go_simp; (try with_reducible rfl)
      try simp only [PT]
      refine tkY 8 ⟨some 59, .move (.tmp 5), 3, "ref.go:100", #[], none⟩ ?_ ?_ ?_
      rotate_left
      · intro w hSw; (try dsimp only at hSw); go_simp; (try with_reducible rfl)
      try simp only [PT]
      refine tkY 9 ⟨some 60, .binOp .add 3 (.tmp 59) (.const (.int .i64 1)) 3, 3, "ref.go:100", #[⟨8, .data⟩], none⟩ ?_ ?_ ?_
      rotate_left
      · intro w hSw; (try dsimp only at hSw); go_simp; (try with_reducible rfl)
      try simp only [PT]
      refine tkY 10 ⟨some 61, .index 9 (.tmp 58) (.tmp 60), 5, "ref.go:100", #[⟨7, .data⟩, ⟨9, .data⟩], none⟩ ?_ ?_ ?_
      rotate_left
      · intro w hSw; (try dsimp only at hSw); go_simp; (try with_reducible rfl)
      try simp only [PT]
      refine tkY 11 ⟨some 62, .binOp .sub 5 (.tmp 61) (.const (.int .u8 48)) 5, 5, "ref.go:100", #[⟨10, .data⟩], none⟩ ?_ ?_ ?_
      rotate_left
      · intro w hSw; (try dsimp only at hSw); go_simp; (try with_reducible rfl)
      try simp only [PT]
      refine tkY 12 ⟨some 63, .convert 5 3 (.tmp 62), 3, "ref.go:100", #[⟨11, .data⟩], none⟩ ?_ ?_ ?_
      rotate_left
      · intro w hSw; (try dsimp only at hSw); go_simp; (try with_reducible rfl)
      try simp only [PT]
      refine tkY 13 ⟨some 64, .binOp .add 3 (.tmp 57) (.tmp 63) 3, 3, "ref.go:100", #[⟨6, .data⟩, ⟨12, .data⟩], none⟩ ?_ ?_ ?_
      rotate_left
      · intro w hSw; (try dsimp only at hSw); go_simp; (try with_reducible rfl)
      try simp only [PT]
      refine wpAnyH_ready (rs := [14]) (by kernel_rfl) (by simp) ?_
      refine AllReadyH.cons (o := ⟨some 65, .buildSlice 57 1 #[(0, .tmp 64)], 57, "ref.go:100", #[⟨13, .data⟩], none⟩) rfl (fun K hK => ?_) AllReadyH.nil
      go_simp
      refine hK.out _ _ kp (fun hHeld => ?_)
      clear hK K
      try simp only [PT]
      refine wpAnyH_ready (rs := [15]) (by kernel_rfl) (by simp) ?_
      refine AllReadyH.cons (o := ⟨some 66, .call ⟨.builtin .append, #[.tmp 51, .tmp 65], #[57, 57]⟩, 57, "ref.go:100", #[⟨0, .data⟩, ⟨14, .data⟩], none⟩) rfl (fun K hK => ?_) AllReadyH.nil
      refine step_append_lies _ (by rfl) _ _ _ (by rfl) (w.heap.size + 1) 3 i0 (.int .i64 0) 1 8 Tryd.underlying57 hi hz0 hz1 hz2 rfl (by decide) _ 2 (XS x 2) (by rfl) ((hown.alloc _).drew) ⟨wr.heap.size, 0, none⟩ 1 1 [.int .i64 (n2 x 6)] (by rfl) rfl (World.news_of_block (cs := #[.int .i64 (n2 x 6)]) (t := 3) (fr := (0, 0)) (heap_alloc_new wr _)) (by simp [Value.oneCell']) (by omega) (by unfold maxLen; omega) (by omega) (by show w.heap.size + 1 ≤ (wr.alloc _).heap.size; rw [World.size_alloc]; omega) (wr.heap.size + 1) (World.size_alloc _ _) ?_; intro g cap w1 hown1 hgrow hat hlt1
      refine hK.out _ _ kp (fun hHeld => ?_)
      clear hK K
      try simp only [PT]
      refine tkY 16 ⟨some 4, .assign (.tmp 66), 57, "ref.go:100", #[⟨15, .data⟩, ⟨15, .chain⟩, ⟨0, .phase⟩, ⟨1, .phase⟩, ⟨2, .phase⟩, ⟨3, .phase⟩, ⟨4, .phase⟩, ⟨5, .phase⟩, ⟨6, .phase⟩, ⟨7, .phase⟩, ⟨8, .phase⟩, ⟨9, .phase⟩, ⟨10, .phase⟩, ⟨11, .phase⟩, ⟨12, .phase⟩, ⟨13, .phase⟩, ⟨14, .phase⟩, ⟨15, .phase⟩], none⟩ ?_ ?_ ?_
      rotate_left
      · intro w hSw; (try dsimp only at hSw); go_simp; (try with_reducible rfl)
      try simp only [PT]
      refine wpAnyH_done (by kernel_rfl) ?_ _
      refine NoPanic.normal ?_
      clear wu6 wi6 wu7 wi7 wm wa wl
      have d : DG x 6 := ⟨⟨d0, d1⟩, ⟨d2, d3⟩⟩
      have D := hide d
      clear d d0 d1 d2 d3 hR1 hR2
      have hbw : Below (w.heap.size + 1) wr w1 := ((Below.refl (w.heap.size + 1) wr).alloc (by omega) _).drew.grown hgrow (by show w.heap.size + 1 ≤ (wr.alloc _).heap.size; rw [World.size_alloc]; omega) (fun q hq => (hown.lt q hq).1)
      have hz1 := hgrow.size
      go_wp2
      go_roundw
      case rel => exact ⟨3, by omega, by go_num, hown1, ⟨fun _ => HDG.out.1 (by omega), fun _ => HDG.out.2.1 (by omega), fun _ => D.out⟩, hbel.trans (hbw.mono (by omega)), hR.under hbw (by omega)⟩
      case measure => simp [intOf]; try omega
    · have d := HDG.out
      have D : DG x 0 ∧ DG x 3 ∧ DG x 6 := ⟨d.1 (by omega), d.2.1 (by omega), d.2.2 (by omega)⟩
      have b0 := n2_bd D.1
      have b3 := n2_bd D.2.1
      have b6 := n2_bd D.2.2
      have DD := hide D
      clear d D
      obtain ⟨g, cap, rfl⟩ := Go.Joins.ownsRow_form hown (by omega)
      have hg := hown.lt g rfl
      have e0 : wr.cell? ⟨g, 0, none⟩ = some (.int .i64 (n2 x 0)) := hown.cellAt 0 (by omega)
      have e1 : wr.cell? ⟨g, 1, none⟩ = some (.int .i64 (n2 x 3)) := hown.cellAt 1 (by omega)
      have e2 : wr.cell? ⟨g, 2, none⟩ = some (.int .i64 (n2 x 6)) := hown.cellAt 2 (by omega)
      have HW := hide hown
      clear hown
      have HL : Live wr [w.heap.size] := ⟨hlt, trivial⟩
      go_wp2_with fail
      refine wp_region_noPanic ?_
      refine wp_region_held_drew (S := (fun y => y.cell? ⟨g, 0, none⟩ = some (.int .i64 (n2 x 0)) ∧ y.cell? ⟨g, 1, none⟩ = some (.int .i64 (n2 x 3)) ∧ y.cell? ⟨g, 2, none⟩ = some (.int .i64 (n2 x 6)))) (by kernel_rfl) kp (fun hHeld => ?_)
      refine tkY 0 ⟨some 67, .move (.tmp 4), 57, "ref.go:102", #[], none⟩ ?_ ?_ ?_
      rotate_left
      · intro w hSw; (try dsimp only at hSw); go_simp; (try with_reducible rfl)
      try simp only [PT]
      refine tkY 1 ⟨some 68, .indexAddr 57 (.tmp 67) (.const (.int .i64 0)), 0, "ref.go:102", #[⟨0, .data⟩], none⟩ ?_ ?_ ?_
      rotate_left
      · intro w hSw; (try dsimp only at hSw); go_simp; (try with_reducible rfl)
      try simp only [PT]
      refine tkY 2 ⟨some 69, .load 3 (.tmp 68), 3, "ref.go:102", #[⟨1, .data⟩], none⟩ ?_ ?_ ?_
      rotate_left
      · intro w hSw; (try dsimp only at hSw); go_simp; (try with_reducible rfl)
      try simp only [PT]
      refine tkY 3 ⟨some 70, .move (.tmp 4), 57, "ref.go:102", #[], none⟩ ?_ ?_ ?_
      rotate_left
      · intro w hSw; (try dsimp only at hSw); go_simp; (try with_reducible rfl)
      try simp only [PT]
      refine tkY 4 ⟨some 71, .indexAddr 57 (.tmp 70) (.const (.int .i64 1)), 0, "ref.go:102", #[⟨3, .data⟩], none⟩ ?_ ?_ ?_
      rotate_left
      · intro w hSw; (try dsimp only at hSw); go_simp; (try with_reducible rfl)
      try simp only [PT]
      refine tkY 5 ⟨some 72, .load 3 (.tmp 71), 3, "ref.go:102", #[⟨4, .data⟩], none⟩ ?_ ?_ ?_
      rotate_left
      · intro w hSw; (try dsimp only at hSw); go_simp; (try with_reducible rfl)
      try simp only [PT]
      refine tkY 6 ⟨some 73, .move (.tmp 4), 57, "ref.go:102", #[], none⟩ ?_ ?_ ?_
      rotate_left
      · intro w hSw; (try dsimp only at hSw); go_simp; (try with_reducible rfl)
      try simp only [PT]
      refine tkY 7 ⟨some 74, .indexAddr 57 (.tmp 73) (.const (.int .i64 2)), 0, "ref.go:102", #[⟨6, .data⟩], none⟩ ?_ ?_ ?_
      rotate_left
      · intro w hSw; (try dsimp only at hSw); go_simp; (try with_reducible rfl)
      try simp only [PT]
      refine tkY 8 ⟨some 75, .load 3 (.tmp 74), 3, "ref.go:102", #[⟨7, .data⟩], none⟩ ?_ ?_ ?_
      rotate_left
      · intro w hSw; (try dsimp only at hSw); go_simp; (try with_reducible rfl)
      try simp only [PT]
      refine tkY 9 ⟨some 76, .build 23 #[(0, .tmp 69), (1, .tmp 72), (2, .tmp 75)], 23, "ref.go:102", #[⟨2, .data⟩, ⟨5, .data⟩, ⟨8, .data⟩], none⟩ ?_ ?_ ?_
      rotate_left
      · intro w hSw; (try dsimp only at hSw); go_simp; (try with_reducible rfl)
      try simp only [PT]
      refine wpAnyH_ready (rs := [10]) (by kernel_rfl) (by simp) ?_
      refine AllReadyH.cons (o := ⟨some 6, .alloc 23, 0, "ref.go:102", #[], none⟩) rfl (fun K hK => ?_) AllReadyH.nil
      go_simp
      refine hK.out _ _ kp (fun hHeld => ?_)
      clear hK K
      try simp only [PT]
      refine wpAnyH_ready (rs := [11]) (by kernel_rfl) (by simp) ?_
      refine AllReadyH.cons (o := ⟨none, .store 23 (.tmp 6) (.tmp 76), 0, "ref.go:102", #[⟨10, .data⟩, ⟨9, .data⟩, ⟨0, .phase⟩, ⟨1, .phase⟩, ⟨2, .phase⟩, ⟨3, .phase⟩, ⟨4, .phase⟩, ⟨5, .phase⟩, ⟨6, .phase⟩, ⟨7, .phase⟩, ⟨8, .phase⟩, ⟨9, .phase⟩, ⟨10, .phase⟩], none⟩) rfl (fun K hK => ?_) AllReadyH.nil
      go_simp
      refine hK.out _ _ kp (fun hHeld => ?_)
      clear hK K
      try simp only [PT]
      refine wpAnyH_done (by kernel_rfl) ?_ _
      refine NoPanic.normal ?_
      all_goals
        clear e0 e1 e2
        cases hv : validB (n2 x 0) (n2 x 3) (n2 x 6)
        · go_wp2_with fail
          (first | ((with_reducible refine (rvalid_any _ _ _ _).mono ?_); rintro e w2 ⟨rfl, hb⟩; have hz := hb.size; (try simp only [SZ, Nat.reduceAdd] at hz); (first | obtain ⟨HL, hk⟩ := HL.callA hb hz | obtain ⟨HL, hk⟩ := HL.call0A hb hz); (try simp only [addN, Nat.add_zero] at HL hk); have hl := HL; simp only [Live] at hl; (try simp only [Kept] at hk)))
          go_wp2_with fail
          ((try simp only [Exit.inBlock, Exit.then]); refine bodyPost_ret (by simp only [results, Tryd.results14]; go_simp; try rfl) rfl ?_)
          exact bad_post (fun hh => by rw [hv] at hh; cases hh.2) rfl (by (exact bl))
        · go_wp2_with fail
          (first | ((with_reducible refine (rvalid_any _ _ _ _).mono ?_); rintro e w2 ⟨rfl, hb⟩; have hz := hb.size; (try simp only [SZ, Nat.reduceAdd] at hz); (first | obtain ⟨HL, hk⟩ := HL.callA hb hz | obtain ⟨HL, hk⟩ := HL.call0A hb hz); (try simp only [addN, Nat.add_zero] at HL hk); have hl := HL; simp only [Live] at hl; (try simp only [Kept] at hk)))
          go_wp2_with fail
          ((try simp only [Exit.inBlock, Exit.then]); refine bodyPost_ret (by simp only [results, Tryd.results14]; go_simp; try rfl) rfl ?_)
          exact ⟨Or.inl ⟨DD.out, hv, rfl⟩, by (exact bl)⟩
end Go.Proofs.YtihnkanmlbgidaaDoor
