/- Contracts and plain words for the laws of volume descriptors, part 30: T2, J7, J8. No condition. -/
import Derived.Test.YtjbhokmkmapkoaaGreatDoorC27
import Derived.Test.YtjbhokmkmapkoaaGreatDoorC22
import Derived.Test.YtjbhokmkmapkoaaGreatDoorC25
namespace Go.Proofs.YtjbhokmkmapkoaaGreatDoor
set_option linter.unusedSimpArgs false
set_option linter.unusedVariables false
open Go.RowKit
open Go.PlainAid (bt get_bt bt_nonneg bt_le bt_end)
set_option maxRecDepth 100000 in
set_option maxHeartbeats 8000000 in
theorem rdec_early (s : ByteArray) (h100 : s.size ≤ 100000) (hx1 : ¬ (s.size = 2048 ∧ s.extract 1 7 = stdS ∧ (bt s 0 = 1 ∨ bt s 0 = 2))) (w : World) : Calls Tryz.prog 18 #[.string s] w (DecDP s w) := by
  have HX := hide hx1
  clear hx1
  have HL : Live w [] := trivial
  go_enter Tryz.func18, Tryz.ntmps18
  go_upto_region 1 with fail
  have hB0 : Blk (w.alloc (.cells #[.int .i64 0, .int .i64 0, .string ⟨#[]⟩, .string ⟨#[]⟩, .string ⟨#[]⟩, .string ⟨#[]⟩, .string ⟨#[]⟩, .int .i64 0, .int .i64 0, .int .i64 0, .int .i64 0, .int .i64 0, .int .i64 0, .int .i64 0, .int .i64 0, .string ⟨#[]⟩, .int .i64 0, .int .i64 0, .int .i64 0, .int .i64 0, .int .i64 0, .int .i64 0, .string ⟨#[]⟩] 27)) w.heap.size DR.zero.cells 27 := Blk.newAt rfl
  have hbel0 : Below w.heap.size w (w.alloc (.cells #[.int .i64 0, .int .i64 0, .string ⟨#[]⟩, .string ⟨#[]⟩, .string ⟨#[]⟩, .string ⟨#[]⟩, .string ⟨#[]⟩, .int .i64 0, .int .i64 0, .int .i64 0, .int .i64 0, .int .i64 0, .int .i64 0, .int .i64 0, .int .i64 0, .string ⟨#[]⟩, .int .i64 0, .int .i64 0, .int .i64 0, .int .i64 0, .int .i64 0, .int .i64 0, .string ⟨#[]⟩] 27)) := by (exact bl)
  generalize w.alloc (.cells #[.int .i64 0, .int .i64 0, .string ⟨#[]⟩, .string ⟨#[]⟩, .string ⟨#[]⟩, .string ⟨#[]⟩, .string ⟨#[]⟩, .int .i64 0, .int .i64 0, .int .i64 0, .int .i64 0, .int .i64 0, .int .i64 0, .int .i64 0, .int .i64 0, .string ⟨#[]⟩, .int .i64 0, .int .i64 0, .int .i64 0, .int .i64 0, .int .i64 0, .int .i64 0, .string ⟨#[]⟩] 27) = W0 at *
  obtain ⟨b2, eb2⟩ : ∃ b2, b2 = w.heap.size := ⟨_, rfl⟩
  rw [← eb2] at hB0 ⊢
  have l1 : w.heap.size ≤ b2 := by omega
  clear eb2
  go_upto_region 2 with (refine wpList_store_new rfl 27 (.tmp 4) (.tmp 23) rfl #[.int .i64 0, .int .i64 0, .string ⟨#[]⟩, .string ⟨#[]⟩, .string ⟨#[]⟩, .string ⟨#[]⟩, .string ⟨#[]⟩, .int .i64 0, .int .i64 0, .int .i64 0, .int .i64 0, .int .i64 0, .int .i64 0, .int .i64 0, .int .i64 0, .string ⟨#[]⟩, .int .i64 0, .int .i64 0, .int .i64 0, .int .i64 0, .int .i64 0, .int .i64 0, .string ⟨#[]⟩] rfl rfl 27 _ (by as_aux_lemma => kernel_rfl) rfl (by as_aux_lemma => kernel_rfl) ?_)
  have hB2 : Blk (W0.alloc (.cells #[.int .i64 0, .int .i64 0, .string ⟨#[]⟩, .string ⟨#[]⟩, .string ⟨#[]⟩, .string ⟨#[]⟩, .string ⟨#[]⟩, .int .i64 0, .int .i64 0, .int .i64 0, .int .i64 0, .int .i64 0, .int .i64 0, .int .i64 0, .int .i64 0, .string ⟨#[]⟩, .int .i64 0, .int .i64 0, .int .i64 0, .int .i64 0, .int .i64 0, .int .i64 0, .string ⟨#[]⟩] 27)) b2 DR.zero.cells 27 := hB0.alloc _
  have hB4 : Blk (W0.alloc (.cells #[.int .i64 0, .int .i64 0, .string ⟨#[]⟩, .string ⟨#[]⟩, .string ⟨#[]⟩, .string ⟨#[]⟩, .string ⟨#[]⟩, .int .i64 0, .int .i64 0, .int .i64 0, .int .i64 0, .int .i64 0, .int .i64 0, .int .i64 0, .int .i64 0, .string ⟨#[]⟩, .int .i64 0, .int .i64 0, .int .i64 0, .int .i64 0, .int .i64 0, .int .i64 0, .string ⟨#[]⟩] 27)) W0.heap.size DR.zero.cells 27 := Blk.newAt rfl
  have hbel1 : Below w.heap.size w (W0.alloc (.cells #[.int .i64 0, .int .i64 0, .string ⟨#[]⟩, .string ⟨#[]⟩, .string ⟨#[]⟩, .string ⟨#[]⟩, .string ⟨#[]⟩, .int .i64 0, .int .i64 0, .int .i64 0, .int .i64 0, .int .i64 0, .int .i64 0, .int .i64 0, .int .i64 0, .string ⟨#[]⟩, .int .i64 0, .int .i64 0, .int .i64 0, .int .i64 0, .int .i64 0, .int .i64 0, .string ⟨#[]⟩] 27)) := hbel0.alloc hbel0.size _
  have l2 : b2 < W0.heap.size := hB0.lt
  generalize W0.alloc (.cells #[.int .i64 0, .int .i64 0, .string ⟨#[]⟩, .string ⟨#[]⟩, .string ⟨#[]⟩, .string ⟨#[]⟩, .string ⟨#[]⟩, .int .i64 0, .int .i64 0, .int .i64 0, .int .i64 0, .int .i64 0, .int .i64 0, .int .i64 0, .int .i64 0, .string ⟨#[]⟩, .int .i64 0, .int .i64 0, .int .i64 0, .int .i64 0, .int .i64 0, .int .i64 0, .string ⟨#[]⟩] 27) = W1 at *
  generalize W0.heap.size = b4 at *
  have hbZ := below_setRow' hbel1 l1 DR.zero.cells
  have HZ := hide (show Blk (W1.setRow b2 DR.zero.cells) b2 DR.zero.cells 27 from hB2.setRow)
  clear hB0 hbel0
  by_cases hsz : s.size = 2048
  case neg =>
    have q : ((s.size : Int) != 2048) = true := by simp; omega
    have HD := hide (dec_len hsz)
    clear hsz
    as_aux_lemma =>
      go_wp2_with (first | (refine wpList_load_row rfl 27 (.tmp 4) rfl b4 rfl 27 (DR.zero : DR).cells (0, 0) _ hB4 Tryz.underlying27 rfl (info27 _) ?_) | (refine wpList_store_row rfl 27 (.tmp 2) (.tmp 27) rfl b2 (DR.zero : DR).cells rfl rfl 27 _ hB2 (info27 _) (size27 _ _) (one27 _) ?_))
      (try simp only [Exit.inBlock, Exit.then])
      exact rdec_ret _ rfl rfl rfl HZ.out HD.out hbZ
  case pos =>
  have q : ((s.size : Int) != 2048) = false := by simp; omega
  have z1 : (s.size : Int) = 2048 := by omega
  have z3 : 7 ≤ s.size := by omega
  by_cases hst : s.extract 1 7 = stdS
  case neg =>
    have HD := hide (dec_std hsz hst)
    have hne := std_ne hst
    clear hsz hst
    as_aux_lemma =>
      go_wp2_with (first | (refine wpList_load_row rfl 27 (.tmp 4) rfl b4 rfl 27 (DR.zero : DR).cells (0, 0) _ hB4 Tryz.underlying27 rfl (info27 _) ?_) | (refine wpList_store_row rfl 27 (.tmp 2) (.tmp 31) rfl b2 (DR.zero : DR).cells rfl rfl 27 _ hB2 (info27 _) (size27 _ _) (one27 _) ?_))
      (try simp only [Exit.inBlock, Exit.then])
      exact rdec_ret _ rfl rfl rfl HZ.out HD.out hbZ
  case pos =>
  have h12 : ¬ (bt s 0 = 1 ∨ bt s 0 = 2) := fun h => HX.out ⟨hsz, hst, h⟩
  have HST := hide hst
  have hst2 : s.extract 1 7 = ⟨#[67, 68, 48, 48, 49, 1]⟩ := hst
  clear hst HX
  have hbb := get_bt s
  have n0 : 0 < s.size := by omega
  have i0 : (0 : Int) < (s.size : Int) := by omega
  have b0 := bt_nonneg s 0
  have b1 := bt_le s 0
  have w0 : IntKind.i64.wrap (bt s 0) = bt s 0 := IntWalk.i64_in _ (by omega)
  go_upto_region 7 with (refine wpList_store_new rfl 27 (.tmp 5) (.tmp 35) rfl (dTy (bt s 0) : DR).cells rfl rfl 27 _ (info27 _) (siz27 _) (one27 _) ?_)
  have hB5 : Blk (W1.alloc (.cells (dTy (bt s 0)).cells 27)) W1.heap.size (dTy (bt s 0)).cells 27 := Blk.newAt rfl
  have hS : RS w b2 b4 W1.heap.size (dTy (bt s 0)) (W1.alloc (.cells (dTy (bt s 0)).cells 27)) := ⟨hbel1.alloc hbel1.size _, hB2.alloc _, hB4.alloc _, hB5, l1, l2, hB4.lt⟩
  clear hB5
  generalize W1.alloc (.cells (dTy (bt s 0)).cells 27) = W2 at *
  generalize W1.heap.size = b5 at *
  have HS := hide hS
  have c50 : W2.cell? ⟨b5, 0, none⟩ = some (.int .i64 (bt s 0)) := hS.d5.cells 0
  have c51 : W2.cell? ⟨b5, 1, none⟩ = some (.int .i64 0) := hS.d5.cells 1
  have f5 : ∀ o, W2.frozen? ⟨b5, o, none⟩ = false := hS.d5.free
  clear hB2 hB4 hbel1 hbZ HZ l1 l2 w0 n0 i0 z1 z3 q hst2
  have HZ := hide (show Blk (W2.setRow b2 DR.zero.cells) b2 DR.zero.cells 27 from hS.r2.setRow)
  have hbZ := below_setRow' hS.bel hS.l1 DR.zero.cells
  go_upto_block 0 with fail
  by_cases t255 : bt s 0 = 255
  · have HD := hide (dec_255 hsz HST.out t255)
    have q3 : (bt s 0 == 255) = true := by simpa using t255
    have HR := hide (show Blk (W2.setRow b2 (dTy (bt s 0)).cells) b2 ({ DR.zero with typ := 255 } : DR).cells 27 from by have h := hS.r2.setRow (C := (dTy (bt s 0)).cells); rw [t255] at h; rw [t255]; exact h)
    have hbl := below_setRow' hS.bel hS.l1 (dTy (bt s 0)).cells
    clear t255 h12
    as_aux_lemma =>
      go_wp2_with (first | (refine wpList_load_row rfl 27 (.tmp 5) rfl b5 rfl 27 (dTy (bt s 0) : DR).cells (0, 0) _ HS.out.d5 Tryz.underlying27 rfl (info27 _) ?_) | (refine wpList_store_row rfl 27 (.tmp 2) (.tmp 41) rfl b2 (dTy (bt s 0) : DR).cells rfl rfl 27 _ HS.out.r2 (info27 _) (size27 _ _) (one27 _) ?_))
      (try simp only [Exit.inBlock, Exit.then])
      exact rdec_ret _ rfl rfl rfl HR.out HD.out hbl
  have q3 : (bt s 0 == 255) = false := by simpa using t255
  have z30 : 30 ≤ s.size := by omega
  by_cases t0 : bt s 0 = 0
  · have q0 : (bt s 0 == 0) = true := by simpa using t0
    have HD0 := dec_boot hsz HST.out t0
    by_cases hto : s.extract 7 30 = torS
    · rw [if_neg (by rw [hto]; simp)] at HD0
      have HD := hide HD0
      have hto2 : s.extract 7 30 = ⟨#[69, 76, 32, 84, 79, 82, 73, 84, 79, 32, 83, 80, 69, 67, 73, 70, 73, 67, 65, 84, 73, 79, 78]⟩ := hto
      have hS1 : RS w b2 b4 b5 (dTyC (bt s 0) (le4 s 71)) (W2.setCell ⟨b5, 1, none⟩ (.int .i64 (le4 s 71))) := hS.set _ 1 _ (pTyC _ _)
      have HS1 := hide hS1
      have HR := hide (show Blk ((W2.setCell ⟨b5, 1, none⟩ (.int .i64 (le4 s 71))).setRow b2 (dTyC (bt s 0) (le4 s 71)).cells) b2 ({ DR.zero with cat := le4 s 71 } : DR).cells 27 from by have h := hS1.r2.setRow (C := (dTyC (bt s 0) (le4 s 71)).cells); rw [t0] at h; rw [t0]; exact h)
      have hbl := below_setRow' hS1.bel hS1.l1 (dTyC (bt s 0) (le4 s 71)).cells
      have SLE : Hid (∀ W : World, Calls Tryz.prog 60 #[.string s, .int .i64 71, .int .i64 4] W fun e w' => e = .returned (.int .i64 (le4 s 71)) ∧ W = w') := hide (fun W => rlit4 s 71 (by omega) (by omega) W)
      clear t0 HD0 hto t255 h12 hS1
      as_aux_lemma =>
        go_wp2_with (first | (refine wpList_load_row rfl 27 (.tmp 5) rfl b5 rfl 27 (dTyC (bt s 0) (le4 s 71) : DR).cells (0, 0) _ HS1.out.d5 Tryz.underlying27 rfl (info27 _) ?_) | (refine wpList_store_row rfl 27 (.tmp 2) (.tmp 51) rfl b2 (dTyC (bt s 0) (le4 s 71) : DR).cells rfl rfl 27 _ HS1.out.r2 (info27 _) (size27 _ _) (one27 _) ?_) | (first | (go_at_call 60; (with_reducible refine (SLE.out _).mono ?_); rintro e w' ⟨rfl, rfl⟩)))
        (try simp only [Exit.inBlock, Exit.then])
        exact rdec_ret _ rfl rfl rfl HR.out HD.out hbl
    · rw [if_pos hto] at HD0
      have HD := hide HD0
      have hne := tor_ne hto
      clear t0 HD0 hto t255 h12
      as_aux_lemma =>
        go_wp2_with (first | (refine wpList_load_row rfl 27 (.tmp 4) rfl b4 rfl 27 (DR.zero : DR).cells (0, 0) _ HS.out.n4 Tryz.underlying27 rfl (info27 _) ?_) | (refine wpList_store_row rfl 27 (.tmp 2) (.tmp 47) rfl b2 (DR.zero : DR).cells rfl rfl 27 _ HS.out.r2 (info27 _) (size27 _ _) (one27 _) ?_))
        (try simp only [Exit.inBlock, Exit.then])
        exact rdec_ret _ rfl rfl rfl HZ.out HD.out hbZ
  · have q0 : (bt s 0 == 0) = false := by simpa using t0
    have HD := hide (dec_uns hsz HST.out t255 t0 (decide_eq_true (Or.inl (by omega))))
    have q1 : (bt s 0 == 1) = false := by simp; omega
    have q2 : (bt s 0 == 2) = false := by simp; omega
    clear t0 t255 h12
    as_aux_lemma =>
      go_wp2_with (first | (refine wpList_load_row rfl 27 (.tmp 4) rfl b4 rfl 27 (DR.zero : DR).cells (0, 0) _ HS.out.n4 Tryz.underlying27 rfl (info27 _) ?_) | (refine wpList_store_row rfl 27 (.tmp 2) (.tmp 38) rfl b2 (DR.zero : DR).cells rfl rfl 27 _ HS.out.r2 (info27 _) (size27 _ _) (one27 _) ?_))
      (try simp only [Exit.inBlock, Exit.then])
      exact rdec_ret _ rfl rfl rfl HZ.out HD.out hbZ
end Go.Proofs.YtjbhokmkmapkoaaGreatDoor
namespace Go.Proofs.YtjbhokmkmapkoaaGreatDoor
set_option linter.unusedSimpArgs false
set_option linter.unusedVariables false
open Go.RowKit
open Go.PlainAid (bt get_bt bt_nonneg bt_le bt_end)
set_option maxRecDepth 100000 in
set_option maxHeartbeats 8000000 in
theorem rcheck_no (d : DR) (h0 : d.typ ≠ 0) (h255 : d.typ ≠ 255) (h1 : d.typ ≠ 1) (h2 : d.typ ≠ 2) (w : World) : Calls Tryz.prog 16 #[.agg d.cells] w fun e w' => e = .returned (.int .i64 (chkD d)) ∧ Below w.heap.size w w' := by
  have E := hide (chk_no h0 h255 h1 h2)
  have q0 : (d.typ == 0) = false := by simpa using h0
  have q1 : (d.typ == 1) = false := by simpa using h1
  have q2 : (d.typ == 2) = false := by simpa using h2
  have q3 : (d.typ == 255) = false := by simpa using h255
  clear h0 h255 h1 h2
  have HL : Live w [] := trivial
  go_enter Tryz.func16, Tryz.ntmps16
  go_upto_region 1 with fail
  have hB1 : Blk (w.alloc (.cells d.cells 27)) w.heap.size d.cells 27 := Blk.newAt rfl
  have hbel1 : Below w.heap.size w (w.alloc (.cells d.cells 27)) := by (exact bl)
  generalize w.alloc (.cells d.cells 27) = W1 at *
  have hlt1 := hB1.lt
  have hdd := Dat.of hB1
  unfold Dat at hdd
  go_wp2_with (refine wpList_store_new rfl 27 (.tmp 3) (.tmp 12) rfl #[.int .i64 d.typ, .int .i64 0, .string ⟨#[]⟩, .string ⟨#[]⟩, .string ⟨#[]⟩, .string ⟨#[]⟩, .string ⟨#[]⟩, .int .i64 0, .int .i64 0, .int .i64 0, .int .i64 0, .int .i64 0, .int .i64 0, .int .i64 0, .int .i64 0, .string ⟨#[]⟩, .int .i64 0, .int .i64 0, .int .i64 0, .int .i64 0, .int .i64 0, .int .i64 0, .string ⟨#[]⟩] rfl rfl 27 _ (by as_aux_lemma => kernel_rfl) rfl (by as_aux_lemma => kernel_rfl) ?_)
  go_ret
  exact ⟨ret_i E.out.symm, by (exact bl)⟩
set_option maxRecDepth 100000 in
set_option maxHeartbeats 8000000 in
theorem rcheck_0 (d : DR) (h0 : d.typ = 0) (w : World) : Calls Tryz.prog 16 #[.agg d.cells] w fun e w' => e = .returned (.int .i64 (chkD d)) ∧ Below w.heap.size w w' := by
  have E := chk_0 h0
  have q0 : (d.typ == 0) = true := by simpa using h0
  obtain ⟨b, hb⟩ : ∃ b, decide (d = bare0 d.typ d.cat) = b := ⟨_, rfl⟩
  have NQ := neq_bare d d.typ d.cat b hb
  have EE := hide (show chkD d = if b = true then (if wordB d.cat = true then 0 else 2) else 1 from by rw [E, ← hb]; rfl)
  clear h0 E hb
  have HL : Live w [] := trivial
  go_enter Tryz.func16, Tryz.ntmps16
  go_upto_region 1 with fail
  have hB1 : Blk (w.alloc (.cells d.cells 27)) w.heap.size d.cells 27 := Blk.newAt rfl
  have hbel1 : Below w.heap.size w (w.alloc (.cells d.cells 27)) := by (exact bl)
  generalize w.alloc (.cells d.cells 27) = W1 at *
  have hlt1 := hB1.lt
  have hdd := Dat.of hB1
  unfold Dat at hdd
  go_wp2_with (first | (refine wpList_store_new rfl 27 (.tmp 3) (.tmp 12) rfl #[.int .i64 d.typ, .int .i64 0, .string ⟨#[]⟩, .string ⟨#[]⟩, .string ⟨#[]⟩, .string ⟨#[]⟩, .string ⟨#[]⟩, .int .i64 0, .int .i64 0, .int .i64 0, .int .i64 0, .int .i64 0, .int .i64 0, .int .i64 0, .int .i64 0, .string ⟨#[]⟩, .int .i64 0, .int .i64 0, .int .i64 0, .int .i64 0, .int .i64 0, .int .i64 0, .string ⟨#[]⟩] rfl rfl 27 _ (by as_aux_lemma => kernel_rfl) rfl (by as_aux_lemma => kernel_rfl) ?_) | (refine wpList_load_row rfl 27 (.tmp 1) rfl w.heap.size rfl 27 d.cells (0, 0) _ (hB1.alloc _) Tryz.underlying27 rfl (by as_aux_lemma => kernel_rfl) ?_) | (refine wpList_load_row rfl 27 (.tmp 3) rfl W1.heap.size rfl 27 #[.int .i64 d.typ, .int .i64 d.cat, .string ⟨#[]⟩, .string ⟨#[]⟩, .string ⟨#[]⟩, .string ⟨#[]⟩, .string ⟨#[]⟩, .int .i64 0, .int .i64 0, .int .i64 0, .int .i64 0, .int .i64 0, .int .i64 0, .int .i64 0, .int .i64 0, .string ⟨#[]⟩, .int .i64 0, .int .i64 0, .int .i64 0, .int .i64 0, .int .i64 0, .int .i64 0, .string ⟨#[]⟩] (0, 0) _ (heap_alloc_new W1 _) Tryz.underlying27 rfl (by as_aux_lemma => kernel_rfl) ?_) | (go_at_call 49; (with_reducible refine (rblock_any _ _).mono ?_); rintro e w' ⟨rfl, rfl⟩))
  all_goals
    go_ret
    exact ⟨ret_i (by rw [EE.out]; clear NQ; cases b <;> simp_all), by (exact bl)⟩
set_option maxRecDepth 100000 in
set_option maxHeartbeats 8000000 in
theorem rcheck_255 (d : DR) (h0 : d.typ = 255) (w : World) : Calls Tryz.prog 16 #[.agg d.cells] w fun e w' => e = .returned (.int .i64 (chkD d)) ∧ Below w.heap.size w w' := by
  have E := chk_255 h0
  have q0 : (d.typ == 0) = false := by rw [h0]; rfl
  have q3 : (d.typ == 255) = true := by simpa using h0
  obtain ⟨b, hb⟩ : ∃ b, decide (d = bare0 d.typ 0) = b := ⟨_, rfl⟩
  have NQ := neq_bare d d.typ 0 b hb
  have EE := hide (show chkD d = if b = true then 0 else 1 from by rw [E, ← hb]; rfl)
  clear h0 E hb
  have HL : Live w [] := trivial
  go_enter Tryz.func16, Tryz.ntmps16
  go_upto_region 1 with fail
  have hB1 : Blk (w.alloc (.cells d.cells 27)) w.heap.size d.cells 27 := Blk.newAt rfl
  have hbel1 : Below w.heap.size w (w.alloc (.cells d.cells 27)) := by (exact bl)
  generalize w.alloc (.cells d.cells 27) = W1 at *
  have hlt1 := hB1.lt
  have hdd := Dat.of hB1
  unfold Dat at hdd
  go_wp2_with (first | (refine wpList_store_new rfl 27 (.tmp 3) (.tmp 12) rfl #[.int .i64 d.typ, .int .i64 0, .string ⟨#[]⟩, .string ⟨#[]⟩, .string ⟨#[]⟩, .string ⟨#[]⟩, .string ⟨#[]⟩, .int .i64 0, .int .i64 0, .int .i64 0, .int .i64 0, .int .i64 0, .int .i64 0, .int .i64 0, .int .i64 0, .string ⟨#[]⟩, .int .i64 0, .int .i64 0, .int .i64 0, .int .i64 0, .int .i64 0, .int .i64 0, .string ⟨#[]⟩] rfl rfl 27 _ (by as_aux_lemma => kernel_rfl) rfl (by as_aux_lemma => kernel_rfl) ?_) | (refine wpList_load_row rfl 27 (.tmp 1) rfl w.heap.size rfl 27 d.cells (0, 0) _ (hB1.alloc _) Tryz.underlying27 rfl (by as_aux_lemma => kernel_rfl) ?_) | (refine wpList_load_row rfl 27 (.tmp 3) rfl W1.heap.size rfl 27 #[.int .i64 d.typ, .int .i64 0, .string ⟨#[]⟩, .string ⟨#[]⟩, .string ⟨#[]⟩, .string ⟨#[]⟩, .string ⟨#[]⟩, .int .i64 0, .int .i64 0, .int .i64 0, .int .i64 0, .int .i64 0, .int .i64 0, .int .i64 0, .int .i64 0, .string ⟨#[]⟩, .int .i64 0, .int .i64 0, .int .i64 0, .int .i64 0, .int .i64 0, .int .i64 0, .string ⟨#[]⟩] (0, 0) _ (heap_alloc_new W1 _) Tryz.underlying27 rfl (by as_aux_lemma => kernel_rfl) ?_))
  all_goals
    go_ret
    exact ⟨ret_i (by rw [EE.out]; clear NQ; cases b <;> simp_all), by (exact bl)⟩
end Go.Proofs.YtjbhokmkmapkoaaGreatDoor
namespace Go.Proofs.YtjbhokmkmapkoaaGreatDoor
set_option linter.unusedSimpArgs false
set_option linter.unusedVariables false
open Go.RowKit
open Go.PlainAid (bt get_bt bt_nonneg bt_le bt_end)
/-- What is asked at last. -/
def lastB (d : DR) (k : Int) : Bool := rangesB d && decide (k = 0) && decide (recE d.root = 0)
/-- One field is asked. -/
theorem rname_call (d : DR) (hsh : ShortD d) (k : Nat) (hk : k < 5) (W : World) : Calls Tryz.prog 50 #[.string (fTx d k), .bool (wide d), .bool (fSt k), .int .i64 (fSz k)] W fun e w' => e = .returned (.bool (fok d k)) ∧ Below W.heap.size W w' := by
  obtain ⟨m, hm, hm2⟩ := sz_cases k
  have := hsh.1 k hk
  exact rname_any (fTx d k) (fSz k) m (by omega) (wide d) (fSt k) hm (by omega) W
set_option maxRecDepth 100000 in
set_option maxHeartbeats 8000000 in
theorem rcheck_12 (d : DR) (ht : d.typ = 1 ∨ d.typ = 2) (hsh : ShortD d) (w : World) : Calls Tryz.prog 16 #[.agg d.cells] w fun e w' => e = .returned (.int .i64 (chkD d)) ∧ Below w.heap.size w w' := by
  have E := hide (chkD_12 ht)
  have q0 : (d.typ == 0) = false := by rcases ht with h | h <;> rw [h] <;> rfl
  have q3 : (d.typ == 255) = false := by rcases ht with h | h <;> rw [h] <;> rfl
  have q2 : (d.typ == 2) = wide d := rfl
  have HT := hide ht
  clear ht
  have HL : Live w [] := trivial
  go_enter Tryz.func16, Tryz.ntmps16
  go_upto_region 1 with fail
  have hB1 : Blk (w.alloc (.cells d.cells 27)) w.heap.size d.cells 27 := Blk.newAt rfl
  have hbel1 : Below w.heap.size w (w.alloc (.cells d.cells 27)) := by (exact bl)
  generalize w.alloc (.cells d.cells 27) = W1 at *
  have hlt1 := hB1.lt
  have hdd := Dat.of hB1
  unfold Dat at hdd
  go_upto_block 0 with (refine wpList_store_new rfl 27 (.tmp 3) (.tmp 12) rfl #[.int .i64 d.typ, .int .i64 0, .string ⟨#[]⟩, .string ⟨#[]⟩, .string ⟨#[]⟩, .string ⟨#[]⟩, .string ⟨#[]⟩, .int .i64 0, .int .i64 0, .int .i64 0, .int .i64 0, .int .i64 0, .int .i64 0, .int .i64 0, .int .i64 0, .string ⟨#[]⟩, .int .i64 0, .int .i64 0, .int .i64 0, .int .i64 0, .int .i64 0, .int .i64 0, .string ⟨#[]⟩] rfl rfl 27 _ (by as_aux_lemma => kernel_rfl) rfl (by as_aux_lemma => kernel_rfl) ?_)
  have hB2 := hB1.alloc (.cells #[.int .i64 d.typ, .int .i64 0, .string ⟨#[]⟩, .string ⟨#[]⟩, .string ⟨#[]⟩, .string ⟨#[]⟩, .string ⟨#[]⟩, .int .i64 0, .int .i64 0, .int .i64 0, .int .i64 0, .int .i64 0, .int .i64 0, .int .i64 0, .int .i64 0, .string ⟨#[]⟩, .int .i64 0, .int .i64 0, .int .i64 0, .int .i64 0, .int .i64 0, .int .i64 0, .string ⟨#[]⟩] 27)
  have hbel2 := hbel1.alloc hbel1.size (.cells #[.int .i64 d.typ, .int .i64 0, .string ⟨#[]⟩, .string ⟨#[]⟩, .string ⟨#[]⟩, .string ⟨#[]⟩, .string ⟨#[]⟩, .int .i64 0, .int .i64 0, .int .i64 0, .int .i64 0, .int .i64 0, .int .i64 0, .int .i64 0, .int .i64 0, .string ⟨#[]⟩, .int .i64 0, .int .i64 0, .int .i64 0, .int .i64 0, .int .i64 0, .int .i64 0, .string ⟨#[]⟩] 27)
  generalize W1.alloc (.cells #[.int .i64 d.typ, .int .i64 0, .string ⟨#[]⟩, .string ⟨#[]⟩, .string ⟨#[]⟩, .string ⟨#[]⟩, .string ⟨#[]⟩, .int .i64 0, .int .i64 0, .int .i64 0, .int .i64 0, .int .i64 0, .int .i64 0, .int .i64 0, .int .i64 0, .string ⟨#[]⟩, .int .i64 0, .int .i64 0, .int .i64 0, .int .i64 0, .int .i64 0, .int .i64 0, .string ⟨#[]⟩] 27) = W2 at *
  clear hB1 hbel1 hlt1 hdd
  have hdd := Dat.of hB2
  unfold Dat at hdd
  go_cut [] (fun wx => W2 = wx)
  case first =>
    rcases HT.out with h | h
    · have q1 : (d.typ == 1) = true := by rw [h]; rfl
      clear h
      go_wp2_with fail
      go_meet
      rfl
    · have q1 : (d.typ == 1) = false := by rw [h]; rfl
      have q5 : wide d = true := by unfold wide; rw [h]; rfl
      clear h
      go_wp2_with fail
      go_meet
      rfl
  case rest =>
    obtain rfl := hcut
    by_cases hc : d.cat = 0
    case neg =>
      have EE := hide (show chkD d = 1 from by rw [E.out, if_pos hc])
      have qc : (d.cat != 0) = true := by simpa using hc
      clear hc
      go_wp2_with fail
      go_ret
      exact ⟨ret_i EE.out.symm, hbel2⟩
    case pos =>
    have E2 := E.out
    rw [if_neg (by simpa using hc)] at E2
    have EE := hide E2
    have qc : (d.cat != 0) = false := by rw [hc]; rfl
    clear hc E2 E
    go_upto_region 21 with fail
    have HV : Blk (W2.alloc (.cells #[.string d.name, .string d.set, .string d.pub, .string d.prep, .string d.app, .int .i64 d.number, .int .i64 d.discs, .int .i64 d.time] 23)) W2.heap.size #[.string d.name, .string d.set, .string d.pub, .string d.prep, .string d.app, .int .i64 d.number, .int .i64 d.discs, .int .i64 d.time] 23 := Blk.newAt rfl
    have HBv := hB2.alloc (.cells #[.string d.name, .string d.set, .string d.pub, .string d.prep, .string d.app, .int .i64 d.number, .int .i64 d.discs, .int .i64 d.time] 23)
    have hbv : Below w.heap.size w (W2.alloc (.cells #[.string d.name, .string d.set, .string d.pub, .string d.prep, .string d.app, .int .i64 d.number, .int .i64 d.discs, .int .i64 d.time] 23)) := hbel2.alloc hbel2.size _
    have hz2 := hB2.lt
    generalize W2.alloc (.cells #[.string d.name, .string d.set, .string d.pub, .string d.prep, .string d.app, .int .i64 d.number, .int .i64 d.discs, .int .i64 d.time] 23) = W3 at *
    clear hdd hbel2 hB2
    have hltv := HV.lt
    have hv0 : W3.cell? ⟨W2.heap.size, 0, none⟩ = some (.string d.name) := HV.cells 0
    have hv1 : W3.cell? ⟨W2.heap.size, 1, none⟩ = some (.string d.set) := HV.cells 1
    have hv2 : W3.cell? ⟨W2.heap.size, 2, none⟩ = some (.string d.pub) := HV.cells 2
    have hv3 : W3.cell? ⟨W2.heap.size, 3, none⟩ = some (.string d.prep) := HV.cells 3
    have hv4 : W3.cell? ⟨W2.heap.size, 4, none⟩ = some (.string d.app) := HV.cells 4
    have HL : Live W3 [W2.heap.size] := ⟨hltv, trivial⟩
    have RN0 := hide (show ∀ W, Calls Tryz.prog 50 #[.string d.name, .bool (wide d), .bool true, .int .i64 32] W fun e w' => e = .returned (.bool (fok d 0)) ∧ Below W.heap.size W w' from fun W => rname_call d hsh 0 (by omega) W)
    have RN1 := hide (show ∀ W, Calls Tryz.prog 50 #[.string d.set, .bool (wide d), .bool true, .int .i64 128] W fun e w' => e = .returned (.bool (fok d 1)) ∧ Below W.heap.size W w' from fun W => rname_call d hsh 1 (by omega) W)
    have RN2 := hide (show ∀ W, Calls Tryz.prog 50 #[.string d.pub, .bool (wide d), .bool false, .int .i64 128] W fun e w' => e = .returned (.bool (fok d 2)) ∧ Below W.heap.size W w' from fun W => rname_call d hsh 2 (by omega) W)
    have RN3 := hide (show ∀ W, Calls Tryz.prog 50 #[.string d.prep, .bool (wide d), .bool false, .int .i64 128] W fun e w' => e = .returned (.bool (fok d 3)) ∧ Below W.heap.size W w' from fun W => rname_call d hsh 3 (by omega) W)
    have RN4 := hide (show ∀ W, Calls Tryz.prog 50 #[.string d.app, .bool (wide d), .bool false, .int .i64 128] W fun e w' => e = .returned (.bool (fok d 4)) ∧ Below W.heap.size W w' from fun W => rname_call d hsh 4 (by omega) W)
    go_cut [75] (fun v wx => v = .bool (!namesB d) ∧ Below W3.heap.size W3 wx)
    case first =>
      as_aux_lemma =>
        cases h0 : fok d 0
        case false =>
          rw [h0] at RN0
          go_wp2_with (first | (go_at_call 50; (with_reducible refine (RN0.out _).mono ?_); rintro e w' ⟨rfl, hb⟩; have hz := hb.size; (try simp only [SZ, Nat.reduceAdd] at hz); (first | obtain ⟨HL, hk⟩ := HL.callA hb hz | obtain ⟨HL, hk⟩ := HL.call0A hb hz); (try simp only [addN, Nat.add_zero] at HL hk); have hl := HL; simp only [Live] at hl; (try simp only [Kept] at hk)) | (go_at_call 50; (with_reducible refine (RN1.out _).mono ?_); rintro e w' ⟨rfl, hb⟩; have hz := hb.size; (try simp only [SZ, Nat.reduceAdd] at hz); (first | obtain ⟨HL, hk⟩ := HL.callA hb hz | obtain ⟨HL, hk⟩ := HL.call0A hb hz); (try simp only [addN, Nat.add_zero] at HL hk); have hl := HL; simp only [Live] at hl; (try simp only [Kept] at hk)) | (go_at_call 50; (with_reducible refine (RN2.out _).mono ?_); rintro e w' ⟨rfl, hb⟩; have hz := hb.size; (try simp only [SZ, Nat.reduceAdd] at hz); (first | obtain ⟨HL, hk⟩ := HL.callA hb hz | obtain ⟨HL, hk⟩ := HL.call0A hb hz); (try simp only [addN, Nat.add_zero] at HL hk); have hl := HL; simp only [Live] at hl; (try simp only [Kept] at hk)) | (go_at_call 50; (with_reducible refine (RN3.out _).mono ?_); rintro e w' ⟨rfl, hb⟩; have hz := hb.size; (try simp only [SZ, Nat.reduceAdd] at hz); (first | obtain ⟨HL, hk⟩ := HL.callA hb hz | obtain ⟨HL, hk⟩ := HL.call0A hb hz); (try simp only [addN, Nat.add_zero] at HL hk); have hl := HL; simp only [Live] at hl; (try simp only [Kept] at hk)) | (go_at_call 50; (with_reducible refine (RN4.out _).mono ?_); rintro e w' ⟨rfl, hb⟩; have hz := hb.size; (try simp only [SZ, Nat.reduceAdd] at hz); (first | obtain ⟨HL, hk⟩ := HL.callA hb hz | obtain ⟨HL, hk⟩ := HL.call0A hb hz); (try simp only [addN, Nat.add_zero] at HL hk); have hl := HL; simp only [Live] at hl; (try simp only [Kept] at hk)))
          go_meet
          exact ⟨vbool (by rw [names_fok]; simp [*]), by (exact bl)⟩
        case true =>
        rw [h0] at RN0
        cases h1 : fok d 1
        case false =>
          rw [h1] at RN1
          go_wp2_with (first | (go_at_call 50; (with_reducible refine (RN0.out _).mono ?_); rintro e w' ⟨rfl, hb⟩; have hz := hb.size; (try simp only [SZ, Nat.reduceAdd] at hz); (first | obtain ⟨HL, hk⟩ := HL.callA hb hz | obtain ⟨HL, hk⟩ := HL.call0A hb hz); (try simp only [addN, Nat.add_zero] at HL hk); have hl := HL; simp only [Live] at hl; (try simp only [Kept] at hk)) | (go_at_call 50; (with_reducible refine (RN1.out _).mono ?_); rintro e w' ⟨rfl, hb⟩; have hz := hb.size; (try simp only [SZ, Nat.reduceAdd] at hz); (first | obtain ⟨HL, hk⟩ := HL.callA hb hz | obtain ⟨HL, hk⟩ := HL.call0A hb hz); (try simp only [addN, Nat.add_zero] at HL hk); have hl := HL; simp only [Live] at hl; (try simp only [Kept] at hk)) | (go_at_call 50; (with_reducible refine (RN2.out _).mono ?_); rintro e w' ⟨rfl, hb⟩; have hz := hb.size; (try simp only [SZ, Nat.reduceAdd] at hz); (first | obtain ⟨HL, hk⟩ := HL.callA hb hz | obtain ⟨HL, hk⟩ := HL.call0A hb hz); (try simp only [addN, Nat.add_zero] at HL hk); have hl := HL; simp only [Live] at hl; (try simp only [Kept] at hk)) | (go_at_call 50; (with_reducible refine (RN3.out _).mono ?_); rintro e w' ⟨rfl, hb⟩; have hz := hb.size; (try simp only [SZ, Nat.reduceAdd] at hz); (first | obtain ⟨HL, hk⟩ := HL.callA hb hz | obtain ⟨HL, hk⟩ := HL.call0A hb hz); (try simp only [addN, Nat.add_zero] at HL hk); have hl := HL; simp only [Live] at hl; (try simp only [Kept] at hk)) | (go_at_call 50; (with_reducible refine (RN4.out _).mono ?_); rintro e w' ⟨rfl, hb⟩; have hz := hb.size; (try simp only [SZ, Nat.reduceAdd] at hz); (first | obtain ⟨HL, hk⟩ := HL.callA hb hz | obtain ⟨HL, hk⟩ := HL.call0A hb hz); (try simp only [addN, Nat.add_zero] at HL hk); have hl := HL; simp only [Live] at hl; (try simp only [Kept] at hk)))
          go_meet
          exact ⟨vbool (by rw [names_fok]; simp [*]), by (exact bl)⟩
        case true =>
        rw [h1] at RN1
        cases h2 : fok d 2
        case false =>
          rw [h2] at RN2
          go_wp2_with (first | (go_at_call 50; (with_reducible refine (RN0.out _).mono ?_); rintro e w' ⟨rfl, hb⟩; have hz := hb.size; (try simp only [SZ, Nat.reduceAdd] at hz); (first | obtain ⟨HL, hk⟩ := HL.callA hb hz | obtain ⟨HL, hk⟩ := HL.call0A hb hz); (try simp only [addN, Nat.add_zero] at HL hk); have hl := HL; simp only [Live] at hl; (try simp only [Kept] at hk)) | (go_at_call 50; (with_reducible refine (RN1.out _).mono ?_); rintro e w' ⟨rfl, hb⟩; have hz := hb.size; (try simp only [SZ, Nat.reduceAdd] at hz); (first | obtain ⟨HL, hk⟩ := HL.callA hb hz | obtain ⟨HL, hk⟩ := HL.call0A hb hz); (try simp only [addN, Nat.add_zero] at HL hk); have hl := HL; simp only [Live] at hl; (try simp only [Kept] at hk)) | (go_at_call 50; (with_reducible refine (RN2.out _).mono ?_); rintro e w' ⟨rfl, hb⟩; have hz := hb.size; (try simp only [SZ, Nat.reduceAdd] at hz); (first | obtain ⟨HL, hk⟩ := HL.callA hb hz | obtain ⟨HL, hk⟩ := HL.call0A hb hz); (try simp only [addN, Nat.add_zero] at HL hk); have hl := HL; simp only [Live] at hl; (try simp only [Kept] at hk)) | (go_at_call 50; (with_reducible refine (RN3.out _).mono ?_); rintro e w' ⟨rfl, hb⟩; have hz := hb.size; (try simp only [SZ, Nat.reduceAdd] at hz); (first | obtain ⟨HL, hk⟩ := HL.callA hb hz | obtain ⟨HL, hk⟩ := HL.call0A hb hz); (try simp only [addN, Nat.add_zero] at HL hk); have hl := HL; simp only [Live] at hl; (try simp only [Kept] at hk)) | (go_at_call 50; (with_reducible refine (RN4.out _).mono ?_); rintro e w' ⟨rfl, hb⟩; have hz := hb.size; (try simp only [SZ, Nat.reduceAdd] at hz); (first | obtain ⟨HL, hk⟩ := HL.callA hb hz | obtain ⟨HL, hk⟩ := HL.call0A hb hz); (try simp only [addN, Nat.add_zero] at HL hk); have hl := HL; simp only [Live] at hl; (try simp only [Kept] at hk)))
          go_meet
          exact ⟨vbool (by rw [names_fok]; simp [*]), by (exact bl)⟩
        case true =>
        rw [h2] at RN2
        cases h3 : fok d 3
        case false =>
          rw [h3] at RN3
          go_wp2_with (first | (go_at_call 50; (with_reducible refine (RN0.out _).mono ?_); rintro e w' ⟨rfl, hb⟩; have hz := hb.size; (try simp only [SZ, Nat.reduceAdd] at hz); (first | obtain ⟨HL, hk⟩ := HL.callA hb hz | obtain ⟨HL, hk⟩ := HL.call0A hb hz); (try simp only [addN, Nat.add_zero] at HL hk); have hl := HL; simp only [Live] at hl; (try simp only [Kept] at hk)) | (go_at_call 50; (with_reducible refine (RN1.out _).mono ?_); rintro e w' ⟨rfl, hb⟩; have hz := hb.size; (try simp only [SZ, Nat.reduceAdd] at hz); (first | obtain ⟨HL, hk⟩ := HL.callA hb hz | obtain ⟨HL, hk⟩ := HL.call0A hb hz); (try simp only [addN, Nat.add_zero] at HL hk); have hl := HL; simp only [Live] at hl; (try simp only [Kept] at hk)) | (go_at_call 50; (with_reducible refine (RN2.out _).mono ?_); rintro e w' ⟨rfl, hb⟩; have hz := hb.size; (try simp only [SZ, Nat.reduceAdd] at hz); (first | obtain ⟨HL, hk⟩ := HL.callA hb hz | obtain ⟨HL, hk⟩ := HL.call0A hb hz); (try simp only [addN, Nat.add_zero] at HL hk); have hl := HL; simp only [Live] at hl; (try simp only [Kept] at hk)) | (go_at_call 50; (with_reducible refine (RN3.out _).mono ?_); rintro e w' ⟨rfl, hb⟩; have hz := hb.size; (try simp only [SZ, Nat.reduceAdd] at hz); (first | obtain ⟨HL, hk⟩ := HL.callA hb hz | obtain ⟨HL, hk⟩ := HL.call0A hb hz); (try simp only [addN, Nat.add_zero] at HL hk); have hl := HL; simp only [Live] at hl; (try simp only [Kept] at hk)) | (go_at_call 50; (with_reducible refine (RN4.out _).mono ?_); rintro e w' ⟨rfl, hb⟩; have hz := hb.size; (try simp only [SZ, Nat.reduceAdd] at hz); (first | obtain ⟨HL, hk⟩ := HL.callA hb hz | obtain ⟨HL, hk⟩ := HL.call0A hb hz); (try simp only [addN, Nat.add_zero] at HL hk); have hl := HL; simp only [Live] at hl; (try simp only [Kept] at hk)))
          go_meet
          exact ⟨vbool (by rw [names_fok]; simp [*]), by (exact bl)⟩
        case true =>
        rw [h3] at RN3
        cases h4 : fok d 4
        case false =>
          rw [h4] at RN4
          go_wp2_with (first | (go_at_call 50; (with_reducible refine (RN0.out _).mono ?_); rintro e w' ⟨rfl, hb⟩; have hz := hb.size; (try simp only [SZ, Nat.reduceAdd] at hz); (first | obtain ⟨HL, hk⟩ := HL.callA hb hz | obtain ⟨HL, hk⟩ := HL.call0A hb hz); (try simp only [addN, Nat.add_zero] at HL hk); have hl := HL; simp only [Live] at hl; (try simp only [Kept] at hk)) | (go_at_call 50; (with_reducible refine (RN1.out _).mono ?_); rintro e w' ⟨rfl, hb⟩; have hz := hb.size; (try simp only [SZ, Nat.reduceAdd] at hz); (first | obtain ⟨HL, hk⟩ := HL.callA hb hz | obtain ⟨HL, hk⟩ := HL.call0A hb hz); (try simp only [addN, Nat.add_zero] at HL hk); have hl := HL; simp only [Live] at hl; (try simp only [Kept] at hk)) | (go_at_call 50; (with_reducible refine (RN2.out _).mono ?_); rintro e w' ⟨rfl, hb⟩; have hz := hb.size; (try simp only [SZ, Nat.reduceAdd] at hz); (first | obtain ⟨HL, hk⟩ := HL.callA hb hz | obtain ⟨HL, hk⟩ := HL.call0A hb hz); (try simp only [addN, Nat.add_zero] at HL hk); have hl := HL; simp only [Live] at hl; (try simp only [Kept] at hk)) | (go_at_call 50; (with_reducible refine (RN3.out _).mono ?_); rintro e w' ⟨rfl, hb⟩; have hz := hb.size; (try simp only [SZ, Nat.reduceAdd] at hz); (first | obtain ⟨HL, hk⟩ := HL.callA hb hz | obtain ⟨HL, hk⟩ := HL.call0A hb hz); (try simp only [addN, Nat.add_zero] at HL hk); have hl := HL; simp only [Live] at hl; (try simp only [Kept] at hk)) | (go_at_call 50; (with_reducible refine (RN4.out _).mono ?_); rintro e w' ⟨rfl, hb⟩; have hz := hb.size; (try simp only [SZ, Nat.reduceAdd] at hz); (first | obtain ⟨HL, hk⟩ := HL.callA hb hz | obtain ⟨HL, hk⟩ := HL.call0A hb hz); (try simp only [addN, Nat.add_zero] at HL hk); have hl := HL; simp only [Live] at hl; (try simp only [Kept] at hk)))
          go_meet
          exact ⟨vbool (by rw [names_fok]; simp [*]), by (exact bl)⟩
        case true =>
        rw [h4] at RN4
        go_wp2_with (first | (go_at_call 50; (with_reducible refine (RN0.out _).mono ?_); rintro e w' ⟨rfl, hb⟩; have hz := hb.size; (try simp only [SZ, Nat.reduceAdd] at hz); (first | obtain ⟨HL, hk⟩ := HL.callA hb hz | obtain ⟨HL, hk⟩ := HL.call0A hb hz); (try simp only [addN, Nat.add_zero] at HL hk); have hl := HL; simp only [Live] at hl; (try simp only [Kept] at hk)) | (go_at_call 50; (with_reducible refine (RN1.out _).mono ?_); rintro e w' ⟨rfl, hb⟩; have hz := hb.size; (try simp only [SZ, Nat.reduceAdd] at hz); (first | obtain ⟨HL, hk⟩ := HL.callA hb hz | obtain ⟨HL, hk⟩ := HL.call0A hb hz); (try simp only [addN, Nat.add_zero] at HL hk); have hl := HL; simp only [Live] at hl; (try simp only [Kept] at hk)) | (go_at_call 50; (with_reducible refine (RN2.out _).mono ?_); rintro e w' ⟨rfl, hb⟩; have hz := hb.size; (try simp only [SZ, Nat.reduceAdd] at hz); (first | obtain ⟨HL, hk⟩ := HL.callA hb hz | obtain ⟨HL, hk⟩ := HL.call0A hb hz); (try simp only [addN, Nat.add_zero] at HL hk); have hl := HL; simp only [Live] at hl; (try simp only [Kept] at hk)) | (go_at_call 50; (with_reducible refine (RN3.out _).mono ?_); rintro e w' ⟨rfl, hb⟩; have hz := hb.size; (try simp only [SZ, Nat.reduceAdd] at hz); (first | obtain ⟨HL, hk⟩ := HL.callA hb hz | obtain ⟨HL, hk⟩ := HL.call0A hb hz); (try simp only [addN, Nat.add_zero] at HL hk); have hl := HL; simp only [Live] at hl; (try simp only [Kept] at hk)) | (go_at_call 50; (with_reducible refine (RN4.out _).mono ?_); rintro e w' ⟨rfl, hb⟩; have hz := hb.size; (try simp only [SZ, Nat.reduceAdd] at hz); (first | obtain ⟨HL, hk⟩ := HL.callA hb hz | obtain ⟨HL, hk⟩ := HL.call0A hb hz); (try simp only [addN, Nat.add_zero] at HL hk); have hl := HL; simp only [Live] at hl; (try simp only [Kept] at hk)))
        go_meet
        exact ⟨vbool (by rw [names_fok]; simp [*]), by (exact bl)⟩
    case rest =>
    obtain ⟨rfl, hbx⟩ := hcut
    have HB4 := Blk.below hbx HBv
    have HV4 := Blk.below hbx HV
    have hb4 : Below w.heap.size w wc := hbv.trans (hbx.mono hbv.size)
    clear HBv HV hbv hltv hv0 hv1 hv2 hv3 hv4 HL RN0 RN1 RN2 RN3 RN4 hbx
    cases hnm : namesB d
    case false =>
      have EE3 := hide (show chkD d = 4 from by rw [EE.out, if_pos hnm])
      clear hnm
      go_wp2_with fail
      go_ret
      exact ⟨ret_i EE3.out.symm, hb4⟩
    case true =>
    have E3 := EE.out
    rw [if_neg (by rw [hnm]; simp)] at E3
    replace E3 := hide E3
    clear hnm EE
    have hd4 := Dat.of HB4
    unfold Dat at hd4
    have hlt4 := HB4.lt
    go_upto_region 23 with fail
    go_cut [85] (fun v wy => v = .bool (badRoot d) ∧ wc = wy)
    case first =>
      go_wp2_with fail
      all_goals
        go_meet
        first | exact ⟨vbool (bad_root1 (by assumption)), rfl⟩ | exact ⟨vbool (bad_root2 (by assumption)).symm, rfl⟩
    case rest =>
    obtain ⟨rfl, rfl⟩ := hcut
    cases hbad : badRoot d
    case true =>
      have EE3 := hide (show chkD d = 1 from by rw [E3.out, if_pos hbad])
      clear hbad
      go_wp2_with fail
      go_ret
      exact ⟨ret_i EE3.out.symm, hb4⟩
    case false =>
    have E4 := hide (show chkD d = if (rangesB d && (tmB d.time && zoneB d.zone) && decide (recE d.root = 0)) = true then 0 else 2 from by rw [E3.out, if_neg (by rw [hbad]; simp)])
    have HR := hide (root_ok hbad)
    clear hbad E3
    obtain ⟨x, kd, DES0, hD⟩ := rdes_call d
    have DES := hide DES0
    have ENC := hide (fun W => rdirEnc_any d.root HR.out.1 HR.out.2 W)
    clear DES0
    have hltv := HV4.lt
    have v7 : wc.cell? ⟨W2.heap.size, 7, none⟩ = some (.int .i64 d.time) := HV4.cells 7
    go_upto_region 26 with (go_at_call 43; refine (DES.out _).mono ?_; rintro e w5 ⟨rfl, hb5⟩)
    have HB5 := Blk.below hb5 HB4
    have HV5 := Blk.below hb5 HV4
    have hb5' := hb4.trans (hb5.mono hb4.size)
    have hd5 := Dat.of HB5
    unfold Dat at hd5
    have hlt5 := HB5.lt
    clear hd4 HB4 HV4 v7 hb4 hb5 hlt4 hltv
    go_upto_region 27 with (go_at_call 42; refine (ENC.out _).mono ?_; rintro e w6 ⟨rfl, hb6⟩)
    have HB6 := Blk.below hb6 HB5
    have HV6 := Blk.below hb6 HV5
    have hb6' := hb5'.trans (hb6.mono hb5'.size)
    have hd6 := Dat.of HB6
    unfold Dat at hd6
    have hlt6 := HB6.lt
    have hltv := HV6.lt
    have v5 : w6.cell? ⟨W2.heap.size, 5, none⟩ = some (.int .i64 d.number) := HV6.cells 5
    have v6 : w6.cell? ⟨W2.heap.size, 6, none⟩ = some (.int .i64 d.discs) := HV6.cells 6
    clear hd5 HB5 HV5 hb5' hb6 hlt5
    have hgd : (tmB d.time && zoneB d.zone) = decide (kd = 0) := by
      rcases hD.2 with ⟨h, h2, _⟩ | ⟨h, h2⟩
      · rw [h, h2]; rfl
      · rw [h, h2]; rfl
    have hkd : kd = 0 ∨ kd = 2 := by
      rcases hD.2 with ⟨_, h, _⟩ | ⟨_, h⟩
      · exact Or.inl h
      · exact Or.inr h
    rw [hgd] at E4
    clear hgd hD
    go_cut [7, 9, 151] (fun a7 a9 v wy => v = .bool (!lastB d kd) ∧ w6 = wy)
    case first =>
      as_aux_lemma =>
        cases h0 : wordB d.space
        case false =>
          go_wp2_with (first | (go_at_call 49; (with_reducible refine (rblock_any _ _).mono ?_); rintro e w' ⟨rfl, rfl⟩))
          go_meet
          exact ⟨vbool (by unfold lastB rangesB; simp [*]), rfl⟩
        case true =>
        cases h1 : wordB d.psize
        case false =>
          go_wp2_with (first | (go_at_call 49; (with_reducible refine (rblock_any _ _).mono ?_); rintro e w' ⟨rfl, rfl⟩))
          go_meet
          exact ⟨vbool (by unfold lastB rangesB; simp [*]), rfl⟩
        case true =>
        cases h2 : wordB d.pl
        case false =>
          go_wp2_with (first | (go_at_call 49; (with_reducible refine (rblock_any _ _).mono ?_); rintro e w' ⟨rfl, rfl⟩))
          go_meet
          exact ⟨vbool (by unfold lastB rangesB; simp [*]), rfl⟩
        case true =>
        cases h3 : wordB d.pm
        case false =>
          go_wp2_with (first | (go_at_call 49; (with_reducible refine (rblock_any _ _).mono ?_); rintro e w' ⟨rfl, rfl⟩))
          go_meet
          exact ⟨vbool (by unfold lastB rangesB; simp [*]), rfl⟩
        case true =>
        have HR1 := hide (show rangesB d = decide (1 ≤ d.discs ∧ d.discs ≤ 65535 ∧ 1 ≤ d.number ∧ d.number ≤ d.discs) from by unfold rangesB; rw [h0, h1, h2, h3]; rfl)
        clear E4
        rcases hkd with rfl | rfl
        · by_cases he : recE d.root = 0
          · rw [he]
            go_wp2_with (first | (go_at_call 49; (with_reducible refine (rblock_any _ _).mono ?_); rintro e w' ⟨rfl, rfl⟩))
            all_goals
              go_meet
              exact ⟨vbool (by unfold lastB; rw [HR1.out, he, Bool.eq_iff_iff]; simp <;> omega), rfl⟩
          · go_wp2_with (first | (go_at_call 49; (with_reducible refine (rblock_any _ _).mono ?_); rintro e w' ⟨rfl, rfl⟩))
            all_goals
              go_meet
              exact ⟨vbool (by unfold lastB; rw [decide_eq_false he, Bool.eq_iff_iff]; simp [he]), rfl⟩
        · go_wp2_with (first | (go_at_call 49; (with_reducible refine (rblock_any _ _).mono ?_); rintro e w' ⟨rfl, rfl⟩))
          all_goals
            go_meet
            exact ⟨vbool (by unfold lastB; simp), rfl⟩
    case rest =>
    obtain ⟨rfl, rfl⟩ := hcut
    have E5 := hide (show chkD d = if lastB d kd = true then 0 else 2 from E4.out)
    clear E4
    cases hl : lastB d kd
    case false =>
      have E6 := hide (show chkD d = 2 from by rw [E5.out, hl]; rfl)
      clear hl E5
      go_wp2_with fail
      go_ret
      exact ⟨ret_i E6.out.symm, hb6'⟩
    case true =>
      have E6 := hide (show chkD d = 0 from by rw [E5.out, hl]; rfl)
      clear hl E5
      go_wp2_with fail
      go_ret
      exact ⟨ret_i E6.out.symm, hb6'⟩
/-- The reference's Check. -/
theorem rcheck_any (d : DR) (hsh : ShortD d) (w : World) : Calls Tryz.prog 16 #[.agg d.cells] w fun e w' => e = .returned (.int .i64 (chkD d)) ∧ Below w.heap.size w w' := by
  by_cases h0 : d.typ = 0
  · exact rcheck_0 d h0 w
  by_cases h3 : d.typ = 255
  · exact rcheck_255 d h3 w
  by_cases h12 : d.typ = 1 ∨ d.typ = 2
  · exact rcheck_12 d h12 hsh w
  · exact rcheck_no d h0 h3 (fun h => h12 (Or.inl h)) (fun h => h12 (Or.inr h)) w
end Go.Proofs.YtjbhokmkmapkoaaGreatDoor
