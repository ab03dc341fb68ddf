/- Contracts and plain words for the laws of volume descriptors, part 29: V2, Y1, Y3. No condition. -/
import Derived.Test.YtjbhokmkmapkoaaGreatDoorC24
import Derived.Test.YtjbhokmkmapkoaaGreatDoorC27
import Derived.Test.YtjbhokmkmapkoaaGreatDoorC28
namespace Go.Proofs.YtjbhokmkmapkoaaGreatDoor
set_option linter.unusedSimpArgs false
set_option linter.unusedVariables false
open Go.RowKit
open Go.PlainAid (bt get_bt bt_nonneg bt_le bt_end)
set_option maxRecDepth 100000 in
set_option maxHeartbeats 8000000 in
theorem dec_early (s : ByteArray) (h100 : s.size ≤ 100000) (hx0 : s.size = 2048 → s.extract 1 7 = stdS → bt s 0 ≠ 255 → bt s 0 ≠ 0 → unsB s = true) (w : World) : Calls Tryz.prog 17 #[.string s] w (DecDP s w) := by
  have HX0 := hide hx0
  clear hx0
  have HL : Live w [] := trivial
  go_enter Tryz.func17, Tryz.ntmps17
  go_upto_region 1 with fail
  have hB1 : Blk ((w.alloc (.cells #[.string s] 9)).alloc (.cells #[.int .i64 0, .int .i64 0, .string ⟨#[]⟩, .string ⟨#[]⟩, .string ⟨#[]⟩, .string ⟨#[]⟩, .string ⟨#[]⟩, .int .i64 0, .int .i64 0, .int .i64 0, .int .i64 0, .int .i64 0, .int .i64 0, .int .i64 0, .int .i64 0, .string ⟨#[]⟩, .int .i64 0, .int .i64 0, .int .i64 0, .int .i64 0, .int .i64 0, .int .i64 0, .string ⟨#[]⟩] 27)) w.heap.size #[.string s] 9 := (Blk.newAt rfl).alloc _
  have hB2 : Blk ((w.alloc (.cells #[.string s] 9)).alloc (.cells #[.int .i64 0, .int .i64 0, .string ⟨#[]⟩, .string ⟨#[]⟩, .string ⟨#[]⟩, .string ⟨#[]⟩, .string ⟨#[]⟩, .int .i64 0, .int .i64 0, .int .i64 0, .int .i64 0, .int .i64 0, .int .i64 0, .int .i64 0, .int .i64 0, .string ⟨#[]⟩, .int .i64 0, .int .i64 0, .int .i64 0, .int .i64 0, .int .i64 0, .int .i64 0, .string ⟨#[]⟩] 27)) (w.heap.size + 1) #[.int .i64 0, .int .i64 0, .string ⟨#[]⟩, .string ⟨#[]⟩, .string ⟨#[]⟩, .string ⟨#[]⟩, .string ⟨#[]⟩, .int .i64 0, .int .i64 0, .int .i64 0, .int .i64 0, .int .i64 0, .int .i64 0, .int .i64 0, .int .i64 0, .string ⟨#[]⟩, .int .i64 0, .int .i64 0, .int .i64 0, .int .i64 0, .int .i64 0, .int .i64 0, .string ⟨#[]⟩] 27 := Blk.newAt (by simp only [World.size_alloc])
  have hbel1 : Below w.heap.size w ((w.alloc (.cells #[.string s] 9)).alloc (.cells #[.int .i64 0, .int .i64 0, .string ⟨#[]⟩, .string ⟨#[]⟩, .string ⟨#[]⟩, .string ⟨#[]⟩, .string ⟨#[]⟩, .int .i64 0, .int .i64 0, .int .i64 0, .int .i64 0, .int .i64 0, .int .i64 0, .int .i64 0, .int .i64 0, .string ⟨#[]⟩, .int .i64 0, .int .i64 0, .int .i64 0, .int .i64 0, .int .i64 0, .int .i64 0, .string ⟨#[]⟩] 27)) := by (exact bl)
  generalize (w.alloc (.cells #[.string s] 9)).alloc (.cells #[.int .i64 0, .int .i64 0, .string ⟨#[]⟩, .string ⟨#[]⟩, .string ⟨#[]⟩, .string ⟨#[]⟩, .string ⟨#[]⟩, .int .i64 0, .int .i64 0, .int .i64 0, .int .i64 0, .int .i64 0, .int .i64 0, .int .i64 0, .int .i64 0, .string ⟨#[]⟩, .int .i64 0, .int .i64 0, .int .i64 0, .int .i64 0, .int .i64 0, .int .i64 0, .string ⟨#[]⟩] 27) = W1 at *
  have hb12 : w.heap.size < w.heap.size + 1 := by omega
  obtain ⟨b2, eb2⟩ : ∃ b2, b2 = w.heap.size + 1 := ⟨_, rfl⟩
  rw [← eb2] at hB2 hb12 ⊢
  clear eb2
  have c1 : W1.cell? ⟨w.heap.size, 0, none⟩ = some (.string s) := hB1.cells 0
  by_cases hsz : s.size = 2048
  case neg =>
    have q : ((s.size : Int) != 2048) = true := by simp; omega
    have HD := hide (dec_len hsz)
    clear hsz
    go_wp2_with (refine wpList_store_row rfl 27 (.tmp 2) (.tmp 23) rfl b2 #[.int .i64 0, .int .i64 0, .string ⟨#[]⟩, .string ⟨#[]⟩, .string ⟨#[]⟩, .string ⟨#[]⟩, .string ⟨#[]⟩, .int .i64 0, .int .i64 0, .int .i64 0, .int .i64 0, .int .i64 0, .int .i64 0, .int .i64 0, .int .i64 0, .string ⟨#[]⟩, .int .i64 0, .int .i64 0, .int .i64 0, .int .i64 0, .int .i64 0, .int .i64 0, .string ⟨#[]⟩] rfl rfl 27 _ hB2 (by as_aux_lemma => kernel_rfl) rfl (by as_aux_lemma => kernel_rfl) ?_)
    (try simp only [Exit.inBlock, Exit.then])
    exact dec_ret _ rfl rfl rfl hB2.setRow HD.out (below_setRow' hbel1 (by omega) _)
  case pos =>
  have HS := hide hsz
  have q : ((s.size : Int) != 2048) = false := by simp; omega
  have z1 : (s.size : Int) = 2048 := by omega
  have z3 : 7 ≤ s.size := by omega
  by_cases hst : s.extract 1 7 = stdS
  case neg =>
    have HD := hide (dec_std hsz hst)
    have hne := std_ne hst
    clear hsz hst
    go_wp2_with (refine wpList_store_row rfl 27 (.tmp 2) (.tmp 27) rfl b2 #[.int .i64 0, .int .i64 0, .string ⟨#[]⟩, .string ⟨#[]⟩, .string ⟨#[]⟩, .string ⟨#[]⟩, .string ⟨#[]⟩, .int .i64 0, .int .i64 0, .int .i64 0, .int .i64 0, .int .i64 0, .int .i64 0, .int .i64 0, .int .i64 0, .string ⟨#[]⟩, .int .i64 0, .int .i64 0, .int .i64 0, .int .i64 0, .int .i64 0, .int .i64 0, .string ⟨#[]⟩] rfl rfl 27 _ hB2 (by as_aux_lemma => kernel_rfl) rfl (by as_aux_lemma => kernel_rfl) ?_)
    (try simp only [Exit.inBlock, Exit.then])
    exact dec_ret _ rfl rfl rfl hB2.setRow HD.out (below_setRow' hbel1 (by omega) _)
  case pos =>
  have HST := hide hst
  have hst2 : s.extract 1 7 = ⟨#[67, 68, 48, 48, 49, 1]⟩ := hst
  clear hst
  go_upto_region 5 with fail
  have hst4 := run_store_blk (P := Tryz.prog) (W := W1.alloc (.cells #[.nilFunc] 76)) (n := W1.heap.size) (j := 0) (v := .func (.func 51) #[] #[.pointer (some ⟨w.heap.size, 0, none⟩)]) (Blk.newAt (cs := #[.nilFunc]) (T := 76) rfl) Nat.zero_lt_one rfl
  go_upto_region 7 with fail
  have hB4 : Blk (W1.alloc (.cells #[.func (.func 51) #[] #[.pointer (some ⟨w.heap.size, 0, none⟩)]] 76)) W1.heap.size #[.func (.func 51) #[] #[.pointer (some ⟨w.heap.size, 0, none⟩)]] 76 := Blk.newAt rfl
  have hB1' := hB1.alloc (.cells #[.func (.func 51) #[] #[.pointer (some ⟨w.heap.size, 0, none⟩)]] 76)
  have hB2' := hB2.alloc (.cells #[.func (.func 51) #[] #[.pointer (some ⟨w.heap.size, 0, none⟩)]] 76)
  have hbel' := hbel1.alloc hbel1.size (.cells #[.func (.func 51) #[] #[.pointer (some ⟨w.heap.size, 0, none⟩)]] 76)
  have hb24 : b2 < W1.heap.size := hB2.lt
  generalize W1.alloc (.cells #[.func (.func 51) #[] #[.pointer (some ⟨w.heap.size, 0, none⟩)]] 76) = W2 at *
  generalize W1.heap.size = b4 at *
  clear hB1 hB2 hbel1 hst4 c1
  have c1 : W2.cell? ⟨w.heap.size, 0, none⟩ = some (.string s) := hB1'.cells 0
  have c4 : W2.cell? ⟨b4, 0, none⟩ = some (.func (.func 51) #[] #[.pointer (some ⟨w.heap.size, 0, none⟩)]) := hB4.cells 0
  have hbb := get_bt s
  have n0 : 0 < s.size := by omega
  have i0 : (0 : Int) < (s.size : Int) := by omega
  have b0 := bt_nonneg s 0
  have b1 := bt_le s 0
  have w0 : IntKind.i64.wrap (bt s 0) = bt s 0 := IntWalk.i64_in _ (by omega)
  go_upto_block 0 with (refine wpList_store_new rfl 27 (.tmp 6) (.tmp 33) rfl #[.int .i64 (bt s 0), .int .i64 0, .string ⟨#[]⟩, .string ⟨#[]⟩, .string ⟨#[]⟩, .string ⟨#[]⟩, .string ⟨#[]⟩, .int .i64 0, .int .i64 0, .int .i64 0, .int .i64 0, .int .i64 0, .int .i64 0, .int .i64 0, .int .i64 0, .string ⟨#[]⟩, .int .i64 0, .int .i64 0, .int .i64 0, .int .i64 0, .int .i64 0, .int .i64 0, .string ⟨#[]⟩] rfl rfl 27 _ (by as_aux_lemma => kernel_rfl) rfl (by as_aux_lemma => kernel_rfl) ?_)
  have hB6 : Blk (W2.alloc (.cells #[.int .i64 (bt s 0), .int .i64 0, .string ⟨#[]⟩, .string ⟨#[]⟩, .string ⟨#[]⟩, .string ⟨#[]⟩, .string ⟨#[]⟩, .int .i64 0, .int .i64 0, .int .i64 0, .int .i64 0, .int .i64 0, .int .i64 0, .int .i64 0, .int .i64 0, .string ⟨#[]⟩, .int .i64 0, .int .i64 0, .int .i64 0, .int .i64 0, .int .i64 0, .int .i64 0, .string ⟨#[]⟩] 27)) W2.heap.size #[.int .i64 (bt s 0), .int .i64 0, .string ⟨#[]⟩, .string ⟨#[]⟩, .string ⟨#[]⟩, .string ⟨#[]⟩, .string ⟨#[]⟩, .int .i64 0, .int .i64 0, .int .i64 0, .int .i64 0, .int .i64 0, .int .i64 0, .int .i64 0, .int .i64 0, .string ⟨#[]⟩, .int .i64 0, .int .i64 0, .int .i64 0, .int .i64 0, .int .i64 0, .int .i64 0, .string ⟨#[]⟩] 27 := Blk.newAt rfl
  have hB1 := hB1'.alloc (.cells #[.int .i64 (bt s 0), .int .i64 0, .string ⟨#[]⟩, .string ⟨#[]⟩, .string ⟨#[]⟩, .string ⟨#[]⟩, .string ⟨#[]⟩, .int .i64 0, .int .i64 0, .int .i64 0, .int .i64 0, .int .i64 0, .int .i64 0, .int .i64 0, .int .i64 0, .string ⟨#[]⟩, .int .i64 0, .int .i64 0, .int .i64 0, .int .i64 0, .int .i64 0, .int .i64 0, .string ⟨#[]⟩] 27)
  have hB2 := hB2'.alloc (.cells #[.int .i64 (bt s 0), .int .i64 0, .string ⟨#[]⟩, .string ⟨#[]⟩, .string ⟨#[]⟩, .string ⟨#[]⟩, .string ⟨#[]⟩, .int .i64 0, .int .i64 0, .int .i64 0, .int .i64 0, .int .i64 0, .int .i64 0, .int .i64 0, .int .i64 0, .string ⟨#[]⟩, .int .i64 0, .int .i64 0, .int .i64 0, .int .i64 0, .int .i64 0, .int .i64 0, .string ⟨#[]⟩] 27)
  have hBn := hB4.alloc (.cells #[.int .i64 (bt s 0), .int .i64 0, .string ⟨#[]⟩, .string ⟨#[]⟩, .string ⟨#[]⟩, .string ⟨#[]⟩, .string ⟨#[]⟩, .int .i64 0, .int .i64 0, .int .i64 0, .int .i64 0, .int .i64 0, .int .i64 0, .int .i64 0, .int .i64 0, .string ⟨#[]⟩, .int .i64 0, .int .i64 0, .int .i64 0, .int .i64 0, .int .i64 0, .int .i64 0, .string ⟨#[]⟩] 27)
  have hbel := hbel'.alloc hbel'.size (.cells #[.int .i64 (bt s 0), .int .i64 0, .string ⟨#[]⟩, .string ⟨#[]⟩, .string ⟨#[]⟩, .string ⟨#[]⟩, .string ⟨#[]⟩, .int .i64 0, .int .i64 0, .int .i64 0, .int .i64 0, .int .i64 0, .int .i64 0, .int .i64 0, .int .i64 0, .string ⟨#[]⟩, .int .i64 0, .int .i64 0, .int .i64 0, .int .i64 0, .int .i64 0, .int .i64 0, .string ⟨#[]⟩] 27)
  have hb46 : b4 < W2.heap.size := hB4.lt
  generalize W2.alloc (.cells #[.int .i64 (bt s 0), .int .i64 0, .string ⟨#[]⟩, .string ⟨#[]⟩, .string ⟨#[]⟩, .string ⟨#[]⟩, .string ⟨#[]⟩, .int .i64 0, .int .i64 0, .int .i64 0, .int .i64 0, .int .i64 0, .int .i64 0, .int .i64 0, .int .i64 0, .string ⟨#[]⟩, .int .i64 0, .int .i64 0, .int .i64 0, .int .i64 0, .int .i64 0, .int .i64 0, .string ⟨#[]⟩] 27) = W3 at *
  generalize W2.heap.size = b6 at *
  clear hB1' hB2' hB4 hbel' c1 c4
  have hS : DS w s b2 b4 b6 { DR.zero with typ := bt s 0 } W3 := ⟨hbel, hB1, hB2, hBn, hB6, hb12, hb24, hb46⟩
  clear hbel hB1 hB2 hBn hB6 hb12 hb24 hb46
  have c1 := hS.c1
  have c4 := hS.c4
  have c60 : W3.cell? ⟨b6, 0, none⟩ = some (.int .i64 (bt s 0)) := hS.d6.cells 0
  have f6 : ∀ o, W3.frozen? ⟨b6, o, none⟩ = false := hS.d6.free
  have c61 : W3.cell? ⟨b6, 1, none⟩ = some (.int .i64 0) := hS.d6.cells 1
  have LT128 := hide (fun W h1 h4 => lit2 s w.heap.size b4 128 hsz W h1 h4 (by omega))
  have LT71 := hide (fun W h1 h4 => lit4 s w.heap.size b4 71 hsz W h1 h4 (by omega))
  have HS0 := hide hS
  · by_cases t255 : bt s 0 = 255
    · have HD := hide (dec_255 hsz HST.out t255)
      have q3 : (bt s 0 == 255) = true := by simpa using t255
      have HR := hide (show Blk (W3.setRow b2 #[.int .i64 (bt s 0), .int .i64 0, .string ⟨#[]⟩, .string ⟨#[]⟩, .string ⟨#[]⟩, .string ⟨#[]⟩, .string ⟨#[]⟩, .int .i64 0, .int .i64 0, .int .i64 0, .int .i64 0, .int .i64 0, .int .i64 0, .int .i64 0, .int .i64 0, .string ⟨#[]⟩, .int .i64 0, .int .i64 0, .int .i64 0, .int .i64 0, .int .i64 0, .int .i64 0, .string ⟨#[]⟩]) b2 ({ DR.zero with typ := 255 } : DR).cells 27 from by have h := hS.r2.setRow (C := #[.int .i64 (bt s 0), .int .i64 0, .string ⟨#[]⟩, .string ⟨#[]⟩, .string ⟨#[]⟩, .string ⟨#[]⟩, .string ⟨#[]⟩, .int .i64 0, .int .i64 0, .int .i64 0, .int .i64 0, .int .i64 0, .int .i64 0, .int .i64 0, .int .i64 0, .string ⟨#[]⟩, .int .i64 0, .int .i64 0, .int .i64 0, .int .i64 0, .int .i64 0, .int .i64 0, .string ⟨#[]⟩]); rw [t255] at h; rw [t255]; exact h)
      have hbl := below_setRow' hS.bel (Nat.le_of_lt hS.l1) #[.int .i64 (bt s 0), .int .i64 0, .string ⟨#[]⟩, .string ⟨#[]⟩, .string ⟨#[]⟩, .string ⟨#[]⟩, .string ⟨#[]⟩, .int .i64 0, .int .i64 0, .int .i64 0, .int .i64 0, .int .i64 0, .int .i64 0, .int .i64 0, .int .i64 0, .string ⟨#[]⟩, .int .i64 0, .int .i64 0, .int .i64 0, .int .i64 0, .int .i64 0, .int .i64 0, .string ⟨#[]⟩]
      clear t255
      go_wp2_with (first | (refine wpList_load_row rfl 27 (.tmp 6) rfl b6 rfl 27 #[.int .i64 (bt s 0), .int .i64 0, .string ⟨#[]⟩, .string ⟨#[]⟩, .string ⟨#[]⟩, .string ⟨#[]⟩, .string ⟨#[]⟩, .int .i64 0, .int .i64 0, .int .i64 0, .int .i64 0, .int .i64 0, .int .i64 0, .int .i64 0, .int .i64 0, .string ⟨#[]⟩, .int .i64 0, .int .i64 0, .int .i64 0, .int .i64 0, .int .i64 0, .int .i64 0, .string ⟨#[]⟩] (0, 0) _ HS0.out.d6 Tryz.underlying27 rfl (by as_aux_lemma => kernel_rfl) ?_) | (refine wpList_store_row rfl 27 (.tmp 2) (.tmp 41) rfl b2 #[.int .i64 (bt s 0), .int .i64 0, .string ⟨#[]⟩, .string ⟨#[]⟩, .string ⟨#[]⟩, .string ⟨#[]⟩, .string ⟨#[]⟩, .int .i64 0, .int .i64 0, .int .i64 0, .int .i64 0, .int .i64 0, .int .i64 0, .int .i64 0, .int .i64 0, .string ⟨#[]⟩, .int .i64 0, .int .i64 0, .int .i64 0, .int .i64 0, .int .i64 0, .int .i64 0, .string ⟨#[]⟩] rfl rfl 27 _ HS0.out.r2 (by as_aux_lemma => kernel_rfl) rfl (by as_aux_lemma => kernel_rfl) ?_))
      (try simp only [Exit.inBlock, Exit.then])
      exact dec_ret _ rfl rfl rfl HR.out HD.out hbl
    have HRZ := hide (show Blk (W3.setRow b2 #[.int .i64 0, .int .i64 0, .string ⟨#[]⟩, .string ⟨#[]⟩, .string ⟨#[]⟩, .string ⟨#[]⟩, .string ⟨#[]⟩, .int .i64 0, .int .i64 0, .int .i64 0, .int .i64 0, .int .i64 0, .int .i64 0, .int .i64 0, .int .i64 0, .string ⟨#[]⟩, .int .i64 0, .int .i64 0, .int .i64 0, .int .i64 0, .int .i64 0, .int .i64 0, .string ⟨#[]⟩]) b2 DR.zero.cells 27 from hS.r2.setRow)
    have hblz := below_setRow' hS.bel (Nat.le_of_lt hS.l1) #[.int .i64 0, .int .i64 0, .string ⟨#[]⟩, .string ⟨#[]⟩, .string ⟨#[]⟩, .string ⟨#[]⟩, .string ⟨#[]⟩, .int .i64 0, .int .i64 0, .int .i64 0, .int .i64 0, .int .i64 0, .int .i64 0, .int .i64 0, .int .i64 0, .string ⟨#[]⟩, .int .i64 0, .int .i64 0, .int .i64 0, .int .i64 0, .int .i64 0, .int .i64 0, .string ⟨#[]⟩]
    have q3 : (bt s 0 == 255) = false := by simpa using t255
    have z30 : 30 ≤ s.size := by omega
    have z90 : 90 ≤ s.size := by omega
    have n90 : 90 < s.size := by omega
    have i90 : (90 : Int) < (s.size : Int) := by omega
    have n881 : 881 < s.size := by omega
    have i881 : (881 : Int) < (s.size : Int) := by omega
    by_cases t0 : bt s 0 = 0
    · have q0 : (bt s 0 == 0) = true := by simpa using t0
      have HD0 := dec_boot hsz HST.out t0
      by_cases hto : s.extract 7 30 = torS
      · rw [if_neg (by rw [hto]; simp)] at HD0
        have HD := hide HD0
        have hto2 : s.extract 7 30 = ⟨#[69, 76, 32, 84, 79, 82, 73, 84, 79, 32, 83, 80, 69, 67, 73, 70, 73, 67, 65, 84, 73, 79, 78]⟩ := hto
        have HR := hide (show Blk ((W3.setCell ⟨b6, 1, none⟩ (.int .i64 (le4 s 71))).setRow b2 #[.int .i64 (bt s 0), .int .i64 (le4 s 71), .string ⟨#[]⟩, .string ⟨#[]⟩, .string ⟨#[]⟩, .string ⟨#[]⟩, .string ⟨#[]⟩, .int .i64 0, .int .i64 0, .int .i64 0, .int .i64 0, .int .i64 0, .int .i64 0, .int .i64 0, .int .i64 0, .string ⟨#[]⟩, .int .i64 0, .int .i64 0, .int .i64 0, .int .i64 0, .int .i64 0, .int .i64 0, .string ⟨#[]⟩]) b2 ({ DR.zero with cat := le4 s 71 } : DR).cells 27 from by have h := (hS.set { DR.zero with typ := bt s 0, cat := le4 s 71 } 1 (.int .i64 (le4 s 71)) rfl).r2.setRow (C := #[.int .i64 (bt s 0), .int .i64 (le4 s 71), .string ⟨#[]⟩, .string ⟨#[]⟩, .string ⟨#[]⟩, .string ⟨#[]⟩, .string ⟨#[]⟩, .int .i64 0, .int .i64 0, .int .i64 0, .int .i64 0, .int .i64 0, .int .i64 0, .int .i64 0, .int .i64 0, .string ⟨#[]⟩, .int .i64 0, .int .i64 0, .int .i64 0, .int .i64 0, .int .i64 0, .int .i64 0, .string ⟨#[]⟩]); rw [t0] at h; rw [t0]; exact h)
        have hbl := below_setRow' (hS.set { DR.zero with typ := bt s 0, cat := le4 s 71 } 1 (.int .i64 (le4 s 71)) rfl).bel (Nat.le_of_lt hS.l1) #[.int .i64 (bt s 0), .int .i64 (le4 s 71), .string ⟨#[]⟩, .string ⟨#[]⟩, .string ⟨#[]⟩, .string ⟨#[]⟩, .string ⟨#[]⟩, .int .i64 0, .int .i64 0, .int .i64 0, .int .i64 0, .int .i64 0, .int .i64 0, .int .i64 0, .int .i64 0, .string ⟨#[]⟩, .int .i64 0, .int .i64 0, .int .i64 0, .int .i64 0, .int .i64 0, .int .i64 0, .string ⟨#[]⟩]
        clear t0 HD0 hto t255
        go_wp2_with (first | (refine wpList_load_row rfl 27 (.tmp 6) rfl b6 rfl 27 #[.int .i64 (bt s 0), .int .i64 (le4 s 71), .string ⟨#[]⟩, .string ⟨#[]⟩, .string ⟨#[]⟩, .string ⟨#[]⟩, .string ⟨#[]⟩, .int .i64 0, .int .i64 0, .int .i64 0, .int .i64 0, .int .i64 0, .int .i64 0, .int .i64 0, .int .i64 0, .string ⟨#[]⟩, .int .i64 0, .int .i64 0, .int .i64 0, .int .i64 0, .int .i64 0, .int .i64 0, .string ⟨#[]⟩] (0, 0) _ (HS0.out.set { DR.zero with typ := bt s 0, cat := le4 s 71 } 1 (.int .i64 (le4 s 71)) rfl).d6 Tryz.underlying27 rfl (by as_aux_lemma => kernel_rfl) ?_) | (refine wpList_store_row rfl 27 (.tmp 2) (.tmp 53) rfl b2 #[.int .i64 (bt s 0), .int .i64 (le4 s 71), .string ⟨#[]⟩, .string ⟨#[]⟩, .string ⟨#[]⟩, .string ⟨#[]⟩, .string ⟨#[]⟩, .int .i64 0, .int .i64 0, .int .i64 0, .int .i64 0, .int .i64 0, .int .i64 0, .int .i64 0, .int .i64 0, .string ⟨#[]⟩, .int .i64 0, .int .i64 0, .int .i64 0, .int .i64 0, .int .i64 0, .int .i64 0, .string ⟨#[]⟩] rfl rfl 27 _ (HS0.out.set { DR.zero with typ := bt s 0, cat := le4 s 71 } 1 (.int .i64 (le4 s 71)) rfl).r2 (by as_aux_lemma => kernel_rfl) rfl (by as_aux_lemma => kernel_rfl) ?_) | (go_at_call 52; refine (LT71.out _ (by assumption) (by assumption)).mono ?_; rintro e w' ⟨rfl, rfl⟩))
        (try simp only [Exit.inBlock, Exit.then])
        exact dec_ret _ rfl rfl rfl HR.out HD.out hbl
      · rw [if_pos hto] at HD0
        have HD := hide HD0
        have hne := tor_ne hto
        clear t0 HD0 hto t255
        go_wp2_with (first | (refine wpList_store_row rfl 27 (.tmp 2) (.tmp 49) rfl b2 #[.int .i64 0, .int .i64 0, .string ⟨#[]⟩, .string ⟨#[]⟩, .string ⟨#[]⟩, .string ⟨#[]⟩, .string ⟨#[]⟩, .int .i64 0, .int .i64 0, .int .i64 0, .int .i64 0, .int .i64 0, .int .i64 0, .int .i64 0, .int .i64 0, .string ⟨#[]⟩, .int .i64 0, .int .i64 0, .int .i64 0, .int .i64 0, .int .i64 0, .int .i64 0, .string ⟨#[]⟩] rfl rfl 27 _ HS0.out.r2 (by as_aux_lemma => kernel_rfl) rfl (by as_aux_lemma => kernel_rfl) ?_) | (go_at_call 52; refine (LT128.out _ (by assumption) (by assumption)).mono ?_; rintro e w' ⟨rfl, rfl⟩) | (go_at_call 54; refine (IB.out _).mono ?_; rintro e w' ⟨rfl, rfl⟩))
        (try simp only [Exit.inBlock, Exit.then])
        exact dec_ret _ rfl rfl rfl HRZ.out HD.out hblz
    have q0 : (bt s 0 == 0) = false := by simpa using t0
    have T255 := hide t255
    have T0 := hide t0
    by_cases u1 : 2 < bt s 0
    · have HD := hide (dec_uns hsz HST.out t255 t0 (decide_eq_true (Or.inl u1)))
      have IB : Hid True := hide trivial
      clear t255 t0
      go_wp2_with (first | (refine wpList_store_row rfl 27 (.tmp 2) (.tmp 64) rfl b2 #[.int .i64 0, .int .i64 0, .string ⟨#[]⟩, .string ⟨#[]⟩, .string ⟨#[]⟩, .string ⟨#[]⟩, .string ⟨#[]⟩, .int .i64 0, .int .i64 0, .int .i64 0, .int .i64 0, .int .i64 0, .int .i64 0, .int .i64 0, .int .i64 0, .string ⟨#[]⟩, .int .i64 0, .int .i64 0, .int .i64 0, .int .i64 0, .int .i64 0, .int .i64 0, .string ⟨#[]⟩] rfl rfl 27 _ HS0.out.r2 (by as_aux_lemma => kernel_rfl) rfl (by as_aux_lemma => kernel_rfl) ?_) | (go_at_call 52; refine (LT128.out _ (by assumption) (by assumption)).mono ?_; rintro e w' ⟨rfl, rfl⟩) | (go_at_call 54; refine (IB.out _).mono ?_; rintro e w' ⟨rfl, rfl⟩))
      (try simp only [Exit.inBlock, Exit.then])
      exact dec_ret _ rfl rfl rfl HRZ.out HD.out hblz
    by_cases u2 : le2 s 128 = 2048
    case neg =>
      have HD := hide (dec_uns hsz HST.out t255 t0 (decide_eq_true (Or.inr (Or.inl u2))))
      have qL : (le2 s 128 != 2048) = true := by simpa using u2
      have IB : Hid True := hide trivial
      clear t255 t0 u2
      go_wp2_with (first | (refine wpList_store_row rfl 27 (.tmp 2) (.tmp 64) rfl b2 #[.int .i64 0, .int .i64 0, .string ⟨#[]⟩, .string ⟨#[]⟩, .string ⟨#[]⟩, .string ⟨#[]⟩, .string ⟨#[]⟩, .int .i64 0, .int .i64 0, .int .i64 0, .int .i64 0, .int .i64 0, .int .i64 0, .int .i64 0, .int .i64 0, .string ⟨#[]⟩, .int .i64 0, .int .i64 0, .int .i64 0, .int .i64 0, .int .i64 0, .int .i64 0, .string ⟨#[]⟩] rfl rfl 27 _ HS0.out.r2 (by as_aux_lemma => kernel_rfl) rfl (by as_aux_lemma => kernel_rfl) ?_) | (go_at_call 52; refine (LT128.out _ (by assumption) (by assumption)).mono ?_; rintro e w' ⟨rfl, rfl⟩) | (go_at_call 54; refine (IB.out _).mono ?_; rintro e w' ⟨rfl, rfl⟩))
      (try simp only [Exit.inBlock, Exit.then])
      exact dec_ret _ rfl rfl rfl HRZ.out HD.out hblz
    case pos =>
    have qL : (le2 s 128 != 2048) = false := by rw [u2]; rfl
    have U2 := hide u2
    clear u2
    by_cases u3 : bt s 881 = 1
    case neg =>
      have HD := hide (dec_uns hsz HST.out t255 t0 (decide_eq_true (Or.inr (Or.inr (Or.inl u3)))))
      have qO : (bt s 881 != 1) = true := by simpa using u3
      have IB : Hid True := hide trivial
      clear t255 t0 u3
      go_wp2_with (first | (refine wpList_store_row rfl 27 (.tmp 2) (.tmp 64) rfl b2 #[.int .i64 0, .int .i64 0, .string ⟨#[]⟩, .string ⟨#[]⟩, .string ⟨#[]⟩, .string ⟨#[]⟩, .string ⟨#[]⟩, .int .i64 0, .int .i64 0, .int .i64 0, .int .i64 0, .int .i64 0, .int .i64 0, .int .i64 0, .int .i64 0, .string ⟨#[]⟩, .int .i64 0, .int .i64 0, .int .i64 0, .int .i64 0, .int .i64 0, .int .i64 0, .string ⟨#[]⟩] rfl rfl 27 _ HS0.out.r2 (by as_aux_lemma => kernel_rfl) rfl (by as_aux_lemma => kernel_rfl) ?_) | (go_at_call 52; refine (LT128.out _ (by assumption) (by assumption)).mono ?_; rintro e w' ⟨rfl, rfl⟩) | (go_at_call 54; refine (IB.out _).mono ?_; rintro e w' ⟨rfl, rfl⟩))
      (try simp only [Exit.inBlock, Exit.then])
      exact dec_ret _ rfl rfl rfl HRZ.out HD.out hblz
    case pos =>
    have qO : (bt s 881 != 1) = false := by rw [u3]; rfl
    have U3 := hide u3
    clear u3
    obtain ⟨ki, IB0, hki⟩ := idx_esc (bt s 90) (s[90]'n90) (get_bt s 90 n90).symm
    have IB := hide IB0
    clear IB0
    have he2 := esc_two hsz
    by_cases t2 : bt s 0 = 2
    case neg =>
      have q2 : (bt s 0 == 2) = false := by simpa using t2
      exact absurd (HX0.out hsz HST.out t255 t0) (by rw [(show unsB s = false from decide_eq_false (fun h => h.elim u1 (fun h => h.elim (fun h => h U2.out) (fun h => h.elim (fun h => h U3.out) (fun h => t2 h.1)))))]; simp)
    case pos =>
    have q2 : (bt s 0 == 2) = true := by simpa using t2
    by_cases he : bt s 88 = 37 ∧ bt s 89 = 47
    case neg =>
      rw [decide_eq_false he] at he2
      have HD := hide (dec_uns hsz HST.out t255 t0 (decide_eq_true (Or.inr (Or.inr (Or.inr ⟨t2, decide_eq_false (fun h => he ⟨h.1, h.2.1⟩)⟩)))))
      clear t255 t0 t2 he
      go_wp2_with (first | (refine wpList_store_row rfl 27 (.tmp 2) (.tmp 78) rfl b2 #[.int .i64 0, .int .i64 0, .string ⟨#[]⟩, .string ⟨#[]⟩, .string ⟨#[]⟩, .string ⟨#[]⟩, .string ⟨#[]⟩, .int .i64 0, .int .i64 0, .int .i64 0, .int .i64 0, .int .i64 0, .int .i64 0, .int .i64 0, .int .i64 0, .string ⟨#[]⟩, .int .i64 0, .int .i64 0, .int .i64 0, .int .i64 0, .int .i64 0, .int .i64 0, .string ⟨#[]⟩] rfl rfl 27 _ HS0.out.r2 (by as_aux_lemma => kernel_rfl) rfl (by as_aux_lemma => kernel_rfl) ?_) | (go_at_call 52; refine (LT128.out _ (by assumption) (by assumption)).mono ?_; rintro e w' ⟨rfl, rfl⟩) | (go_at_call 54; refine (IB.out _).mono ?_; rintro e w' ⟨rfl, rfl⟩))
      (try simp only [Exit.inBlock, Exit.then])
      exact dec_ret _ rfl rfl rfl HRZ.out HD.out hblz
    case pos =>
    rw [decide_eq_true he] at he2
    by_cases hx : bt s 90 = 64 ∨ bt s 90 = 67 ∨ bt s 90 = 69
    case neg =>
      have HD := hide (dec_uns hsz HST.out t255 t0 (decide_eq_true (Or.inr (Or.inr (Or.inr ⟨t2, decide_eq_false (fun h => hx h.2.2)⟩)))))
      have hk : ki < 0 := hki.2 hx
      clear t255 t0 t2 he hx hki
      go_wp2_with (first | (refine wpList_store_row rfl 27 (.tmp 2) (.tmp 78) rfl b2 #[.int .i64 0, .int .i64 0, .string ⟨#[]⟩, .string ⟨#[]⟩, .string ⟨#[]⟩, .string ⟨#[]⟩, .string ⟨#[]⟩, .int .i64 0, .int .i64 0, .int .i64 0, .int .i64 0, .int .i64 0, .int .i64 0, .int .i64 0, .int .i64 0, .string ⟨#[]⟩, .int .i64 0, .int .i64 0, .int .i64 0, .int .i64 0, .int .i64 0, .int .i64 0, .string ⟨#[]⟩] rfl rfl 27 _ HS0.out.r2 (by as_aux_lemma => kernel_rfl) rfl (by as_aux_lemma => kernel_rfl) ?_) | (go_at_call 52; refine (LT128.out _ (by assumption) (by assumption)).mono ?_; rintro e w' ⟨rfl, rfl⟩) | (go_at_call 54; refine (IB.out _).mono ?_; rintro e w' ⟨rfl, rfl⟩))
      (try simp only [Exit.inBlock, Exit.then])
      exact dec_ret _ rfl rfl rfl HRZ.out HD.out hblz
    case pos =>
      have hk : ¬ ki < 0 := fun h => hki.1 h hx
      exact absurd (HX0.out hsz HST.out t255 t0) (by rw [(show unsB s = false from decide_eq_false (fun h => h.elim u1 (fun h => h.elim (fun h => h U2.out) (fun h => h.elim (fun h => h U3.out) (fun h => absurd h.2 (by rw [show escB s = true from decide_eq_true ⟨he.1, he.2, hx⟩]; simp))))))]; simp)
end Go.Proofs.YtjbhokmkmapkoaaGreatDoor
namespace Go.Proofs.YtjbhokmkmapkoaaGreatDoor
set_option linter.unusedSimpArgs false
set_option linter.unusedVariables false
open Go.RowKit
open Go.PlainAid (bt get_bt bt_nonneg bt_le bt_end)
/-- volumedesc.Decode. -/
theorem dec_any (s : ByteArray) (h100 : s.size ≤ 100000) (w : World) (hT : TabD w) : Calls Tryz.prog 17 #[.string s] w (DecDP s w) := by
  by_cases h1 : s.size = 2048
  case neg => exact dec_early s h100 (fun h => absurd h h1) w
  by_cases h2 : s.extract 1 7 = stdS
  case neg => exact dec_early s h100 (fun _ h => absurd h h2) w
  by_cases h3 : bt s 0 = 255
  case pos => exact dec_early s h100 (fun _ _ h => absurd h3 h) w
  by_cases h4 : bt s 0 = 0
  case pos => exact dec_early s h100 (fun _ _ _ h => absurd h4 h) w
  cases hu : unsB s
  case true => exact dec_early s h100 (fun _ _ _ _ => hu) w
  case false => exact dec_sup_any s h1 h2 h3 h4 hu w hT
/-- The cells of descriptors. -/
def descV (l : List DR) : List Value := l.flatMap fun d => d.cells.toList
theorem cells_len (d : DR) : d.cells.toList.length = 23 := rfl
theorem descV_len : ∀ l : List DR, (descV l).length = l.length * 23
  | [] => rfl
  | d :: r => by
    have := descV_len r
    unfold descV at *
    rw [List.flatMap_cons, List.length_append, this, List.length_cons, cells_len]
    omega
theorem descV_snoc (l : List DR) (d : DR) : descV (l ++ [d]) = descV l ++ d.cells.toList := by simp [descV]
theorem descV_at : ∀ (l : List DR) (i : Nat) (d : DR), l[i]? = some d → ∀ j u, d.cells.toList[j]? = some u → (descV l)[i * 23 + j]? = some u
  | [], _, _, h, _, _, _ => by simp at h
  | a :: r, 0, d, h, j, u, hu => by
    have e : a = d := by simpa using h
    subst e
    have hc : descV (a :: r) = a.cells.toList ++ descV r := by simp [descV]
    rw [hc, Nat.zero_mul, Nat.zero_add, List.getElem?_append_left (List.getElem?_eq_some_iff.1 hu).1]
    exact hu
  | a :: r, i + 1, d, h, j, u, hu => by
    have hc : descV (a :: r) = a.cells.toList ++ descV r := by simp [descV]
    have h' : r[i]? = some d := by simpa using h
    rw [hc, List.getElem?_append_right (by rw [cells_len]; omega), cells_len, show (i + 1) * 23 + j - 23 = i * 23 + j by omega]
    exact descV_at r i d h' j u hu
/-- A slice reads as descriptors, wherever it begins. -/
def ReadsD (w : World) (a : Value) (L : List DR) : Prop := ∃ A c, a = .slice A L.length c ∧ (0 < L.length → ∃ g o, A = some ⟨g, o, none⟩ ∧ g < w.heap.size ∧ ∀ j u, (descV L)[j]? = some u → w.cell? ⟨g, o + j, none⟩ = some u)
theorem ReadsD.below {w w1 : World} {v : Value} {L : List DR} (h : ReadsD w v L) (hb : Below w.heap.size w w1) : ReadsD w1 v L := by
  obtain ⟨A, c, e, h⟩ := h
  refine ⟨A, c, e, fun h0 => ?_⟩
  obtain ⟨g, o, e2, hg, hc⟩ := h h0
  exact ⟨g, o, e2, Nat.lt_of_lt_of_le hg hb.size, fun j u hu => (hb.cell (p := ⟨g, o + j, none⟩) hg).trans (hc j u hu)⟩
def OwnD (B : Nat) (M : List DR) (v : Value) (w : World) : Prop := w.ownsRow B 27 23 v M.length (descV M)
theorem OwnD.nil (B : Nat) (w : World) : OwnD B [] (.slice none 0 0) w := World.ownsRow_nil _ _ _ _
theorem OwnD.reads {w : World} {B : Nat} {v : Value} {L : List DR} (h : OwnD B L v w) : ReadsD w v L := by
  unfold OwnD at h
  rcases Go.Joins.ownsRow_forms h with ⟨rfl, h0⟩ | ⟨g, cap, rfl⟩
  · exact ⟨none, 0, by rw [h0], fun h1 => by omega⟩
  · refine ⟨_, _, rfl, fun _ => ⟨g, 0, rfl, (h.lt g rfl).2, fun j u hu => ?_⟩⟩
    rw [Nat.zero_add, h.cellAt j (by have := (List.getElem?_eq_some_iff.1 hu).1; rw [descV_len] at this; exact this)]
    exact hu
theorem OwnD.below {B : Nat} {M : List DR} {v : Value} {w w1 : World} (h : OwnD B M v w) (hb : Below w.heap.size w w1) : OwnD B M v w1 := ownsRow_below h hb
theorem OwnD.snoc {B : Nat} {M : List DR} {y : DR} {v : Value} {w : World} (h : w.ownsRow B 27 23 v (M.length + 1) (descV M ++ y.cells.toList)) : OwnD B (M ++ [y]) v w := by
  unfold OwnD
  rw [List.length_append, descV_snoc]
  exact h
set_option maxRecDepth 100000 in
theorem descInfo : (Tryz.prog.info? 27).map (fun i => (i.zero, i.size, i.bytes)) = some (some (.agg DR.zero.cells), 23, 240) := by kernel_rfl
/-- A slice reads as strings. -/
def ReadsS (w : World) (a : Value) (ss : List ByteArray) : Prop := ∃ A c, a = .slice A ss.length c ∧ (0 < ss.length → ∃ g o, A = some ⟨g, o, none⟩ ∧ g < w.heap.size ∧ ∀ j s, ss[j]? = some s → w.cell? ⟨g, o + j, none⟩ = some (.string s))
theorem ReadsS.below {w w1 : World} {v : Value} {L : List ByteArray} (h : ReadsS w v L) (hb : Below w.heap.size w w1) : ReadsS w1 v L := by
  obtain ⟨A, c, e, h⟩ := h
  refine ⟨A, c, e, fun h0 => ?_⟩
  obtain ⟨g, o, e2, hg, hc⟩ := h h0
  exact ⟨g, o, e2, Nat.lt_of_lt_of_le hg hb.size, fun j u hu => (hb.cell (p := ⟨g, o + j, none⟩) hg).trans (hc j u hu)⟩
/-- Read: k rounds from round i on. -/
def readL (img : List ByteArray) (st : Int) : Nat → Nat → List DR → List DR × Int × Int
  | 0, _, _ => ([], st + 16 + 64, 13)
  | k + 1, i, out =>
    if st + 16 + i < 0 ∨ (img.length : Int) ≤ st + 16 + i ∨ (img.getD (st + 16 + i).toNat ⟨#[]⟩).size ≠ 2048 then ([], st + 16 + i, 9)
    else if (decD (img.getD (st + 16 + i).toNat ⟨#[]⟩)).2 = 14 then readL img st k (i + 1) out
    else if (decD (img.getD (st + 16 + i).toNat ⟨#[]⟩)).2 ≠ 0 then ([], st + 16 + i, (decD (img.getD (st + 16 + i).toNat ⟨#[]⟩)).2)
    else if (decD (img.getD (st + 16 + i).toNat ⟨#[]⟩)).1.typ = 255 then (out, 0, 0)
    else readL img st k (i + 1) (out ++ [(decD (img.getD (st + 16 + i).toNat ⟨#[]⟩)).1])
def readA (img : List ByteArray) (st : Int) : List DR × Int × Int := readL img st 64 0 []
/-- The answer of Read. -/
def ReadP (r : List DR × Int × Int) (w : World) (e : Ending) (w' : World) : Prop := ∃ v, e = .returned (.tuple #[v, .int .i64 r.2.1, .int .i64 r.2.2]) ∧ OwnD w.heap.size r.1 v w' ∧ Below w.heap.size w w'
theorem ReadP.mk {r : List DR × Int × Int} {L : List DR} {a b : Int} {v : Value} {w w' : World} (h : r = (L, a, b)) (ho : OwnD w.heap.size L v w') (hb : Below w.heap.size w w') : ReadP r w (.returned (.tuple #[v, .int .i64 a, .int .i64 b])) w' := by
  subst h; exact ⟨v, rfl, ho, hb⟩
theorem exec_load_mid {P : Program} {o : Oper} {ev : Operand → Value} {w : World} (ty : TypeId) (x : Operand) (ho : o.op = .load ty x)
    (b k : Nat) (hx : ev x = .pointer (some ⟨b, k, none⟩)) (cells : Array Value) (d : TypeDesc) (hc : w.rangeAt b k cells.toList)
    (hu : P.underlying ty = some d) (hd : d.isRow = true) (hi : (P.info? ty).map (·.size) = some cells.toList.length) : (execOp ev o).run P w = .ok (.value (.agg cells)) w := by
  unfold execOp
  simp only [ho, hx, Instr.loadAt, Instr.sureAddr, Sem.run_bind, Sem.run_pure, Result.andThen_ok, run_loadVar_mid w b k ty cells.toList d hc hu hd hi, Array.toArray_toList]
/-- A literal slice of one descriptor, as the walk leaves it. -/
theorem lit27 (d : DR) : Array.foldl (fun (cs : Array Value) (x : Value × Nat) => cs.setIfInBounds x.snd x.fst) #[.int .i64 0, .int .i64 0, .string ⟨#[]⟩, .string ⟨#[]⟩, .string ⟨#[]⟩, .string ⟨#[]⟩, .string ⟨#[]⟩, .int .i64 0, .int .i64 0, .int .i64 0, .int .i64 0, .int .i64 0, .int .i64 0, .int .i64 0, .int .i64 0, .string ⟨#[]⟩, .int .i64 0, .int .i64 0, .int .i64 0, .int .i64 0, .int .i64 0, .int .i64 0, .string ⟨#[]⟩] d.cells.zipIdx 0 23 = d.cells := by kernel_rfl
theorem sz27 (d : DR) : d.cells.size = 23 := rfl
end Go.Proofs.YtjbhokmkmapkoaaGreatDoor
namespace Go.Proofs.YtjbhokmkmapkoaaGreatDoor
set_option linter.unusedSimpArgs false
set_option linter.unusedVariables false
open Go.RowKit
open Go.PlainAid (bt get_bt bt_nonneg bt_le bt_end)
section
variable {img : List ByteArray} {st : Int} {k i : Nat} {out : List DR}
theorem readL_out (h : st + 16 + i < 0 ∨ (img.length : Int) ≤ st + 16 + i) : readL img st (k + 1) i out = ([], st + 16 + i, 9) := by
  unfold readL
  rw [if_pos (h.elim Or.inl fun h => Or.inr (Or.inl h))]
variable {m : Nat} {x : ByteArray} (hm : st + 16 + i = (m : Int)) (hx : img[m]? = some x)
include hm hx
theorem readL_short (h : x.size ≠ 2048) : readL img st (k + 1) i out = ([], (m : Int), 9) := by
  have e : img.getD (st + 16 + (i : Int)).toNat ⟨#[]⟩ = x := by rw [hm, Int.toNat_natCast, List.getD_eq_getElem?_getD, hx]; rfl
  unfold readL
  rw [e, if_pos (Or.inr (Or.inr h)), hm]
theorem readL_step {d : DR} {e : Int} (h : x.size = 2048) (hd : decD x = (d, e)) : readL img st (k + 1) i out = if e = 14 then readL img st k (i + 1) out else if e ≠ 0 then ([], (m : Int), e) else if d.typ = 255 then (out, 0, 0) else readL img st k (i + 1) (out ++ [d]) := by
  have e1 : img.getD (st + 16 + (i : Int)).toNat ⟨#[]⟩ = x := by rw [hm, Int.toNat_natCast, List.getD_eq_getElem?_getD, hx]; rfl
  have hl : m < img.length := (List.getElem?_eq_some_iff.1 hx).1
  conv => lhs; unfold readL
  rw [e1, if_neg (by omega), hd, hm]
end
theorem pair_d (x : DR × Int) : ∃ d e, x = (d, e) := ⟨x.1, x.2, rfl⟩
theorem readL_len (img : List ByteArray) (st : Int) : ∀ (k i : Nat) (out : List DR), (readL img st k i out).1.length ≤ out.length + k
  | 0, _, _ => by show 0 ≤ _; omega
  | k + 1, i, out => by
    have h1 := readL_len img st k (i + 1) out
    have h2 := readL_len img st k (i + 1) (out ++ [(decD (img.getD (st + 16 + i).toNat ⟨#[]⟩)).1])
    rw [List.length_append, List.length_singleton] at h2
    unfold readL
    split
    · show 0 ≤ _; omega
    split
    · omega
    split
    · show 0 ≤ _; omega
    split
    · show out.length ≤ _; omega
    · omega
set_option maxRecDepth 100000 in
set_option maxHeartbeats 8000000 in
theorem read_any (img : List ByteArray) (st : Int) (a : Value) (hL : img.length ≤ maxLen) (hst : -9223372036854775808 ≤ st ∧ st ≤ 1099511627776) (w : World) (ha : ReadsS w a img) (hT : TabD w) : Calls Tryz.prog 23 #[a, .int .i64 st] w (ReadP (readA img st) w) := by
  unfold maxLen at hL
  obtain ⟨A, c, rfl, hA⟩ := ha
  have HA := hide hA
  clear hA
  have w16 : IntKind.i64.wrap (st + 16) = st + 16 := IntWalk.i64_in _ (by omega)
  have HL : Live w [] := trivial
  go_enter Tryz.func23, Tryz.ntmps23
  go_wp2_with fail
  go_loopw [12, 7] (fun i o wr => ∃ (k : Nat) (out : List DR), k ≤ 64 ∧ i = .int .i64 k ∧ out.length ≤ k ∧ OwnD w.heap.size out o wr ∧ readA img st = readL img st (64 - k) k out ∧ Below w.heap.size w wr) (fun i _ _ => 64 - (intOf i).toNat)
  case atStart => exact ⟨0, [], by omega, rfl, by simp, OwnD.nil _ _, rfl, Below.refl _ _⟩
  case round =>
    obtain ⟨k, out, hk, rfl, hol, hown, heq, hbel⟩ := hrel
    have HO := hide hown
    have HE := hide heq
    have hsz := hbel.size
    clear hown heq
    by_cases hlt : k < 64
    case neg =>
      obtain rfl : k = 64 := by omega
      have hE := hide (show readA img st = ([], st + 16 + 64, 13) from HE.out)
      have w80 : IntKind.i64.wrap (st + 16 + 64) = st + 16 + 64 := IntWalk.i64_in _ (by omega)
      go_wp2_with fail
      ((try simp only [Exit.inBlock, Exit.then]); refine bodyPost_ret (by simp only [results, Tryz.results23]; go_simp; try rfl) rfl ?_)
      exact ReadP.mk hE.out (OwnD.nil _ _) hbel
    case pos =>
    have hk1 : 64 - k = (63 - k) + 1 := by omega
    by_cases hr : st + 16 + k < 0 ∨ (img.length : Int) ≤ st + 16 + k
    case pos =>
      have hE := hide (show readA img st = ([], st + 16 + k, 9) from by rw [HE.out, hk1, readL_out hr])
      have wk : IntKind.i64.wrap (st + 16 + (k : Int)) = st + 16 + k := IntWalk.i64_in _ (by omega)
      rcases Int.lt_or_le (st + 16 + k) 0 with hn | hn
      · clear hr
        go_wp2_with fail
        ((try simp only [Exit.inBlock, Exit.then]); refine bodyPost_ret (by simp only [results, Tryz.results23]; go_simp; try rfl) rfl ?_)
        exact ReadP.mk hE.out (OwnD.nil _ _) hbel
      · have hn2 : (img.length : Int) ≤ st + 16 + k := by omega
        clear hr
        go_wp2_with fail
        ((try simp only [Exit.inBlock, Exit.then]); refine bodyPost_ret (by simp only [results, Tryz.results23]; go_simp; try rfl) rfl ?_)
        exact ReadP.mk hE.out (OwnD.nil _ _) hbel
    case neg =>
    obtain ⟨m, hm⟩ : ∃ m : Nat, st + 16 + k = (m : Int) := ⟨(st + 16 + k).toNat, by omega⟩
    have hml : m < img.length := by omega
    obtain ⟨x, hx⟩ : ∃ x, img[m]? = some x := ⟨_, List.getElem?_eq_getElem hml⟩
    obtain ⟨g, o, rfl, hg, hc⟩ := HA.out (by omega)
    have c0 : wr.cell? ⟨g, o + m, none⟩ = some (.string x) := (hbel.cell (p := ⟨g, o + m, none⟩) hg).trans (hc _ _ hx)
    have wk : IntKind.i64.wrap (st + 16 + (k : Int)) = (m : Int) := by rw [hm]; exact IntWalk.i64_in _ (by omega)
    have HM := hide hm
    have HX := hide hx
    clear hr hm hx hc
    by_cases h1 : x.size = 2048
    case neg =>
      have q1 : ((x.size : Int) != 2048) = true := by simp; omega
      have hE := hide (show readA img st = ([], (m : Int), 9) from by rw [HE.out, hk1, readL_short HM.out HX.out h1])
      clear h1
      go_wp2_with fail
      ((try simp only [Exit.inBlock, Exit.then]); refine bodyPost_ret (by simp only [results, Tryz.results23]; go_simp; try rfl) rfl ?_)
      exact ReadP.mk hE.out (OwnD.nil _ _) hbel
    case pos =>
    have q1 : ((x.size : Int) != 2048) = false := by simp; omega
    have DE0 := fun W hW => dec_any x (by omega) W hW
    obtain ⟨d, e, hd⟩ := pair_d (decD x)
    unfold DecDP at DE0
    rw [hd] at DE0
    dsimp only at DE0
    have DE := hide DE0
    have hstep := readL_step (k := 63 - k) (out := out) HM.out HX.out h1 hd
    have hE1 := HE.out
    rw [hk1, hstep] at hE1
    have HE1 := hide hE1
    clear DE0 hd hstep hE1 h1
    have hTr := hT.below hbel
    go_upto_block 2 with (first | (go_at_call 17; refine (DE.out _ hTr).mono ?_; rintro e w1 ⟨rfl, hb1⟩) | (refine wpList_store_new rfl 27 (.tmp 10) (.tmp 42) rfl d.cells rfl rfl 27 _ (info27 _) (siz27 _) (one27 _) ?_))
    have HB := hide (show Blk (w1.alloc (.cells d.cells 27)) w1.heap.size d.cells 27 from Blk.newAt rfl)
    have hbel1 : Below w.heap.size w (w1.alloc (.cells d.cells 27)) := (hbel.trans (hb1.mono hsz)).alloc (hbel.trans (hb1.mono hsz)).size _
    have HO1 := hide (show OwnD w.heap.size out _ (w1.alloc (.cells d.cells 27)) from World.ownsRow.alloc (OwnD.below HO.out hb1) _)
    have hsz1 := hbel1.size
    generalize w1.alloc (.cells d.cells 27) = W1 at *
    generalize w1.heap.size = b at *
    have cb : W1.cell? ⟨b, 0, none⟩ = some (.int .i64 d.typ) := HB.out.cells 0
    clear hb1 HO DE c0 hTr
    by_cases e14 : e = 14
    · have q2 : (e == 14) = true := by simpa using e14
      have hE := hide (show readA img st = readL img st (64 - (k + 1)) (k + 1) out from by rw [HE1.out, if_pos e14, show 64 - (k + 1) = 63 - k by omega])
      clear e14
      go_wp2_with fail
      go_roundw
      case rel => exact ⟨k + 1, out, by omega, by go_num, by omega, HO1.out, hE.out, hbel1⟩
      case measure => simp [intOf]; omega
    have q2 : (e == 14) = false := by simpa using e14
    by_cases e0 : e = 0
    case neg =>
      have q3 : (e != 0) = true := by simpa using e0
      have hE := hide (show readA img st = ([], (m : Int), e) from by rw [HE1.out, if_neg e14, if_pos e0])
      clear e14 e0
      go_wp2_with fail
      ((try simp only [Exit.inBlock, Exit.then]); refine bodyPost_ret (by simp only [results, Tryz.results23]; go_simp; try rfl) rfl ?_)
      exact ReadP.mk hE.out (OwnD.nil _ _) hbel1
    case pos =>
    have q3 : (e != 0) = false := by simpa using e0
    by_cases et : d.typ = 255
    · have q4 : (d.typ == 255) = true := by simpa using et
      have hE := hide (show readA img st = (out, 0, 0) from by rw [HE1.out, if_neg e14, if_neg (by simpa using e0), if_pos et])
      clear e14 e0 et
      go_wp2_with fail
      ((try simp only [Exit.inBlock, Exit.then]); refine bodyPost_ret (by simp only [results, Tryz.results23]; go_simp; try rfl) rfl ?_)
      exact ReadP.mk hE.out HO1.out hbel1
    have q4 : (d.typ == 255) = false := by simpa using et
    have hE := hide (show readA img st = readL img st (64 - (k + 1)) (k + 1) (out ++ [d]) from by rw [HE1.out, if_neg e14, if_neg (by simpa using e0), if_neg et, show 64 - (k + 1) = 63 - k by omega])
    clear e14 e0 et
    have hs27 := sz27 d
    go_wp2_with (first | (refine wpList_load_row rfl 27 (.tmp 10) rfl b rfl 27 d.cells (0, 0) _ HB.out Tryz.underlying27 rfl (info27 _) ?_) | (at_builtin; rw [lit27]; refine wpList_append_one _ rfl _ _ 43 rfl w.heap.size 27 descInfo Tryz.underlying43 rfl (by decide) _ _ _ HO1.out d.cells rfl rfl rfl (fun u hu => Array.all_eq_true_iff_forall_mem.1 (one27 d) u (by simpa using hu)) (by unfold maxLen; omega) (by omega) (by omega) ?_; intro v2 w2 hown2 hb2 hot2 hz2))
    have HO2 := hide (OwnD.snoc hown2)
    go_roundw
    case rel => exact ⟨k + 1, out ++ [d], by omega, by go_num, by simp; omega, HO2.out, hE.out, hbel1.trans hb2⟩
    case measure => simp [intOf]; omega
end Go.Proofs.YtjbhokmkmapkoaaGreatDoor
