/- Contracts and plain words for the laws of volume descriptors, part 28: V4. No condition. -/
import Derived.Test.YtjbhokmkmapkoaaGreatDoorC24
import Derived.Test.YtjbhokmkmapkoaaGreatDoorC26
import Derived.Test.YtjbhokmkmapkoaaGreatDoorC27
namespace Go.Proofs.YtjbhokmkmapkoaaGreatDoor
set_option linter.unusedSimpArgs false
set_option linter.unusedVariables false
open Go.RowKit
open Go.PlainAid (bt get_bt bt_nonneg bt_le bt_end)
set_option maxRecDepth 100000 in
set_option maxHeartbeats 8000000 in
theorem dec_sup_any (s : ByteArray) (hsz : s.size = 2048) (hst : s.extract 1 7 = stdS) (h255 : bt s 0 ≠ 255) (h0 : bt s 0 ≠ 0) (hu : unsB s = false) (w : World) (hT : TabD w) : Calls Tryz.prog 17 #[.string s] w (DecDP s w) := by
  have HSUP := hide (dec_sup hsz hst h255 h0 hu)
  have hun := of_decide_eq_false hu
  have u1 : ¬ 2 < bt s 0 := fun h => hun (Or.inl h)
  have u2 : le2 s 128 = 2048 := Decidable.byContradiction fun h => hun (Or.inr (Or.inl h))
  have u3 : bt s 881 = 1 := Decidable.byContradiction fun h => hun (Or.inr (Or.inr (Or.inl h)))
  have u4 : bt s 0 = 2 → escB s = true := fun h => by
    cases he : escB s
    · exact absurd (Or.inr (Or.inr (Or.inr ⟨h, he⟩))) hun
    · rfl
  have U4 := hide u4
  have qL : (le2 s 128 != 2048) = false := by rw [u2]; rfl
  have qO : (bt s 881 != 1) = false := by rw [u3]; rfl
  have q3 : (bt s 0 == 255) = false := by simpa using h255
  have q0 : (bt s 0 == 0) = false := by simpa using h0
  clear hun u2 u3 u4 hu h255 h0
  have HL : Live w [] := trivial
  go_enter Tryz.func17, Tryz.ntmps17
  go_upto_region 1 with fail
  have hB1 : Blk ((w.alloc (.cells #[.string s] 9)).alloc (.cells #[.int .i64 0, .int .i64 0, .string ⟨#[]⟩, .string ⟨#[]⟩, .string ⟨#[]⟩, .string ⟨#[]⟩, .string ⟨#[]⟩, .int .i64 0, .int .i64 0, .int .i64 0, .int .i64 0, .int .i64 0, .int .i64 0, .int .i64 0, .int .i64 0, .string ⟨#[]⟩, .int .i64 0, .int .i64 0, .int .i64 0, .int .i64 0, .int .i64 0, .int .i64 0, .string ⟨#[]⟩] 27)) w.heap.size #[.string s] 9 := (Blk.newAt rfl).alloc _
  have hB2 : Blk ((w.alloc (.cells #[.string s] 9)).alloc (.cells #[.int .i64 0, .int .i64 0, .string ⟨#[]⟩, .string ⟨#[]⟩, .string ⟨#[]⟩, .string ⟨#[]⟩, .string ⟨#[]⟩, .int .i64 0, .int .i64 0, .int .i64 0, .int .i64 0, .int .i64 0, .int .i64 0, .int .i64 0, .int .i64 0, .string ⟨#[]⟩, .int .i64 0, .int .i64 0, .int .i64 0, .int .i64 0, .int .i64 0, .int .i64 0, .string ⟨#[]⟩] 27)) (w.heap.size + 1) #[.int .i64 0, .int .i64 0, .string ⟨#[]⟩, .string ⟨#[]⟩, .string ⟨#[]⟩, .string ⟨#[]⟩, .string ⟨#[]⟩, .int .i64 0, .int .i64 0, .int .i64 0, .int .i64 0, .int .i64 0, .int .i64 0, .int .i64 0, .int .i64 0, .string ⟨#[]⟩, .int .i64 0, .int .i64 0, .int .i64 0, .int .i64 0, .int .i64 0, .int .i64 0, .string ⟨#[]⟩] 27 := Blk.newAt (by simp only [World.size_alloc])
  have hbel1 : Below w.heap.size w ((w.alloc (.cells #[.string s] 9)).alloc (.cells #[.int .i64 0, .int .i64 0, .string ⟨#[]⟩, .string ⟨#[]⟩, .string ⟨#[]⟩, .string ⟨#[]⟩, .string ⟨#[]⟩, .int .i64 0, .int .i64 0, .int .i64 0, .int .i64 0, .int .i64 0, .int .i64 0, .int .i64 0, .int .i64 0, .string ⟨#[]⟩, .int .i64 0, .int .i64 0, .int .i64 0, .int .i64 0, .int .i64 0, .int .i64 0, .string ⟨#[]⟩] 27)) := by (exact bl)
  generalize (w.alloc (.cells #[.string s] 9)).alloc (.cells #[.int .i64 0, .int .i64 0, .string ⟨#[]⟩, .string ⟨#[]⟩, .string ⟨#[]⟩, .string ⟨#[]⟩, .string ⟨#[]⟩, .int .i64 0, .int .i64 0, .int .i64 0, .int .i64 0, .int .i64 0, .int .i64 0, .int .i64 0, .int .i64 0, .string ⟨#[]⟩, .int .i64 0, .int .i64 0, .int .i64 0, .int .i64 0, .int .i64 0, .int .i64 0, .string ⟨#[]⟩] 27) = W1 at *
  have hb12 : w.heap.size < w.heap.size + 1 := by omega
  obtain ⟨b2, eb2⟩ : ∃ b2, b2 = w.heap.size + 1 := ⟨_, rfl⟩
  rw [← eb2] at hB2 hb12 ⊢
  clear eb2
  have c1 : W1.cell? ⟨w.heap.size, 0, none⟩ = some (.string s) := hB1.cells 0
  have HS := hide hsz
  have q : ((s.size : Int) != 2048) = false := by simp; omega
  have z1 : (s.size : Int) = 2048 := by omega
  have z3 : 7 ≤ s.size := by omega
  have HST := hide hst
  have hst2 : s.extract 1 7 = ⟨#[67, 68, 48, 48, 49, 1]⟩ := hst
  clear hst
  go_upto_region 5 with fail
  have hst4 := run_store_blk (P := Tryz.prog) (W := W1.alloc (.cells #[.nilFunc] 76)) (n := W1.heap.size) (j := 0) (v := .func (.func 51) #[] #[.pointer (some ⟨w.heap.size, 0, none⟩)]) (Blk.newAt (cs := #[.nilFunc]) (T := 76) rfl) Nat.zero_lt_one rfl
  go_upto_region 7 with fail
  have hB4 : Blk (W1.alloc (.cells #[.func (.func 51) #[] #[.pointer (some ⟨w.heap.size, 0, none⟩)]] 76)) W1.heap.size #[.func (.func 51) #[] #[.pointer (some ⟨w.heap.size, 0, none⟩)]] 76 := Blk.newAt rfl
  have hB1' := hB1.alloc (.cells #[.func (.func 51) #[] #[.pointer (some ⟨w.heap.size, 0, none⟩)]] 76)
  have hB2' := hB2.alloc (.cells #[.func (.func 51) #[] #[.pointer (some ⟨w.heap.size, 0, none⟩)]] 76)
  have hbel' := hbel1.alloc hbel1.size (.cells #[.func (.func 51) #[] #[.pointer (some ⟨w.heap.size, 0, none⟩)]] 76)
  have hb24 : b2 < W1.heap.size := hB2.lt
  generalize W1.alloc (.cells #[.func (.func 51) #[] #[.pointer (some ⟨w.heap.size, 0, none⟩)]] 76) = W2 at *
  generalize W1.heap.size = b4 at *
  clear hB1 hB2 hbel1 hst4 c1
  have c1 : W2.cell? ⟨w.heap.size, 0, none⟩ = some (.string s) := hB1'.cells 0
  have c4 : W2.cell? ⟨b4, 0, none⟩ = some (.func (.func 51) #[] #[.pointer (some ⟨w.heap.size, 0, none⟩)]) := hB4.cells 0
  have hbb := get_bt s
  have n0 : 0 < s.size := by omega
  have i0 : (0 : Int) < (s.size : Int) := by omega
  have b0 := bt_nonneg s 0
  have b1 := bt_le s 0
  have w0 : IntKind.i64.wrap (bt s 0) = bt s 0 := IntWalk.i64_in _ (by omega)
  go_upto_block 0 with (refine wpList_store_new rfl 27 (.tmp 6) (.tmp 33) rfl #[.int .i64 (bt s 0), .int .i64 0, .string ⟨#[]⟩, .string ⟨#[]⟩, .string ⟨#[]⟩, .string ⟨#[]⟩, .string ⟨#[]⟩, .int .i64 0, .int .i64 0, .int .i64 0, .int .i64 0, .int .i64 0, .int .i64 0, .int .i64 0, .int .i64 0, .string ⟨#[]⟩, .int .i64 0, .int .i64 0, .int .i64 0, .int .i64 0, .int .i64 0, .int .i64 0, .string ⟨#[]⟩] rfl rfl 27 _ (by as_aux_lemma => kernel_rfl) rfl (by as_aux_lemma => kernel_rfl) ?_)
  have hB6 : Blk (W2.alloc (.cells #[.int .i64 (bt s 0), .int .i64 0, .string ⟨#[]⟩, .string ⟨#[]⟩, .string ⟨#[]⟩, .string ⟨#[]⟩, .string ⟨#[]⟩, .int .i64 0, .int .i64 0, .int .i64 0, .int .i64 0, .int .i64 0, .int .i64 0, .int .i64 0, .int .i64 0, .string ⟨#[]⟩, .int .i64 0, .int .i64 0, .int .i64 0, .int .i64 0, .int .i64 0, .int .i64 0, .string ⟨#[]⟩] 27)) W2.heap.size #[.int .i64 (bt s 0), .int .i64 0, .string ⟨#[]⟩, .string ⟨#[]⟩, .string ⟨#[]⟩, .string ⟨#[]⟩, .string ⟨#[]⟩, .int .i64 0, .int .i64 0, .int .i64 0, .int .i64 0, .int .i64 0, .int .i64 0, .int .i64 0, .int .i64 0, .string ⟨#[]⟩, .int .i64 0, .int .i64 0, .int .i64 0, .int .i64 0, .int .i64 0, .int .i64 0, .string ⟨#[]⟩] 27 := Blk.newAt rfl
  have hB1 := hB1'.alloc (.cells #[.int .i64 (bt s 0), .int .i64 0, .string ⟨#[]⟩, .string ⟨#[]⟩, .string ⟨#[]⟩, .string ⟨#[]⟩, .string ⟨#[]⟩, .int .i64 0, .int .i64 0, .int .i64 0, .int .i64 0, .int .i64 0, .int .i64 0, .int .i64 0, .int .i64 0, .string ⟨#[]⟩, .int .i64 0, .int .i64 0, .int .i64 0, .int .i64 0, .int .i64 0, .int .i64 0, .string ⟨#[]⟩] 27)
  have hB2 := hB2'.alloc (.cells #[.int .i64 (bt s 0), .int .i64 0, .string ⟨#[]⟩, .string ⟨#[]⟩, .string ⟨#[]⟩, .string ⟨#[]⟩, .string ⟨#[]⟩, .int .i64 0, .int .i64 0, .int .i64 0, .int .i64 0, .int .i64 0, .int .i64 0, .int .i64 0, .int .i64 0, .string ⟨#[]⟩, .int .i64 0, .int .i64 0, .int .i64 0, .int .i64 0, .int .i64 0, .int .i64 0, .string ⟨#[]⟩] 27)
  have hBn := hB4.alloc (.cells #[.int .i64 (bt s 0), .int .i64 0, .string ⟨#[]⟩, .string ⟨#[]⟩, .string ⟨#[]⟩, .string ⟨#[]⟩, .string ⟨#[]⟩, .int .i64 0, .int .i64 0, .int .i64 0, .int .i64 0, .int .i64 0, .int .i64 0, .int .i64 0, .int .i64 0, .string ⟨#[]⟩, .int .i64 0, .int .i64 0, .int .i64 0, .int .i64 0, .int .i64 0, .int .i64 0, .string ⟨#[]⟩] 27)
  have hbel := hbel'.alloc hbel'.size (.cells #[.int .i64 (bt s 0), .int .i64 0, .string ⟨#[]⟩, .string ⟨#[]⟩, .string ⟨#[]⟩, .string ⟨#[]⟩, .string ⟨#[]⟩, .int .i64 0, .int .i64 0, .int .i64 0, .int .i64 0, .int .i64 0, .int .i64 0, .int .i64 0, .int .i64 0, .string ⟨#[]⟩, .int .i64 0, .int .i64 0, .int .i64 0, .int .i64 0, .int .i64 0, .int .i64 0, .string ⟨#[]⟩] 27)
  have hb46 : b4 < W2.heap.size := hB4.lt
  generalize W2.alloc (.cells #[.int .i64 (bt s 0), .int .i64 0, .string ⟨#[]⟩, .string ⟨#[]⟩, .string ⟨#[]⟩, .string ⟨#[]⟩, .string ⟨#[]⟩, .int .i64 0, .int .i64 0, .int .i64 0, .int .i64 0, .int .i64 0, .int .i64 0, .int .i64 0, .int .i64 0, .string ⟨#[]⟩, .int .i64 0, .int .i64 0, .int .i64 0, .int .i64 0, .int .i64 0, .int .i64 0, .string ⟨#[]⟩] 27) = W3 at *
  generalize W2.heap.size = b6 at *
  clear hB1' hB2' hB4 hbel' c1 c4
  have hS : DS w s b2 b4 b6 { DR.zero with typ := bt s 0 } W3 := ⟨hbel, hB1, hB2, hBn, hB6, hb12, hb24, hb46⟩
  clear hbel hB1 hB2 hBn hB6 hb12 hb24 hb46
  have c1 := hS.c1
  have c4 := hS.c4
  have c60 : W3.cell? ⟨b6, 0, none⟩ = some (.int .i64 (bt s 0)) := hS.d6.cells 0
  have f6 : ∀ o, W3.frozen? ⟨b6, o, none⟩ = false := hS.d6.free
  have c61 : W3.cell? ⟨b6, 1, none⟩ = some (.int .i64 0) := hS.d6.cells 1
  have LT128 := hide (fun W h1 h4 => lit2 s w.heap.size b4 128 hsz W h1 h4 (by omega))
  have LT71 := hide (fun W h1 h4 => lit4 s w.heap.size b4 71 hsz W h1 h4 (by omega))
  have HS0 := hide hS
  go_cut [7] (fun v wx => v = .bool (w2B s) ∧ W3 = wx)
  case first =>
    have z90 : 90 ≤ s.size := by omega
    have n90 : 90 < s.size := by omega
    have i90 : (90 : Int) < (s.size : Int) := by omega
    have n881 : 881 < s.size := by omega
    have i881 : (881 : Int) < (s.size : Int) := by omega
    obtain ⟨ki, IB0, hki⟩ := idx_esc (bt s 90) (s[90]'n90) (get_bt s 90 n90).symm
    have IB := hide IB0
    clear IB0
    have he2 := esc_two hsz
    by_cases t2 : bt s 0 = 2
    case neg =>
      have q2 : (bt s 0 == 2) = false := by simpa using t2
      have Q2 := hide t2
      clear t2 he2
      go_wp2_with (first | (go_at_call 52; refine (LT128.out _ (by assumption) (by assumption)).mono ?_; rintro e w' ⟨rfl, rfl⟩) | (go_at_call 54; refine (IB.out _).mono ?_; rintro e w' ⟨rfl, rfl⟩))
      go_meet
      exact ⟨by unfold w2B; rw [decide_eq_false Q2.out], rfl⟩
    case pos =>
      have q2 : (bt s 0 == 2) = true := by simpa using t2
      obtain ⟨e1, e2, e3⟩ := of_decide_eq_true (U4.out t2)
      rw [decide_eq_true ⟨e1, e2⟩] at he2
      have hk : ¬ ki < 0 := fun h => hki.1 h e3
      have Q2 := hide t2
      clear t2 hki e1 e2 e3
      go_wp2_with (first | (go_at_call 52; refine (LT128.out _ (by assumption) (by assumption)).mono ?_; rintro e w' ⟨rfl, rfl⟩) | (go_at_call 54; refine (IB.out _).mono ?_; rintro e w' ⟨rfl, rfl⟩))
      go_meet
      exact ⟨by unfold w2B; rw [decide_eq_true Q2.out], rfl⟩
  case rest =>
  obtain ⟨rfl, rfl⟩ := hcut
  clear hS c60 f6 c61 LT71 u1 qL qO b0 b1 w0 n0 i0 z1 z3 q q3 q0 hst2
  go_upto_block 1 with (go_at_call 33; refine (fields_any b6 2 _).mono ?_; rintro e w4 ⟨g, rfl, hbk, hb4, hge⟩)
  have hS4 : DS w s b2 b4 b6 (dK s 0) w4 := HS0.out.below hb4
  have hgb : g ≠ b6 := by have := HS0.out.bl; omega
  clear hb4 hge HS0 c1 c4
  go_cut [7, 8] (fun v7 v8 wx => v7 = .bool (w2B s) ∧ v8 = .bool (fOkS s 5) ∧ DS w s b2 b4 b6 (dK s 5) wx)
  case first =>
    cases hw : w2B s
    case false =>
      have HW := hide hw
      clear hw
      go_wp2_with fail
      go_loopw [82, 8] (fun i rg wr => ∃ k : Nat, k ≤ 5 ∧ i = .int .i64 k ∧ rg = .bool (fOkS s k) ∧ DS w s b2 b4 b6 (dK s k) wr ∧ Blk wr g (fldCells b6 2) 65) (fun i _ _ => 5 - (intOf i).toNat)
      case atStart => exact ⟨0, by omega, rfl, rfl, hS4, hbk⟩
      case round =>
        obtain ⟨k, hk5, rfl, rfl, hSr, hgr⟩ := hrel
        clear hS4 hbk
        by_cases hk : k < 5
        case pos =>
          obtain ⟨a, ea⟩ : ∃ a, a = fAt k := ⟨_, rfl⟩
          obtain ⟨n, en⟩ : ∃ n, n = fSz k := ⟨_, rfl⟩
          have hf := fld_at b6 k hk
          have hle := fAt_le hk
          rw [← ea, ← en] at hf hle
          have f0 := (hgr.cells (k * 4)).trans hf.1
          have f1 := (hgr.cells (k * 4 + 1)).trans hf.2.1
          have f2 := (hgr.cells (k * 4 + 1 + 1)).trans hf.2.2.1
          have f3 := (hgr.cells (k * 4 + 1 + 1 + 1)).trans hf.2.2.2
          have c1 := hSr.c1
          have hltb := hSr.l1
          have hw1 : w.heap.size < wr.heap.size := by have := hSr.bl; have := hSr.l2; have := hSr.l3; omega
          have hqb : wr.heap.size ≠ b6 := by have := hSr.bl; omega
          have wa : IntKind.i64.wrap ((a : Int) + (n : Int)) = (a : Int) + (n : Int) := IntWalk.i64_in _ (by omega)
          have ta : ((a : Int) + (n : Int)).toNat = a + n := by omega
          have hraw : fRaw s k = s.extract a (a + n) := by unfold fRaw; rw [← ea, ← en]
          have hrs := fRaw_size hsz hk
          have HSr := hide hSr
          have HGr := hide hgr
          clear hf ea en hSr hgr
          go_upto_region 27 with fail
          have HF : Blk (wr.alloc (.cells #[.int .i64 (a : Nat), .int .i64 (n : Nat), .bool (fSt k), .pointer (some ⟨b6, 2 + k, none⟩)] 65)) wr.heap.size #[.int .i64 (a : Nat), .int .i64 (n : Nat), .bool (fSt k), .pointer (some ⟨b6, 2 + k, none⟩)] 65 := Blk.newAt rfl
          have hSa := HSr.out.alloc (.cells #[.int .i64 (a : Nat), .int .i64 (n : Nat), .bool (fSt k), .pointer (some ⟨b6, 2 + k, none⟩)] 65)
          have HGa := hide (HGr.out.alloc (.cells #[.int .i64 (a : Nat), .int .i64 (n : Nat), .bool (fSt k), .pointer (some ⟨b6, 2 + k, none⟩)] 65))
          have hmo : wr.heap.size ≠ w.heap.size := by omega
          generalize wr.alloc (.cells #[.int .i64 (a : Nat), .int .i64 (n : Nat), .bool (fSt k), .pointer (some ⟨b6, 2 + k, none⟩)] 65) = Wa at *
          generalize wr.heap.size = q at *
          have g3 : Wa.cell? ⟨q, 3, none⟩ = some (.pointer (some ⟨b6, 2 + k, none⟩)) := HF.cells 3
          have HFh := hide HF
          rw [← hraw]
          have TR := hide (fun W => trim_any (fRaw s k) (by omega) W)
          have cb : Wa.cell? ⟨b6, 2 + k, none⟩ = some (.string (fTx (dK s k) k)) := (hSa.d6.cells (2 + k)).trans (txt_at (dK s k) k hk)
          have fb : ∀ o, Wa.frozen? ⟨b6, o, none⟩ = false := hSa.d6.free
          have HSa := hide hSa
          clear f0 f1 f2 f3 c1 HF hSa HGr HSr wa ta hraw hle hltb hw1
          simp only [show decide ((k : Int) < 5) = true from decide_eq_true (by omega)]
          refine wp_region_noPanic ?_
          refine wp_region_held_drew (S := (fun x => x.cell? ⟨q, 3, none⟩ = some (.pointer (some ⟨b6, 2 + k, none⟩)) ∧ True)) (by kernel_rfl) kp (fun hHeld => ?_)
          refine tkY 0 ⟨some 98, .fieldAddr 65 (.tmp 10) 1, 0, "volumedesc.go:178", #[], none⟩ ?_ ?_ ?_
          rotate_left
          · intro w hSw; (try dsimp only at hSw); go_simp; (try with_reducible rfl)
          try simp only [PT]
          refine tkY 1 ⟨some 99, .load 64 (.tmp 98), 64, "volumedesc.go:178", #[⟨0, .data⟩], none⟩ ?_ ?_ ?_
          rotate_left
          · intro w hSw; (try dsimp only at hSw); go_simp; (try with_reducible rfl)
          try simp only [PT]
          refine tkY 2 ⟨some 100, .move (.tmp 11), 9, "volumedesc.go:178", #[], none⟩ ?_ ?_ ?_
          rotate_left
          · intro w hSw; (try dsimp only at hSw); go_simp; (try with_reducible rfl)
          try simp only [PT]
          refine wpAnyH_ready (rs := [3]) (by kernel_rfl) (by simp) ?_
          refine AllReadyH.cons (o := ⟨some 101, .call ⟨.value (.func 55), #[.tmp 100], #[9]⟩, 9, "volumedesc.go:178", #[⟨2, .data⟩], none⟩) rfl (fun K hK => ?_) AllReadyH.nil
          go_simp
          (go_at_call 55; (with_reducible refine (TR.out _).mono ?_); rintro e w' ⟨rfl, rfl⟩)
          go_wp2_with fail
          refine hK.out _ _ kp (fun hHeld => ?_)
          clear hK K
          try simp only [PT]
          refine tkY 4 ⟨some 102, .nilCheck (.tmp 99), 0, "volumedesc.go:178", #[⟨1, .data⟩, ⟨0, .phase⟩, ⟨1, .phase⟩, ⟨2, .phase⟩, ⟨3, .phase⟩], none⟩ ?_ ?_ ?_
          rotate_left
          · intro w hSw; (try dsimp only at hSw); go_simp; (try with_reducible rfl)
          try simp only [PT]
          refine wpAnyH_ready (rs := [5]) (by kernel_rfl) (by simp) ?_
          refine AllReadyH.cons (o := ⟨none, .store 9 (.tmp 102) (.tmp 101), 0, "volumedesc.go:178", #[⟨4, .data⟩, ⟨3, .data⟩, ⟨3, .chain⟩, ⟨0, .phase⟩, ⟨1, .phase⟩, ⟨2, .phase⟩, ⟨3, .phase⟩], none⟩) rfl (fun K hK => ?_) AllReadyH.nil
          go_simp
          refine hK.out _ _ kp (fun hHeld => ?_)
          clear hK K
          try simp only [PT]
          refine wpAnyH_done (by kernel_rfl) ?_ _
          refine NoPanic.normal ?_
          have hS5 : DS w s b2 b4 b6 (dT (dK s k) (trimS (fRaw s k)) k) (Wa.setCell ⟨b6, 2 + k, none⟩ (.string (trimS (fRaw s k)))) := HSa.out.set _ _ _ (dT_set _ _ k hk)
          have hS6 := hS5.drew
          have HG6 := hide (show Blk (Wa.setCell ⟨b6, 2 + k, none⟩ (.string (trimS (fRaw s k)))).drew g _ _ from (Blk.other hgb HGa.out).drew)
          have g36 : (Wa.setCell ⟨b6, 2 + k, none⟩ (.string (trimS (fRaw s k)))).drew.cell? ⟨q, 3, none⟩ = some (.pointer (some ⟨b6, 2 + k, none⟩)) := (show Blk (Wa.setCell ⟨b6, 2 + k, none⟩ (.string (trimS (fRaw s k)))).drew q _ _ from (Blk.other hqb HFh.out).drew).cells 3
          have HF6 := hide (show Blk (Wa.setCell ⟨b6, 2 + k, none⟩ (.string (trimS (fRaw s k)))).drew q _ _ from (Blk.other hqb HFh.out).drew)
          generalize (Wa.setCell ⟨b6, 2 + k, none⟩ (.string (trimS (fRaw s k)))).drew = W6 at *
          clear hS5 cb fb g3 hHeld HFh HGa HSa
          have hS7 : DS w s b2 b4 b6 (dK s (k + 1)) W6 := by
            rw [← fTxS_n HW.out k, dK_next s k hk] at hS6
            exact hS6
          have HO := hide (fOk_n HW.out k)
          clear hS6
          go_wp2_with fail
          go_roundw
          case rel => exact ⟨k + 1, by omega, by go_num, by rw [HO.out], hS7, HG6.out⟩
          case measure => simp [intOf]; omega
        case neg =>
          have ek : k = 5 := by omega
          subst ek
          clear hgr
          go_wp2_with fail
          go_meet
          exact ⟨by rw [HW.out], rfl, hSr⟩
    case true =>
      have HW := hide hw
      clear hw
      go_wp2_with fail
      go_loopw [82, 8] (fun i rg wr => ∃ k : Nat, k ≤ 5 ∧ i = .int .i64 k ∧ rg = .bool (fOkS s k) ∧ DS w s b2 b4 b6 (dK s k) wr ∧ Blk wr g (fldCells b6 2) 65) (fun i _ _ => 5 - (intOf i).toNat)
      case atStart => exact ⟨0, by omega, rfl, rfl, hS4, hbk⟩
      case round =>
        obtain ⟨k, hk5, rfl, rfl, hSr, hgr⟩ := hrel
        clear hS4 hbk
        by_cases hk : k < 5
        case pos =>
          obtain ⟨a, ea⟩ : ∃ a, a = fAt k := ⟨_, rfl⟩
          obtain ⟨n, en⟩ : ∃ n, n = fSz k := ⟨_, rfl⟩
          have hf := fld_at b6 k hk
          have hle := fAt_le hk
          rw [← ea, ← en] at hf hle
          have f0 := (hgr.cells (k * 4)).trans hf.1
          have f1 := (hgr.cells (k * 4 + 1)).trans hf.2.1
          have f2 := (hgr.cells (k * 4 + 1 + 1)).trans hf.2.2.1
          have f3 := (hgr.cells (k * 4 + 1 + 1 + 1)).trans hf.2.2.2
          have c1 := hSr.c1
          have hltb := hSr.l1
          have hw1 : w.heap.size < wr.heap.size := by have := hSr.bl; have := hSr.l2; have := hSr.l3; omega
          have hqb : wr.heap.size ≠ b6 := by have := hSr.bl; omega
          have wa : IntKind.i64.wrap ((a : Int) + (n : Int)) = (a : Int) + (n : Int) := IntWalk.i64_in _ (by omega)
          have ta : ((a : Int) + (n : Int)).toNat = a + n := by omega
          have hraw : fRaw s k = s.extract a (a + n) := by unfold fRaw; rw [← ea, ← en]
          have hrs := fRaw_size hsz hk
          have HSr := hide hSr
          have HGr := hide hgr
          clear hf ea en hSr hgr
          go_upto_region 27 with fail
          have HF : Blk (wr.alloc (.cells #[.int .i64 (a : Nat), .int .i64 (n : Nat), .bool (fSt k), .pointer (some ⟨b6, 2 + k, none⟩)] 65)) wr.heap.size #[.int .i64 (a : Nat), .int .i64 (n : Nat), .bool (fSt k), .pointer (some ⟨b6, 2 + k, none⟩)] 65 := Blk.newAt rfl
          have hSa := HSr.out.alloc (.cells #[.int .i64 (a : Nat), .int .i64 (n : Nat), .bool (fSt k), .pointer (some ⟨b6, 2 + k, none⟩)] 65)
          have HGa := hide (HGr.out.alloc (.cells #[.int .i64 (a : Nat), .int .i64 (n : Nat), .bool (fSt k), .pointer (some ⟨b6, 2 + k, none⟩)] 65))
          have hmo : wr.heap.size ≠ w.heap.size := by omega
          generalize wr.alloc (.cells #[.int .i64 (a : Nat), .int .i64 (n : Nat), .bool (fSt k), .pointer (some ⟨b6, 2 + k, none⟩)] 65) = Wa at *
          generalize wr.heap.size = q at *
          have g3 : Wa.cell? ⟨q, 3, none⟩ = some (.pointer (some ⟨b6, 2 + k, none⟩)) := HF.cells 3
          have HFh := hide HF
          rw [← hraw]
          have TR := hide (fun W => trim_any (fRaw s k) (by omega) W)
          have cb : Wa.cell? ⟨b6, 2 + k, none⟩ = some (.string (fTx (dK s k) k)) := (hSa.d6.cells (2 + k)).trans (txt_at (dK s k) k hk)
          have fb : ∀ o, Wa.frozen? ⟨b6, o, none⟩ = false := hSa.d6.free
          have HSa := hide hSa
          clear f0 f1 f2 f3 c1 HF hSa HGr HSr wa ta hraw hle hltb hw1
          simp only [show decide ((k : Int) < 5) = true from decide_eq_true (by omega)]
          refine wp_region_noPanic ?_
          refine wp_region_held_drew (S := (fun x => x.cell? ⟨q, 3, none⟩ = some (.pointer (some ⟨b6, 2 + k, none⟩)) ∧ True)) (by kernel_rfl) kp (fun hHeld => ?_)
          refine tkY 0 ⟨some 98, .fieldAddr 65 (.tmp 10) 1, 0, "volumedesc.go:178", #[], none⟩ ?_ ?_ ?_
          rotate_left
          · intro w hSw; (try dsimp only at hSw); go_simp; (try with_reducible rfl)
          try simp only [PT]
          refine tkY 1 ⟨some 99, .load 64 (.tmp 98), 64, "volumedesc.go:178", #[⟨0, .data⟩], none⟩ ?_ ?_ ?_
          rotate_left
          · intro w hSw; (try dsimp only at hSw); go_simp; (try with_reducible rfl)
          try simp only [PT]
          refine tkY 2 ⟨some 100, .move (.tmp 11), 9, "volumedesc.go:178", #[], none⟩ ?_ ?_ ?_
          rotate_left
          · intro w hSw; (try dsimp only at hSw); go_simp; (try with_reducible rfl)
          try simp only [PT]
          refine wpAnyH_ready (rs := [3]) (by kernel_rfl) (by simp) ?_
          refine AllReadyH.cons (o := ⟨some 101, .call ⟨.value (.func 55), #[.tmp 100], #[9]⟩, 9, "volumedesc.go:178", #[⟨2, .data⟩], none⟩) rfl (fun K hK => ?_) AllReadyH.nil
          go_simp
          (go_at_call 55; (with_reducible refine (TR.out _).mono ?_); rintro e w' ⟨rfl, rfl⟩)
          go_wp2_with fail
          refine hK.out _ _ kp (fun hHeld => ?_)
          clear hK K
          try simp only [PT]
          refine tkY 4 ⟨some 102, .nilCheck (.tmp 99), 0, "volumedesc.go:178", #[⟨1, .data⟩, ⟨0, .phase⟩, ⟨1, .phase⟩, ⟨2, .phase⟩, ⟨3, .phase⟩], none⟩ ?_ ?_ ?_
          rotate_left
          · intro w hSw; (try dsimp only at hSw); go_simp; (try with_reducible rfl)
          try simp only [PT]
          refine wpAnyH_ready (rs := [5]) (by kernel_rfl) (by simp) ?_
          refine AllReadyH.cons (o := ⟨none, .store 9 (.tmp 102) (.tmp 101), 0, "volumedesc.go:178", #[⟨4, .data⟩, ⟨3, .data⟩, ⟨3, .chain⟩, ⟨0, .phase⟩, ⟨1, .phase⟩, ⟨2, .phase⟩, ⟨3, .phase⟩], none⟩) rfl (fun K hK => ?_) AllReadyH.nil
          go_simp
          refine hK.out _ _ kp (fun hHeld => ?_)
          clear hK K
          try simp only [PT]
          refine wpAnyH_done (by kernel_rfl) ?_ _
          refine NoPanic.normal ?_
          have hS5 : DS w s b2 b4 b6 (dT (dK s k) (trimS (fRaw s k)) k) (Wa.setCell ⟨b6, 2 + k, none⟩ (.string (trimS (fRaw s k)))) := HSa.out.set _ _ _ (dT_set _ _ k hk)
          have hS6 := hS5.drew
          have HG6 := hide (show Blk (Wa.setCell ⟨b6, 2 + k, none⟩ (.string (trimS (fRaw s k)))).drew g _ _ from (Blk.other hgb HGa.out).drew)
          have g36 : (Wa.setCell ⟨b6, 2 + k, none⟩ (.string (trimS (fRaw s k)))).drew.cell? ⟨q, 3, none⟩ = some (.pointer (some ⟨b6, 2 + k, none⟩)) := (show Blk (Wa.setCell ⟨b6, 2 + k, none⟩ (.string (trimS (fRaw s k)))).drew q _ _ from (Blk.other hqb HFh.out).drew).cells 3
          have HF6 := hide (show Blk (Wa.setCell ⟨b6, 2 + k, none⟩ (.string (trimS (fRaw s k)))).drew q _ _ from (Blk.other hqb HFh.out).drew)
          generalize (Wa.setCell ⟨b6, 2 + k, none⟩ (.string (trimS (fRaw s k)))).drew = W6 at *
          clear hS5 cb fb g3 hHeld HFh HGa HSa
          have WT0 := fun W => wtrim_any (fRaw s k) (by omega) W
          have hO := fOk_w HW.out k
          have hX := fTxS_w HW.out k
          obtain ⟨l, ec, hlc⟩ : ∃ l ec, wtrimS (fRaw s k) = (l, ec) := pair_of _
          rw [hlc] at WT0 hO hX
          have WT := hide WT0
          have HO := hide hO
          have HX := hide hX
          have HS6 := hide hS6
          clear hlc WT0 hO hX hS6 g36
          go_upto_region 30 with (go_at_call 56; refine (WT.out _).mono ?_; rintro e w7 ⟨rfl, hb7⟩)
          have hS7 := HS6.out.below hb7
          have HG7 := hide (Blk.below hb7 HG6.out)
          have g37 : w7.cell? ⟨q, 3, none⟩ = some (.pointer (some ⟨b6, 2 + k, none⟩)) := (Blk.below hb7 HF6.out).cells 3
          have cb7 : w7.cell? ⟨b6, 2 + k, none⟩ = some (.string (fTx (dT (dK s k) (trimS (fRaw s k)) k) k)) := (hS7.d6.cells (2 + k)).trans (txt_at _ k hk)
          have fb7 : ∀ o, w7.frozen? ⟨b6, o, none⟩ = false := hS7.d6.free
          have hS8 : DS w s b2 b4 b6 (dK s (k + 1)) (w7.setCell ⟨b6, 2 + k, none⟩ (.string ⟨l.toArray⟩)) := by
            have h := hS7.set _ _ _ (dT_set _ ⟨l.toArray⟩ k hk)
            rw [dT_twice _ _ _ k hk, ← HX.out, dK_next s k hk] at h
            rw [HX.out] at h
            exact h
          have HS8 := hide hS8
          clear hS7 hS8 hb7
          cases hfo : fOkS s k
          case false =>
            have HO2 := hide (show fOkS s (k + 1) = false from by rw [HO.out, hfo]; rfl)
            clear hfo
            go_wp2_with fail
            go_roundw
            case rel => exact ⟨k + 1, by omega, by go_num, by rw [HO2.out], HS8.out, Blk.other hgb HG7.out⟩
            case measure => simp [intOf]; omega
          case true =>
            by_cases he : ec = 0
            · have HO2 := hide (show fOkS s (k + 1) = true from by rw [HO.out, hfo]; simp [he])
              have qe : (ec == 0) = true := by simpa using he
              clear hfo he
              go_wp2_with fail
              go_roundw
              case rel => exact ⟨k + 1, by omega, by go_num, by rw [HO2.out], HS8.out, Blk.other hgb HG7.out⟩
              case measure => simp [intOf]; omega
            · have HO2 := hide (show fOkS s (k + 1) = false from by rw [HO.out, hfo]; simp [he])
              have qe : (ec == 0) = false := by simpa using he
              clear hfo he
              go_wp2_with fail
              go_roundw
              case rel => exact ⟨k + 1, by omega, by go_num, by rw [HO2.out], HS8.out, Blk.other hgb HG7.out⟩
              case measure => simp [intOf]; omega
        case neg =>
          have ek : k = 5 := by omega
          subst ek
          clear hgr
          go_wp2_with fail
          go_meet
          exact ⟨by rw [HW.out], rfl, hSr⟩
  case rest =>
  obtain ⟨rfl, rfl, hS5⟩ := hcut
  clear hS4 hbk hgb
  have z190 : 190 ≤ s.size := by omega
  have z830 : 830 ≤ s.size := by omega
  have hxs : (s.extract 156 190).size = 34 := by rw [ByteArray.size_extract]; omega
  have c1 := hS5.c1
  have DD0 := fun W => dirDec_any (s.extract 156 190) hxs W
  obtain ⟨r, n, er, hr⟩ := triple_of (decR (s.extract 156 190))
  unfold DecP at DD0
  rw [hr] at DD0
  dsimp only at DD0
  have DD := hide DD0
  have RD0 := fun W => rdT_any (s.extract 813 830) W
  obtain ⟨t, z, fr, ht⟩ := trip3 (rdT (s.extract 813 830))
  unfold TimP at RD0
  rw [ht] at RD0
  dsimp only at RD0
  have RD := hide RD0
  have HG := hide (good_of hr ht)
  have HR := hide hr
  have HT := hide ht
  have HS5 := hide hS5
  clear DD0 RD0 hr ht hS5 hxs
  go_upto_region 33 with (first | (go_at_call 57; refine (DD.out _).mono ?_; rintro e w6 ⟨rfl, hb6⟩) | (refine wpList_store_new rfl 25 (.tmp 14) (.tmp 123) rfl r.cells rfl rfl 25 _ (by as_aux_lemma => kernel_rfl) rfl (by as_aux_lemma => kernel_rfl) ?_))
  have hS6 := (HS5.out.below hb6).alloc (.cells r.cells 25)
  have HB14 : Blk (w6.alloc (.cells r.cells 25)) w6.heap.size r.cells 25 := Blk.newAt rfl
  generalize w6.alloc (.cells r.cells 25) = W6 at *
  generalize w6.heap.size = b14 at *
  clear hb6 c1
  have c1 := hS6.c1
  have HS6 := hide hS6
  have HB6 := hide HB14
  clear hS6 HB14 DD HS5
  go_upto_region 34 with (go_at_call 58; refine (RD.out _).mono ?_; rintro e w7 ⟨rfl, hb7⟩)
  have HS7 := hide (HS6.out.below hb7)
  have HB7 := hide (Blk.below hb7 HB6.out)
  clear hb7 c1 HS6 HB6 RD
  go_upto_region 35 with (first | (refine wpList_load_row rfl 25 (.tmp 14) rfl b14 rfl 25 r.cells (0, 0) _ HB7.out Tryz.underlying25 rfl (by as_aux_lemma => kernel_rfl) ?_) | (refine wpList_store_mid rfl 25 (.tmp 136) (.tmp 133) rfl b6 15 r.cells rfl rfl (HS7.out.d6.there (by show 15 + 8 ≤ 23; omega)) (by as_aux_lemma => kernel_rfl) (by as_aux_lemma => kernel_rfl) ?_; obtain ⟨W8, hW8, hS8⟩ : ∃ W8, W8 = w7.setCells b6 15 r.cells.toList ∧ DS w s b2 b4 b6 (sRt (dK s 5) r) W8 := ⟨_, rfl, HS7.out.mid _ 15 _ (pRt _ _)⟩; rw [← hW8]; have f8 : ∀ o, W8.frozen? ⟨b6, o, none⟩ = false := hS8.d6.free; have e9 := hS8.cell 9 (DR.cell_i _).2.2.1; have e10 := hS8.cell 10 (DR.cell_i _).2.2.2.1; have HS8 := hide hS8; clear hW8 hS8))
  have hS9 : DS w s b2 b4 b6 (sZn (sTm (sRt (dK s 5) r) t) z) ((W8.setCell ⟨b6, 9, none⟩ (.int .i64 t)).setCell ⟨b6, 10, none⟩ (.int .i64 z)) := (HS8.out.set _ 9 _ (pTm _ _)).set _ 10 _ (pZn _ _)
  generalize (W8.setCell ⟨b6, 9, none⟩ (.int .i64 t)).setCell ⟨b6, 10, none⟩ (.int .i64 z) = W9 at *
  clear HS7 HB7 HS8 f8 e9 e10
  have c1 := hS9.c1
  have c4 := hS9.c4
  have f9 : ∀ o, W9.frozen? ⟨b6, o, none⟩ = false := hS9.d6.free
  have e7 := hS9.cell 7 (DR.cell_i _).1
  have e8 := hS9.cell 8 (DR.cell_i _).2.1
  have e11 := hS9.cell 11 (DR.cell_i _).2.2.2.2.1
  have L80 : Hid (∀ W : World, W.cell? ⟨w.heap.size, 0, none⟩ = some (.string s) → W.cell? ⟨b4, 0, none⟩ = some (.func (.func 51) #[] #[.pointer (some ⟨w.heap.size, 0, none⟩)]) → Calls Tryz.prog 52 #[.int .i64 80, .int .i64 4, .pointer (some ⟨b4, 0, none⟩)] W fun e w' => e = .returned (.int .i64 (le4 s 80)) ∧ W = w') := hide (fun W h1 h4 => lit4 s w.heap.size b4 80 hsz W h1 h4 (by omega))
  have L120 : Hid (∀ W : World, W.cell? ⟨w.heap.size, 0, none⟩ = some (.string s) → W.cell? ⟨b4, 0, none⟩ = some (.func (.func 51) #[] #[.pointer (some ⟨w.heap.size, 0, none⟩)]) → Calls Tryz.prog 52 #[.int .i64 120, .int .i64 2, .pointer (some ⟨b4, 0, none⟩)] W fun e w' => e = .returned (.int .i64 (le2 s 120)) ∧ W = w') := hide (fun W h1 h4 => lit2 s w.heap.size b4 120 hsz W h1 h4 (by omega))
  have L124 : Hid (∀ W : World, W.cell? ⟨w.heap.size, 0, none⟩ = some (.string s) → W.cell? ⟨b4, 0, none⟩ = some (.func (.func 51) #[] #[.pointer (some ⟨w.heap.size, 0, none⟩)]) → Calls Tryz.prog 52 #[.int .i64 124, .int .i64 2, .pointer (some ⟨b4, 0, none⟩)] W fun e w' => e = .returned (.int .i64 (le2 s 124)) ∧ W = w') := hide (fun W h1 h4 => lit2 s w.heap.size b4 124 hsz W h1 h4 (by omega))
  have HS9 := hide hS9
  clear hS9
  go_upto_region 36 with (first | (go_at_call 52; (with_reducible refine (L80.out _ (by assumption) (by assumption)).mono ?_); rintro e w' ⟨rfl, rfl⟩) | (go_at_call 52; (with_reducible refine (L120.out _ (by assumption) (by assumption)).mono ?_); rintro e w' ⟨rfl, rfl⟩) | (go_at_call 52; (with_reducible refine (L124.out _ (by assumption) (by assumption)).mono ?_); rintro e w' ⟨rfl, rfl⟩))
  rename_i K36 hK36
  have hS10 : DS w s b2 b4 b6 (sNu (sDi (sSp (sZn (sTm (sRt (dK s 5) r) t) z) (le4 s 80)) (le2 s 120)) (le2 s 124)) (((W9.setCell ⟨b6, 11, none⟩ (.int .i64 (le4 s 80))).setCell ⟨b6, 8, none⟩ (.int .i64 (le2 s 120))).setCell ⟨b6, 7, none⟩ (.int .i64 (le2 s 124))) := ((HS9.out.set _ 11 _ (pSp _ _)).set _ 8 _ (pDi _ _)).set _ 7 _ (pNu _ _)
  generalize ((W9.setCell ⟨b6, 11, none⟩ (.int .i64 (le4 s 80))).setCell ⟨b6, 8, none⟩ (.int .i64 (le2 s 120))).setCell ⟨b6, 7, none⟩ (.int .i64 (le2 s 124)) = W10 at *
  clear HS9 c1 c4 f9 e7 e8 e11 L80 L120 L124
  have c1 := hS10.c1
  have c4 := hS10.c4
  have M132 : Hid (∀ W : World, W.cell? ⟨w.heap.size, 0, none⟩ = some (.string s) → W.cell? ⟨b4, 0, none⟩ = some (.func (.func 51) #[] #[.pointer (some ⟨w.heap.size, 0, none⟩)]) → Calls Tryz.prog 52 #[.int .i64 132, .int .i64 4, .pointer (some ⟨b4, 0, none⟩)] W fun e w' => e = .returned (.int .i64 (le4 s 132)) ∧ W = w') := hide (fun W h1 h4 => lit4 s w.heap.size b4 132 hsz W h1 h4 (by omega))
  have M140 : Hid (∀ W : World, W.cell? ⟨w.heap.size, 0, none⟩ = some (.string s) → W.cell? ⟨b4, 0, none⟩ = some (.func (.func 51) #[] #[.pointer (some ⟨w.heap.size, 0, none⟩)]) → Calls Tryz.prog 52 #[.int .i64 140, .int .i64 4, .pointer (some ⟨b4, 0, none⟩)] W fun e w' => e = .returned (.int .i64 (le4 s 140)) ∧ W = w') := hide (fun W h1 h4 => lit4 s w.heap.size b4 140 hsz W h1 h4 (by omega))
  have M148 : Hid (∀ W : World, W.cell? ⟨w.heap.size, 0, none⟩ = some (.string s) → Calls Tryz.prog 51 #[.int .i64 148, .int .i64 4, .func (.func 59) #[] #[], .pointer (some ⟨w.heap.size, 0, none⟩)] W fun e w' => e = .returned (.int .i64 (be4 s 148)) ∧ Below W.heap.size W w') := hide (fun W h1 => numB4 s w.heap.size 148 hsz W h1 (by omega))
  have c1d := hS10.drew.c1
  have c4d := hS10.drew.c4
  have HS10 := hide hS10
  clear hS10
  refine wp_region_noPanic ?_
  refine wp_region_held_drew (S := (fun x => x.cell? ⟨w.heap.size, 0, none⟩ = some (.string s) ∧ x.cell? ⟨b4, 0, none⟩ = some (.func (.func 51) #[] #[.pointer (some ⟨w.heap.size, 0, none⟩)]))) (by kernel_rfl) kp (fun hHeld => ?_)
  refine tkY 0 ⟨some 151, .move (.tmp 5), 77, "volumedesc.go:188", #[], none⟩ ?_ ?_ ?_
  rotate_left
  · intro w hSw; (try dsimp only at hSw); go_simp; (try with_reducible rfl)
  try simp only [PT]
  refine tkY 2 ⟨some 153, .move (.tmp 5), 77, "volumedesc.go:188", #[], none⟩ ?_ ?_ ?_
  rotate_left
  · intro w hSw; (try dsimp only at hSw); go_simp; (try with_reducible rfl)
  try simp only [PT]
  refine tkY 4 ⟨some 155, .load 76 (.tmp 4), 76, "volumedesc.go:188", #[], none⟩ ?_ ?_ ?_
  rotate_left
  · intro w hSw; (try dsimp only at hSw); go_simp; (try with_reducible rfl)
  try simp only [PT]
  refine wpAnyH_ready (rs := [1]) (by kernel_rfl) (by simp) ?_
  refine AllReadyH.cons (o := ⟨some 152, .call ⟨.value (.tmp 151), #[.const (.int .i64 132), .const (.int .i64 4)], #[3, 3]⟩, 3, "volumedesc.go:188", #[⟨0, .data⟩], none⟩) rfl (fun K hK => ?_) AllReadyH.nil
  go_simp
  (first | (go_at_call 52; (with_reducible refine (M132.out _ (by assumption) (by assumption)).mono ?_); rintro e w' ⟨rfl, rfl⟩) | (go_at_call 52; (with_reducible refine (M140.out _ (by assumption) (by assumption)).mono ?_); rintro e w' ⟨rfl, rfl⟩) | (go_at_call 51; (with_reducible refine (M148.out _ (by assumption)).mono ?_); rintro e w8 ⟨rfl, hb8⟩; have hS11 := HS10.out.drew.below hb8; have d1 := hS11.c1; have d4 := hS11.c4; have f11 : ∀ o, w8.frozen? ⟨b6, o, none⟩ = false := hS11.d6.free; have e12 := hS11.cell 12 (DR.cell_i _).2.2.2.2.2.1; have e13 := hS11.cell 13 (DR.cell_i _).2.2.2.2.2.2.1; have e14 := hS11.cell 14 (DR.cell_i _).2.2.2.2.2.2.2; have hkeep : w8.cell? ⟨w.heap.size, 0, none⟩ = some (.string s) ∧ w8.cell? ⟨b4, 0, none⟩ = some (.func (.func 51) #[] #[.pointer (some ⟨w.heap.size, 0, none⟩)]) := ⟨d1, d4⟩))
  go_wp2_with fail
  refine hK.out _ _ kp (fun hHeld => ?_)
  clear hK K
  try simp only [PT]
  refine wpAnyH_ready (rs := [3]) (by kernel_rfl) (by simp) ?_
  refine AllReadyH.cons (o := ⟨some 154, .call ⟨.value (.tmp 153), #[.const (.int .i64 140), .const (.int .i64 4)], #[3, 3]⟩, 3, "volumedesc.go:188", #[⟨2, .data⟩, ⟨1, .chain⟩], none⟩) rfl (fun K hK => ?_) AllReadyH.nil
  go_simp
  (first | (go_at_call 52; (with_reducible refine (M132.out _ (by assumption) (by assumption)).mono ?_); rintro e w' ⟨rfl, rfl⟩) | (go_at_call 52; (with_reducible refine (M140.out _ (by assumption) (by assumption)).mono ?_); rintro e w' ⟨rfl, rfl⟩) | (go_at_call 51; (with_reducible refine (M148.out _ (by assumption)).mono ?_); rintro e w8 ⟨rfl, hb8⟩; have hS11 := HS10.out.drew.below hb8; have d1 := hS11.c1; have d4 := hS11.c4; have f11 : ∀ o, w8.frozen? ⟨b6, o, none⟩ = false := hS11.d6.free; have e12 := hS11.cell 12 (DR.cell_i _).2.2.2.2.2.1; have e13 := hS11.cell 13 (DR.cell_i _).2.2.2.2.2.2.1; have e14 := hS11.cell 14 (DR.cell_i _).2.2.2.2.2.2.2; have hkeep : w8.cell? ⟨w.heap.size, 0, none⟩ = some (.string s) ∧ w8.cell? ⟨b4, 0, none⟩ = some (.func (.func 51) #[] #[.pointer (some ⟨w.heap.size, 0, none⟩)]) := ⟨d1, d4⟩))
  go_wp2_with fail
  refine hK.out _ _ kp (fun hHeld => ?_)
  clear hK K
  try simp only [PT]
  refine wpAnyH_ready (rs := [5]) (by kernel_rfl) (by simp) ?_
  refine AllReadyH.cons (o := ⟨some 156, .call ⟨.value (.tmp 155), #[.const (.int .i64 148), .const (.int .i64 4), .func 59], #[3, 3, 74]⟩, 3, "volumedesc.go:188", #[⟨4, .data⟩, ⟨3, .chain⟩], none⟩) rfl (fun K hK => ?_) AllReadyH.nil
  go_simp
  (first | (go_at_call 52; (with_reducible refine (M132.out _ (by assumption) (by assumption)).mono ?_); rintro e w' ⟨rfl, rfl⟩) | (go_at_call 52; (with_reducible refine (M140.out _ (by assumption) (by assumption)).mono ?_); rintro e w' ⟨rfl, rfl⟩) | (go_at_call 51; (with_reducible refine (M148.out _ (by assumption)).mono ?_); rintro e w8 ⟨rfl, hb8⟩; have hS11 := HS10.out.drew.below hb8; have d1 := hS11.c1; have d4 := hS11.c4; have f11 : ∀ o, w8.frozen? ⟨b6, o, none⟩ = false := hS11.d6.free; have e12 := hS11.cell 12 (DR.cell_i _).2.2.2.2.2.1; have e13 := hS11.cell 13 (DR.cell_i _).2.2.2.2.2.2.1; have e14 := hS11.cell 14 (DR.cell_i _).2.2.2.2.2.2.2; have hkeep : w8.cell? ⟨w.heap.size, 0, none⟩ = some (.string s) ∧ w8.cell? ⟨b4, 0, none⟩ = some (.func (.func 51) #[] #[.pointer (some ⟨w.heap.size, 0, none⟩)]) := ⟨d1, d4⟩))
  go_wp2_with fail
  refine hK.out _ _ kp (fun hHeld => ?_)
  clear hK K
  try simp only [PT]
  refine tkY 6 ⟨some 157, .fieldAddr 27 (.tmp 6) 5, 0, "volumedesc.go:188", #[⟨0, .phase⟩, ⟨1, .phase⟩, ⟨2, .textOnly .lateStores⟩, ⟨3, .phase⟩, ⟨4, .textOnly .lateStores⟩, ⟨5, .phase⟩], none⟩ ?_ ?_ ?_
  rotate_left
  · intro w hSw; (try dsimp only at hSw); go_simp; (try with_reducible rfl)
  try simp only [PT]
  refine wpAnyH_ready (rs := [7]) (by kernel_rfl) (by simp) ?_
  refine AllReadyH.cons (o := ⟨none, .store 3 (.tmp 157) (.tmp 152), 0, "volumedesc.go:188", #[⟨6, .data⟩, ⟨1, .data⟩, ⟨5, .chain⟩, ⟨0, .phase⟩, ⟨1, .phase⟩, ⟨2, .textOnly .lateStores⟩, ⟨3, .phase⟩, ⟨4, .textOnly .lateStores⟩, ⟨5, .phase⟩], none⟩) rfl (fun K hK => ?_) AllReadyH.nil
  go_simp
  refine hK.out _ _ kp (fun hHeld => ?_)
  clear hK K
  try simp only [PT]
  refine tkY 8 ⟨some 158, .fieldAddr 27 (.tmp 6) 6, 0, "volumedesc.go:188", #[⟨0, .phase⟩, ⟨1, .phase⟩, ⟨2, .phase⟩, ⟨3, .phase⟩, ⟨4, .textOnly .lateStores⟩, ⟨5, .phase⟩, ⟨6, .phase⟩, ⟨7, .phase⟩], none⟩ ?_ ?_ ?_
  rotate_left
  · intro w hSw; (try dsimp only at hSw); go_simp; (try with_reducible rfl)
  try simp only [PT]
  refine wpAnyH_ready (rs := [9]) (by kernel_rfl) (by simp) ?_
  refine AllReadyH.cons (o := ⟨none, .store 3 (.tmp 158) (.tmp 154), 0, "volumedesc.go:188", #[⟨8, .data⟩, ⟨3, .data⟩, ⟨7, .chain⟩, ⟨0, .phase⟩, ⟨1, .phase⟩, ⟨2, .phase⟩, ⟨3, .phase⟩, ⟨4, .textOnly .lateStores⟩, ⟨5, .phase⟩, ⟨6, .phase⟩, ⟨7, .phase⟩], none⟩) rfl (fun K hK => ?_) AllReadyH.nil
  go_simp
  refine hK.out _ _ kp (fun hHeld => ?_)
  clear hK K
  try simp only [PT]
  refine tkY 10 ⟨some 159, .fieldAddr 27 (.tmp 6) 7, 0, "volumedesc.go:188", #[⟨0, .phase⟩, ⟨1, .phase⟩, ⟨2, .phase⟩, ⟨3, .phase⟩, ⟨4, .phase⟩, ⟨5, .phase⟩, ⟨6, .phase⟩, ⟨7, .phase⟩, ⟨8, .phase⟩, ⟨9, .phase⟩], none⟩ ?_ ?_ ?_
  rotate_left
  · intro w hSw; (try dsimp only at hSw); go_simp; (try with_reducible rfl)
  try simp only [PT]
  refine wpAnyH_ready (rs := [11]) (by kernel_rfl) (by simp) ?_
  refine AllReadyH.cons (o := ⟨none, .store 3 (.tmp 159) (.tmp 156), 0, "volumedesc.go:188", #[⟨10, .data⟩, ⟨5, .data⟩, ⟨9, .chain⟩, ⟨0, .phase⟩, ⟨1, .phase⟩, ⟨2, .phase⟩, ⟨3, .phase⟩, ⟨4, .phase⟩, ⟨5, .phase⟩, ⟨6, .phase⟩, ⟨7, .phase⟩, ⟨8, .phase⟩, ⟨9, .phase⟩], none⟩) rfl (fun K hK => ?_) AllReadyH.nil
  go_simp
  refine hK.out _ _ kp (fun hHeld => ?_)
  clear hK K
  try simp only [PT]
  refine wpAnyH_done (by kernel_rfl) ?_ _
  refine NoPanic.normal ?_
  have hS12 := ((hS11.set _ 12 _ (pPs _ (le4 s 132))).set _ 13 _ (pPl _ (le4 s 140))).set _ 14 _ (pPm _ (be4 s 148))
  rw [body_all HR.out HT.out] at hS12
  generalize ((w8.setCell ⟨b6, 12, none⟩ (.int .i64 (le4 s 132))).setCell ⟨b6, 13, none⟩ (.int .i64 (le4 s 140))).setCell ⟨b6, 14, none⟩ (.int .i64 (be4 s 148)) = W12 at *
  have HS12 := hide hS12
  clear hS12 hS11 HS10 hb8 d1 d4 c1 c4 c1d c4d f11 e12 e13 e14 hkeep M132 M140 M148 HR HT
  show K36 _ _
  refine hK36 _ _ ?_
  exact dec_tail hT HS12 HG HSUP
end Go.Proofs.YtjbhokmkmapkoaaGreatDoor
