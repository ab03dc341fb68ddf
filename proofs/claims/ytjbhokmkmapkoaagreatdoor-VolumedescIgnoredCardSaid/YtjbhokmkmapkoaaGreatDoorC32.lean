/- Contracts and plain words for the laws of volume descriptors, part 32: T6, Y4, B9. No condition. -/
import Derived.Test.YtjbhokmkmapkoaaGreatDoorC30
import Derived.Test.YtjbhokmkmapkoaaGreatDoorC31
import Derived.Test.YtjbhokmkmapkoaaGreatDoorC29
import Derived.Test.YtjbhokmkmapkoaaGreatDoorC27
namespace Go.Proofs.YtjbhokmkmapkoaaGreatDoor
set_option linter.unusedSimpArgs false
set_option linter.unusedVariables false
open Go.RowKit
open Go.PlainAid (bt get_bt bt_nonneg bt_le bt_end)
set_option maxRecDepth 100000 in
set_option maxHeartbeats 8000000 in
theorem rdec_sup (s : ByteArray) (hsz : s.size = 2048) (hst : s.extract 1 7 = stdS) (h12 : bt s 0 = 1 ∨ bt s 0 = 2) (w : World) : Calls Tryz.prog 18 #[.string s] w (DecDP s w) := by
  have q : ((s.size : Int) != 2048) = false := by simp; omega
  have z1 : (s.size : Int) = 2048 := by omega
  have z3 : 7 ≤ s.size := by omega
  have HST := hide hst
  have hst2 : s.extract 1 7 = ⟨#[67, 68, 48, 48, 49, 1]⟩ := hst
  clear hst
  have H12 := hide h12
  have HT3 := hide (show bt s 0 ≠ 255 from by omega)
  have T0 := hide (show bt s 0 ≠ 0 from by omega)
  have HSZ := hide hsz
  clear h12
  have HL : Live w [] := trivial
  go_enter Tryz.func18, Tryz.ntmps18
  go_upto_region 1 with fail
  have hB0 : Blk (w.alloc (.cells #[.int .i64 0, .int .i64 0, .string ⟨#[]⟩, .string ⟨#[]⟩, .string ⟨#[]⟩, .string ⟨#[]⟩, .string ⟨#[]⟩, .int .i64 0, .int .i64 0, .int .i64 0, .int .i64 0, .int .i64 0, .int .i64 0, .int .i64 0, .int .i64 0, .string ⟨#[]⟩, .int .i64 0, .int .i64 0, .int .i64 0, .int .i64 0, .int .i64 0, .int .i64 0, .string ⟨#[]⟩] 27)) w.heap.size DR.zero.cells 27 := Blk.newAt rfl
  have hbel0 : Below w.heap.size w (w.alloc (.cells #[.int .i64 0, .int .i64 0, .string ⟨#[]⟩, .string ⟨#[]⟩, .string ⟨#[]⟩, .string ⟨#[]⟩, .string ⟨#[]⟩, .int .i64 0, .int .i64 0, .int .i64 0, .int .i64 0, .int .i64 0, .int .i64 0, .int .i64 0, .int .i64 0, .string ⟨#[]⟩, .int .i64 0, .int .i64 0, .int .i64 0, .int .i64 0, .int .i64 0, .int .i64 0, .string ⟨#[]⟩] 27)) := by (exact bl)
  generalize w.alloc (.cells #[.int .i64 0, .int .i64 0, .string ⟨#[]⟩, .string ⟨#[]⟩, .string ⟨#[]⟩, .string ⟨#[]⟩, .string ⟨#[]⟩, .int .i64 0, .int .i64 0, .int .i64 0, .int .i64 0, .int .i64 0, .int .i64 0, .int .i64 0, .int .i64 0, .string ⟨#[]⟩, .int .i64 0, .int .i64 0, .int .i64 0, .int .i64 0, .int .i64 0, .int .i64 0, .string ⟨#[]⟩] 27) = W0 at *
  obtain ⟨b2, eb2⟩ : ∃ b2, b2 = w.heap.size := ⟨_, rfl⟩
  rw [← eb2] at hB0 ⊢
  have l1 : w.heap.size ≤ b2 := by omega
  clear eb2
  go_upto_region 2 with (refine wpList_store_new rfl 27 (.tmp 4) (.tmp 23) rfl #[.int .i64 0, .int .i64 0, .string ⟨#[]⟩, .string ⟨#[]⟩, .string ⟨#[]⟩, .string ⟨#[]⟩, .string ⟨#[]⟩, .int .i64 0, .int .i64 0, .int .i64 0, .int .i64 0, .int .i64 0, .int .i64 0, .int .i64 0, .int .i64 0, .string ⟨#[]⟩, .int .i64 0, .int .i64 0, .int .i64 0, .int .i64 0, .int .i64 0, .int .i64 0, .string ⟨#[]⟩] rfl rfl 27 _ (by as_aux_lemma => kernel_rfl) rfl (by as_aux_lemma => kernel_rfl) ?_)
  have hB2 : Blk (W0.alloc (.cells #[.int .i64 0, .int .i64 0, .string ⟨#[]⟩, .string ⟨#[]⟩, .string ⟨#[]⟩, .string ⟨#[]⟩, .string ⟨#[]⟩, .int .i64 0, .int .i64 0, .int .i64 0, .int .i64 0, .int .i64 0, .int .i64 0, .int .i64 0, .int .i64 0, .string ⟨#[]⟩, .int .i64 0, .int .i64 0, .int .i64 0, .int .i64 0, .int .i64 0, .int .i64 0, .string ⟨#[]⟩] 27)) b2 DR.zero.cells 27 := hB0.alloc _
  have hB4 : Blk (W0.alloc (.cells #[.int .i64 0, .int .i64 0, .string ⟨#[]⟩, .string ⟨#[]⟩, .string ⟨#[]⟩, .string ⟨#[]⟩, .string ⟨#[]⟩, .int .i64 0, .int .i64 0, .int .i64 0, .int .i64 0, .int .i64 0, .int .i64 0, .int .i64 0, .int .i64 0, .string ⟨#[]⟩, .int .i64 0, .int .i64 0, .int .i64 0, .int .i64 0, .int .i64 0, .int .i64 0, .string ⟨#[]⟩] 27)) W0.heap.size DR.zero.cells 27 := Blk.newAt rfl
  have hbel1 : Below w.heap.size w (W0.alloc (.cells #[.int .i64 0, .int .i64 0, .string ⟨#[]⟩, .string ⟨#[]⟩, .string ⟨#[]⟩, .string ⟨#[]⟩, .string ⟨#[]⟩, .int .i64 0, .int .i64 0, .int .i64 0, .int .i64 0, .int .i64 0, .int .i64 0, .int .i64 0, .int .i64 0, .string ⟨#[]⟩, .int .i64 0, .int .i64 0, .int .i64 0, .int .i64 0, .int .i64 0, .int .i64 0, .string ⟨#[]⟩] 27)) := hbel0.alloc hbel0.size _
  have l2 : b2 < W0.heap.size := hB0.lt
  generalize W0.alloc (.cells #[.int .i64 0, .int .i64 0, .string ⟨#[]⟩, .string ⟨#[]⟩, .string ⟨#[]⟩, .string ⟨#[]⟩, .string ⟨#[]⟩, .int .i64 0, .int .i64 0, .int .i64 0, .int .i64 0, .int .i64 0, .int .i64 0, .int .i64 0, .int .i64 0, .string ⟨#[]⟩, .int .i64 0, .int .i64 0, .int .i64 0, .int .i64 0, .int .i64 0, .int .i64 0, .string ⟨#[]⟩] 27) = W1 at *
  generalize W0.heap.size = b4 at *
  have hbZ := below_setRow' hbel1 l1 DR.zero.cells
  have HZ := hide (show Blk (W1.setRow b2 DR.zero.cells) b2 DR.zero.cells 27 from hB2.setRow)
  clear hB0 hbel0
  have hbb := get_bt s
  have n0 : 0 < s.size := by omega
  have i0 : (0 : Int) < (s.size : Int) := by omega
  have b0 := bt_nonneg s 0
  have b1 := bt_le s 0
  have w0 : IntKind.i64.wrap (bt s 0) = bt s 0 := IntWalk.i64_in _ (by omega)
  go_upto_region 7 with (refine wpList_store_new rfl 27 (.tmp 5) (.tmp 35) rfl (dTy (bt s 0) : DR).cells rfl rfl 27 _ (info27 _) (siz27 _) (one27 _) ?_)
  have hB5 : Blk (W1.alloc (.cells (dTy (bt s 0)).cells 27)) W1.heap.size (dTy (bt s 0)).cells 27 := Blk.newAt rfl
  have hS : RS w b2 b4 W1.heap.size (dTy (bt s 0)) (W1.alloc (.cells (dTy (bt s 0)).cells 27)) := ⟨hbel1.alloc hbel1.size _, hB2.alloc _, hB4.alloc _, hB5, l1, l2, hB4.lt⟩
  clear hB5
  generalize W1.alloc (.cells (dTy (bt s 0)).cells 27) = W2 at *
  generalize W1.heap.size = b5 at *
  have HS := hide hS
  have c50 : W2.cell? ⟨b5, 0, none⟩ = some (.int .i64 (bt s 0)) := hS.d5.cells 0
  have c51 : W2.cell? ⟨b5, 1, none⟩ = some (.int .i64 0) := hS.d5.cells 1
  have f5 : ∀ o, W2.frozen? ⟨b5, o, none⟩ = false := hS.d5.free
  clear hB2 hB4 hbel1 hbZ HZ l1 l2 w0 n0 i0 z1 z3 q hst2
  have HZ := hide (show Blk (W2.setRow b2 DR.zero.cells) b2 DR.zero.cells 27 from hS.r2.setRow)
  have hbZ := below_setRow' hS.bel hS.l1 DR.zero.cells
  go_upto_block 0 with fail
  have q3 : (bt s 0 == 255) = false := by simpa using HT3.out
  have q0 : (bt s 0 == 0) = false := by simpa using T0.out
  go_cut [] (fun wx => W2 = wx)
  case first =>
    rcases H12.out with h | h
    · have q1 : (bt s 0 == 1) = true := by rw [h]; rfl
      clear h
      go_wp2_with fail
      go_meet
      rfl
    · have q1 : (bt s 0 == 1) = false := by rw [h]; rfl
      have q2 : (bt s 0 == 2) = true := by rw [h]; rfl
      clear h
      go_wp2_with fail
      go_meet
      rfl
  case rest =>
  obtain rfl := hcut
  rename_i K18 hK18
  refine hK18 _ _ ?_
  exact rdec_t18 hsz HST H12 HT3 T0 HS
/-- The reference's Decode. -/
theorem rdec_any (s : ByteArray) (h100 : s.size ≤ 100000) (w : World) : Calls Tryz.prog 18 #[.string s] w (DecDP s w) := by
  by_cases h : s.size = 2048 ∧ s.extract 1 7 = stdS ∧ (bt s 0 = 1 ∨ bt s 0 = 2)
  · exact rdec_sup s h.1 h.2.1 h.2.2 w
  · exact rdec_early s h100 h w
end Go.Proofs.YtjbhokmkmapkoaaGreatDoor
namespace Go.Proofs.YtjbhokmkmapkoaaGreatDoor
set_option linter.unusedSimpArgs false
set_option linter.unusedVariables false
open Go.RowKit
open Go.PlainAid (bt get_bt bt_nonneg bt_le bt_end)
/-- The answer of Block. -/
def BlkP (img : List ByteArray) (n : Int) (x : ByteArray) (b : Bool) : Prop := (b = false ∧ x = ⟨#[]⟩ ∧ (n < 0 ∨ (img.length : Int) ≤ n ∨ ∃ (m : Nat) (y : ByteArray), n = (m : Int) ∧ img[m]? = some y ∧ y.size ≠ 2048)) ∨ (b = true ∧ ∃ m : Nat, n = (m : Int) ∧ img[m]? = some x ∧ x.size = 2048)
set_option maxRecDepth 100000 in
set_option maxHeartbeats 4000000 in
theorem rblk_any (img : List ByteArray) (n : Int) (a : Value) (hL : img.length ≤ maxLen) (w : World) (ha : ReadsS w a img) : ∃ x b, BlkP img n x b ∧ Calls Tryz.prog 67 #[a, .int .i64 n] w fun e w' => e = .returned (.tuple #[.string x, .bool b]) ∧ w = w' := by
  unfold maxLen at hL
  obtain ⟨A, c, rfl, hA⟩ := ha
  by_cases hn : n < 0
  · refine ⟨⟨#[]⟩, false, Or.inl ⟨rfl, rfl, Or.inl hn⟩, ?_⟩
    clear hA
    have HL : Live w [] := trivial
    go_enter Tryz.func67, Tryz.ntmps67
    go_wp2_with fail
    go_ret2
    exact ⟨rfl, rfl⟩
  by_cases hl : (img.length : Int) ≤ n
  · refine ⟨⟨#[]⟩, false, Or.inl ⟨rfl, rfl, Or.inr (Or.inl hl)⟩, ?_⟩
    clear hA
    have HL : Live w [] := trivial
    go_enter Tryz.func67, Tryz.ntmps67
    go_wp2_with fail
    go_ret2
    exact ⟨rfl, rfl⟩
  obtain ⟨m, rfl⟩ : ∃ m : Nat, n = (m : Int) := ⟨n.toNat, by omega⟩
  have hml : m < img.length := by omega
  obtain ⟨x, hx⟩ : ∃ x, img[m]? = some x := ⟨_, List.getElem?_eq_getElem hml⟩
  obtain ⟨g, o, rfl, hg, hc⟩ := hA (by omega)
  have c0 : w.cell? ⟨g, o + m, none⟩ = some (.string x) := hc _ _ hx
  by_cases h1 : x.size = 2048
  · have q1 : ((x.size : Int) != 2048) = false := by simp; omega
    refine ⟨x, true, Or.inr ⟨rfl, m, rfl, hx, h1⟩, ?_⟩
    clear hc hx h1
    have HL : Live w [] := trivial
    go_enter Tryz.func67, Tryz.ntmps67
    go_wp2_with fail
    go_ret2
    exact ⟨rfl, rfl⟩
  · have q1 : ((x.size : Int) != 2048) = true := by simp; omega
    refine ⟨⟨#[]⟩, false, Or.inl ⟨rfl, rfl, Or.inr (Or.inr ⟨m, x, rfl, hx, h1⟩)⟩, ?_⟩
    clear hc hx h1
    have HL : Live w [] := trivial
    go_enter Tryz.func67, Tryz.ntmps67
    go_wp2_with fail
    go_ret2
    exact ⟨rfl, rfl⟩
set_option maxRecDepth 100000 in
set_option maxHeartbeats 8000000 in
theorem rread_any (img : List ByteArray) (st : Int) (a : Value) (hL : img.length ≤ maxLen) (hst : -9223372036854775808 ≤ st ∧ st ≤ 1099511627776) (w : World) (ha : ReadsS w a img) : Calls Tryz.prog 24 #[a, .int .i64 st] w (ReadP (readA img st) w) := by
  have HAs := hide ha
  have HLn := hide hL
  unfold maxLen at hL
  obtain ⟨A, c, rfl, hA⟩ := ha
  clear hA
  have w16 : IntKind.i64.wrap (st + 16) = st + 16 := IntWalk.i64_in _ (by omega)
  have HL : Live w [] := trivial
  go_enter Tryz.func24, Tryz.ntmps24
  go_wp2_with fail
  go_loopw [8, 7] (fun i o wr => ∃ (k : Nat) (out : List DR), k ≤ 64 ∧ i = .int .i64 k ∧ out.length ≤ k ∧ OwnD w.heap.size out o wr ∧ readA img st = readL img st (64 - k) k out ∧ Below w.heap.size w wr) (fun i _ _ => 64 - (intOf i).toNat)
  case atStart => exact ⟨0, [], by omega, rfl, by simp, OwnD.nil _ _, rfl, Below.refl _ _⟩
  case round =>
    obtain ⟨k, out, hk, rfl, hol, hown, heq, hbel⟩ := hrel
    have HO := hide hown
    have HE := hide heq
    have hsz := hbel.size
    clear hown heq
    by_cases hlt : k < 64
    case neg =>
      obtain rfl : k = 64 := by omega
      have hE := hide (show readA img st = ([], st + 16 + 64, 13) from HE.out)
      have w80 : IntKind.i64.wrap (st + 80) = st + 16 + 64 := by rw [IntWalk.i64_in _ (by omega)]; omega
      go_wp2_with fail
      ((try simp only [Exit.inBlock, Exit.then]); refine bodyPost_ret (by simp only [results, Tryz.results24]; go_simp; try rfl) rfl ?_)
      exact ReadP.mk hE.out (OwnD.nil _ _) hbel
    case pos =>
    have hk1 : 64 - k = (63 - k) + 1 := by omega
    obtain ⟨n, hn⟩ : ∃ n, st + 16 + (k : Int) = n := ⟨_, rfl⟩
    have wk : IntKind.i64.wrap (st + 16 + (k : Int)) = n := by rw [hn]; exact IntWalk.i64_in _ (by omega)
    obtain ⟨x, b, hBP, BC0⟩ := rblk_any img n (.slice A img.length c) HLn.out wr (HAs.out.below hbel)
    have BC := hide BC0
    have HN := hide hn
    clear BC0 hn
    cases b
    case false =>
      have hE0 : readA img st = ([], n, 9) := by
        rw [HE.out, hk1]
        rcases hBP with ⟨_, _, h⟩ | ⟨h, _⟩
        · rcases h with h | h | ⟨m, y, hm, hy, h⟩
          · rw [readL_out (Or.inl (by rw [HN.out]; exact h)), HN.out]
          · rw [readL_out (Or.inr (by rw [HN.out]; exact h)), HN.out]
          · rw [readL_short (HN.out.trans hm) hy h, hm]
        · cases h
      have hE := hide hE0
      clear hE0 hBP
      go_wp2_with (go_at_call 67; refine BC.out.mono ?_; rintro e w1 ⟨rfl, rfl⟩)
      ((try simp only [Exit.inBlock, Exit.then]); refine bodyPost_ret (by simp only [results, Tryz.results24]; go_simp; try rfl) rfl ?_)
      exact ReadP.mk hE.out (OwnD.nil _ _) hbel
    case true =>
    obtain ⟨m, hm, hx, h1⟩ : ∃ m : Nat, n = (m : Int) ∧ img[m]? = some x ∧ x.size = 2048 := by
      rcases hBP with ⟨h, _⟩ | ⟨_, h⟩
      · cases h
      · exact h
    clear hBP
    have DE0 := fun W => rdec_any x (by omega) W
    obtain ⟨d, e, hd⟩ := pair_d (decD x)
    unfold DecDP at DE0
    rw [hd] at DE0
    dsimp only at DE0
    have DE := hide DE0
    have hstep := readL_step (k := 63 - k) (out := out) (HN.out.trans hm) hx h1 hd
    rw [← hm] at hstep
    have hE1 := HE.out
    rw [hk1, hstep] at hE1
    have HE1 := hide hE1
    clear DE0 hd hstep hE1 h1 hm hx
    go_upto_region 10 with (first | (go_at_call 67; refine BC.out.mono ?_; rintro e w1 ⟨rfl, rfl⟩) | (go_at_call 18; refine (DE.out _).mono ?_; rintro e w1 ⟨rfl, hb1⟩) | (refine wpList_store_new rfl 27 (.tmp 12) (.tmp 34) rfl d.cells rfl rfl 27 _ (info27 _) (siz27 _) (one27 _) ?_))
    have HB := hide (show Blk (w1.alloc (.cells d.cells 27)) w1.heap.size d.cells 27 from Blk.newAt rfl)
    have hbel1 : Below w.heap.size w (w1.alloc (.cells d.cells 27)) := (hbel.trans (hb1.mono hsz)).alloc (hbel.trans (hb1.mono hsz)).size _
    have HO1 := hide (show OwnD w.heap.size out _ (w1.alloc (.cells d.cells 27)) from World.ownsRow.alloc (OwnD.below HO.out hb1) _)
    have hsz1 := hbel1.size
    generalize w1.alloc (.cells d.cells 27) = W1 at *
    generalize w1.heap.size = b at *
    have cb : W1.cell? ⟨b, 0, none⟩ = some (.int .i64 d.typ) := HB.out.cells 0
    clear hb1 HO DE BC
    by_cases e14 : e = 14
    · have q2 : (e == 14) = true := by simpa using e14
      have hE := hide (show readA img st = readL img st (64 - (k + 1)) (k + 1) out from by rw [HE1.out, if_pos e14, show 64 - (k + 1) = 63 - k by omega])
      clear e14
      go_wp2_with fail
      go_roundw
      case rel => exact ⟨k + 1, out, by omega, by go_num, by omega, HO1.out, hE.out, hbel1⟩
      case measure => simp [intOf]; omega
    have q2 : (e == 14) = false := by simpa using e14
    by_cases e0 : e = 0
    case neg =>
      have q3 : (e != 0) = true := by simpa using e0
      have hE := hide (show readA img st = ([], n, e) from by rw [HE1.out, if_neg e14, if_pos e0])
      clear e14 e0
      go_wp2_with fail
      ((try simp only [Exit.inBlock, Exit.then]); refine bodyPost_ret (by simp only [results, Tryz.results24]; go_simp; try rfl) rfl ?_)
      exact ReadP.mk hE.out (OwnD.nil _ _) hbel1
    case pos =>
    have q3 : (e != 0) = false := by simpa using e0
    by_cases et : d.typ = 255
    · have q4 : (d.typ == 255) = true := by simpa using et
      have hE := hide (show readA img st = (out, 0, 0) from by rw [HE1.out, if_neg e14, if_neg (by simpa using e0), if_pos et])
      clear e14 e0 et
      go_wp2_with fail
      ((try simp only [Exit.inBlock, Exit.then]); refine bodyPost_ret (by simp only [results, Tryz.results24]; go_simp; try rfl) rfl ?_)
      exact ReadP.mk hE.out HO1.out hbel1
    have q4 : (d.typ == 255) = false := by simpa using et
    have hE := hide (show readA img st = readL img st (64 - (k + 1)) (k + 1) (out ++ [d]) from by rw [HE1.out, if_neg e14, if_neg (by simpa using e0), if_neg et, show 64 - (k + 1) = 63 - k by omega])
    clear e14 e0 et
    have hs27 := sz27 d
    go_wp2_with (first | (refine wpList_load_row rfl 27 (.tmp 12) rfl b rfl 27 d.cells (0, 0) _ HB.out Tryz.underlying27 rfl (info27 _) ?_) | (at_builtin; rw [lit27]; refine wpList_append_one _ rfl _ _ 43 rfl w.heap.size 27 descInfo Tryz.underlying43 rfl (by decide) _ _ _ HO1.out d.cells rfl rfl rfl (fun u hu => Array.all_eq_true_iff_forall_mem.1 (one27 d) u (by simpa using hu)) (by unfold maxLen; omega) (by omega) (by omega) ?_; intro v2 w2 hown2 hb2 hot2 hz2))
    have HO2 := hide (OwnD.snoc hown2)
    go_roundw
    case rel => exact ⟨k + 1, out ++ [d], by omega, by go_num, by simp; omega, HO2.out, hE.out, hbel1.trans hb2⟩
    case measure => simp [intOf]; omega
end Go.Proofs.YtjbhokmkmapkoaaGreatDoor
namespace Go.Proofs.YtjbhokmkmapkoaaGreatDoor
set_option linter.unusedSimpArgs false
set_option linter.unusedVariables false
open Go.RowKit
open Go.PlainAid (bt get_bt bt_nonneg bt_le bt_end)
theorem u8_inj {v v' : Int} (h : 0 ≤ v ∧ v ≤ 255) (h' : 0 ≤ v' ∧ v' ≤ 255) (e : u8 v = u8 v') : v = v' := by
  have h1 := u8_nat h
  rw [e, u8_nat h'] at h1
  exact h1.symm
theorem eq_both2 (z a : ByteArray) (hz : z.size = 2) (ha : a.size = 2) : (z.toList == (⟨a.data.toList.reverse.toArray⟩ : ByteArray).toList) = decide (le2 a 0 = be2 z 0) := by
  have b0 := bt_nonneg a 0
  have c0 := bt_le a 0
  have b1 := bt_nonneg a 1
  have c1 := bt_le a 1
  have b2 := bt_nonneg z 0
  have c2 := bt_le z 0
  have b3 := bt_nonneg z 1
  have c3 := bt_le z 1
  rw [ByteArray.toList_eq z, ByteArray.toList_eq]
  show (z.data.toList == a.data.toList.reverse) = _
  rw [lst2 z hz, lst2 a ha]
  show (([u8 (bt z 0), u8 (bt z 1)] : List UInt8) == [u8 (bt a 1), u8 (bt a 0)]) = _
  rw [Bool.eq_iff_iff, beq_iff_eq, decide_eq_true_iff]
  unfold le2 be2
  simp only [Nat.zero_add]
  constructor
  · skip
    intro e
    injection e with e0 r0
    injection r0 with e1 r1
    have f0 : bt z 0 = bt a 1 := u8_inj (by omega) (by omega) e0
    have f1 : bt z 1 = bt a 0 := u8_inj (by omega) (by omega) e1
    omega
  · skip
    intro e
    have f0 : bt z 0 = bt a 1 := by omega
    have f1 : bt z 1 = bt a 0 := by omega
    rw [f0, f1]
set_option maxHeartbeats 2000000 in
theorem rreadboth2 (s : ByteArray) (p : Nat) (hs : s.size ≤ 100000) (hp : p + 4 ≤ s.size) (w : World) : Calls Tryz.prog 66 #[.string s, .int .i64 p, .int .i64 2] w fun e w' => e = .returned (.tuple #[.int .i64 (le2 s p), .bool (decide (le2 s p = be2 s (p + 2))), .int .i64 0]) ∧ Below w.heap.size w w' := by
  have RP2 := hide (fun W => rpart_any s p 4 4 rfl hs (by omega) W)
  have hxz : (s.extract p (p + 4)).size = 4 := by rw [ByteArray.size_extract]; omega
  have hbt : ∀ j, j < 4 → bt (s.extract p (p + 4)) j = bt s (p + j) := fun j hj => bt_extract s p (p + 4) j hp (by omega)
  generalize s.extract p (p + 4) = x at *
  have ha : (x.extract 0 2).size = 2 := by rw [ByteArray.size_extract]; omega
  have hz : (x.extract 2 x.size).size = 2 := by rw [ByteArray.size_extract]; omega
  have hle : le2 (x.extract 0 2) 0 = le2 s p := by
    unfold le2
    rw [bt_extract x 0 2 0 (by omega) (by omega), bt_extract x 0 2 1 (by omega) (by omega)]
    simp only [Nat.zero_add]
    rw [hbt 0 (by omega), hbt 1 (by omega)]
    all_goals first | rfl | simp
  have hbe : be2 (x.extract 2 x.size) 0 = be2 s (p + 2) := by
    unfold be2
    rw [bt_extract x 2 x.size 1 (by omega) (by omega), bt_extract x 2 x.size 0 (by omega) (by omega)]
    rw [hbt (2 + 1) (by omega), hbt (2 + 0) (by omega)]
    all_goals first | rfl | simp [Nat.add_assoc]
  have hv := fun W => rvalue2 (x.extract 0 2) ha W
  rw [hle] at hv
  have hq := eq_both2 (x.extract 2 x.size) (x.extract 0 2) hz ha
  rw [hle, hbe] at hq
  have hr := fun W => rrev_any (x.extract 0 2) (by omega) W
  generalize (⟨(x.extract 0 2).data.toList.reverse.toArray⟩ : ByteArray) = y at hq hr
  have RV2 := hide hv
  have RQ2 := hide hr
  have hxi : (x.size : Int) = 4 := by omega
  rw [hxz] at hq
  have HQ := hide hq
  have mixed : Tryz.prog.follows .mixedOrders = true := by kernel_rfl
  clear hv hr hbt hle hbe ha hz hq
  have HL : Live w [] := trivial
  go_enter Tryz.func66, Tryz.ntmps66
  go_upto_region 7 with (first | (go_at_call 128; (with_reducible refine (RP2.out _).mono ?_); rintro e w' ⟨rfl, rfl⟩) | (go_at_call 129; (with_reducible refine (RV2.out _).mono ?_); rintro e w' ⟨rfl, rfl⟩))
  go_region_with_o (refine (RQ2.out _).mono ?_; rintro e w2 ⟨rfl, hb⟩)
  go_wp2
  ((try simp only [Exit.inBlock, Exit.then]); refine bodyPost_ret (by simp only [results, Tryz.results66]; go_simp; try rfl) rfl ?_)
  exact ⟨by rw [HQ.out], by (exact bl)⟩
theorem eq_both4 (z a : ByteArray) (hz : z.size = 4) (ha : a.size = 4) : (z.toList == (⟨a.data.toList.reverse.toArray⟩ : ByteArray).toList) = decide (le4 a 0 = be4 z 0) := by
  have b0 := bt_nonneg a 0
  have c0 := bt_le a 0
  have b1 := bt_nonneg a 1
  have c1 := bt_le a 1
  have b2 := bt_nonneg a 2
  have c2 := bt_le a 2
  have b3 := bt_nonneg a 3
  have c3 := bt_le a 3
  have b4 := bt_nonneg z 0
  have c4 := bt_le z 0
  have b5 := bt_nonneg z 1
  have c5 := bt_le z 1
  have b6 := bt_nonneg z 2
  have c6 := bt_le z 2
  have b7 := bt_nonneg z 3
  have c7 := bt_le z 3
  rw [ByteArray.toList_eq z, ByteArray.toList_eq]
  show (z.data.toList == a.data.toList.reverse) = _
  rw [lst4 z hz, lst4 a ha]
  show (([u8 (bt z 0), u8 (bt z 1), u8 (bt z 2), u8 (bt z 3)] : List UInt8) == [u8 (bt a 3), u8 (bt a 2), u8 (bt a 1), u8 (bt a 0)]) = _
  rw [Bool.eq_iff_iff, beq_iff_eq, decide_eq_true_iff]
  unfold le4 be4
  simp only [Nat.zero_add]
  constructor
  · skip
    intro e
    injection e with e0 r0
    injection r0 with e1 r1
    injection r1 with e2 r2
    injection r2 with e3 r3
    have f0 : bt z 0 = bt a 3 := u8_inj (by omega) (by omega) e0
    have f1 : bt z 1 = bt a 2 := u8_inj (by omega) (by omega) e1
    have f2 : bt z 2 = bt a 1 := u8_inj (by omega) (by omega) e2
    have f3 : bt z 3 = bt a 0 := u8_inj (by omega) (by omega) e3
    omega
  · skip
    intro e
    have f0 : bt z 0 = bt a 3 := by omega
    have f1 : bt z 1 = bt a 2 := by omega
    have f2 : bt z 2 = bt a 1 := by omega
    have f3 : bt z 3 = bt a 0 := by omega
    rw [f0, f1, f2, f3]
set_option maxHeartbeats 2000000 in
theorem rreadboth4 (s : ByteArray) (p : Nat) (hs : s.size ≤ 100000) (hp : p + 8 ≤ s.size) (w : World) : Calls Tryz.prog 66 #[.string s, .int .i64 p, .int .i64 4] w fun e w' => e = .returned (.tuple #[.int .i64 (le4 s p), .bool (decide (le4 s p = be4 s (p + 4))), .int .i64 0]) ∧ Below w.heap.size w w' := by
  have RP4 := hide (fun W => rpart_any s p 8 8 rfl hs (by omega) W)
  have hxz : (s.extract p (p + 8)).size = 8 := by rw [ByteArray.size_extract]; omega
  have hbt : ∀ j, j < 8 → bt (s.extract p (p + 8)) j = bt s (p + j) := fun j hj => bt_extract s p (p + 8) j hp (by omega)
  generalize s.extract p (p + 8) = x at *
  have ha : (x.extract 0 4).size = 4 := by rw [ByteArray.size_extract]; omega
  have hz : (x.extract 4 x.size).size = 4 := by rw [ByteArray.size_extract]; omega
  have hle : le4 (x.extract 0 4) 0 = le4 s p := by
    unfold le4
    rw [bt_extract x 0 4 0 (by omega) (by omega), bt_extract x 0 4 1 (by omega) (by omega), bt_extract x 0 4 2 (by omega) (by omega), bt_extract x 0 4 3 (by omega) (by omega)]
    simp only [Nat.zero_add]
    rw [hbt 0 (by omega), hbt 1 (by omega), hbt 2 (by omega), hbt 3 (by omega)]
    all_goals first | rfl | simp
  have hbe : be4 (x.extract 4 x.size) 0 = be4 s (p + 4) := by
    unfold be4
    rw [bt_extract x 4 x.size 3 (by omega) (by omega), bt_extract x 4 x.size 2 (by omega) (by omega), bt_extract x 4 x.size 1 (by omega) (by omega), bt_extract x 4 x.size 0 (by omega) (by omega)]
    rw [hbt (4 + 3) (by omega), hbt (4 + 2) (by omega), hbt (4 + 1) (by omega), hbt (4 + 0) (by omega)]
    all_goals first | rfl | simp [Nat.add_assoc]
  have hv := fun W => rvalue4 (x.extract 0 4) ha W
  rw [hle] at hv
  have hq := eq_both4 (x.extract 4 x.size) (x.extract 0 4) hz ha
  rw [hle, hbe] at hq
  have hr := fun W => rrev_any (x.extract 0 4) (by omega) W
  generalize (⟨(x.extract 0 4).data.toList.reverse.toArray⟩ : ByteArray) = y at hq hr
  have RV4 := hide hv
  have RQ4 := hide hr
  have hxi : (x.size : Int) = 8 := by omega
  rw [hxz] at hq
  have HQ := hide hq
  have mixed : Tryz.prog.follows .mixedOrders = true := by kernel_rfl
  clear hv hr hbt hle hbe ha hz hq
  have HL : Live w [] := trivial
  go_enter Tryz.func66, Tryz.ntmps66
  go_upto_region 7 with (first | (go_at_call 128; (with_reducible refine (RP4.out _).mono ?_); rintro e w' ⟨rfl, rfl⟩) | (go_at_call 129; (with_reducible refine (RV4.out _).mono ?_); rintro e w' ⟨rfl, rfl⟩))
  go_region_with_o (refine (RQ4.out _).mono ?_; rintro e w2 ⟨rfl, hb⟩)
  go_wp2
  ((try simp only [Exit.inBlock, Exit.then]); refine bodyPost_ret (by simp only [results, Tryz.results66]; go_simp; try rfl) rfl ?_)
  exact ⟨by rw [HQ.out], by (exact bl)⟩
end Go.Proofs.YtjbhokmkmapkoaaGreatDoor
