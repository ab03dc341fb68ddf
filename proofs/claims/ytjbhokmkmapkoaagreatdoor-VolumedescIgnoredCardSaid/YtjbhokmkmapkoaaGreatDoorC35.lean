/- Contracts and plain words for the laws of volume descriptors, part 35: O5, Y2. No condition. -/
import Derived.Test.YtjbhokmkmapkoaaGreatDoorC23
import Derived.Test.YtjbhokmkmapkoaaGreatDoorC29
namespace Go.Proofs.YtjbhokmkmapkoaaGreatDoor
set_option linter.unusedSimpArgs false
set_option linter.unusedVariables false
open Go.RowKit
open Go.PlainAid (bt get_bt bt_nonneg bt_le bt_end)
theorem fSz_pos {k : Nat} (hk : k < 5) : 0 < fSz k ∧ fSz k ≤ 2048 := by rcases five hk with rfl | rfl | rfl | rfl | rfl <;> exact ⟨by decide, by decide⟩
theorem names_at {d : DR} (h : namesB d = true) {k : Nat} (hk : k < 5) : okB (fTx d k) (fSz k) (fSt k) (wide d) = true := by
  cases hf : fok d k
  · rw [names_no hk hf] at h; cases h
  · exact hf
set_option maxRecDepth 100000 in
set_option maxHeartbeats 8000000 in
theorem enc_any (d : DR) (hsh : ShortD d) (w : World) (hT : TabD w) : Calls Tryz.prog 13 #[.agg d.cells] w fun e w' => e = .returned (.tuple #[.string (encDS d), .int .i64 (chkD d)]) ∧ Below w.heap.size w w' := by
  have CHK := hide (fun W hW => check_any d hsh W hW)
  have HL : Live w [] := trivial
  go_enter Tryz.func13, Tryz.ntmps13
  go_upto_region 1 with fail
  have hB1 : Blk (w.alloc (.cells d.cells 27)) w.heap.size d.cells 27 := Blk.newAt rfl
  have hbel1 : Below w.heap.size w (w.alloc (.cells d.cells 27)) := by (exact bl)
  generalize w.alloc (.cells d.cells 27) = W1 at *
  have hT1 := hT.below hbel1
  go_upto_region 2 with (first | (refine wpList_load_row rfl 27 (.tmp 1) rfl w.heap.size rfl 27 d.cells (0, 0) _ hB1 Tryz.underlying27 rfl (by as_aux_lemma => kernel_rfl) ?_) | (go_at_call 15; refine (CHK.out _ hT1).mono ?_; rintro e w2 ⟨rfl, hb2⟩))
  have hB2 := Blk.below hb2 hB1
  have hbel2 := hbel1.trans (hb2.mono hbel1.size)
  clear hB1 hb2 hT1 hbel1
  by_cases hc : chkD d = 0
  case neg =>
    have ED := hide (encDS_no hc)
    have qc : (chkD d != 0) = true := by simpa using hc
    clear hc
    go_wp2_with fail
    go_ret2
    exact ⟨ret2_sb ED.out.symm rfl, hbel2⟩
  case pos =>
  have HC := hide hc
  have ED := hide (encDS_ok hc)
  rw [hc]
  clear hc
  have hlt2 := hB2.lt
  obtain ⟨Z, hZ⟩ : ∃ Z, Z = (Lib.byteCells (zr 2048)).toArray := ⟨_, rfl⟩
  have hmk := fun W => make_2048 W
  rw [← hZ] at hmk
  have HZ := hide hZ
  clear hZ
  have hst := run_store_blk (P := Tryz.prog) (W := ((w2.alloc (.cells Z 5)).alloc (.cells #[.slice (some ⟨w2.heap.size, 0, none⟩) 2048 2048] 48)).alloc (.cells #[.nilFunc] 54)) (n := w2.heap.size + 1 + 1) (j := 0) (v := .func (.func 27) #[] #[.pointer (some ⟨w2.heap.size + 1, 0, none⟩)]) (Blk.newAt (cs := #[.nilFunc]) (T := 54) (by simp only [World.size_alloc])) (by decide) rfl
  go_upto_region 7 with fail
  have hS0 : BS w d w2.heap.size (w2.heap.size + 1) (w2.heap.size + 1 + 1) (lensA d) ((lensA d).map zr) (((w2.alloc (.cells Z 5)).alloc (.cells #[.slice (some ⟨w2.heap.size, 0, none⟩) 2048 2048] 48)).alloc (.cells #[.func (.func 27) #[] #[.pointer (some ⟨w2.heap.size + 1, 0, none⟩)]] 54)) := by
    refine ⟨?_, ((hB2.alloc _).alloc _).alloc _, (Blk.newAt (by simp only [World.size_alloc])).alloc _, Blk.newAt (by simp only [World.size_alloc]), ?_, zr_lens _, hlt2, by omega, by omega⟩
    · exact ((hbel2.alloc hbel2.size _).alloc (by rw [World.size_alloc]; omega) _).alloc (by rw [World.size_alloc, World.size_alloc]; omega) _
    · rw [zr_flat, lensA_sum, ← HZ.out]
      exact ((Blk.newAt rfl).alloc _).alloc _
  have cG : (((w2.alloc (.cells Z 5)).alloc (.cells #[.slice (some ⟨w2.heap.size, 0, none⟩) 2048 2048] 48)).alloc (.cells #[.func (.func 27) #[] #[.pointer (some ⟨w2.heap.size + 1, 0, none⟩)]] 54)).cell? ⟨w2.heap.size, 0, none⟩ = some (.int .u8 0) := by
    rw [hS0.bf.cells, zr_flat, lensA_sum]
    simp [Lib.byteCells, zr]
  have fG := hS0.bf.free 0
  generalize ((w2.alloc (.cells Z 5)).alloc (.cells #[.slice (some ⟨w2.heap.size, 0, none⟩) 2048 2048] 48)).alloc (.cells #[.func (.func 27) #[] #[.pointer (some ⟨w2.heap.size + 1, 0, none⟩)]] 54) = W3 at *
  clear hst hmk HZ hB2 hbel2 hlt2
  generalize w2.heap.size + 1 + 1 = p6 at *
  generalize w2.heap.size + 1 = p5 at *
  generalize w2.heap.size = G at *
  have hty := chkD_typ HC.out
  have ht5 : 0 ≤ d.typ ∧ d.typ ≤ 255 := by omega
  have ut : IntKind.u8.wrap d.typ = d.typ := IntWalk.u8_in _ ht5
  have um : d.typ % 256 = d.typ := by omega
  have HTY := hide hty
  have K := hS0.known
  unfold Dat at K
  clear hty
  go_upto_region 8 with fail
  have hS1 := hS0.first (lensA_0 d) d.typ ht5
  generalize W3.setCell ⟨G, 0, none⟩ (.int .u8 d.typ) = W4 at *
  clear hS0 K cG fG ut um
  have K := hS1.known
  unfold Dat at K
  go_upto_region 9 with (go_at_call 27; refine (put_any hS1 1 1 ⟨#[67, 68, 48, 48, 49, 1]⟩ (lensA_1 d) (lensA_1' d) (lensA_sum d) (by decide)).mono ?_; rintro e W5 ⟨rfl, hS2, hk2⟩)
  have hS2 : BS w d G p5 p6 (lensA d) (seg2 d) W5 := hS2
  clear hS1 K hk2
  have K := hS2.known
  unfold Dat at K
  rcases HTY.out with ht | ht | ht
  · -- a boot record
    have hcat := cat_of HC.out ht
    have EF := hide (show encDS d = ⟨(((seg2 d).set 2 torL).set 4 (l4 d.cat)).flatten.toArray⟩ from by rw [ED.out, flat0 ht])
    have q0 : (d.typ == 0) = true := by simpa using ht
    have hl : lensA d = [1, 6, 23, 41, 4, 1973] := by unfold lensA; rw [if_pos ht]
    rw [hl] at hS2
    clear ht hl
    go_upto_region 12 with (go_at_call 27; refine (put_any hS2 2 7 ⟨#[69, 76, 32, 84, 79, 82, 73, 84, 79, 32, 83, 80, 69, 67, 73, 70, 73, 67, 65, 84, 73, 79, 78]⟩ rfl rfl (by decide) (by decide)).mono ?_; rintro e W6 ⟨rfl, hS3, hk3⟩)
    have hS3 : BS w d G p5 p6 [1, 6, 23, 41, 4, 1973] ((seg2 d).set 2 torL) W6 := hS3
    have K3 := hS3.known
    unfold Dat at K3
    clear K hS2 hk3
    go_upto_region 13 with (go_at_call 28; refine (num_l4 hS3 4 71 d.cat hcat rfl rfl (by decide)).mono ?_; rintro e W7 ⟨rfl, hS4, hk4⟩)
    have K4 := hS4.known
    unfold Dat at K4
    have hstr := hS4.str (by decide)
    have hbel := hS4.bel
    clear K3 hS3 hk4 hS4
    go_wp2_with fail
    go_ret2
    exact ⟨ret2_sb EF.out.symm HC.out.symm, hbel⟩
  · -- a terminator
    have EF := hide (show encDS d = ⟨(seg2 d).flatten.toArray⟩ from by rw [ED.out, flat255 ht])
    have q0 : (d.typ == 0) = false := by rw [ht]; rfl
    have q3 : (d.typ == 255) = true := by simpa using ht
    clear ht
    have hstr := hS2.str (lensA_sum d)
    have hbel := hS2.bel
    clear hS2
    go_wp2_with fail
    go_ret2
    exact ⟨ret2_sb EF.out.symm HC.out.symm, hbel⟩
  · have EF := hide (show encDS d = ⟨(segF d).flatten.toArray⟩ from by rw [ED.out, segF_flat ht])
    obtain ⟨-, hnm, hri, hru, hrr, htm, hzz, hre⟩ := chkD_prim HC.out ht
    have hrg := ranges_of hrr
    have HRI := hide hri
    have HRU := hide hru
    clear hri hru
    have q0 : (d.typ == 0) = false := by rcases ht with h | h <;> rw [h] <;> rfl
    have q3 : (d.typ == 255) = false := by rcases ht with h | h <;> rw [h] <;> rfl
    have q2 : (d.typ == 2) = wide d := rfl
    have hl : lensA d = lensP := by unfold lensA; rw [if_neg (by omega), if_neg (by omega)]
    rw [hl] at hS2
    clear ht hl hrr
    have hst := fun W (old : Value) n (h : Blk W n #[old] 57) => run_store_blk (P := Tryz.prog) (W := W) (n := n) (j := 0) (v := .func (.func 30) #[] #[]) h Nat.zero_lt_one rfl
    have hst1 := hst (W5.alloc (.cells #[.nilFunc] 57)) .nilFunc W5.heap.size (Blk.newAt rfl)
    go_upto_region 17 with fail
    have hS3 := hS2.alloc (.cells #[.func (.func 30) #[] #[]] 57)
    have h8 : Blk (W5.alloc (.cells #[.func (.func 30) #[] #[]] 57)) W5.heap.size #[.func (.func 30) #[] #[]] 57 := Blk.newAt rfl
    have h68 := hS2.l6
    have hG8 : W5.heap.size ≠ G := by have := hS2.l2; have := hS2.l3; omega
    generalize W5.alloc (.cells #[.func (.func 30) #[] #[]] 57) = W6 at *
    generalize W5.heap.size = p8 at *
    clear hst hst1 K hS2
    have K := hS3.known
    unfold Dat at K
    have hst2 := run_store_blk (P := Tryz.prog) (v := .func (.func 31) #[] #[]) (j := 0) h8 Nat.zero_lt_one rfl
    have c8 : W6.cell? ⟨p8, 0, none⟩ = some (.func (.func 30) #[] #[]) := h8.cells 0
    go_upto_if 51 with fail
    go_cut [51] (fun _ wx => BS w d G p5 p6 lensP (segE d) wx ∧ Blk wx p8 #[fillV (wide d)] 57)
    case first =>
      cases hw : wide d
      case false =>
        have hE : segE d = seg2 d := by unfold segE; rw [hw]; rfl
        have HE := hide hE
        have HS := hide hS3
        have H8 := hide h8
        clear hE hS3 h8
        go_wp2_with fail
        go_meet
        exact ⟨by rw [HE.out]; exact HS.out, by rw [hw]; exact H8.out⟩
      case true =>
        have hE : segE d = (seg2 d).set 7 [37, 47, 69] := by unfold segE; rw [hw]; rfl
        have HE := hide hE
        have hS4 := hS3.rows h68 0 (.func (.func 31) #[] #[])
        have H8 := hide (Blk.put (v := .func (.func 31) #[] #[]) (j := 0) (cs' := #[.func (.func 31) #[] #[]]) rfl h8)
        clear hE hS3 h8
        go_upto_region 19 with fail
        generalize W6.setCell ⟨p8, 0, none⟩ (.func (.func 31) #[] #[]) = W7 at *
        clear K
        have K := hS4.known
        unfold Dat at K
        go_wp2_with (go_at_call 27; refine (put_any hS4 7 88 ⟨#[37, 47, 69]⟩ rfl rfl (by decide) (by decide)).mono ?_; rintro e W8 ⟨rfl, hS5, hk5⟩)
        go_meet
        exact ⟨by rw [HE.out]; exact hS5, by rw [hw]; exact hk5 _ _ _ hG8 H8.out⟩
    case rest =>
    obtain ⟨hS4, h8'⟩ := hcut
    clear K c8 hst2 hS3 h8 ht5
    have hT4 := hS4.bel
    have K := hS4.known
    unfold Dat at K
    have hlb := hS4.db.lt
    go_wp2_with (go_at_call 33; refine (fields_any w.heap.size 2 _).mono ?_; rintro e w7 ⟨g, rfl, hbk, hb7, hge⟩)
    have hS7 := hS4.below hb7
    have h87 := Blk.below hb7 h8'
    have hgG : g ≠ G := by have := hS4.l6; have := hS4.l2; have := hS4.l3; omega
    have hbG : w.heap.size ≠ G := by have := hS4.l1; omega
    clear K hS4 h8' hT4 hlb hb7 hge
    go_loopw [58] (fun i wr => ∃ k : Nat, k ≤ 5 ∧ i = .int .i64 k ∧ BS w d G p5 p6 lensP (fS d (segE d) k) wr ∧ Blk wr p8 #[fillV (wide d)] 57 ∧ Blk wr g (fldCells w.heap.size 2) 65) (fun i _ => 5 - (intOf i).toNat)
    case atStart => exact ⟨0, by omega, rfl, hS7, h87, hbk⟩
    case round =>
      obtain ⟨k, hk5, rfl, hSr, h8r, hgr⟩ := hrel
      have HB := hide hSr
      have HG := hide hgr
      have H8 := hide h8r
      by_cases hk : k < 5
      case pos =>
        have hf := fld_at w.heap.size k hk
        have f0 := (hgr.cells (k * 4)).trans hf.1
        have f1 := (hgr.cells (k * 4 + 1)).trans hf.2.1
        have f2 := (hgr.cells (k * 4 + 1 + 1)).trans hf.2.2.1
        have f3 := (hgr.cells (k * 4 + 1 + 1 + 1)).trans hf.2.2.2
        have hqG : wr.heap.size ≠ G := by have := hSr.l6; have := hSr.l2; have := hSr.l3; omega
        clear hf hgr h8r hSr
        go_upto_region 24 with fail
        have HF : Blk (wr.alloc (.cells #[.int .i64 (fAt k), .int .i64 (fSz k), .bool (fSt k), .pointer (some ⟨w.heap.size, 2 + k, none⟩)] 65)) wr.heap.size #[.int .i64 (fAt k), .int .i64 (fSz k), .bool (fSt k), .pointer (some ⟨w.heap.size, 2 + k, none⟩)] 65 := Blk.newAt rfl
        have HSa := hide (HB.out.alloc (.cells #[.int .i64 (fAt k), .int .i64 (fSz k), .bool (fSt k), .pointer (some ⟨w.heap.size, 2 + k, none⟩)] 65))
        have H8a := hide (H8.out.alloc (.cells #[.int .i64 (fAt k), .int .i64 (fSz k), .bool (fSt k), .pointer (some ⟨w.heap.size, 2 + k, none⟩)] 65))
        have HGa := hide (HG.out.alloc (.cells #[.int .i64 (fAt k), .int .i64 (fSz k), .bool (fSt k), .pointer (some ⟨w.heap.size, 2 + k, none⟩)] 65))
        generalize wr.alloc (.cells #[.int .i64 (fAt k), .int .i64 (fSz k), .bool (fSt k), .pointer (some ⟨w.heap.size, 2 + k, none⟩)] 65) = Wa at *
        generalize wr.heap.size = q at *
        clear f0 f1 f2 f3
        have HFa := hide HF
        have f0 : Wa.cell? ⟨q, 0, none⟩ = some (.int .i64 (fAt k)) := HF.cells 0
        have f1 : Wa.cell? ⟨q, 1, none⟩ = some (.int .i64 (fSz k)) := HF.cells 1
        have f3 : Wa.cell? ⟨q, 3, none⟩ = some (.pointer (some ⟨w.heap.size, 2 + k, none⟩)) := HF.cells 3
        have ct : Wa.cell? ⟨w.heap.size, 2 + k, none⟩ = some (.string (fTx d k)) := (HSa.out.db.cells (2 + k)).trans (txt_at d k hk)
        have hok : okB (fTx d k) (fSz k) (fSt k) (wide d) = true := names_at hnm hk
        have TX := hide (fun (W : World) (hW : BS w d G p5 p6 lensP (fS d (segE d) k) W) (h8W : Blk W p8 #[fillV (wide d)] 57) => text_any hW hT p8 (wide d) h8W (fIx k) (fAt k) (fSz k) (fTx d k) (fSt k) (by have := hsh.1 k hk; omega) hok (fSz_pos hk) (fIx_at k hk).1 (fIx_at k hk).2 (by decide))
        clear HF hok
        simp only [show decide ((k : Int) < 5) = true from decide_eq_true (by omega)]
        refine wp_region_noPanic ?_
        refine wp_region_held_drew (S := (fun x => x.cell? ⟨q, 0, none⟩ = some (.int .i64 (fAt k)) ∧ x.cell? ⟨q, 1, none⟩ = some (.int .i64 (fSz k)) ∧ x.cell? ⟨q, 3, none⟩ = some (.pointer (some ⟨w.heap.size, 2 + k, none⟩)) ∧ x.cell? ⟨w.heap.size, 2 + k, none⟩ = some (.string (fTx d k)))) (by kernel_rfl) kp (fun hHeld => ?_)
        refine tkY 0 ⟨some 62, .move (.tmp 9), 58, "volumedesc.go:126", #[], none⟩ ?_ ?_ ?_
        rotate_left
        · intro w hSw; (try dsimp only at hSw); go_simp; (try with_reducible rfl)
        try simp only [PT]
        refine tkY 1 ⟨some 63, .fieldAddr 65 (.tmp 11) 0, 0, "volumedesc.go:126", #[], none⟩ ?_ ?_ ?_
        rotate_left
        · intro w hSw; (try dsimp only at hSw); go_simp; (try with_reducible rfl)
        try simp only [PT]
        refine tkY 2 ⟨some 64, .fieldAddr 63 (.tmp 63) 0, 0, "volumedesc.go:126", #[⟨1, .data⟩], none⟩ ?_ ?_ ?_
        rotate_left
        · intro w hSw; (try dsimp only at hSw); go_simp; (try with_reducible rfl)
        try simp only [PT]
        refine tkY 3 ⟨some 65, .load 3 (.tmp 64), 3, "volumedesc.go:126", #[⟨2, .data⟩], none⟩ ?_ ?_ ?_
        rotate_left
        · intro w hSw; (try dsimp only at hSw); go_simp; (try with_reducible rfl)
        try simp only [PT]
        refine tkY 4 ⟨some 66, .fieldAddr 65 (.tmp 11) 0, 0, "volumedesc.go:126", #[], none⟩ ?_ ?_ ?_
        rotate_left
        · intro w hSw; (try dsimp only at hSw); go_simp; (try with_reducible rfl)
        try simp only [PT]
        refine tkY 5 ⟨some 67, .fieldAddr 63 (.tmp 66) 1, 0, "volumedesc.go:126", #[⟨4, .data⟩], none⟩ ?_ ?_ ?_
        rotate_left
        · intro w hSw; (try dsimp only at hSw); go_simp; (try with_reducible rfl)
        try simp only [PT]
        refine tkY 6 ⟨some 68, .load 3 (.tmp 67), 3, "volumedesc.go:126", #[⟨5, .data⟩], none⟩ ?_ ?_ ?_
        rotate_left
        · intro w hSw; (try dsimp only at hSw); go_simp; (try with_reducible rfl)
        try simp only [PT]
        refine tkY 7 ⟨some 69, .fieldAddr 65 (.tmp 11) 1, 0, "volumedesc.go:126", #[], none⟩ ?_ ?_ ?_
        rotate_left
        · intro w hSw; (try dsimp only at hSw); go_simp; (try with_reducible rfl)
        try simp only [PT]
        refine tkY 8 ⟨some 70, .load 64 (.tmp 69), 64, "volumedesc.go:126", #[⟨7, .data⟩], none⟩ ?_ ?_ ?_
        rotate_left
        · intro w hSw; (try dsimp only at hSw); go_simp; (try with_reducible rfl)
        try simp only [PT]
        refine tkY 9 ⟨some 71, .nilCheck (.tmp 70), 0, "volumedesc.go:126", #[⟨8, .data⟩], none⟩ ?_ ?_ ?_
        rotate_left
        · intro w hSw; (try dsimp only at hSw); go_simp; (try with_reducible rfl)
        try simp only [PT]
        refine tkY 10 ⟨some 72, .load 9 (.tmp 71), 9, "volumedesc.go:126", #[⟨9, .data⟩], none⟩ ?_ ?_ ?_
        rotate_left
        · intro w hSw; (try dsimp only at hSw); go_simp; (try with_reducible rfl)
        try simp only [PT]
        refine wpAnyH_ready (rs := [11]) (by kernel_rfl) (by simp) ?_
        refine AllReadyH.cons (o := ⟨some 73, .call ⟨.value (.tmp 62), #[.tmp 65, .tmp 68, .tmp 72], #[3, 3, 9]⟩, 0, "volumedesc.go:126", #[⟨0, .data⟩, ⟨3, .data⟩, ⟨6, .data⟩, ⟨10, .data⟩], none⟩) rfl (fun K hK => ?_) AllReadyH.nil
        go_simp
        (go_at_call 32; (with_reducible refine Calls.mono (TX.out _ (by first | exact HSa.out | exact HSa.out.drew) (by first | exact H8a.out | exact H8a.out.drew)) ?_); rintro e w8 ⟨rfl, hS8, hk8⟩; have hkp := hk8 _ _ _ hqG HFa.out; have g0 := hkp.cells 0; have g1 := hkp.cells 1; have g3 := hkp.cells 3; have gt := (hS8.db.cells (2 + k)).trans (txt_at d k hk); have hkeep : w8.cell? ⟨q, 0, none⟩ = some (.int .i64 (fAt k)) ∧ w8.cell? ⟨q, 1, none⟩ = some (.int .i64 (fSz k)) ∧ w8.cell? ⟨q, 3, none⟩ = some (.pointer (some ⟨w.heap.size, 2 + k, none⟩)) ∧ w8.cell? ⟨w.heap.size, 2 + k, none⟩ = some (.string (fTx d k)) := ⟨g0, g1, g3, gt⟩)
        go_wp2_with fail
        refine hK.out _ _ kp (fun hHeld => ?_)
        clear hK K
        try simp only [PT]
        refine wpAnyH_done (by kernel_rfl) ?_ _
        refine NoPanic.normal ?_
        go_wp2_with fail
        go_roundw
        case rel => exact ⟨k + 1, by omega, by go_num, hS8, hk8 _ _ _ hG8 H8a.out, hk8 _ _ _ hgG HGa.out⟩
        case measure => simp [intOf]; omega
      case neg =>
        have ek : k = 5 := by omega
        subst ek
        have h8c := h8r.cells 0
        clear HB HG H8 hgr hbk hS7 h87 hgG
        have K := hSr.known
        unfold Dat at K
        go_upto_region 27 with (go_at_call 32; refine (text_any hSr hT p8 (wide d) h8r 3 8 32 ⟨#[]⟩ true (by decide) (ok_nil 32 true (wide d)) (by omega) rfl rfl (by decide)).mono ?_; rintro e w9 ⟨rfl, hS9, hk9⟩)
        have h89 := hk9 _ _ _ hG8 h8r
        clear K hSr h8r h8c hk9
        have K := hS9.known
        unfold Dat at K
        go_wp2_with fail
        have hS10 := hS9.alloc (.cells #[.int .i64 702, .int .i64 739, .int .i64 776] 3)
        have h810 := h89.alloc (.cells #[.int .i64 702, .int .i64 739, .int .i64 776] 3)
        have hq10 : Blk (w9.alloc (.cells #[.int .i64 702, .int .i64 739, .int .i64 776] 3)) w9.heap.size #[.int .i64 702, .int .i64 739, .int .i64 776] 3 := Blk.newAt rfl
        have hq3 : w9.heap.size ≠ G := by have := hS9.l6; have := hS9.l2; have := hS9.l3; omega
        generalize w9.alloc (.cells #[.int .i64 702, .int .i64 739, .int .i64 776] 3) = W10 at *
        generalize w9.heap.size = q3 at *
        clear K hS9 h89
        go_loopw [79] (fun i wr => ∃ k : Nat, k ≤ 3 ∧ i = .int .i64 k ∧ BS w d G p5 p6 lensP (bS3 (wide d) ((fS d (segE d) 5).set 3 (fldL (wide d) ⟨#[]⟩ 32)) k) wr ∧ Blk wr p8 #[fillV (wide d)] 57 ∧ Blk wr q3 #[.int .i64 702, .int .i64 739, .int .i64 776] 3) (fun i _ => 3 - (intOf i).toNat)
        case atStart => exact ⟨0, by omega, rfl, hS10, h810, hq10⟩
        case round =>
          obtain ⟨k, hk3, rfl, hSr, h8r, hqr⟩ := hrel
          clear hS10 h810 hq10
          by_cases hk : k < 3
          case pos =>
            obtain ⟨a, ha⟩ : ∃ a, a = 702 + 37 * k := ⟨_, rfl⟩
            have ca : wr.cell? ⟨q3, k, none⟩ = some (.int .i64 (a : Nat)) := by
              rw [hqr.cells, ha]
              have : k = 0 ∨ k = 1 ∨ k = 2 := by omega
              rcases this with rfl | rfl | rfl <;> rfl
            have HB := hide hSr
            have H8 := hide h8r
            have HQ := hide hqr
            have ea := hide (show (lensP.take (22 + k)).sum = a from by rw [(bIx_at k hk).2, ha])
            clear ha hSr h8r hqr
            go_wp2_with (go_at_call 32; refine (text_any HB.out hT p8 (wide d) H8.out (22 + k) a 37 ⟨#[]⟩ true (by decide) (ok_nil 37 true (wide d)) (by omega) (bIx_at k hk).1 ea.out (by decide)).mono ?_; rintro e w11 ⟨rfl, hS11, hk11⟩)
            go_roundw
            case rel => exact ⟨k + 1, by omega, by go_num, hS11, hk11 _ _ _ hG8 H8.out, hk11 _ _ _ hq3 HQ.out⟩
            case measure => simp [intOf]; omega
          case neg =>
            have ek : k = 3 := by omega
            subst ek
            have hSn := hSr
            clear h8r hqr hSr hG8 h68 hq3
            obtain ⟨sg, hsg⟩ : ∃ sg, sg = bS3 (wide d) ((fS d (segE d) 5).set 3 (fldL (wide d) ⟨#[]⟩ 32)) 3 := ⟨_, rfl⟩
            rw [← hsg] at hSn
            have HSG := hide hsg
            clear hsg
            have K := hSn.known
            unfold Dat at K
            obtain ⟨r1, r2, r3, r4, r5, r6⟩ := hrg
            go_upto_region 33 with (go_at_call 28; refine (num_w4 hSn 6 80 d.space r1 rfl rfl (by decide)).mono ?_; rintro e y0 ⟨rfl, hSy0, hky0⟩)
            clear K hSn hky0
            have K := hSy0.known
            unfold Dat at K
            go_upto_region 34 with (go_at_call 28; refine (num_w2 hSy0 9 120 d.discs r5 rfl rfl (by decide)).mono ?_; rintro e y1 ⟨rfl, hSy1, hky1⟩)
            clear K hSy0 hky1
            have K := hSy1.known
            unfold Dat at K
            go_upto_region 35 with (go_at_call 28; refine (num_w2 hSy1 10 124 d.number r6 rfl rfl (by decide)).mono ?_; rintro e y2 ⟨rfl, hSy2, hky2⟩)
            clear K hSy1 hky2
            have K := hSy2.known
            unfold Dat at K
            go_upto_region 36 with (go_at_call 28; refine (num_w2 hSy2 11 128 2048 (by omega) rfl rfl (by decide)).mono ?_; rintro e y3 ⟨rfl, hSy3, hky3⟩)
            clear K hSy2 hky3
            have K := hSy3.known
            unfold Dat at K
            go_upto_region 37 with (go_at_call 28; refine (num_w4 hSy3 12 132 d.psize r2 rfl rfl (by decide)).mono ?_; rintro e y4 ⟨rfl, hSy4, hky4⟩)
            clear K hSy3 hky4
            have K := hSy4.known
            unfold Dat at K
            go_upto_region 38 with (go_at_call 28; refine (num_l4 hSy4 13 140 d.pl r3 rfl rfl (by decide)).mono ?_; rintro e y5 ⟨rfl, hSy5, hky5⟩)
            clear K hSy4 hky5
            have K := hSy5.known
            unfold Dat at K
            go_upto_region 39 with (go_at_call 28; refine (num_b4 hSy5 15 148 d.pm r4 rfl rfl (by decide)).mono ?_; rintro e y6 ⟨rfl, hSy6, hky6⟩)
            clear K hSy5 hky6
            have K := hSy6.known
            unfold Dat at K
            have ENC := hide (fun W => dirEnc_any d.root HRI.out HRU.out W)
            have hes : encRS d.root = ⟨(encR d.root).toArray⟩ := by unfold encRS; rw [if_pos hre]
            rw [hes] at ENC
            have hsz : (⟨(encR d.root).toArray⟩ : ByteArray).size = 34 := by show (encR d.root).toArray.size = _; rw [List.size_toArray, encR_len HRI.out HRU.out hre]
            obtain ⟨rb, hrb⟩ : ∃ rb, rb = (⟨(encR d.root).toArray⟩ : ByteArray) := ⟨_, rfl⟩
            rw [← hrb] at ENC hsz
            have HRB := hide hrb
            clear hes hrb
            go_upto_region 40 with (go_at_call 36; refine (ENC.out _).mono ?_; rintro e y7 ⟨rfl, hb7⟩)
            have hSy7 := hSy6.below hb7
            clear K hSy6 hb7
            have K := hSy7.known
            unfold Dat at K
            go_upto_region 41 with (go_at_call 27; refine (put_any hSy7 17 156 rb (by rw [hsz]; rfl) rfl (by decide) (by omega)).mono ?_; rintro e y8 ⟨rfl, hSy8, hky8⟩)
            clear K hSy7 hky8 hsz
            have K := hSy8.known
            unfold Dat at K
            have hTy := hT.below hSy8.bel
            go_upto_region 42 with (go_at_call 37; refine (desT_yes d.time d.zone (by rw [htm, hzz]; rfl) _ hTy.2).mono ?_; rintro e y9 ⟨rfl, hb9⟩)
            have hSy9 := hSy8.below hb9
            clear K hSy8 hb9 hTy
            have HT17 := hide (show timL d = (desT2 d.time d.zone ++ desT2 d.time d.zone ++ ⟨#[48, 48, 48, 48, 48, 48, 48, 48, 48, 48, 48, 48, 48, 48, 48, 48, 0]⟩ ++ desT2 d.time d.zone ++ ⟨#[1]⟩).data.toList from by
              unfold timL
              simp only [ByteArray.data_append, Array.toList_append]
              rfl)
            have hx17 : (desT2 d.time d.zone).size = 17 := desT2_size htm hzz
            generalize desT2 d.time d.zone = x at *
            have hu17 : (⟨#[48, 48, 48, 48, 48, 48, 48, 48, 48, 48, 48, 48, 48, 48, 48, 48, 0]⟩ : ByteArray).size = 17 := rfl
            have h69 : (x ++ x ++ ⟨#[48, 48, 48, 48, 48, 48, 48, 48, 48, 48, 48, 48, 48, 48, 48, 48, 0]⟩ ++ x ++ ⟨#[1]⟩).size = 69 := by simp only [ByteArray.size_append, hx17, hu17]; rfl
            have HSy9 := hide hSy9
            have c6 := hSy9.b6.cells 0
            have c6 : y9.cell? ⟨p6, 0, none⟩ = some (.func (.func 27) #[] #[.pointer (some ⟨p5, 0, none⟩)]) := c6
            have PT := hide (fun (W : World) (hW : BS w d G p5 p6 lensP (((((((((sg.set 6 (both4 d.space)).set 9 (both2 d.discs)).set 10 (both2 d.number)).set 11 (both2 2048)).set 12 (both4 d.psize)).set 13 (l4 d.pl)).set 15 (b4 d.pm)).set 17 rb.data.toList)) W) => put_any hW 25 813 (x ++ x ++ ⟨#[48, 48, 48, 48, 48, 48, 48, 48, 48, 48, 48, 48, 48, 48, 48, 48, 0]⟩ ++ x ++ ⟨#[1]⟩) (by rw [h69]; rfl) rfl (by decide) (by omega))
            clear hSy9 h69
            refine wp_region_noPanic ?_
            refine wp_region_held_drew (S := (fun z => z.cell? ⟨p6, 0, none⟩ = some (.func (.func 27) #[] #[.pointer (some ⟨p5, 0, none⟩)]) ∧ True)) (by kernel_rfl) kp (fun hHeld => ?_)
            refine tkY 0 ⟨some 133, .load 54 (.tmp 6), 54, "volumedesc.go:142", #[], none⟩ ?_ ?_ ?_
            rotate_left
            · intro w hSw; (try dsimp only at hSw); go_simp; (try with_reducible rfl)
            try simp only [PT]
            refine tkY 1 ⟨some 134, .move (.tmp 16), 9, "volumedesc.go:142", #[], none⟩ ?_ ?_ ?_
            rotate_left
            · intro w hSw; (try dsimp only at hSw); go_simp; (try with_reducible rfl)
            try simp only [PT]
            refine tkY 2 ⟨some 135, .move (.tmp 16), 9, "volumedesc.go:142", #[], none⟩ ?_ ?_ ?_
            rotate_left
            · intro w hSw; (try dsimp only at hSw); go_simp; (try with_reducible rfl)
            try simp only [PT]
            refine tkY 3 ⟨some 136, .binOp .add 9 (.tmp 134) (.tmp 135) 9, 9, "volumedesc.go:142", #[⟨1, .data⟩, ⟨2, .data⟩], none⟩ ?_ ?_ ?_
            rotate_left
            · intro w hSw; (try dsimp only at hSw); go_simp; (try with_reducible rfl)
            try simp only [PT]
            refine tkY 6 ⟨some 139, .move (.tmp 16), 9, "volumedesc.go:142", #[], none⟩ ?_ ?_ ?_
            rotate_left
            · intro w hSw; (try dsimp only at hSw); go_simp; (try with_reducible rfl)
            try simp only [PT]
            refine wpAnyH_ready (rs := [4]) (by kernel_rfl) (by simp) ?_
            refine AllReadyH.cons (o := ⟨some 137, .call ⟨.value (.func 38), #[], #[]⟩, 9, "volumedesc.go:142", #[], none⟩) rfl (fun K hK => ?_) AllReadyH.nil
            go_simp
            (go_at_call 38; (with_reducible refine (Dt.unspec_any _).mono ?_); rintro e w' ⟨rfl, rfl⟩)
            go_wp2_with fail
            refine hK.out _ _ kp (fun hHeld => ?_)
            clear hK K
            try simp only [PT]
            refine tkY 5 ⟨some 138, .binOp .add 9 (.tmp 136) (.tmp 137) 9, 9, "volumedesc.go:142", #[⟨3, .data⟩, ⟨4, .data⟩], none⟩ ?_ ?_ ?_
            rotate_left
            · intro w hSw; (try dsimp only at hSw); go_simp; (try with_reducible rfl)
            try simp only [PT]
            refine tkY 7 ⟨some 140, .binOp .add 9 (.tmp 138) (.tmp 139) 9, 9, "volumedesc.go:142", #[⟨5, .data⟩, ⟨6, .data⟩], none⟩ ?_ ?_ ?_
            rotate_left
            · intro w hSw; (try dsimp only at hSw); go_simp; (try with_reducible rfl)
            try simp only [PT]
            refine tkY 8 ⟨some 141, .binOp .add 9 (.tmp 140) (.const (.string { data := #[1] })) 9, 9, "volumedesc.go:142", #[⟨7, .data⟩], none⟩ ?_ ?_ ?_
            rotate_left
            · intro w hSw; (try dsimp only at hSw); go_simp; (try with_reducible rfl)
            try simp only [PT]
            refine wpAnyH_ready (rs := [9]) (by kernel_rfl) (by simp) ?_
            refine AllReadyH.cons (o := ⟨some 142, .call ⟨.value (.tmp 133), #[.const (.int .i64 813), .tmp 141], #[3, 9]⟩, 0, "volumedesc.go:142", #[⟨0, .data⟩, ⟨8, .data⟩, ⟨4, .chain⟩], none⟩) rfl (fun K hK => ?_) AllReadyH.nil
            go_simp
            (first | (go_at_call 38; (with_reducible refine (Dt.unspec_any _).mono ?_); rintro e w' ⟨rfl, rfl⟩) | (go_at_call 27; (with_reducible refine Calls.mono (PT.out _ (by first | exact HSy9.out | exact HSy9.out.drew | exact HSy9.out.drew.drew)) ?_); rintro e y10 ⟨rfl, hS10, hk10⟩; have g6 := hS10.b6.cells 0; have hkeep : y10.cell? ⟨p6, 0, none⟩ = some (.func (.func 27) #[] #[.pointer (some ⟨p5, 0, none⟩)]) ∧ True := ⟨g6, trivial⟩))
            go_wp2_with fail
            refine hK.out _ _ kp (fun hHeld => ?_)
            clear hK K
            try simp only [PT]
            refine wpAnyH_done (by kernel_rfl) ?_ _
            refine NoPanic.normal ?_
            have hS10' := hS10
            rw [← HT17.out, HRB.out] at hS10'
            have hstr := hS10'.str (by decide)
            have hbel := hS10'.bel
            have K := hS10'.known
            unfold Dat at K
            rw [HSG.out] at hstr
            have EF2 := hide (show encDS d = _ from EF.out)
            clear hS10' hk10 HT17 PT HSy9
            go_wp2_with fail
            go_ret2
            exact ⟨ret2_sb EF2.out.symm HC.out.symm, hbel⟩
end Go.Proofs.YtjbhokmkmapkoaaGreatDoor
namespace Go.Proofs.YtjbhokmkmapkoaaGreatDoor
set_option linter.unusedSimpArgs false
set_option linter.unusedVariables false
open Go.RowKit
open Go.PlainAid (bt get_bt bt_nonneg bt_le bt_end)
set_option maxRecDepth 100000 in
set_option maxHeartbeats 4000000 in
theorem rsame_any (L M : List DR) (a b : Value) (hL : L.length ≤ 100000) (hM : M.length ≤ 100000) (w : World) (ha : ReadsD w a L) (hb : ReadsD w b M) : Calls Tryz.prog 25 #[a, b] w fun e w' => e = .returned (.bool (decide (L = M))) ∧ Below w.heap.size w w' := by
  obtain ⟨A, c, rfl, hA⟩ := ha
  obtain ⟨A2, c2, rfl, hA2⟩ := hb
  by_cases hlen : L.length = M.length
  case neg =>
    have HD := hide (show decide (L = M) = false from decide_eq_false fun h => hlen (by rw [h]))
    have q : ((L.length : Int) != (M.length : Int)) = true := by simp; omega
    have HL : Live w [] := trivial
    go_enter Tryz.func25, Tryz.ntmps25
    go_wp2_with fail
    go_ret
    exact ⟨ret_b HD.out.symm, by (exact bl)⟩
  have q : ((L.length : Int) != (M.length : Int)) = false := by simp; omega
  have HA := hide hA
  have HA2 := hide hA2
  clear hA hA2
  have HL : Live w [] := trivial
  go_enter Tryz.func25, Tryz.ntmps25
  go_wp2_with fail
  go_loopw [5] (fun i wr => ∃ k : Nat, k ≤ L.length ∧ i = .int .i64 k ∧ L.take k = M.take k ∧ Below w.heap.size w wr) (fun i _ => L.length - (intOf i).toNat)
  case atStart => exact ⟨0, by omega, rfl, rfl, by (exact bl)⟩
  case round =>
    obtain ⟨k, hk, rfl, htk, hbel⟩ := hrel
    have HTK := hide htk
    clear htk
    have hsz := hbel.size
    by_cases hlt : k < L.length
    · obtain ⟨x, hx⟩ : ∃ x, L[k]? = some x := ⟨_, List.getElem?_eq_getElem hlt⟩
      obtain ⟨y, hy⟩ : ∃ y, M[k]? = some y := ⟨_, List.getElem?_eq_getElem (by omega)⟩
      obtain ⟨g, o, rfl, hg, hc⟩ := HA.out (by omega)
      obtain ⟨g2, o2, rfl, hg2, hc2⟩ := HA2.out (by omega)
      have r1 : wr.rangeAt g (o + k * 23) x.cells.toList := fun j u hu => by
        rw [Nat.add_assoc]
        exact (hbel.cell (p := ⟨g, o + (k * 23 + j), none⟩) hg).trans (hc _ _ (descV_at L k x hx j u hu))
      have r2 : wr.rangeAt g2 (o2 + k * 23) y.cells.toList := fun j u hu => by
        rw [Nat.add_assoc]
        exact (hbel.cell (p := ⟨g2, o2 + (k * 23 + j), none⟩) hg2).trans (hc2 _ _ (descV_at M k y hy j u hu))
      have hkeep : wr.rangeAt g (o + k * 23) x.cells.toList ∧ wr.rangeAt g2 (o2 + k * 23) y.cells.toList := ⟨r1, r2⟩
      have hkeepd : wr.drew.rangeAt g (o + k * 23) x.cells.toList ∧ wr.drew.rangeAt g2 (o2 + k * 23) y.cells.toList := ⟨r1, r2⟩
      have HX := hide hx
      have HY := hide hy
      obtain ⟨b, hb⟩ : ∃ b, (!decide (x = y)) = b := ⟨_, rfl⟩
      have NE : ∀ W, (binOp .neq 27 (.agg x.cells) (.agg y.cells)).run Tryz.prog W = .ok (.bool b) W := fun W => hb ▸ neqD x y W
      have HB := hide hb
      clear hb
      clear hc hc2 hx hy r1 r2
      go_upto_region 6 with fail
      refine wp_region_noPanic ?_
      refine wp_region_held_drew (S := (fun z => z.rangeAt g (o + k * 23) x.cells.toList ∧ z.rangeAt g2 (o2 + k * 23) y.cells.toList)) (by kernel_rfl) kp (fun hHeld => ?_)
      refine tkY 0 ⟨some 17, .move (.tmp 0), 43, "ref.go:235", #[], none⟩ ?_ ?_ ?_
      rotate_left
      · intro w hSw; (try dsimp only at hSw); go_simp; (try with_reducible rfl)
      try simp only [PT]
      refine tkY 1 ⟨some 18, .move (.tmp 5), 3, "ref.go:235", #[], none⟩ ?_ ?_ ?_
      rotate_left
      · intro w hSw; (try dsimp only at hSw); go_simp; (try with_reducible rfl)
      try simp only [PT]
      refine tkY 2 ⟨some 19, .indexAddr 43 (.tmp 17) (.tmp 18), 0, "ref.go:235", #[⟨0, .data⟩, ⟨1, .data⟩], none⟩ ?_ ?_ ?_
      rotate_left
      · intro w hSw; (try dsimp only at hSw); go_simp; (try with_reducible rfl)
      try simp only [PT]
      refine tkY 3 ⟨some 20, .load 27 (.tmp 19), 27, "ref.go:235", #[⟨2, .data⟩], none⟩ ?_ ?_ ?_
      rotate_left
      · intro w hSw; (try dsimp only at hSw); refine (exec_load_mid 27 (.tmp 19) (by rfl) g (o + k * 23) (by rfl) x.cells _ hSw.1 Tryz.underlying27 (by rfl) (info27 _)).trans ?_; with_reducible rfl
      try simp only [PT]
      refine tkY 4 ⟨some 21, .move (.tmp 1), 43, "ref.go:235", #[], none⟩ ?_ ?_ ?_
      rotate_left
      · intro w hSw; (try dsimp only at hSw); go_simp; (try with_reducible rfl)
      try simp only [PT]
      refine tkY 5 ⟨some 22, .move (.tmp 5), 3, "ref.go:235", #[], none⟩ ?_ ?_ ?_
      rotate_left
      · intro w hSw; (try dsimp only at hSw); go_simp; (try with_reducible rfl)
      try simp only [PT]
      refine tkY 6 ⟨some 23, .indexAddr 43 (.tmp 21) (.tmp 22), 0, "ref.go:235", #[⟨4, .data⟩, ⟨5, .data⟩], none⟩ ?_ ?_ ?_
      rotate_left
      · intro w hSw; (try dsimp only at hSw); go_simp; (try with_reducible rfl)
      try simp only [PT]
      refine tkY 7 ⟨some 24, .load 27 (.tmp 23), 27, "ref.go:235", #[⟨6, .data⟩], none⟩ ?_ ?_ ?_
      rotate_left
      · intro w hSw; (try dsimp only at hSw); refine (exec_load_mid 27 (.tmp 23) (by rfl) g2 (o2 + k * 23) (by rfl) y.cells _ hSw.2 Tryz.underlying27 (by rfl) (info27 _)).trans ?_; with_reducible rfl
      try simp only [PT]
      refine tkY 8 ⟨some 25, .binOp .neq 27 (.tmp 20) (.tmp 24) 27, 4, "ref.go:235", #[⟨3, .data⟩, ⟨7, .data⟩], none⟩ ?_ ?_ ?_
      rotate_left
      · intro w hSw; (try dsimp only at hSw); go_simp; (try with_reducible rfl)
      try simp only [PT]
      refine wpAnyH_done (by kernel_rfl) ?_ _
      refine NoPanic.normal ?_
      clear hkeep hkeepd hHeld NE
      cases b
      · have hxy : x = y := by simpa using HB.out
        have HT := hide (show L.take (k + 1) = M.take (k + 1) from by rw [List.take_add_one, List.take_add_one, HTK.out, HX.out, HY.out, hxy])
        clear hxy
        go_wp2_with fail
        go_roundw
        case rel => exact ⟨k + 1, by omega, by go_num, HT.out, hbel.drew⟩
        case measure => simp [intOf]; omega
      · have hxy : x ≠ y := by simpa using HB.out
        have HD := hide (show decide (L = M) = false from decide_eq_false fun h => hxy (by
          subst h
          exact Option.some.inj (HX.out.symm.trans HY.out)))
        clear hxy
        go_wp2_with fail
        go_ret
        exact ⟨ret_b HD.out.symm, hbel.drew⟩
    · obtain rfl : k = L.length := by omega
      have HD := hide (show decide (L = M) = true from decide_eq_true (by
        have h := HTK.out
        rw [List.take_length, hlen, List.take_length] at h
        exact h))
      go_wp2_with fail
      go_ret
      exact ⟨ret_b HD.out.symm, hbel⟩
/-- Short, as a Bool. -/
def shortDB (d : DR) : Bool := decide (d.name.size ≤ 400) && decide (d.set.size ≤ 400) && decide (d.pub.size ≤ 400) && decide (d.prep.size ≤ 400) && decide (d.app.size ≤ 400) && decide (d.root.id.size ≤ 400) && decide (d.root.use.size ≤ 400)
theorem short_of {d : DR} (h : shortDB d = true) : ShortD d := by
  unfold shortDB at h
  simp only [Bool.and_eq_true, decide_eq_true_eq] at h
  obtain ⟨⟨⟨⟨⟨⟨h0, h1⟩, h2⟩, h3⟩, h4⟩, h5⟩, h6⟩ := h
  refine ⟨fun k hk => ?_, by omega, by omega⟩
  rcases five hk with rfl | rfl | rfl | rfl | rfl
  · show d.name.size ≤ 1000; omega
  · show d.set.size ≤ 1000; omega
  · show d.pub.size ≤ 1000; omega
  · show d.prep.size ≤ 1000; omega
  · show d.app.size ≤ 1000; omega
set_option maxRecDepth 100000 in
set_option maxHeartbeats 8000000 in
theorem rshort_any (d : DR) (w : World) : Calls Tryz.prog 12 #[.agg d.cells] w fun e w' => e = .returned (.bool (shortDB d)) ∧ Below w.heap.size w w' := by
  have HL : Live w [] := trivial
  go_enter Tryz.func12, Tryz.ntmps12
  go_upto_region 1 with fail
  have hB1 : Blk (w.alloc (.cells d.cells 27)) w.heap.size d.cells 27 := Blk.newAt rfl
  have hbel1 : Below w.heap.size w (w.alloc (.cells d.cells 27)) := by (exact bl)
  generalize w.alloc (.cells d.cells 27) = W1 at *
  have hdd := Dat.of hB1
  unfold Dat at hdd
  by_cases h0 : d.name.size ≤ 400
  case neg => go_wp2; go_ret; exact ⟨ret_b (by unfold shortDB; rw [decide_eq_false h0]; rfl), hbel1⟩
  by_cases h1 : d.set.size ≤ 400
  case neg => go_wp2; go_ret; exact ⟨ret_b (by unfold shortDB; rw [decide_eq_false h1]; simp), hbel1⟩
  by_cases h2 : d.pub.size ≤ 400
  case neg => go_wp2; go_ret; exact ⟨ret_b (by unfold shortDB; rw [decide_eq_false h2]; simp), hbel1⟩
  by_cases h3 : d.prep.size ≤ 400
  case neg => go_wp2; go_ret; exact ⟨ret_b (by unfold shortDB; rw [decide_eq_false h3]; simp), hbel1⟩
  by_cases h4 : d.app.size ≤ 400
  case neg => go_wp2; go_ret; exact ⟨ret_b (by unfold shortDB; rw [decide_eq_false h4]; simp), hbel1⟩
  by_cases h5 : d.root.id.size ≤ 400
  case neg => go_wp2; go_ret; exact ⟨ret_b (by unfold shortDB; rw [decide_eq_false h5]; simp), hbel1⟩
  by_cases h6 : d.root.use.size ≤ 400
  case neg => go_wp2; go_ret; exact ⟨ret_b (by unfold shortDB; rw [decide_eq_false h6]; simp; omega), hbel1⟩
  go_wp2
  go_ret
  exact ⟨ret_b (by unfold shortDB; rw [decide_eq_true h0, decide_eq_true h1, decide_eq_true h2, decide_eq_true h3, decide_eq_true h4, decide_eq_true h5, decide_eq_true h6]; simp; omega), hbel1⟩
/-- A block that may lie in an image. -/
def blkB (s : ByteArray) : Bool := decide (s.size = 2048) || decide (s = ⟨#[]⟩) || decide (s = ⟨#[33]⟩)
def validB (img : List ByteArray) (most : Int) : Bool := decide ((img.length : Int) ≤ most) && img.all blkB
set_option maxRecDepth 100000 in
set_option maxHeartbeats 4000000 in
theorem rvalid_any (img : List ByteArray) (most : Int) (a : Value) (hL : img.length ≤ maxLen) (w : World) (ha : ReadsS w a img) : Calls Tryz.prog 22 #[a, .int .i64 most] w fun e w' => e = .returned (.bool (validB img most)) ∧ Below w.heap.size w w' := by
  unfold maxLen at hL
  obtain ⟨A, c, rfl, hA⟩ := ha
  by_cases hlen : (img.length : Int) ≤ most
  case neg =>
    have HD := hide (show validB img most = false from by unfold validB; rw [decide_eq_false hlen]; rfl)
    have HL : Live w [] := trivial
    go_enter Tryz.func22, Tryz.ntmps22
    go_wp2_with fail
    go_ret
    exact ⟨ret_b HD.out.symm, by (exact bl)⟩
  have HV := hide (show validB img most = img.all blkB from by unfold validB; rw [decide_eq_true hlen]; rfl)
  have hnl : ¬ most < (img.length : Int) := by omega
  clear hlen
  have HA := hide hA
  clear hA
  have HL : Live w [] := trivial
  go_enter Tryz.func22, Tryz.ntmps22
  go_wp2_with fail
  go_loopw [5] (fun i wr => ∃ k : Nat, k ≤ img.length ∧ i = .int .i64 k ∧ (img.take k).all blkB = true ∧ Below w.heap.size w wr) (fun i _ => img.length - (intOf i).toNat)
  case atStart => exact ⟨0, by omega, rfl, rfl, by (exact bl)⟩
  case round =>
    obtain ⟨k, hk, rfl, hall, hbel⟩ := hrel
    have HL := hide hall
    clear hall
    by_cases hlt : k < img.length
    · obtain ⟨x, hx⟩ : ∃ x, img[k]? = some x := ⟨_, List.getElem?_eq_getElem hlt⟩
      obtain ⟨g, o, rfl, hg, hc⟩ := HA.out (by omega)
      have c0 : wr.cell? ⟨g, o + k, none⟩ = some (.string x) := (hbel.cell (p := ⟨g, o + k, none⟩) hg).trans (hc _ _ hx)
      have HX := hide hx
      clear hc hx
      have hgo : blkB x = true → (img.take (k + 1)).all blkB = true := fun h => by rw [List.take_add_one, HX.out, List.all_append, HL.out]; simp [h]
      have hst : blkB x = false → img.all blkB = false := fun h => by rw [List.all_eq_false]; exact ⟨x, List.mem_of_getElem? HX.out, by rw [h]; simp⟩
      have HGO := hide hgo
      have HST := hide hst
      clear hgo hst
      by_cases h1 : x.size = 2048
      · have q1 : ((x.size : Int) != 2048) = false := by simp; omega
        have H := hide (HGO.out (by unfold blkB; rw [decide_eq_true h1]; rfl))
        clear h1
        go_wp2_with fail
        go_roundw
        case rel => exact ⟨k + 1, by omega, by go_num, H.out, hbel⟩
        case measure => simp [intOf]; omega
      · have q1 : ((x.size : Int) != 2048) = true := by simp; omega
        by_cases h2 : x = ⟨#[]⟩
        · have H := hide (HGO.out (by unfold blkB; rw [decide_eq_true h2]; simp))
          clear h1
          subst h2
          go_wp2_with fail
          go_roundw
          case rel => exact ⟨k + 1, by omega, by go_num, H.out, hbel⟩
          case measure => simp [intOf]; omega
        · have q2 : (x.toList == []) = false := by
            cases hb : (x.toList == [])
            · rfl
            · exact absurd (bl_eq.1 ((beq_iff_eq.1 hb).trans (by decide +kernel))) h2
          have q2b : x.toList ≠ [] := fun h => by rw [h] at q2; simp at q2
          by_cases h3 : x = ⟨#[33]⟩
          · have H := hide (HGO.out (by unfold blkB; rw [decide_eq_true h3]; simp))
            subst h3
            clear h1 h2
            go_wp2_with fail
            go_roundw
            case rel => exact ⟨k + 1, by omega, by go_num, H.out, hbel⟩
            case measure => simp [intOf]; omega
          · have q3 : (x.toList == [33]) = false := by
              cases hb : (x.toList == [33])
              · rfl
              · exact absurd (bl_eq.1 ((beq_iff_eq.1 hb).trans (by decide +kernel))) h3
            have H := hide (HST.out (by unfold blkB; rw [decide_eq_false h1, decide_eq_false h2, decide_eq_false h3]; rfl))
            clear h1 h2 h3
            go_wp2_with fail
            go_ret
            exact ⟨ret_b (by rw [HV.out, H.out]), hbel⟩
    · obtain rfl : k = img.length := by omega
      have HL2 := HL.out
      rw [List.take_length] at HL2
      have H := hide HL2
      clear HL2
      go_wp2_with fail
      go_ret
      exact ⟨ret_b (by rw [HV.out, H.out]), hbel⟩
end Go.Proofs.YtjbhokmkmapkoaaGreatDoor
