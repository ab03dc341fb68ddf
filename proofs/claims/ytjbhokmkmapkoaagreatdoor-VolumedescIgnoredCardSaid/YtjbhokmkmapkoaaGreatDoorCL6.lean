/- The statement VolumedescIgnored, walked. -/
import Derived.Test.YtjbhokmkmapkoaaGreatDoorCL7
namespace Go.Proofs.YtjbhokmkmapkoaaGreatDoor
set_option linter.unusedSimpArgs false
set_option linter.unusedVariables false
open Go.RowKit
open Go.PlainAid (bt get_bt bt_nonneg bt_le bt_end)

def ignB (i : Nat) : Bool := decide (7 ≤ i ∧ i < 40 ∨ 72 ≤ i ∧ i < 80 ∨ 91 ≤ i ∧ i < 120 ∨ 144 ≤ i ∧ i < 148 ∨ 152 ≤ i ∧ i < 156 ∨ 702 ≤ i ∧ i < 813 ∨ 830 ≤ i ∧ i ≠ 881)
/-- The byte does not matter. -/
def ign2 (t : Int) (i : Nat) : Bool := if t = 0 then decide (30 ≤ i ∧ i < 71 ∨ 75 ≤ i) else if t = 255 then decide (7 ≤ i) else ignB i
theorem ign_dec {t : Int} {s : ByteArray} {i : Nat} {x : UInt8} (h0 : bt s 0 = t) (hg : ign2 t i = true) : decD (chg s i x) = decD s := by
  unfold ign2 at hg
  by_cases t0 : t = 0
  · rw [if_pos t0] at hg
    have hg := of_decide_eq_true hg
    exact dec_chg (by omega) (by omega) (by omega)
  rw [if_neg t0] at hg
  by_cases t1 : t = 255
  · rw [if_pos t1] at hg
    have hg := of_decide_eq_true hg
    exact dec_chg (by omega) (by omega) (by omega)
  rw [if_neg t1] at hg
  unfold ignB at hg
  have hg := of_decide_eq_true hg
  exact dec_chg (by omega) (by omega) (fun _ => ⟨by unfold FreeD; omega, by rw [chg_ext (by omega)]⟩)
/-- Where a byte may lie. -/
theorem ign_parts (i : Nat) : (i : Int) < 7 ∨ (7 ≤ (i : Int) ∧ (i : Int) < 40) ∨ (40 ≤ (i : Int) ∧ (i : Int) < 72) ∨ (72 ≤ (i : Int) ∧ (i : Int) < 80) ∨ (80 ≤ (i : Int) ∧ (i : Int) < 91) ∨ (91 ≤ (i : Int) ∧ (i : Int) < 120) ∨ (120 ≤ (i : Int) ∧ (i : Int) < 144) ∨ (144 ≤ (i : Int) ∧ (i : Int) < 148) ∨
    (148 ≤ (i : Int) ∧ (i : Int) < 152) ∨ (152 ≤ (i : Int) ∧ (i : Int) < 156) ∨ (156 ≤ (i : Int) ∧ (i : Int) < 702) ∨ (702 ≤ (i : Int) ∧ (i : Int) < 813) ∨ (813 ≤ (i : Int) ∧ (i : Int) < 830) ∨ 830 ≤ (i : Int) := by omega
theorem ign_parts2 (i : Nat) : (i : Int) < 30 ∨ (30 ≤ (i : Int) ∧ (i : Int) < 71) ∨ (71 ≤ (i : Int) ∧ (i : Int) < 75) ∨ 75 ≤ (i : Int) := by omega
set_option maxRecDepth 100000 in
set_option maxHeartbeats 8000000 in
theorem law_ignored (d : DR) (m x : Nat) (hm : m ≤ 65535) (hx : x ≤ 255) (w : World) (hT : TabD w) : Calls Tryz.prog 10 #[.agg d.cells, .int .u16 m, .int .u8 x] w fun e w' => e = .returned (.bool true) ∧ Below w.heap.size w w' := by
  have HL : Live w [] := trivial
  go_enter Tryz.func10, Tryz.ntmps10
  go_upto_region 1 with fail
  have HB := hide (show Blk (w.alloc (.cells d.cells 27)) w.heap.size d.cells 27 from Blk.newAt rfl)
  have hbel1 : Below w.heap.size w (w.alloc (.cells d.cells 27)) := by (exact bl)
  have hT1 := hT.below hbel1
  generalize w.alloc (.cells d.cells 27) = W1 at *
  obtain ⟨b, hb⟩ : ∃ b, b = w.heap.size := ⟨_, rfl⟩
  rw [← hb] at HB ⊢
  have lb : w.heap.size ≤ b := by omega
  clear hb
  go_upto_region 3 with (go_at_call 11; refine (awake_any _ hT1).mono ?_; rintro e w2 ⟨rfl, hb2⟩)
  have HB2 := hide (Blk.below hb2 HB.out)
  have hbel2 := hbel1.trans (hb2.mono hbel1.size)
  clear hb2 HB hbel1 hT1
  have SH0 := fun W => rshort_any d W
  cases hsh : shortDB d
  case false =>
    rw [hsh] at SH0
    have SH := hide SH0
    clear hsh SH0
    go_wp2_with (first | (refine wpList_load_row rfl 27 (.tmp 3) rfl b rfl 27 d.cells (0, 0) _ HB2.out Tryz.underlying27 rfl (info27 _) ?_) | (go_at_call 12; refine (SH.out _).mono ?_; rintro e w3 ⟨rfl, hb3⟩))
    go_ret
    exact ⟨rfl, hbel2.trans (hb3.mono hbel2.size)⟩
  case true =>
  have hsd := short_of hsh
  rw [hsh] at SH0
  have SH := hide SH0
  clear hsh SH0
  go_upto_region 5 with (first | (refine wpList_load_row rfl 27 (.tmp 3) rfl b rfl 27 d.cells (0, 0) _ HB2.out Tryz.underlying27 rfl (info27 _) ?_) | (go_at_call 12; refine (SH.out _).mono ?_; rintro e w3 ⟨rfl, hb3⟩))
  have HB3 := hide (Blk.below hb3 HB2.out)
  have hbel3 := hbel2.trans (hb3.mono hbel2.size)
  have hT3 := hT.below hbel3
  clear hb3 HB2 hbel2 SH
  have EN0 := fun W hW => enc_any d hsd W hW
  by_cases hc : chkD d = 0
  case neg =>
    have hq : (chkD d != 0) = true := by simpa using hc
    have EN := hide EN0
    clear EN0 hc
    go_wp2_with (first | (refine wpList_load_row rfl 27 (.tmp 3) rfl b rfl 27 d.cells (0, 0) _ HB3.out Tryz.underlying27 rfl (info27 _) ?_) | (go_at_call 13; refine (EN.out _ hT3).mono ?_; rintro e w4 ⟨rfl, hb4⟩))
    go_ret
    exact ⟨rfl, hbel3.trans (hb4.mono hbel3.size)⟩
  case pos =>
  have hsz := enc_size hc
  have hde := dec_enc hc
  have hh0 : bt (encDS d) 0 = d.typ := by rw [encDS_ok hc]; exact encD_head hc
  obtain ⟨s, hs⟩ : ∃ s, encDS d = s := ⟨_, rfl⟩
  rw [hs] at hsz hde hh0
  rw [hs, hc] at EN0
  have EN := hide EN0
  have HP := hide (And.intro hsz (And.intro hde hh0))
  have zs : (s.size : Int) = 2048 := by omega
  clear EN0 hs hde hh0 hsz hc
  go_upto_region 8 with (first | (refine wpList_load_row rfl 27 (.tmp 3) rfl b rfl 27 d.cells (0, 0) _ HB3.out Tryz.underlying27 rfl (info27 _) ?_) | (go_at_call 13; refine (EN.out _ hT3).mono ?_; rintro e w4 ⟨rfl, hb4⟩))
  have HB4 := hide (Blk.below hb4 HB3.out)
  have hbel4 := hbel3.trans (hb4.mono hbel3.size)
  have hT4 := hT.below hbel4
  clear hb4 HB3 hbel3 hT3 EN
  go_upto_region 9 with fail
  obtain ⟨i, hi, hi8⟩ : ∃ i : Nat, (m : Int) % 2048 = (i : Int) ∧ i < 2048 := ⟨m % 2048, by omega, by omega⟩
  rw [hi]
  clear hi
  go_cut [10] (fun v wx => v = .bool (ignB i) ∧ wx = w4)
  case first =>
    clear HP zs HB4 hsd hm hx hi8 lb
    rcases ign_parts i with h | ⟨h, g⟩ | ⟨h, g⟩ | ⟨h, g⟩ | ⟨h, g⟩ | ⟨h, g⟩ | ⟨h, g⟩ | ⟨h, g⟩ | ⟨h, g⟩ | ⟨h, g⟩ | ⟨h, g⟩ | ⟨h, g⟩ | ⟨h, g⟩ | h
    all_goals
      go_wp2_with fail
      all_goals
        go_meet
        exact ⟨by unfold ignB; first | rfl | (congr 1; symm; first | (rw [decide_eq_true_eq]; omega) | (rw [decide_eq_false_iff_not]; omega)) | (refine congrArg Value.bool ?_; rw [Bool.eq_iff_iff]; simp only [Bool.or_eq_true, decide_eq_true_eq, bne_iff_ne, ne_eq]; omega), rfl⟩
  case rest =>
  obtain ⟨rfl, rfl⟩ := hcut
  have c4 : wc.cell? ⟨b, 0, none⟩ = some (.int .i64 d.typ) := HB4.out.cells 0
  go_upto_block 0 with fail
  go_cut [10] (fun v wx => v = .bool (ign2 d.typ i) ∧ wx = wc)
  case first =>
    clear HP zs HB4 hsd hm hx hi8 lb c4
    by_cases t0 : d.typ = 0
    · have q : (d.typ == 0) = true := by simp [t0]
      have T0 := hide t0
      clear t0
      rcases ign_parts2 i with h | ⟨h, g⟩ | ⟨h, g⟩ | h
      all_goals
        go_wp2_with fail
        all_goals
          go_meet
          exact ⟨by unfold ign2; rw [if_pos T0.out]; first | rfl | (congr 1; symm; first | (rw [decide_eq_true_eq]; omega) | (rw [decide_eq_false_iff_not]; omega)) | (refine congrArg Value.bool ?_; rw [Bool.eq_iff_iff]; simp only [Bool.or_eq_true, decide_eq_true_eq, bne_iff_ne, ne_eq]; omega), rfl⟩
    · have q : (d.typ == 0) = false := by simp [t0]
      have T0 := hide t0
      clear t0
      by_cases t1 : d.typ = 255
      · have q : (d.typ == 255) = true := by simp [t1]
        have T1 := hide t1
        clear t1
        go_wp2_with fail
        all_goals
          go_meet
          exact ⟨by unfold ign2; rw [if_neg T0.out, if_pos T1.out]; first | rfl | (congr 1; symm; first | (rw [decide_eq_true_eq]; omega) | (rw [decide_eq_false_iff_not]; omega)) | (refine congrArg Value.bool ?_; rw [Bool.eq_iff_iff]; simp only [Bool.or_eq_true, decide_eq_true_eq, bne_iff_ne, ne_eq]; omega), rfl⟩
      · have q : (d.typ == 255) = false := by simp [t1]
        have T1 := hide t1
        clear t1
        go_wp2_with fail
        go_meet
        exact ⟨by unfold ign2; rw [if_neg T0.out, if_neg T1.out], rfl⟩
  case rest =>
  obtain ⟨rfl, rfl⟩ := hcut
  cases hg : ign2 d.typ i
  case false =>
    clear hg
    go_wp2_with fail
    go_ret
    exact ⟨rfl, hbel4⟩
  case true =>
  obtain ⟨hsz, hde, hh0⟩ := HP.out
  have HD := hide (fun x => (ign_dec (x := x) hh0 hg).trans hde)
  have hsi : i < s.data.toList.length := by rw [len_l]; omega
  have HX := hide (bits_x8 (s.data.toList[i]) x hx)
  have HS := hide hsz
  clear hg hde hh0 HP c4 hsz
  have CV := cvs s wc
  go_upto_region 18 with fail
  clear CV
  have HG := hide (BB.new wc 5 s)
  have HB5 := hide (Blk.below (below_bytes wc 5 s) HB4.out)
  have lbg : b < wc.heap.size := HB4.out.lt
  have hbel5 := hbel4.trans ((below_bytes wc 5 s).mono hbel4.size)
  have lg : w.heap.size ≤ wc.heap.size := hbel4.size
  clear HB4 hbel4 hT4
  generalize Lib.bytesWorld wc 5 s = W5 at *
  generalize grownCap wc s.size 0 5 = cp at *
  generalize wc.heap.size = g at *
  have ci : W5.cell? ⟨g, i, none⟩ = some (.int .u8 (s.data.toList[i].toNat : Int)) := (HG.out.2 i hsi).1
  have fi : W5.frozen? ⟨g, i, none⟩ = false := (HG.out.2 i hsi).2
  have hlt : i < s.size := by omega
  have hx8 := HX.out
  generalize s.data.toList[i] = y at ci hx8
  generalize y ^^^ UInt8.ofNat x = z at hx8
  clear HX
  go_upto_region 19 with fail
  clear hx8 ci fi
  have HG6 := hide (BB.set (x := z) HG.out hsi)
  have HB6 := hide (Blk.other (v := .int .u8 (z.toNat : Int)) (j := i) (show b ≠ g by omega) HB5.out)
  have hbel6 := hbel5.setCell (p := ⟨g, i, none⟩) lg (.int .u8 (z.toNat : Int))
  have hT6 := hT.below hbel6
  generalize W5.setCell ⟨g, i, none⟩ (.int .u8 (z.toNat : Int)) = W6 at *
  have CV := BB.chg (n := s.size) (cap := cp) HG6.out rfl
  have DE0 := fun W hW => dec_any (chg s i z) (by rw [chg_size]; omega) W hW
  unfold DecDP at DE0
  rw [HD.out z] at DE0
  dsimp only at DE0
  have DE := hide DE0
  clear HG HB5 hbel5 DE0
  go_upto_region 20 with (first | (go_at_call 17; refine (DE.out _ hT6).mono ?_; rintro e w7 ⟨rfl, hb7⟩) | (refine wpList_store_new rfl 27 (.tmp 12) (.tmp 123) rfl d.cells rfl rfl 27 _ (info27 _) (siz27 _) (one27 _) ?_))
  clear CV
  have HB7 := hide (show Blk (w7.alloc (.cells d.cells 27)) w7.heap.size d.cells 27 from Blk.newAt rfl)
  have HB37 := hide ((Blk.below hb7 HB6.out).alloc (.cells d.cells 27))
  have hbel7 := (hbel6.trans (hb7.mono hbel6.size)).alloc (hbel6.trans (hb7.mono hbel6.size)).size (.cells d.cells 27)
  generalize w7.alloc (.cells d.cells 27) = W7 at *
  generalize w7.heap.size = b7 at *
  clear hb7 HB6 hbel6 hT6 DE
  have QE := eqlD7 d
  go_wp2_with (first | (refine wpList_load_rowG 27 (.tmp 12) rfl rfl b7 rfl 27 d.cells (0, 0) _ HB7.out Tryz.underlying27 rfl (info27 _) ?_) | (refine wpList_load_rowG 27 (.tmp 3) rfl rfl b rfl 27 d.cells (0, 0) _ HB37.out Tryz.underlying27 rfl (info27 _) ?_))
  go_ret
  exact ⟨rfl, hbel7⟩
end Go.Proofs.YtjbhokmkmapkoaaGreatDoor
