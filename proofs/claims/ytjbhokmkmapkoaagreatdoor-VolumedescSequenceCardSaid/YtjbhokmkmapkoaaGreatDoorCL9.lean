/- The statement VolumedescSequence, walked. -/
import Derived.Test.YtjbhokmkmapkoaaGreatDoorCL8
namespace Go.Proofs.YtjbhokmkmapkoaaGreatDoor
set_option linter.unusedSimpArgs false
set_option linter.unusedVariables false
open Go.RowKit
open Go.PlainAid (bt get_bt bt_nonneg bt_le bt_end)

theorem same_want (L : List DR) (hL : L.length ≤ 100000) (a b : Value) (W : World) (ha : ReadsD W a L) (hb : ReadsD W b L) : Calls Tryz.prog 25 #[a, b] W fun e w' => e = .returned (.bool true) ∧ Below W.heap.size W w' := by
  have h := rsame_any L L a b hL hL W ha hb
  rwa [decide_eq_true rfl] at h
set_option maxRecDepth 100000 in
set_option maxHeartbeats 16000000 in
theorem law_sequence (l : List DR) (a : Value) (m : Nat) (beh : ByteArray) (x : Nat) (hm : m ≤ 255) (hbz : beh.size ≤ maxLen) (hx : x ≤ 255) (w : World) (hT : TabD w) (ha : ReadsD w a l) (hl : l.length ≤ maxLen) : Calls Tryz.prog 8 #[a, .int .u8 m, .string beh, .int .u8 x] w fun e w' => e = .returned (.bool true) ∧ Below w.heap.size w w' := by
  unfold maxLen at hbz hl
  obtain ⟨A, c, rfl, hA⟩ := ha
  have HA := hide hA
  clear hA
  have HL : Live w [] := trivial
  go_enter Tryz.func8, Tryz.ntmps8
  go_upto_region 3 with (go_at_call 11; refine (awake_any _ hT).mono ?_; rintro e w2 ⟨rfl, hb2⟩)
  by_cases h12 : l.length ≤ 12
  case neg =>
    have q : decide ((12 : Int) < (l.length : Int)) = true := by simp; omega
    go_wp2_with fail
    go_ret
    exact ⟨rfl, hb2⟩
  by_cases h3 : beh.size ≤ 3000
  case neg =>
    have q : decide ((3000 : Int) < (beh.size : Int)) = true := by simp; omega
    go_wp2_with fail
    go_ret
    exact ⟨rfl, hb2⟩
  go_upto_region 6 with fail
  obtain ⟨s, hs, hs21⟩ : ∃ s : Nat, (m : Int) % 21 = (s : Int) ∧ s < 21 := ⟨m % 21, by omega, by omega⟩
  rw [hs]
  clear hs
  have hmk := make_S s (by omega) w2
  go_upto_region 7 with fail
  clear hmk
  have HR := hide (made_S s w2 w.heap.size hb2.size (by omega))
  have hbel3 := hb2.alloc hb2.size (.cells (madeCells #[.string ByteArray.empty] (s + 16)) 9)
  generalize w2.alloc (.cells (madeCells #[.string ByteArray.empty] (s + 16)) 9) = W3 at *
  generalize w2.heap.size = g3 at *
  clear hb2
  go_upto_block 0 with fail
  go_cut [10, 11] (fun v u wx => SeqR l s w.heap.size l.length v u wx ∧ Below w.heap.size w wx)
  case first =>
    go_wp2_with fail
    go_loopw [40, 10, 11] (fun i v u wr => ∃ k : Nat, k ≤ l.length ∧ i = .int .i64 k ∧ SeqR l s w.heap.size k v u wr ∧ Below w.heap.size w wr) (fun i _ _ _ => l.length - (intOf i).toNat)
    case atStart => exact ⟨0, by omega, rfl, ⟨HR.out, OwnD.nil _ _⟩, hbel3⟩
    case round =>
      clear HR hbel3
      obtain ⟨k, hk, rfl, hR, hbel⟩ := hrel
      have HSR := hide hR
      clear hR
      have hsz := hbel.size
      by_cases hlt : k < l.length
      case neg =>
        obtain rfl : k = l.length := by omega
        go_wp2_with fail
        go_meet
        exact ⟨HSR.out, hbel⟩
      case pos =>
      obtain ⟨d, hd⟩ : ∃ d, l[k]? = some d := ⟨_, List.getElem?_eq_getElem hlt⟩
      obtain ⟨g, o, rfl, hg, hc⟩ := HA.out (by omega)
      have R1 := hide (show wr.rangeAt g (o + k * 23) d.cells.toList from fun j u hu => by
        rw [Nat.add_assoc]
        exact (hbel.cell (p := ⟨g, o + (k * 23 + j), none⟩) hg).trans (hc _ _ (descV_at l k d hd j u hu)))
      have HD := hide hd
      have HW0 := wantS_snoc hd
      clear hc hd
      go_upto_region 11 with (first | (refine wpList_load_midA rfl 27 (.tmp 42) rfl g (o + k * 23) rfl d.cells _ R1.out Tryz.underlying27 rfl (info27 _) ?_) | (refine wpList_store_new rfl 27 (.tmp 13) (.tmp 43) rfl d.cells rfl rfl 27 _ (info27 _) (siz27 _) (one27 _) ?_))
      have HB := hide (show Blk (wr.alloc (.cells d.cells 27)) wr.heap.size d.cells 27 from Blk.newAt rfl)
      have hbN : Below wr.heap.size wr (wr.alloc (.cells d.cells 27)) := (Below.refl _ _).alloc (Nat.le_refl _) _
      have HS1 := hide (OwnS.below HSR.out.1 hbN)
      have HD1 := hide (OwnD.below HSR.out.2 hbN)
      have hbel1 := hbel.trans (hbN.mono hsz)
      have hT1 := hT.below hbel1
      have lb : w.heap.size ≤ wr.heap.size := hsz
      clear hbN HSR hbel R1 hsz
      generalize wr.alloc (.cells d.cells 27) = W1 at *
      generalize wr.heap.size = b at *
      have SH0 := fun W => rshort_any d W
      cases hsh : shortDB d
      case false =>
        rw [hsh] at SH0
        have SH := hide SH0
        clear hsh SH0
        go_wp2_with (first | (refine wpList_load_row rfl 27 (.tmp 13) rfl b rfl 27 d.cells (0, 0) _ HB.out Tryz.underlying27 rfl (info27 _) ?_) | (go_at_call 12; refine (SH.out _).mono ?_; rintro e w4 ⟨rfl, hb4⟩))
        go_ret
        exact ⟨rfl, hbel1.trans (hb4.mono hbel1.size)⟩
      case true =>
      have hsd := short_of hsh
      rw [hsh] at SH0
      have SH := hide SH0
      clear hsh SH0
      go_upto_region 13 with (first | (refine wpList_load_row rfl 27 (.tmp 13) rfl b rfl 27 d.cells (0, 0) _ HB.out Tryz.underlying27 rfl (info27 _) ?_) | (go_at_call 12; refine (SH.out _).mono ?_; rintro e w4 ⟨rfl, hb4⟩))
      have HB2 := hide (Blk.below hb4 HB.out)
      have HS2 := hide (OwnS.below HS1.out hb4)
      have HD2 := hide (OwnD.below HD1.out hb4)
      have hbel2 := hbel1.trans (hb4.mono hbel1.size)
      have hT2 := hT.below hbel2
      clear HB HS1 HD1 hbel1 hT1 hb4 SH
      have EN := hide (fun W hW => enc_any d hsd W hW)
      go_upto_region 14 with (first | (refine wpList_load_row rfl 27 (.tmp 13) rfl b rfl 27 d.cells (0, 0) _ HB2.out Tryz.underlying27 rfl (info27 _) ?_) | (go_at_call 13; refine (EN.out _ hT2).mono ?_; rintro e w5 ⟨rfl, hb5⟩))
      have HB3 := hide (Blk.below hb5 HB2.out)
      have HS3 := hide (OwnS.below HS2.out hb5)
      have HD3 := hide (OwnD.below HD2.out hb5)
      have hbel3 := hbel2.trans (hb5.mono hbel2.size)
      have c0 : w5.cell? ⟨b, 0, none⟩ = some (.int .i64 d.typ) := HB3.out.cells 0
      clear HB2 HS2 HD2 hbel2 hT2 hb5 EN
      by_cases hc : chkD d = 0
      case neg =>
        have q : (chkD d != 0) = true := by simpa using hc
        have hkb : keepB d = false := decide_eq_false (fun h => hc h.1)
        rw [hkb, if_neg (by decide), List.append_nil] at HW0
        have HW := hide HW0
        clear hc hkb HW0
        go_wp2_with fail
        go_roundw
        case rel => exact ⟨k + 1, by omega, by go_num, ⟨by rw [HW.out]; exact HS3.out, by rw [HW.out]; exact HD3.out⟩, hbel3⟩
        case measure => simp [intOf]; omega
      have q : (chkD d != 0) = false := by simpa using hc
      by_cases ht : d.typ = 255
      case pos =>
        have q2 : (d.typ == 255) = true := by simpa using ht
        have hkb : keepB d = false := decide_eq_false (fun h => h.2 ht)
        rw [hkb, if_neg (by decide), List.append_nil] at HW0
        have HW := hide HW0
        clear hc ht hkb HW0
        go_wp2_with fail
        go_roundw
        case rel => exact ⟨k + 1, by omega, by go_num, ⟨by rw [HW.out]; exact HS3.out, by rw [HW.out]; exact HD3.out⟩, hbel3⟩
        case measure => simp [intOf]; omega
      have q2 : (d.typ == 255) = false := by simpa using ht
      have hkb : keepB d = true := decide_eq_true ⟨hc, ht⟩
      rw [hkb, if_pos rfl] at HW0
      have HW := hide HW0
      have hln : (wantS (l.take k)).length ≤ k := by have := wantS_len (l.take k); rw [List.length_take] at this; omega
      have hli : (imgS s (wantS (l.take k))).length ≤ 100 := by rw [imgS_len]; omega
      clear hc ht hkb HW0
      generalize chkD d = ec at *
      generalize hes : encDS d = es at *
      have HES := hide hes
      clear hes
      go_upto_region 16 with (first | (refine wpList_load_row rfl 27 (.tmp 13) rfl b rfl 27 d.cells (0, 0) _ HB3.out Tryz.underlying27 rfl (info27 _) ?_) | (at_builtin; refine wpList_append_one _ rfl _ _ 41 rfl w.heap.size 9 strInfo Tryz.underlying41 rfl (by decide) _ _ _ HS3.out #[.string es] rfl rfl rfl (fun u hu => by simp at hu; subst hu; rfl) (by unfold maxLen; omega) (by omega) hbel3.size ?_; intro v6 w6 hown6 hb6 hot6 hz6))
      have HS6 := hide (OwnS.snoc hown6)
      have HB6 := hide (show Blk w6 b d.cells 27 from (hot6 b HB3.out.lt (own_blk HS3.out HB3.out (by decide))).trans HB3.out)
      have HD6 := hide (show OwnD w.heap.size _ _ w6 from own_keep HD3.out (fun g hg => hot6 g (own_lt HD3.out g hg) (own_tag HS3.out HD3.out (by decide) g hg)))
      have hbel6 := hbel3.trans hb6
      clear hown6 hb6 hot6 hz6 HS3 HB3 HD3 hbel3 c0
      have hs27 := sz27 d
      go_wp2_with (first | (refine wpList_load_row rfl 27 (.tmp 13) rfl b rfl 27 d.cells (0, 0) _ HB6.out Tryz.underlying27 rfl (info27 _) ?_) | (at_builtin; rw [lit27]; refine wpList_append_one _ rfl _ _ 43 rfl w.heap.size 27 descInfo Tryz.underlying43 rfl (by decide) _ _ _ HD6.out d.cells rfl rfl rfl (fun u hu => Array.all_eq_true_iff_forall_mem.1 (one27 d) u (by simpa using hu)) (by unfold maxLen; omega) (by omega) hbel6.size ?_; intro v7 w7 hown7 hb7 hot7 hz7))
      have HD7 := hide (OwnD.snoc hown7)
      have HS7 := hide (show OwnS w.heap.size _ _ w7 from own_keep HS6.out (fun g hg => hot7 g (own_lt HS6.out g hg) (own_tag HD6.out HS6.out (by decide) g hg)))
      go_roundw
      case rel => exact ⟨k + 1, by omega, by go_num, ⟨by rw [HW.out, imgS_snoc, HES.out]; exact HS7.out, by rw [HW.out]; exact HD7.out⟩, hbel6.trans hb7⟩
      case measure => simp [intOf]; omega
  case rest =>
  obtain ⟨⟨hS, hD⟩, hbel4⟩ := hcut
  clear HR hbel3 HA
  rw [List.take_length] at hS hD
  have hLl : (wantS l).length ≤ 12 := by have := wantS_len l; omega
  have HK := hide (wantS_keep l)
  generalize wantS l = L at *
  obtain ⟨A5, c5, rfl⟩ := OwnD.shape hD
  have HS4 := hide hS
  have HD4 := hide hD
  have hT4 := hT.below hbel4
  clear hS hD
  obtain ⟨en, hen⟩ : ∃ en, encDS exT = en := ⟨_, rfl⟩
  have ET : Hid (∀ W, TabD W → Calls Tryz.prog 13 #[.agg exT.cells] W fun e w' => e = .returned (.tuple #[.string en, .int .i64 0]) ∧ Below W.heap.size W w') := hide (fun W hW => by have h := enc_any exT shortT W hW; rw [hen, chkT] at h; exact h)
  have HEN := hide hen
  clear hen
  go_upto_region 19 with (go_at_call 13; refine (ET.out _ hT4).mono ?_; rintro e w5 ⟨rfl, hb5⟩)
  have HS5 := hide (OwnS.below HS4.out hb5)
  have HD5 := hide (OwnD.below HD4.out hb5)
  have hbel5 := hbel4.trans (hb5.mono hbel4.size)
  have hli : (imgS s L).length = s + 16 + L.length := imgS_len s L
  have HLI := hide hli
  have hli2 : (imgS s L).length ≤ 100 := by omega
  clear HS4 HD4 hbel4 hT4 hb5 ET hli
  go_upto_region 20 with (at_builtin; refine wpList_append_one _ rfl _ _ 41 rfl w.heap.size 9 strInfo Tryz.underlying41 rfl (by decide) _ _ _ HS5.out #[.string en] rfl rfl rfl (fun u hu => by simp at hu; subst hu; rfl) (by unfold maxLen; omega) (by omega) hbel5.size ?_; intro v6 w6 hown6 hb6 hot6 hz6)
  have HS6 := hide (OwnS.snoc hown6)
  have HD6 := hide (show OwnD w.heap.size _ _ w6 from own_keep HD5.out (fun g hg => hot6 g (own_lt HD5.out g hg) (own_tag HS5.out HD5.out (by decide) g hg)))
  have hbel6 := hbel5.trans hb6
  clear hown6 hb6 hot6 hz6 HS5 HD5 hbel5
  go_upto_if 79 with fail
  go_cut [10] (fun v wx => ∃ tl, tl.length ≤ 1 ∧ OwnS w.heap.size (imgS s L ++ en :: tl) v wx ∧ OwnD w.heap.size L (.slice A5 L.length c5) wx ∧ Below w.heap.size w wx)
  case first =>
    by_cases h8 : beh.size = 2048
    · have q : ((beh.size : Int) == 2048) = true := by simp; omega
      clear h8
      have hli3 : (imgS s L ++ [en]).length ≤ 101 := by rw [List.length_append, List.length_singleton]; omega
      go_wp2_with (at_builtin; refine wpList_append_one _ rfl _ _ 41 rfl w.heap.size 9 strInfo Tryz.underlying41 rfl (by decide) _ _ _ HS6.out #[.string beh] rfl rfl rfl (fun u hu => by simp at hu; subst hu; rfl) (by unfold maxLen; omega) (by omega) hbel6.size ?_; intro v7 w7 hown7 hb7 hot7 hz7)
      have HS7 := hide (OwnS.snoc hown7)
      have HD7 := hide (show OwnD w.heap.size _ _ w7 from own_keep HD6.out (fun g hg => hot7 g (own_lt HD6.out g hg) (own_tag HS6.out HD6.out (by decide) g hg)))
      clear hown7 hot7
      go_meet
      exact ⟨[beh], by simp, by have h := HS7.out; rwa [List.append_assoc] at h, HD7.out, hbel6.trans hb7⟩
    · have q : ((beh.size : Int) == 2048) = false := by simp; omega
      clear h8
      go_wp2_with fail
      go_meet
      exact ⟨[], by simp, HS6.out, HD6.out, hbel6⟩
  case rest =>
  obtain ⟨tl, htl, hS7, hD7, hbel7⟩ := hcut
  clear HS6 HD6 hbel6
  obtain ⟨M, hM⟩ : ∃ M, M = imgS s L ++ en :: tl := ⟨_, rfl⟩
  have hMl : s + 16 + L.length + 1 ≤ M.length ∧ M.length ≤ 200 := by rw [hM, List.length_append, HLI.out, List.length_cons]; omega
  have hr1 : readA M s = (L, 0, 0) := by rw [hM, ← HEN.out]; exact seq_read s L tl HK.out hLl
  have HR2 := hide (fun p (hp : p ≤ L.length) => show readA (M.set (s + 16 + p) ⟨#[33]⟩) s = ([], ((s + 16 + p : Nat) : Int), 9) by rw [hM, ← HEN.out]; exact seq_lost s p L tl HK.out hLl hp)
  rw [← hM] at hS7
  clear hM HEN HK HLI hli2
  obtain ⟨g, cap, rfl, hBg⟩ := OwnS.shape hS7 (by omega)
  have HS7 := hide hS7
  have HD7 := hide hD7
  have hT7 := hT.below hbel7
  have RA0 := fun W hR hW => read_any M s (.slice (some ⟨g, 0, none⟩) M.length cap) (by unfold maxLen; omega) (by omega) W hR hW
  unfold ReadP at RA0
  rw [hr1] at RA0
  have RA := hide RA0
  clear hS7 hD7 hr1 RA0 htl
  go_upto_region 23 with (go_at_call 23; refine (RA.out _ (OwnS.reads HS7.out) hT7).mono ?_; rintro e w8 ⟨v8, rfl, hv8, hb8⟩)
  have HS8 := hide (OwnS.below HS7.out hb8)
  have HD8 := hide (OwnD.below HD7.out hb8)
  have HV8 := hide (OwnD.reads hv8)
  have hbel8 := hbel7.trans (hb8.mono hbel7.size)
  clear HS7 HD7 hbel7 hT7 hb8 hv8 RA
  have SM := hide (same_want L (by omega))
  obtain ⟨p, hp, hpl⟩ : ∃ p : Nat, (x : Int) % ((L.length : Int) + 1) = (p : Int) ∧ p ≤ L.length := ⟨x % (L.length + 1), by rw [Int.natCast_emod, Int.natCast_add]; rfl, Nat.le_of_lt_succ (Nat.mod_lt x (Nat.succ_pos _))⟩
  obtain ⟨q, hq⟩ : ∃ q, q = s + 16 + p := ⟨_, rfl⟩
  have hr2 := HR2.out p hpl
  rw [← hq] at hr2
  have hqi : (s : Int) + 16 + (p : Int) = (q : Int) := by omega
  have hql : q < M.length := by omega
  have HRR := hide hr2
  clear HR2 hr2 hq
  go_upto_region 26 with (go_at_call 25; refine (SM.out _ _ _ HV8.out (OwnD.reads HD8.out)).mono ?_; rintro e w9 ⟨rfl, hb9⟩)
  have HS9 := hide (OwnS.below HS8.out hb9)
  have hbel9 := hbel8.trans (hb9.mono hbel8.size)
  clear HS8 HD8 HV8 hbel8 hb9 SM hp hqi
  obtain ⟨hfz, hcl, hput⟩ := OwnS.put2 (i := q) (y := ⟨#[33]⟩) HS9.out hql
  have HS10 := hide hput
  generalize M[q] = y0 at hcl
  have hbel10 := hbel9.setCell (p := ⟨g, q, none⟩) hBg (.string ⟨#[33]⟩)
  have hT10 := hT.below hbel10
  have hMq : (M.set q ⟨#[33]⟩).length = M.length := List.length_set
  have RA0 := fun W hR hW => read_any (M.set q ⟨#[33]⟩) s (.slice (some ⟨g, 0, none⟩) M.length cap) (by rw [List.length_set]; unfold maxLen; omega) (by omega) W hR hW
  unfold ReadP at RA0
  rw [HRR.out] at RA0
  have RA := hide RA0
  clear hput RA0 HRR hMq HS9 hbel9
  go_upto_region 27 with fail
  clear hfz hcl
  generalize w9.setCell ⟨g, q, none⟩ (.string ⟨#[33]⟩) = W10 at *
  go_upto_region 28 with (go_at_call 23; refine (RA.out _ (OwnS.reads HS10.out) hT10).mono ?_; rintro e w11 ⟨v11, rfl, hv11, hb11⟩)
  obtain ⟨A6, c6, rfl⟩ := OwnD.shape hv11
  have hbel11 := hbel10.trans (hb11.mono hbel10.size)
  clear hv11 hb11 RA HS10
  go_wp2_with fail
  go_ret
  exact ⟨rfl, hbel11⟩
end Go.Proofs.YtjbhokmkmapkoaaGreatDoor
