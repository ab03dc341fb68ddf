/- Contracts and plain words for the laws of volume descriptors, part 42: L3. No condition. -/
import Derived.Test.YtjbhokmkmapkoaaGreatDoorC41
namespace Go.Proofs.YtjbhokmkmapkoaaGreatDoor
set_option linter.unusedSimpArgs false
set_option linter.unusedVariables false
open Go.RowKit
open Go.PlainAid (bt get_bt bt_nonneg bt_le bt_end)
theorem le4_in (s : ByteArray) (p : Nat) : 0 ≤ le4 s p ∧ le4 s p ≤ 4294967295 := by
  unfold le4
  have := bt_nonneg s p; have := bt_le s p
  have := bt_nonneg s (p + 1); have := bt_le s (p + 1)
  have := bt_nonneg s (p + 2); have := bt_le s (p + 2)
  have := bt_nonneg s (p + 3); have := bt_le s (p + 3)
  omega
theorem short_zero (t c : Int) : ShortD { DR.zero with typ := t, cat := c } := by
  refine ⟨fun k hk => ?_, ?_, ?_⟩
  · rcases five hk with rfl | rfl | rfl | rfl | rfl <;> exact Nat.zero_le _
  · exact Nat.zero_le _
  · exact Nat.zero_le _
theorem chk_only {d : DR} (h : d.typ = 0) (e : onlyD d = d) (hw : wordB d.cat = true) : chkD d = 0 := by
  unfold chkD
  rw [if_pos (Or.inl h), e, if_neg (fun h => h rfl), if_pos hw]
theorem chk_boot (c : Int) (h : 0 ≤ c ∧ c ≤ 4294967295) : chkD { DR.zero with cat := c } = 0 := chk_only rfl (by simp [onlyD, DR.zero]) (decide_eq_true h)
/-- What is decoded without an error is right and short. -/
theorem dec_ok {s : ByteArray} {d : DR} (h : decD s = (d, 0)) : chkD d = 0 ∧ ShortD d := by
  unfold decD at h
  split at h
  · cases h
  split at h
  · cases h
  split at h
  · cases h
    exact ⟨chkT, short_zero 255 0⟩
  split at h
  · split at h
    · cases h
    · have e := (Prod.mk.inj h).1
      subst e
      exact ⟨chk_boot _ (le4_in s 71), short_zero 0 _⟩
  split at h
  · cases h
  split at h
  · rename_i hg
    have e := (Prod.mk.inj h).1
    subst e
    refine ⟨?_, body_short s⟩
    unfold goodD at hg
    rw [Bool.and_eq_true] at hg
    exact (of_decide_eq_true hg.2).2.2.2
  · cases h
theorem dec_bad {s : ByteArray} {d : DR} {e : Int} (h : decD s = (d, e)) (he : e ≠ 0) : d = DR.zero := by
  unfold decD at h
  split at h
  · exact (Prod.mk.inj h).1.symm
  split at h
  · exact (Prod.mk.inj h).1.symm
  split at h
  · exact absurd (Prod.mk.inj h).2.symm he
  split at h
  · split at h
    · exact (Prod.mk.inj h).1.symm
    · exact absurd (Prod.mk.inj h).2.symm he
  split at h
  · exact (Prod.mk.inj h).1.symm
  split at h
  · exact absurd (Prod.mk.inj h).2.symm he
  · exact (Prod.mk.inj h).1.symm
set_option maxRecDepth 100000 in
set_option maxHeartbeats 8000000 in
theorem law_returns (d : DR) (w : World) (hT : TabD w) : Calls Tryz.prog 6 #[.agg d.cells] w fun e w' => e = .returned (.bool true) ∧ Below w.heap.size w w' := by
  have HL : Live w [] := trivial
  go_enter Tryz.func6, Tryz.ntmps6
  go_upto_region 1 with fail
  have HB := hide (show Blk (w.alloc (.cells d.cells 27)) w.heap.size d.cells 27 from Blk.newAt rfl)
  have hbel1 : Below w.heap.size w (w.alloc (.cells d.cells 27)) := by (exact bl)
  have hT1 := hT.below hbel1
  generalize w.alloc (.cells d.cells 27) = W1 at *
  obtain ⟨b, hb⟩ : ∃ b, b = w.heap.size := ⟨_, rfl⟩
  rw [← hb] at HB ⊢
  have lb : w.heap.size ≤ b := by omega
  clear hb
  go_upto_region 3 with (go_at_call 11; refine (awake_any _ hT1).mono ?_; rintro e w2 ⟨rfl, hb2⟩)
  have HB2 := hide (Blk.below hb2 HB.out)
  have hbel2 := hbel1.trans (hb2.mono hbel1.size)
  have hT2 := hT.below hbel2
  clear hb2 HB hbel1 hT1
  cases hsh : shortDB d
  case false =>
    have SH := hide (fun W => rshort_any d W)
    rw [hsh] at SH
    clear hsh
    go_wp2_with (first | (first | (refine wpList_load_row rfl 27 (.tmp 1) rfl b rfl 27 d.cells (0, 0) _ HB2.out Tryz.underlying27 rfl (info27 _) ?_) | (refine wpList_load_rowG 27 (.tmp 1) rfl rfl b rfl 27 d.cells (0, 0) _ HB2.out Tryz.underlying27 rfl (info27 _) ?_)) | (go_at_call 12; refine (SH.out _).mono ?_; rintro e w3 ⟨rfl, hb3⟩))
    go_ret
    exact ⟨rfl, hbel2.trans (hb3.mono hbel2.size)⟩
  case true =>
  have hsd := short_of hsh
  have SH := hide (fun W => rshort_any d W)
  rw [hsh] at SH
  have EN0 := fun W hW => enc_any d hsd W hW
  have CK0 := fun W hW => check_any d hsd W hW
  clear hsh
  go_upto_region 5 with (first | (first | (refine wpList_load_row rfl 27 (.tmp 1) rfl b rfl 27 d.cells (0, 0) _ HB2.out Tryz.underlying27 rfl (info27 _) ?_) | (refine wpList_load_rowG 27 (.tmp 1) rfl rfl b rfl 27 d.cells (0, 0) _ HB2.out Tryz.underlying27 rfl (info27 _) ?_)) | (go_at_call 12; refine (SH.out _).mono ?_; rintro e w3 ⟨rfl, hb3⟩))
  have HB3 := hide (Blk.below hb3 HB2.out)
  have hbel3 := hbel2.trans (hb3.mono hbel2.size)
  have hT3 := hT.below hbel3
  clear hb3 HB2 hbel2 hT2 SH
  by_cases hc : chkD d = 0
  case neg =>
    have hq : (chkD d != 0) = true := by simpa using hc
    rw [encDS_no hc] at EN0
    have EN := hide EN0
    have CK := hide CK0
    clear EN0 CK0 hc
    go_upto_region 6 with (first | (first | (refine wpList_load_row rfl 27 (.tmp 1) rfl b rfl 27 d.cells (0, 0) _ HB3.out Tryz.underlying27 rfl (info27 _) ?_) | (refine wpList_load_rowG 27 (.tmp 1) rfl rfl b rfl 27 d.cells (0, 0) _ HB3.out Tryz.underlying27 rfl (info27 _) ?_)) | (go_at_call 13; refine (EN.out _ hT3).mono ?_; rintro e w4 ⟨rfl, hb4⟩))
    have HB4 := hide (Blk.below hb4 HB3.out)
    have hbel4 := hbel3.trans (hb4.mono hbel3.size)
    have hT4 := hT.below hbel4
    clear hb4 HB3 hbel3 hT3 EN
    go_upto_region 7 with (first | (first | (refine wpList_load_row rfl 27 (.tmp 1) rfl b rfl 27 d.cells (0, 0) _ HB4.out Tryz.underlying27 rfl (info27 _) ?_) | (refine wpList_load_rowG 27 (.tmp 1) rfl rfl b rfl 27 d.cells (0, 0) _ HB4.out Tryz.underlying27 rfl (info27 _) ?_)) | (go_at_call 15; refine (CK.out _ hT4).mono ?_; rintro e w5 ⟨rfl, hb5⟩))
    have HB5 := hide (Blk.below hb5 HB4.out)
    have hbel5 := hbel4.trans (hb5.mono hbel4.size)
    have hT5 := hT.below hbel5
    clear hb5 HB4 hbel4 hT4
    go_wp2_with (first | (first | (refine wpList_load_row rfl 27 (.tmp 1) rfl b rfl 27 d.cells (0, 0) _ HB5.out Tryz.underlying27 rfl (info27 _) ?_) | (refine wpList_load_rowG 27 (.tmp 1) rfl rfl b rfl 27 d.cells (0, 0) _ HB5.out Tryz.underlying27 rfl (info27 _) ?_)) | (go_at_call 15; refine (CK.out _ hT5).mono ?_; rintro e w6 ⟨rfl, hb6⟩))
    go_ret
    exact ⟨rfl, hbel5.trans (hb6.mono hbel5.size)⟩
  case pos =>
  have hsz := enc_size hc
  have hde := dec_enc hc
  have hdf : difD (encDS d) = [] := by rw [encDS_ok hc]; exact dif_encD hc
  obtain ⟨s, hs⟩ : ∃ s, encDS d = s := ⟨_, rfl⟩
  rw [hs] at hsz hde hdf
  rw [hs, hc] at EN0
  rw [hc] at CK0
  have DE0 := fun W hW => dec_any s (by omega) W hW
  unfold DecDP at DE0
  rw [hde] at DE0
  dsimp only at DE0
  have DF0 := fun W => difN_any s (by omega) W
  rw [hdf] at DF0
  have EN := hide EN0
  have CK := hide CK0
  have DE := hide DE0
  have DF := hide DF0
  have HSZ := hide hsz
  clear EN0 CK0 DE0 DF0 hs hde hdf hsz hc
  go_upto_region 6 with (first | (first | (refine wpList_load_row rfl 27 (.tmp 1) rfl b rfl 27 d.cells (0, 0) _ HB3.out Tryz.underlying27 rfl (info27 _) ?_) | (refine wpList_load_rowG 27 (.tmp 1) rfl rfl b rfl 27 d.cells (0, 0) _ HB3.out Tryz.underlying27 rfl (info27 _) ?_)) | (go_at_call 13; refine (EN.out _ hT3).mono ?_; rintro e w4 ⟨rfl, hb4⟩))
  have HB4 := hide (Blk.below hb4 HB3.out)
  have hbel4 := hbel3.trans (hb4.mono hbel3.size)
  have hT4 := hT.below hbel4
  clear hb4 HB3 hbel3 hT3 EN
  go_upto_region 8 with (first | (first | (refine wpList_load_row rfl 27 (.tmp 1) rfl b rfl 27 d.cells (0, 0) _ HB4.out Tryz.underlying27 rfl (info27 _) ?_) | (refine wpList_load_rowG 27 (.tmp 1) rfl rfl b rfl 27 d.cells (0, 0) _ HB4.out Tryz.underlying27 rfl (info27 _) ?_)) | (go_at_call 15; refine (CK.out _ hT4).mono ?_; rintro e w5 ⟨rfl, hb5⟩))
  have HB5 := hide (Blk.below hb5 HB4.out)
  have hbel5 := hbel4.trans (hb5.mono hbel4.size)
  have hT5 := hT.below hbel5
  clear hb5 HB4 hbel4 hT4 CK
  go_upto_region 9 with (first | (go_at_call 17; refine (DE.out _ hT5).mono ?_; rintro e w6 ⟨rfl, hb6⟩) | (refine wpList_store_new rfl 27 (.tmp 5) (.tmp 36) rfl d.cells rfl rfl 27 _ (info27 _) (siz27 _) (one27 _) ?_))
  have HX6 := hide (show Blk (w6.alloc (.cells d.cells 27)) w6.heap.size d.cells 27 from Blk.newAt rfl)
  have HB6 := hide ((Blk.below hb6 HB5.out).alloc (.cells d.cells 27))
  have hbel6 := (hbel5.trans (hb6.mono hbel5.size)).alloc (hbel5.trans (hb6.mono hbel5.size)).size (.cells d.cells 27)
  generalize w6.alloc (.cells d.cells 27) = W6 at *
  generalize w6.heap.size = x at *
  clear hb6 HB5 hbel5 hT5 DE
  have QE := eqlD_same d
  have zs : (s.size : Int) = 2048 := by have := HSZ.out; omega
  go_wp2_with (first | (refine wpList_load_rowG 27 (.tmp 5) rfl rfl x rfl 27 d.cells (0, 0) _ HX6.out Tryz.underlying27 rfl (info27 _) ?_) | (refine wpList_load_rowG 27 (.tmp 1) rfl rfl b rfl 27 d.cells (0, 0) _ HB6.out Tryz.underlying27 rfl (info27 _) ?_) | (go_at_call 20; refine (DF.out _).mono ?_; rintro e w7 ⟨⟨v7, rfl, A7, c7, rfl, hx7⟩, hb7⟩; clear hx7))
  go_ret
  exact ⟨rfl, hbel6.trans (hb7.mono hbel6.size)⟩
set_option maxRecDepth 100000 in
set_option maxHeartbeats 8000000 in
theorem law_back (s : ByteArray) (w : World) (hT : TabD w) (hs : s.size ≤ maxLen) : Calls Tryz.prog 7 #[.string s] w fun e w' => e = .returned (.bool true) ∧ Below w.heap.size w w' := by
  unfold maxLen at hs
  have HL : Live w [] := trivial
  go_enter Tryz.func7, Tryz.ntmps7
  go_upto_region 3 with (go_at_call 11; refine (awake_any _ hT).mono ?_; rintro e w2 ⟨rfl, hb2⟩)
  have hT2 := hT.below hb2
  by_cases h3 : s.size ≤ 3000
  case neg =>
    go_wp2_with fail
    go_ret
    exact ⟨rfl, hb2⟩
  have DE0 := fun W hW => dec_any s (by omega) W hW
  obtain ⟨d, e, hd⟩ := pair_d (decD s)
  unfold DecDP at DE0
  rw [hd] at DE0
  dsimp only at DE0
  have DE := hide DE0
  have HDD := hide hd
  clear DE0 hd
  go_upto_region 6 with (first | (go_at_call 17; refine (DE.out _ hT2).mono ?_; rintro e w3 ⟨rfl, hb3⟩) | (refine wpList_store_new rfl 27 (.tmp 3) (.tmp 17) rfl d.cells rfl rfl 27 _ (info27 _) (siz27 _) (one27 _) ?_))
  have HB3 := hide (show Blk (w3.alloc (.cells d.cells 27)) w3.heap.size d.cells 27 from Blk.newAt rfl)
  have hbel3 := (hb2.trans (hb3.mono hb2.size)).alloc (hb2.trans (hb3.mono hb2.size)).size (.cells d.cells 27)
  have hT3 := hT.below hbel3
  generalize w3.alloc (.cells d.cells 27) = W3 at *
  generalize w3.heap.size = b3 at *
  clear hb3 hb2 hT2 DE
  by_cases he : e = 0
  case neg =>
    have q1 : (e != 0) = true := by simpa using he
    have hz := dec_bad HDD.out he
    have HBZ := hide (show Blk W3 b3 DR.zero.cells 27 from by have h := HB3.out; rw [hz] at h; exact h)
    have QZ : ∀ W, (binOp .eql 27 (.agg DR.zero.cells) (.agg #[.int .i64 0, .int .i64 0, .string ⟨#[]⟩, .string ⟨#[]⟩, .string ⟨#[]⟩, .string ⟨#[]⟩, .string ⟨#[]⟩, .int .i64 0, .int .i64 0, .int .i64 0, .int .i64 0, .int .i64 0, .int .i64 0, .int .i64 0, .int .i64 0, .string ⟨#[]⟩, .int .i64 0, .int .i64 0, .int .i64 0, .int .i64 0, .int .i64 0, .int .i64 0, .string ⟨#[]⟩])).run Tryz.prog W = .ok (.bool true) W := fun W => eqlD_same DR.zero W
    clear he hz
    go_wp2_with (refine wpList_load_row rfl 27 (.tmp 3) rfl b3 rfl 27 DR.zero.cells (0, 0) _ HBZ.out Tryz.underlying27 rfl (info27 _) ?_)
    go_ret
    exact ⟨rfl, hbel3⟩
  case pos =>
  subst he
  obtain ⟨hc, hsd⟩ := dec_ok HDD.out
  have hsz := enc_size hc
  have hde := dec_enc hc
  have EN0 := fun W hW => enc_any d hsd W hW
  have CK0 := fun W hW => check_any d hsd W hW
  obtain ⟨t, ht⟩ : ∃ t, encDS d = t := ⟨_, rfl⟩
  rw [ht] at hsz hde
  rw [ht, hc] at EN0
  rw [hc] at CK0
  have DT0 := fun W hW => dec_any t (by omega) W hW
  unfold DecDP at DT0
  rw [hde] at DT0
  dsimp only at DT0
  have EN := hide EN0
  have CK := hide CK0
  have DT := hide DT0
  clear EN0 CK0 DT0 ht hde hsz hc hsd HDD
  go_upto_region 9 with (first | (refine wpList_load_row rfl 27 (.tmp 3) rfl b3 rfl 27 d.cells (0, 0) _ HB3.out Tryz.underlying27 rfl (info27 _) ?_) | (go_at_call 13; refine (EN.out _ hT3).mono ?_; rintro e w4 ⟨rfl, hb4⟩))
  have HB4 := hide (Blk.below hb4 HB3.out)
  have hbel4 := hbel3.trans (hb4.mono hbel3.size)
  have hT4 := hT.below hbel4
  clear hb4 HB3 hbel3 hT3 EN
  go_upto_region 10 with (first | (go_at_call 17; refine (DT.out _ hT4).mono ?_; rintro e w5 ⟨rfl, hb5⟩) | (refine wpList_store_new rfl 27 (.tmp 7) (.tmp 32) rfl d.cells rfl rfl 27 _ (info27 _) (siz27 _) (one27 _) ?_))
  have HX5 := hide (show Blk (w5.alloc (.cells d.cells 27)) w5.heap.size d.cells 27 from Blk.newAt rfl)
  have HB5 := hide ((Blk.below hb5 HB4.out).alloc (.cells d.cells 27))
  have hbel5 := (hbel4.trans (hb5.mono hbel4.size)).alloc (hbel4.trans (hb5.mono hbel4.size)).size (.cells d.cells 27)
  have hT5 := hT.below hbel5
  generalize w5.alloc (.cells d.cells 27) = W5 at *
  generalize w5.heap.size = x at *
  clear hb5 HB4 hbel4 hT4 DT
  have QE := eqlD_same d
  go_wp2_with (first | (refine wpList_load_row rfl 27 (.tmp 3) rfl b3 rfl 27 d.cells (0, 0) _ HB5.out Tryz.underlying27 rfl (info27 _) ?_) | (go_at_call 15; refine (CK.out _ hT5).mono ?_; rintro e w6 ⟨rfl, hb6⟩) | (refine wpList_load_rowG 27 (.tmp 7) rfl rfl x rfl 27 d.cells (0, 0) _ (Blk.below hb6 HX5.out) Tryz.underlying27 rfl (info27 _) ?_) | (refine wpList_load_rowG 27 (.tmp 3) rfl rfl b3 rfl 27 d.cells (0, 0) _ (Blk.below hb6 HB5.out) Tryz.underlying27 rfl (info27 _) ?_))
  go_ret
  exact ⟨rfl, hbel5.trans (hb6.mono hbel5.size)⟩
end Go.Proofs.YtjbhokmkmapkoaaGreatDoor
