/- Contracts and plain words for the laws of volume descriptors, part 41: L2. No condition. -/
import Derived.Test.YtjbhokmkmapkoaaGreatDoorC37
namespace Go.Proofs.YtjbhokmkmapkoaaGreatDoor
set_option linter.unusedSimpArgs false
set_option linter.unusedVariables false
open Go.RowKit
open Go.PlainAid (bt get_bt bt_nonneg bt_le bt_end)
theorem difD_len (s : ByteArray) : (difD s).length ≤ 8 := by
  unfold difD
  split
  · show 0 ≤ 8; omega
  · rw [List.length_map]
    exact List.length_filter_le _ _
theorem difN_any (s : ByteArray) (h : s.size ≤ 100000) (W : World) : Calls Tryz.prog 20 #[.string s] W fun e w' => (∃ v, e = .returned v ∧ ReadsN w' v (difD s)) ∧ Below W.heap.size W w' :=
  (differ_any s h W).mono fun _ _ ⟨v, h1, h2, h3⟩ => ⟨⟨v, h1, ReadsN.of h2⟩, h3⟩
theorem rdifN_any (s : ByteArray) (h : s.size ≤ 100000) (W : World) : Calls Tryz.prog 21 #[.string s] W fun e w' => (∃ v, e = .returned v ∧ ReadsN w' v (difD s)) ∧ Below W.heap.size W w' :=
  (rdiffer_any s h W).mono fun _ _ ⟨v, h1, h2, h3⟩ => ⟨⟨v, h1, ReadsN.of h2⟩, h3⟩
theorem eqN_same (L : List Nat) (hL : L.length ≤ 8) (a b : Value) (W : World) (ha : ReadsN W a L) (hb : ReadsN W b L) : Calls Tryz.prog 19 #[a, b] W fun e w' => e = .returned (.bool true) ∧ Below W.heap.size W w' := by
  have h := equal_any L L a b (by omega) (by omega) W ha hb
  rwa [decide_eq_true rfl] at h
theorem same_same (L : List DR) (hL : L.length ≤ 100000) (a b : Value) (W : World) (ha : ReadsD W a L) (hb : ReadsD W b L) : Calls Tryz.prog 25 #[a, b] W fun e w' => e = .returned (.bool true) ∧ Below W.heap.size W w' := by
  have h := rsame_any L L a b hL hL W ha hb
  rwa [decide_eq_true rfl] at h
theorem eqlD_same (d : DR) (W : World) : (binOp .eql 27 (.agg d.cells) (.agg d.cells)).run Tryz.prog W = .ok (.bool true) W := by
  have h := eqlD d d W
  rwa [decide_eq_true rfl] at h
set_option maxRecDepth 100000 in
set_option maxHeartbeats 8000000 in
theorem law_decodes (s : ByteArray) (w : World) (hT : TabD w) (hs : s.size ≤ maxLen) : Calls Tryz.prog 4 #[.string s] w fun e w' => e = .returned (.bool true) ∧ Below w.heap.size w w' := by
  unfold maxLen at hs
  have HL : Live w [] := trivial
  go_enter Tryz.func4, Tryz.ntmps4
  go_upto_region 3 with (go_at_call 11; refine (awake_any _ hT).mono ?_; rintro e w2 ⟨rfl, hb2⟩)
  have hT2 := hT.below hb2
  by_cases h3 : s.size ≤ 3000
  case neg =>
    go_wp2_with fail
    go_ret
    exact ⟨rfl, hb2⟩
  have DE0 := fun W hW => dec_any s (by omega) W hW
  have RD0 := fun W => rdec_any s (by omega) W
  obtain ⟨d, e, hd⟩ := pair_d (decD s)
  unfold DecDP at DE0 RD0
  rw [hd] at DE0 RD0
  dsimp only at DE0 RD0
  have DE := hide DE0
  have RD := hide RD0
  have DF := hide (fun W => difN_any s (by omega) W)
  have RF := hide (fun W => rdifN_any s (by omega) W)
  have EQ := hide (eqN_same (difD s) (difD_len s))
  clear DE0 RD0 hd
  go_upto_region 6 with (first | (go_at_call 17; refine (DE.out _ hT2).mono ?_; rintro e w3 ⟨rfl, hb3⟩) | (refine wpList_store_new rfl 27 (.tmp 3) (.tmp 15) rfl d.cells rfl rfl 27 _ (info27 _) (siz27 _) (one27 _) ?_))
  have HB3 := hide (show Blk (w3.alloc (.cells d.cells 27)) w3.heap.size d.cells 27 from Blk.newAt rfl)
  have hbel3 := (hb2.trans (hb3.mono hb2.size)).alloc (hb2.trans (hb3.mono hb2.size)).size (.cells d.cells 27)
  generalize w3.alloc (.cells d.cells 27) = W3 at *
  generalize w3.heap.size = b3 at *
  clear hb3 hb2 hT2 DE
  go_upto_region 7 with (first | (go_at_call 18; refine (RD.out _).mono ?_; rintro e w4 ⟨rfl, hb4⟩) | (refine wpList_store_new rfl 27 (.tmp 5) (.tmp 20) rfl d.cells rfl rfl 27 _ (info27 _) (siz27 _) (one27 _) ?_))
  have HB4 := hide (show Blk (w4.alloc (.cells d.cells 27)) w4.heap.size d.cells 27 from Blk.newAt rfl)
  have HB34 := hide ((Blk.below hb4 HB3.out).alloc (.cells d.cells 27))
  have hbel4 := (hbel3.trans (hb4.mono hbel3.size)).alloc (hbel3.trans (hb4.mono hbel3.size)).size (.cells d.cells 27)
  generalize w4.alloc (.cells d.cells 27) = W4 at *
  generalize w4.heap.size = b4 at *
  clear hb4 HB3 hbel3 RD
  have QE := eqlD_same d
  go_wp2_with (first | (refine wpList_load_row rfl 27 (.tmp 3) rfl b3 rfl 27 d.cells (0, 0) _ HB34.out Tryz.underlying27 rfl (info27 _) ?_) | (refine wpList_load_row rfl 27 (.tmp 5) rfl b4 rfl 27 d.cells (0, 0) _ HB4.out Tryz.underlying27 rfl (info27 _) ?_) | (go_at_call 20; refine (DF.out _).mono ?_; rintro e w5 ⟨⟨v5, rfl, hv5⟩, hb5⟩) | (go_at_call 21; refine (RF.out _).mono ?_; rintro e w6 ⟨⟨v6, rfl, hv6⟩, hb6⟩) | (go_at_call 19; refine (EQ.out v5 v6 _ (hv5.below hb6) hv6).mono ?_; rintro e w7 ⟨rfl, hb7⟩))
  go_ret
  exact ⟨rfl, ((hbel4.trans (hb5.mono hbel4.size)).trans (hb6.mono (hbel4.trans (hb5.mono hbel4.size)).size)).trans (hb7.mono ((hbel4.trans (hb5.mono hbel4.size)).trans (hb6.mono (hbel4.trans (hb5.mono hbel4.size)).size)).size)⟩
theorem trip_l (x : List DR × Int × Int) : ∃ a b c, x = (a, b, c) := ⟨x.1, x.2.1, x.2.2, rfl⟩
set_option maxRecDepth 100000 in
set_option maxHeartbeats 8000000 in
theorem law_reads (img : List ByteArray) (a : Value) (st : Int) (w : World) (hT : TabD w) (ha : ReadsS w a img) (hL : img.length ≤ maxLen) (hst : -9223372036854775808 ≤ st ∧ st ≤ 9223372036854775807) : Calls Tryz.prog 5 #[a, .int .i64 st] w fun e w' => e = .returned (.bool true) ∧ Below w.heap.size w w' := by
  have HA := hide ha
  have HLn := hide hL
  clear ha hL
  have HL : Live w [] := trivial
  go_enter Tryz.func5, Tryz.ntmps5
  go_upto_region 3 with (go_at_call 11; refine (awake_any _ hT).mono ?_; rintro e w2 ⟨rfl, hb2⟩)
  have hT2 := hT.below hb2
  have VA := hide (fun W (hW : ReadsS W a img) => rvalid_any img 120 a HLn.out W hW)
  cases hv : validB img 120
  case false =>
    rw [hv] at VA
    clear hv
    go_wp2_with (go_at_call 22; refine (VA.out _ (HA.out.below hb2)).mono ?_; rintro e w3 ⟨rfl, hb3⟩)
    go_ret
    exact ⟨rfl, hb2.trans (hb3.mono hb2.size)⟩
  case true =>
  rw [hv] at VA
  clear hv
  by_cases hs : st ≤ 1099511627776
  case neg =>
    go_wp2_with (go_at_call 22; refine (VA.out _ (HA.out.below hb2)).mono ?_; rintro e w3 ⟨rfl, hb3⟩)
    go_ret
    exact ⟨rfl, hb2.trans (hb3.mono hb2.size)⟩
  have RA0 := fun W hR hW => read_any img st a HLn.out (by omega) W hR hW
  have RB0 := fun W hR => rread_any img st a HLn.out (by omega) W hR
  have hlen := readL_len img st 64 0 []
  obtain ⟨L, lba, er, hr⟩ := trip_l (readA img st)
  rw [show readL img st 64 0 [] = readA img st from rfl, hr] at hlen
  unfold ReadP at RA0 RB0
  rw [hr] at RA0 RB0
  dsimp only at RA0 RB0 hlen
  have RA := hide RA0
  have RB := hide RB0
  have SM := hide (same_same L (by simp at hlen; omega))
  clear RA0 RB0 hr hlen
  go_upto_region 5 with (go_at_call 22; refine (VA.out _ (HA.out.below hb2)).mono ?_; rintro e w3 ⟨rfl, hb3⟩)
  have hbel3 := hb2.trans (hb3.mono hb2.size)
  have hT3 := hT.below hbel3
  clear hb2 hb3 hT2 VA
  go_upto_region 6 with (go_at_call 23; refine (RA.out _ (HA.out.below hbel3) hT3).mono ?_; rintro e w4 ⟨v4, rfl, hv4, hb4⟩)
  have hbel4 := hbel3.trans (hb4.mono hbel3.size)
  have HV4 := hide (OwnD.reads hv4)
  clear hb4 hbel3 hT3 RA hv4
  go_upto_region 7 with (go_at_call 24; refine (RB.out _ (HA.out.below hbel4)).mono ?_; rintro e w5 ⟨v5, rfl, hv5, hb5⟩)
  have hbel5 := hbel4.trans (hb5.mono hbel4.size)
  have HV5 := hide (OwnD.reads hv5)
  have HV45 := hide (HV4.out.below hb5)
  clear hb5 hbel4 RB hv5 HV4
  go_wp2_with (go_at_call 25; refine (SM.out _ _ _ HV45.out HV5.out).mono ?_; rintro e w6 ⟨rfl, hb6⟩)
  go_ret
  exact ⟨rfl, hbel5.trans (hb6.mono hbel5.size)⟩
end Go.Proofs.YtjbhokmkmapkoaaGreatDoor
