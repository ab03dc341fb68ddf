/- Contracts and plain words for the laws of this chapter, part 43: Lw5. No condition. -/
import Derived.Test.YtlhakdildbplkaaGreatDoorD39
import Derived.Test.YtlhakdildbplkaaGreatDoorD42
namespace Go.Proofs.YtlhakdildbplkaaGreatDoor
set_option linter.unusedSimpArgs false
set_option linter.unusedVariables false
open Go.RowKit
theorem remQ_bad {t m : Tr} {p : ByteArray} {e : Int} (h : remQ t p = (m, e)) (he : e ≠ 0) : m = Tr.zero := by
  unfold remQ at h
  split at h
  · exact (Prod.mk.inj h).1.symm
  · split at h
    · exact (Prod.mk.inj h).1.symm
    · split at h
      · exact (Prod.mk.inj h).1.symm
      · split at h
        · exact (Prod.mk.inj h).1.symm
        · exact absurd (Prod.mk.inj h).2.symm he
set_option maxRecDepth 100000 in
set_option maxHeartbeats 16000000 in
theorem law_edits (t k : Tr) (v vk : Value) (d : ByteArray) (w : World) (hT : TabA w) (hv : TreeR w w.heap.size v t) (hz : t.sz ≤ 20971520) (hd : d.size ≤ 1048576) (hvk : TreeR w w.heap.size vk k) (hzk : k.sz ≤ 20971520) (hcap : CapT w v t) :
    Calls Tryz.prog 5 #[v, .string d, vk] w fun e w' => e = .returned (.bool true) ∧ Below w.heap.size w w' := by
  obtain ⟨cn, rfl, hzc⟩ := Nd.cells hv
  obtain ⟨ck, rfl, hzd⟩ := Nd.cells hvk
  have HTA := hide hT
  have HCAP := hide hcap
  clear hcap
  have HV := hide hv
  have HVK := hide hvk
  have HZ := hide (And.intro hz hzk)
  clear hv hz hT hvk hzk
  have HL : Live w [] := trivial
  go_enter Tryz.func5, Tryz.ntmps5
  go_upto_region 1 with fail
  have hbel0 : Below w.heap.size w (w.alloc (.cells cn 25)) := (Below.refl _ _).alloc (Nat.le_refl _) _
  have HN1 := hide ((Nd.new HV.out hzc).below (Below.one _ (.cells ck 25)))
  have HK1 := hide (Nd.new (w := w.alloc (.cells cn 25)) (HVK.out.later hbel0) hzd)
  have hbel1 : Below w.heap.size w ((w.alloc (.cells cn 25)).alloc (.cells ck 25)) := hbel0.alloc hbel0.size _
  rw [World.size_alloc] at HK1
  generalize (w.alloc (.cells cn 25)).alloc (.cells ck 25) = W1 at *
  obtain ⟨bk, hbk⟩ : ∃ bk, bk = w.heap.size + 1 := ⟨_, rfl⟩
  rw [← hbk] at HK1 ⊢
  obtain ⟨bn, hbn⟩ : ∃ bn, bn = w.heap.size := ⟨_, rfl⟩
  rw [← hbn] at HN1 ⊢
  clear hbk hbn HV HVK hzc hzd hbel0
  have AW := hide (awake_any W1 (HTA.out.below hbel1))
  go_upto_if 16 with (go_at_call 11; refine AW.out.mono ?_; rintro e w2 ⟨rfl, hb2⟩)
  have HN2 := hide (HN1.out.below hb2)
  have HK2 := hide (HK1.out.below hb2)
  have hbel2 := hbel1.trans (hb2.mono hbel1.size)
  clear HN1 HK1 hbel1 hb2 AW
  cases hfew : fewB t 20000 with
  | false =>
    have FW := hide (few_any w2 cn t false hfew HZ.out.1 HN2.out.2.1)
    go_wp2_with (first | ((with_reducible show wpList _ _ _ _ _ _); refine wpList_load_row rfl 25 (.tmp 3) rfl bn rfl 25 cn (0, 0) _ HN2.out.1 Tryz.underlying25 rfl (infN HN2.out.2.2) ?_) | (go_at_call 12; (with_reducible refine (FW.out).mono ?_); rintro e w3 ⟨rfl, hb3⟩))
    go_ret
    exact ⟨rfl, hbel2.trans (hb3.mono hbel2.size)⟩
  | true =>
  obtain ⟨hct, hsz⟩ := few_sz hfew
  have FW := hide (few_any w2 cn t true hfew HZ.out.1 HN2.out.2.1)
  clear hfew
  cases hfk : fewB k 20000 with
  | false =>
    have FK := hide (fun W h => few_any W ck k false hfk HZ.out.2 h)
    go_wp2_with (first | ((with_reducible show wpList _ _ _ (Oper.mk (some 21) _ _ _ _ _ :: _) _ _); refine wpList_load_rowG 25 (.tmp 5) rfl rfl bk rfl 25 ck (0, 0) _ (Blk.below hb3 HK2.out.1) Tryz.underlying25 rfl (infN HK2.out.2.2) ?_) | ((with_reducible show wpList _ _ _ _ _ _); refine wpList_load_row rfl 25 (.tmp 3) rfl bn rfl 25 cn (0, 0) _ HN2.out.1 Tryz.underlying25 rfl (infN HN2.out.2.2) ?_) | (go_at_call 12; (with_reducible refine (FW.out).mono ?_); rintro e w3 ⟨rfl, hb3⟩) | (go_at_call 12; (with_reducible refine (FK.out _ (HK2.out.below hb3).tree).mono ?_); rintro e w4 ⟨rfl, hb4⟩))
    go_ret
    exact ⟨rfl, hbel2.trans ((hb3.trans (hb4.mono hb3.size)).mono hbel2.size)⟩
  | true =>
  obtain ⟨hck, hsk⟩ := few_sz hfk
  have FK := hide (fun W h => few_any W ck k true hfk HZ.out.2 h)
  clear hfk
  go_upto_region 5 with (first | ((with_reducible show wpList _ _ _ (Oper.mk (some 21) _ _ _ _ _ :: _) _ _); refine wpList_load_rowG 25 (.tmp 5) rfl rfl bk rfl 25 ck (0, 0) _ (Blk.below hb3 HK2.out.1) Tryz.underlying25 rfl (infN HK2.out.2.2) ?_) | ((with_reducible show wpList _ _ _ _ _ _); refine wpList_load_row rfl 25 (.tmp 3) rfl bn rfl 25 cn (0, 0) _ HN2.out.1 Tryz.underlying25 rfl (infN HN2.out.2.2) ?_) | (go_at_call 12; (with_reducible refine (FW.out).mono ?_); rintro e w3 ⟨rfl, hb3⟩) | (go_at_call 12; (with_reducible refine (FK.out _ (HK2.out.below hb3).tree).mono ?_); rintro e w4 ⟨rfl, hb4⟩))
  have HN4 := hide ((HN2.out.below hb3).below hb4)
  have HK4 := hide ((HK2.out.below hb3).below hb4)
  have hbel4 := hbel2.trans ((hb3.trans (hb4.mono hb3.size)).mono hbel2.size)
  clear HN2 HK2 hb3 hb4 hbel2 FW FK
  have HC4 := hide (HCAP.out.below hbel4)
  have PN := hide (put_any t k d (by omega) (by omega) (by omega) (.agg cn) (.agg ck) w4 (HTA.out.below hbel4).1 HN4.out.2.1 HK4.out.2.1)
  have RP := hide (fun W h1 h2 => rPut_any t k d (by omega) (by omega) (by omega) (.agg cn) (.agg ck) W h1 h2)
  have RM := hide (fun W h0 h1 => remove_any t d (by omega) (by omega) (.agg cn) W h0 h1)
  have RR := hide (fun W h1 h2 => rRemove_any t d (by omega) (by omega) (.agg cn) W h1 h2)
  rw [putT_is] at RP
  rw [remT_is] at RR
  have hz1 : (putQ t d k).1.sz ≤ 500000 := by
    obtain ⟨m, er, h⟩ : ∃ m er, putQ t d k = (m, er) := ⟨_, _, rfl⟩
    rw [h]
    by_cases he : er = 0
    · subst he
      have := put_small h
      dsimp only
      omega
    · rw [putQ_bad h he]; show Tr.zero.sz ≤ 500000; decide
  have hz2 : (remQ t d).1.sz ≤ 500000 := by
    obtain ⟨m, er, h⟩ : ∃ m er, remQ t d = (m, er) := ⟨_, _, rfl⟩
    rw [h]
    by_cases he : er = 0
    · subst he
      have := rem_small h
      dsimp only
      omega
    · rw [remQ_bad h he]; show Tr.zero.sz ≤ 500000; decide
  generalize putQ t d k = pq at *
  generalize remQ t d = rq at *
  obtain ⟨m1, e1⟩ := pq
  obtain ⟨m2, e2⟩ := rq
  dsimp only at hz1 hz2
  go_upto_region 6 with (first | ((with_reducible show wpList _ _ _ (Oper.mk (some 26) _ _ _ _ _ :: _) _ _); refine wpList_load_row rfl 25 (.tmp 3) rfl bn rfl 25 cn (0, 0) _ HN4.out.1 Tryz.underlying25 rfl (infN HN4.out.2.2) ?_) | ((with_reducible show wpList _ _ _ (Oper.mk (some 28) _ _ _ _ _ :: _) _ _); refine wpList_load_row rfl 25 (.tmp 5) rfl bk rfl 25 ck (0, 0) _ HK4.out.1 Tryz.underlying25 rfl (infN HK4.out.2.2) ?_) | (go_at_call 30; (with_reducible refine (PN.out).mono ?_); rintro e w5 ⟨v5, rfl, HV60, HB60⟩; have HV6 := hide HV60; have HB6 := hide HB60; clear HV60 HB60) | ((with_reducible show wpList _ _ _ _ _ _); refine store_tree rfl (.tmp 7) (.tmp 30) rfl v5 _ rfl rfl rfl HV6.out ?_; rintro ca rfl hzca h1ca))
  obtain ⟨hq6, hb6⟩ := Nd.stored HV6.out hzca HB6.out
  have HX6 := hide hq6
  have HN6 := hide (HN4.out.below hb6)
  have HK6 := hide (HK4.out.below hb6)
  have hbel6 := hbel4.trans (hb6.mono hbel4.size)
  clear hq6 hb6 HV6 HB6 hzca h1ca hbel4 HN4 HK4
  generalize w5.alloc (.cells ca 25) = W6 at *
  obtain ⟨ba, hba⟩ : ∃ ba, ba = w5.heap.size := ⟨_, rfl⟩
  rw [← hba] at HX6 ⊢
  clear hba
  have HC6 := hide (HCAP.out.below hbel6)
  go_upto_region 7 with (first | ((with_reducible show wpList _ _ _ (Oper.mk (some 33) _ _ _ _ _ :: _) _ _); refine wpList_load_row rfl 25 (.tmp 3) rfl bn rfl 25 cn (0, 0) _ HN6.out.1 Tryz.underlying25 rfl (infN HN6.out.2.2) ?_) | ((with_reducible show wpList _ _ _ (Oper.mk (some 35) _ _ _ _ _ :: _) _ _); refine wpList_load_row rfl 25 (.tmp 5) rfl bk rfl 25 ck (0, 0) _ HK6.out.1 Tryz.underlying25 rfl (infN HK6.out.2.2) ?_) | (go_at_call 31; (with_reducible refine (RP.out _ HN6.out.tree HK6.out.tree).mono ?_); rintro e w7 ⟨v7, rfl, HV70, HB70⟩; have HV7 := hide HV70; have HB7 := hide HB70; clear HV70 HB70) | ((with_reducible show wpList _ _ _ _ _ _); refine store_tree rfl (.tmp 9) (.tmp 37) rfl v7 _ rfl rfl rfl HV7.out ?_; rintro cb rfl hzcb h1cb))
  obtain ⟨hq7, hb7⟩ := Nd.stored HV7.out hzcb HB7.out
  have HX7 := hide hq7
  have HN7 := hide (HN6.out.below hb7)
  have HA7 := hide (HX6.out.below hb7)
  have hbel7 := hbel6.trans (hb7.mono hbel6.size)
  clear hq7 hb7 HV7 HB7 hzcb h1cb hbel6 HN6 HX6
  generalize w7.alloc (.cells cb 25) = W7 at *
  obtain ⟨bb, hbb⟩ : ∃ bb, bb = w7.heap.size := ⟨_, rfl⟩
  rw [← hbb] at HX7 ⊢
  clear hbb
  have HT7 := hide (HTA.out.below hbel7).1
  go_upto_region 8 with (first | ((with_reducible show wpList _ _ _ (Oper.mk (some 40) _ _ _ _ _ :: _) _ _); refine wpList_load_row rfl 25 (.tmp 3) rfl bn rfl 25 cn (0, 0) _ HN7.out.1 Tryz.underlying25 rfl (infN HN7.out.2.2) ?_) | (go_at_call 32; (with_reducible refine (RM.out _ HT7.out HN7.out.tree).mono ?_); rintro e w8 ⟨v8, rfl, HV80, HB80⟩; have HV8 := hide HV80; have HB8 := hide HB80; clear HV80 HB80) | ((with_reducible show wpList _ _ _ _ _ _); refine store_tree rfl (.tmp 11) (.tmp 43) rfl v8 _ rfl rfl rfl HV8.out ?_; rintro cc rfl hzcc h1cc))
  obtain ⟨hq8, hb8⟩ := Nd.stored HV8.out hzcc HB8.out
  have HX8 := hide hq8
  have HN8 := hide (HN7.out.below hb8)
  have HA8 := hide (HA7.out.below hb8)
  have HB8x := hide (HX7.out.below hb8)
  have hbel8 := hbel7.trans (hb8.mono hbel7.size)
  clear hq8 hb8 HV8 HB8 hzcc h1cc hbel7 HN7 HA7 HX7
  generalize w8.alloc (.cells cc 25) = W8 at *
  obtain ⟨bc, hbc⟩ : ∃ bc, bc = w8.heap.size := ⟨_, rfl⟩
  rw [← hbc] at HX8 ⊢
  clear hbc
  have HC8 := hide (HCAP.out.below hbel8)
  go_upto_region 9 with (first | ((with_reducible show wpList _ _ _ (Oper.mk (some 46) _ _ _ _ _ :: _) _ _); refine wpList_load_row rfl 25 (.tmp 3) rfl bn rfl 25 cn (0, 0) _ HN8.out.1 Tryz.underlying25 rfl (infN HN8.out.2.2) ?_) | (go_at_call 33; (with_reducible refine (RR.out _ HN8.out.tree HC8.out).mono ?_); rintro e w9 ⟨v9, rfl, HV90, HB90⟩; have HV9 := hide HV90; have HB9 := hide HB90; clear HV90 HB90) | ((with_reducible show wpList _ _ _ _ _ _); refine store_tree rfl (.tmp 13) (.tmp 49) rfl v9 _ rfl rfl rfl HV9.out ?_; rintro ce rfl hzce h1ce))
  obtain ⟨hq9, hb9⟩ := Nd.stored HV9.out hzce HB9.out
  have HX9 := hide hq9
  have HA9 := hide (HA8.out.below hb9)
  have HB9x := hide (HB8x.out.below hb9)
  have HC9 := hide (HX8.out.below hb9)
  have hbel9 := hbel8.trans (hb9.mono hbel8.size)
  clear hq9 hb9 HV9 HB9 hzce h1ce hbel8 HA8 HB8x HX8
  generalize w9.alloc (.cells ce 25) = W9 at *
  obtain ⟨be, hbe⟩ : ∃ be, be = w9.heap.size := ⟨_, rfl⟩
  rw [← hbe] at HX9 ⊢
  clear hbe
  have Q1 := hide (req_true m1 hz1 (.agg ca) (.agg cb) W9 HA9.out.2.1 HB9x.out.2.1)
  have Q2 := hide (fun W (hb : Below W9.heap.size W9 W) => req_true m2 hz2 (.agg cc) (.agg ce) W (HC9.out.below hb).2.1 (HX9.out.below hb).2.1)
  clear hz1 hz2
  go_wp2_with (first | ((with_reducible show wpList _ _ _ (Oper.mk (some 55) _ _ _ _ _ :: _) _ _); refine wpList_load_rowG 25 (.tmp 7) rfl rfl ba rfl 25 ca (0, 0) _ (HA9.out.1) Tryz.underlying25 rfl (infN HA9.out.2.2) ?_) | ((with_reducible show wpList _ _ _ (Oper.mk (some 56) _ _ _ _ _ :: _) _ _); refine wpList_load_rowG 25 (.tmp 9) rfl rfl bb rfl 25 cb (0, 0) _ (HB9x.out.1) Tryz.underlying25 rfl (infN HB9x.out.2.2) ?_) | ((with_reducible show wpList _ _ _ (Oper.mk (some 65) _ _ _ _ _ :: _) _ _); refine wpList_load_rowG 25 (.tmp 11) rfl rfl bc rfl 25 cc (0, 0) _ (Blk.below hb10 HC9.out.1) Tryz.underlying25 rfl (infN HC9.out.2.2) ?_) | ((with_reducible show wpList _ _ _ (Oper.mk (some 66) _ _ _ _ _ :: _) _ _); refine wpList_load_rowG 25 (.tmp 13) rfl rfl be rfl 25 ce (0, 0) _ (Blk.below hb10 HX9.out.1) Tryz.underlying25 rfl (infN HX9.out.2.2) ?_) | (go_at_call 29; (with_reducible refine (Q1.out).mono ?_); rintro e w10 ⟨rfl, hb10⟩) | (go_at_call 29; (with_reducible refine (Q2.out _ hb10).mono ?_); rintro e w11 ⟨rfl, hb11⟩))
  go_ret
  exact ⟨rfl, hbel9.trans ((hb10.trans (hb11.mono hb10.size)).mono hbel9.size)⟩
end Go.Proofs.YtlhakdildbplkaaGreatDoor
