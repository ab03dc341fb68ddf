/- Contracts and plain words for the laws of this chapter, part 43: Lw7. No condition. -/
import Derived.Test.YtlhakdildbplkaaGreatDoorF40
import Derived.Test.YtlhakdildbplkaaGreatDoorF42
import Derived.Test.YtlhakdildbplkaaGreatDoorF32
namespace Go.Proofs.YtlhakdildbplkaaGreatDoor
set_option linter.unusedSimpArgs false
set_option linter.unusedVariables false
open Go.RowKit
theorem Nd.treeS {W : World} {b : Nat} {c : Array Value} {t : Tr} (h : Nd W b c t) : TreeR W W.heap.size (.agg c) t := h.2.1
theorem eq_any (a b : Tr) (ha : a.sz ≤ 500000) (hb : b.sz ≤ 500000) (v1 v2 : Value) (W : World) (h1 : TreeR W W.heap.size v1 a) (h2 : TreeR W W.heap.size v2 b) : Calls Tryz.prog 40 #[v1, v2] W fun e w' => e = .returned (.bool (decide (a = b))) ∧ Below W.heap.size W w' :=
  equal_any a.count a b (Nat.le_refl _) ha hb v1 v2 W h1 h2
theorem req_any (a b : Tr) (ha : a.sz ≤ 500000) (hb : b.sz ≤ 500000) (v1 v2 : Value) (W : World) (h1 : TreeR W W.heap.size v1 a) (h2 : TreeR W W.heap.size v2 b) : Calls Tryz.prog 29 #[v1, v2] W fun e w' => e = .returned (.bool (decide (a = b))) ∧ Below W.heap.size W w' :=
  requal_any a.count a b (Nat.le_refl _) ha hb v1 v2 W h1 h2
set_option maxRecDepth 100000 in
set_option maxHeartbeats 8000000 in
theorem law_sorts (t m : Tr) (v vm : Value) (w : World) (hT : TabA w) (hv : TreeR w w.heap.size v t) (hz : t.sz ≤ 20971520) (hvm : TreeR w w.heap.size vm m) (hzm : m.sz ≤ 20971520) :
    Calls Tryz.prog 7 #[v, vm] w fun e w' => e = .returned (.bool true) ∧ Below w.heap.size w w' := by
  obtain ⟨cn, rfl, hzc⟩ := Nd.cells hv
  obtain ⟨cm, rfl, hzd⟩ := Nd.cells hvm
  have HTA := hide hT
  have HV := hide hv
  have HVK := hide hvm
  have HZ := hide (And.intro hz hzm)
  clear hv hz hT hvm hzm
  have HL : Live w [] := trivial
  go_enter Tryz.func7, Tryz.ntmps7
  go_upto_region 1 with fail
  have hbel0 : Below w.heap.size w (w.alloc (.cells cn 25)) := (Below.refl _ _).alloc (Nat.le_refl _) _
  have HN1 := hide ((Nd.new HV.out hzc).below (Below.one _ (.cells cm 25)))
  have HM1 := hide (Nd.new (w := w.alloc (.cells cn 25)) (HVK.out.later hbel0) hzd)
  have hbel1 : Below w.heap.size w ((w.alloc (.cells cn 25)).alloc (.cells cm 25)) := hbel0.alloc hbel0.size _
  rw [World.size_alloc] at HM1
  generalize (w.alloc (.cells cn 25)).alloc (.cells cm 25) = W1 at *
  obtain ⟨bm, hbm⟩ : ∃ bm, bm = w.heap.size + 1 := ⟨_, rfl⟩
  rw [← hbm] at HM1 ⊢
  obtain ⟨bn, hbn⟩ : ∃ bn, bn = w.heap.size := ⟨_, rfl⟩
  rw [← hbn] at HN1 ⊢
  clear hbm hbn HV HVK hzc hzd hbel0
  have AW := hide (awake_any W1 (HTA.out.below hbel1))
  go_upto_if 7 with (go_at_call 11; refine AW.out.mono ?_; rintro e w2 ⟨rfl, hb2⟩)
  have HN2 := hide (HN1.out.below hb2)
  have HM2 := hide (HM1.out.below hb2)
  have hbel2 := hbel1.trans (hb2.mono hbel1.size)
  clear HN1 HM1 hbel1 hb2 AW
  cases hfew : fewB t 20000 with
  | false =>
    have FW := hide (few_any w2 cn t false hfew HZ.out.1 HN2.out.2.1)
    go_wp2_with (first | ((with_reducible show wpList _ _ _ _ _ _); refine wpList_load_row rfl 25 (.tmp 2) rfl bn rfl 25 cn (0, 0) _ HN2.out.1 Tryz.underlying25 rfl (infN HN2.out.2.2) ?_) | (go_at_call 12; (with_reducible refine (FW.out).mono ?_); rintro e w3 ⟨rfl, hb3⟩))
    go_ret
    exact ⟨rfl, hbel2.trans (hb3.mono hbel2.size)⟩
  | true =>
  obtain ⟨hct, hsz⟩ := few_sz hfew
  have FW := hide (few_any w2 cn t true hfew HZ.out.1 HN2.out.2.1)
  clear hfew
  cases hfk : fewB m 20000 with
  | false =>
    have FK := hide (fun W h => few_any W cm m false hfk HZ.out.2 h)
    go_wp2_with (first | ((with_reducible show wpList _ _ _ (Oper.mk (some 12) _ _ _ _ _ :: _) _ _); refine wpList_load_rowG 25 (.tmp 3) rfl rfl bm rfl 25 cm (0, 0) _ (Blk.below hb3 HM2.out.1) Tryz.underlying25 rfl (infN HM2.out.2.2) ?_) | ((with_reducible show wpList _ _ _ _ _ _); refine wpList_load_row rfl 25 (.tmp 2) rfl bn rfl 25 cn (0, 0) _ HN2.out.1 Tryz.underlying25 rfl (infN HN2.out.2.2) ?_) | (go_at_call 12; (with_reducible refine (FW.out).mono ?_); rintro e w3 ⟨rfl, hb3⟩) | (go_at_call 12; (with_reducible refine (FK.out _ (HM2.out.below hb3).treeS).mono ?_); rintro e w4 ⟨rfl, hb4⟩))
    go_ret
    exact ⟨rfl, hbel2.trans ((hb3.trans (hb4.mono hb3.size)).mono hbel2.size)⟩
  | true =>
  obtain ⟨hcm, hsm⟩ := few_sz hfk
  have FK := hide (fun W h => few_any W cm m true hfk HZ.out.2 h)
  clear hfk
  go_upto_region 5 with (first | ((with_reducible show wpList _ _ _ (Oper.mk (some 12) _ _ _ _ _ :: _) _ _); refine wpList_load_rowG 25 (.tmp 3) rfl rfl bm rfl 25 cm (0, 0) _ (Blk.below hb3 HM2.out.1) Tryz.underlying25 rfl (infN HM2.out.2.2) ?_) | ((with_reducible show wpList _ _ _ _ _ _); refine wpList_load_row rfl 25 (.tmp 2) rfl bn rfl 25 cn (0, 0) _ HN2.out.1 Tryz.underlying25 rfl (infN HN2.out.2.2) ?_) | (go_at_call 12; (with_reducible refine (FW.out).mono ?_); rintro e w3 ⟨rfl, hb3⟩) | (go_at_call 12; (with_reducible refine (FK.out _ (HM2.out.below hb3).treeS).mono ?_); rintro e w4 ⟨rfl, hb4⟩))
  have HN4 := hide ((HN2.out.below hb3).below hb4)
  have HM4 := hide ((HM2.out.below hb3).below hb4)
  have hbel4 := hbel2.trans ((hb3.trans (hb4.mono hb3.size)).mono hbel2.size)
  clear HN2 HM2 hb3 hb4 hbel2 FW FK
  have ST := hide (show Calls Tryz.prog 38 #[.agg cn] w4 fun e w' => ∃ r, e = .returned r ∧ TreeR w' w'.heap.size r (sortT t) ∧ Below w4.heap.size w4 w' from (sort_any t.count t (Nat.le_refl _) (by omega) (.agg cn) w4 HN4.out.2.1).mono fun e w' ⟨r, h1, h2, h3⟩ => ⟨r, h1, h2.read, h3⟩)
  have hzs : (sortT t).sz ≤ 20000 := by rw [sortT_sz t.count t (Nat.le_refl _)]; exact hsz
  have HTW := hide (sortT_twice t.count t (Nat.le_refl _))
  have HVD := hide (fun h => sortT_valid (t := t) h)
  go_upto_region 6 with (first | ((with_reducible show wpList _ _ _ _ _ _); refine wpList_load_row rfl 25 (.tmp 2) rfl bn rfl 25 cn (0, 0) _ HN4.out.1 Tryz.underlying25 rfl (infN HN4.out.2.2) ?_) | (go_at_call 38; (with_reducible refine (ST.out).mono ?_); rintro e w5 ⟨v5, rfl, HV50, HB50⟩; have HV5 := hide HV50; have HB5 := hide HB50; clear HV50 HB50) | ((with_reducible show wpList _ _ _ _ _ _); refine store_tree rfl (.tmp 5) (.tmp 17) rfl v5 _ rfl rfl rfl HV5.out ?_; rintro cs rfl hzcs h1cs))
  obtain ⟨hS, hb6⟩ := Nd.stored HV5.out hzcs HB5.out
  have HS6 := hide hS
  have HN6 := hide (HN4.out.below hb6)
  have HM6 := hide (HM4.out.below hb6)
  have hbel6 := hbel4.trans (hb6.mono hbel4.size)
  clear hS hb6 HV5 HB5 hzcs h1cs HN4 HM4 hbel4 ST
  generalize w5.alloc (.cells cs 25) = w6 at *
  obtain ⟨bs, hbs⟩ : ∃ bs, bs = w5.heap.size := ⟨_, rfl⟩
  rw [← hbs] at HS6 ⊢
  clear hbs
  have HRS := fun W (h : Below w6.heap.size w6 W) => (rsort_any t.count t (Nat.le_refl _) (by omega) (.agg cn) W (HN6.out.2.1.later h)).mono (R' := fun e w' => ∃ r, e = .returned r ∧ TreeR w' w'.heap.size r (sortT t) ∧ Below W.heap.size W w') fun e w' ⟨r, h1, h2, h3⟩ => ⟨r, h1, h2.here, h3⟩
  have HSO := fun W (h : Below w6.heap.size w6 W) => (sort_any (sortT t).count (sortT t) (Nat.le_refl _) (by omega) (.agg cs) W (HS6.out.2.1.later h)).mono (R' := fun e w' => ∃ r, e = .returned r ∧ TreeR w' w'.heap.size r (sortT t) ∧ Below W.heap.size W w') fun e w' ⟨r, h1, h2, h3⟩ => ⟨r, h1, by rw [HTW.out] at h2; exact h2.read, h3⟩
  have HVT := hide (show validB t = true → sortT t = t from HVD.out)
  clear HTW HVD
  generalize sortT t = s at *
  have hk6 : Below w6.heap.size w6 w6 ∧ True := ⟨Below.refl _ _, trivial⟩
  have hk6d : Below w6.heap.size w6 w6.drew ∧ True := ⟨(Below.refl w6.heap.size w6).drew, trivial⟩
  have RS := hide (show ∀ W, Below w6.heap.size w6 W → Calls Tryz.prog 39 #[.agg cn] W fun e w' => ∃ r, e = .returned r ∧ TreeR w' w'.heap.size r s ∧ Below W.heap.size W w' from fun W h => (HRS W h).mono fun e w' ⟨r, h1, h2, h3⟩ => ⟨r, h1, h2, h3⟩)
  have SO := hide HSO
  clear HRS HSO
  have R1 := hide (show ∀ W u, Below w6.heap.size w6 W → TreeR W W.heap.size u s → Calls Tryz.prog 29 #[.agg cs, u] W fun e w' => e = .returned (.bool true) ∧ Below W.heap.size W w' from fun W u h h2 => by
    have h3 := req_any s s (by omega) (by omega) (.agg cs) u W (HS6.out.2.1.later h) h2
    rwa [decide_eq_true rfl] at h3)
  have E1 := hide (show ∀ W u, Below w6.heap.size w6 W → TreeR W W.heap.size u s → Calls Tryz.prog 40 #[.agg cs, u] W fun e w' => e = .returned (.bool true) ∧ Below W.heap.size W w' from fun W u h h2 => by
    have h3 := eq_any s s (by omega) (by omega) (.agg cs) u W (HS6.out.2.1.later h) h2
    rwa [decide_eq_true rfl] at h3)
  obtain ⟨qe, hqe⟩ : ∃ qe, qe = decide (t = m) := ⟨_, rfl⟩
  have R2 := hide (show ∀ W, Below w6.heap.size w6 W → Calls Tryz.prog 29 #[.agg cn, .agg cm] W fun e w' => e = .returned (.bool qe) ∧ Below W.heap.size W w' from fun W h => by
    rw [hqe]
    exact req_any t m (by omega) (by omega) (.agg cn) (.agg cm) W (HN6.out.2.1.later h) (HM6.out.2.1.later h))
  have E2 := hide (show ∀ W, Below w6.heap.size w6 W → Calls Tryz.prog 40 #[.agg cn, .agg cm] W fun e w' => e = .returned (.bool qe) ∧ Below W.heap.size W w' from fun W h => by
    rw [hqe]
    exact eq_any t m (by omega) (by omega) (.agg cn) (.agg cm) W (HN6.out.2.1.later h) (HM6.out.2.1.later h))
  have E3 := hide (show ∀ W, Below w6.heap.size w6 W → Calls Tryz.prog 40 #[.agg cn, .agg cn] W fun e w' => e = .returned (.bool true) ∧ Below W.heap.size W w' from fun W h => by
    have h3 := eq_any t t (by omega) (by omega) (.agg cn) (.agg cn) W (HN6.out.2.1.later h) (HN6.out.2.1.later h)
    rwa [decide_eq_true rfl] at h3)
  have EV := hide (show validB t = true → ∀ W, Below w6.heap.size w6 W → Calls Tryz.prog 40 #[.agg cs, .agg cn] W fun e w' => e = .returned (.bool true) ∧ Below W.heap.size W w' from fun hv W h => by
    have h3 := eq_any s t (by omega) (by omega) (.agg cs) (.agg cn) W (HS6.out.2.1.later h) (HN6.out.2.1.later h)
    rwa [decide_eq_true (HVT.out hv)] at h3)
  have VN := hide (show ∀ W, Below w6.heap.size w6 W → Calls Tryz.prog 20 #[.agg cn] W fun e w' => e = .returned (.bool (validB t)) ∧ Below W.heap.size W w' from fun W h => valid_any t (Or.inl (by omega)) (.agg cn) W (HTA.out.below (hbel6.trans (h.mono hbel6.size))).1 (HN6.out.2.1.later h))
  obtain ⟨vb, hvb⟩ : ∃ vb, vb = validB t := ⟨_, rfl⟩
  rw [← hvb] at VN EV
  clear hqe HVT hvb
  refine wp_region_noPanic ?_
  refine wp_region_held_drew (S := (fun z => Below w6.heap.size w6 z ∧ True)) (by kernel_rfl) kp (fun hHeld => ?_)
  refine tkY 0 ⟨some 18, .load 25 (.tmp 5), 25, "law.go:96", #[], none⟩ ?_ ?_ ?_
  rotate_left
  · intro w hSw; (try dsimp only at hSw); refine (exec_load_row 25 (.tmp 5) (by rfl) bs (by rfl) 25 cs (0, 0) _ (Blk.below hSw.1 HS6.out.1) Tryz.underlying25 (by rfl) (infN HS6.out.2.2)).trans ?_; with_reducible rfl
  try simp only [PT]
  refine tkY 1 ⟨some 19, .load 25 (.tmp 2), 25, "law.go:96", #[], none⟩ ?_ ?_ ?_
  rotate_left
  · intro w hSw; (try dsimp only at hSw); refine (exec_load_row 25 (.tmp 2) (by rfl) bn (by rfl) 25 cn (0, 0) _ (Blk.below hSw.1 HN6.out.1) Tryz.underlying25 (by rfl) (infN HN6.out.2.2)).trans ?_; with_reducible rfl
  try simp only [PT]
  refine wpAnyH_ready (rs := [2]) (by kernel_rfl) (by simp) ?_
  refine AllReadyH.cons (o := ⟨some 20, .call ⟨.value (.func 39), #[.tmp 19], #[25]⟩, 25, "law.go:96", #[⟨1, .data⟩], none⟩) rfl (fun K hK => ?_) AllReadyH.nil
  go_simp
  (go_at_call 39; (with_reducible refine (RS.out _ hHeld.1).mono ?_); rintro e w9 ⟨v9, rfl, hv9, hb9⟩; have hk9 : Below w6.heap.size w6 w9 ∧ True := ⟨hHeld.1.trans (hb9.mono hHeld.1.size), trivial⟩)
  go_wp2_with fail
  refine hK.out _ _ kp (fun hHeld => ?_)
  clear hK K
  try simp only [PT]
  refine wpAnyH_ready (rs := [3]) (by kernel_rfl) (by simp) ?_
  refine AllReadyH.cons (o := ⟨some 21, .call ⟨.value (.func 29), #[.tmp 18, .tmp 20], #[25, 25]⟩, 4, "law.go:96", #[⟨0, .data⟩, ⟨2, .data⟩, ⟨2, .chain⟩], none⟩) rfl (fun K hK => ?_) AllReadyH.nil
  go_simp
  (first | (go_at_call 29; (with_reducible refine (R2.out _ hHeld.1).mono ?_); rintro e w14 ⟨rfl, hb14⟩; have hk14 : Below w6.heap.size w6 w14 ∧ True := ⟨hHeld.1.trans (hb14.mono hHeld.1.size), trivial⟩) | (go_at_call 29; (with_reducible refine (R1.out _ _ hHeld.1 hv9).mono ?_); rintro e w10 ⟨rfl, hb10⟩; have hk10 : Below w6.heap.size w6 w10 ∧ True := ⟨hHeld.1.trans (hb10.mono hHeld.1.size), trivial⟩))
  go_wp2_with fail
  refine hK.out _ _ kp (fun hHeld => ?_)
  clear hK K
  try simp only [PT]
  refine tkY 4 ⟨some 22, .unOp .not 4 (.tmp 21), 4, "law.go:96", #[⟨3, .data⟩], none⟩ ?_ ?_ ?_
  rotate_left
  · intro w hSw; (try dsimp only at hSw); go_simp; (try with_reducible rfl)
  try simp only [PT]
  refine tkY 5 ⟨some 23, .move (.tmp 22), 4, "law.go:96", #[⟨4, .data⟩, ⟨3, .chain⟩], none⟩ ?_ ?_ ?_
  rotate_left
  · intro w hSw; (try dsimp only at hSw); go_simp; (try with_reducible rfl)
  try simp only [PT]
  refine tkY 6 ⟨some 24, .load 25 (.tmp 5), 25, "law.go:96", #[⟨5, .guard⟩], some (5, false)⟩ ?_ ?_ ?_
  rotate_left
  · intro w hSw; (try dsimp only at hSw); refine (exec_load_row 25 (.tmp 5) (by rfl) bs (by rfl) 25 cs (0, 0) _ (Blk.below hSw.1 HS6.out.1) Tryz.underlying25 (by rfl) (infN HS6.out.2.2)).trans ?_; with_reducible rfl
  try simp only [PT]
  refine tkY 7 ⟨some 25, .load 25 (.tmp 5), 25, "law.go:96", #[⟨5, .guard⟩], some (5, false)⟩ ?_ ?_ ?_
  rotate_left
  · intro w hSw; (try dsimp only at hSw); refine (exec_load_row 25 (.tmp 5) (by rfl) bs (by rfl) 25 cs (0, 0) _ (Blk.below hSw.1 HS6.out.1) Tryz.underlying25 (by rfl) (infN HS6.out.2.2)).trans ?_; with_reducible rfl
  try simp only [PT]
  refine wpAnyH_ready (rs := [8]) (by kernel_rfl) (by simp) ?_
  refine AllReadyH.cons (o := ⟨some 26, .call ⟨.value (.func 38), #[.tmp 25], #[25]⟩, 25, "law.go:96", #[⟨7, .data⟩, ⟨5, .chain⟩, ⟨5, .guard⟩], some (5, false)⟩) rfl (fun K hK => ?_) AllReadyH.nil
  go_simp
  (go_at_call 38; (with_reducible refine (SO.out _ hHeld.1).mono ?_); rintro e w11 ⟨v11, rfl, hv11, hb11⟩; have hk11 : Below w6.heap.size w6 w11 ∧ True := ⟨hHeld.1.trans (hb11.mono hHeld.1.size), trivial⟩)
  go_wp2_with fail
  refine hK.out _ _ kp (fun hHeld => ?_)
  clear hK K
  try simp only [PT]
  refine wpAnyH_ready (rs := [9]) (by kernel_rfl) (by simp) ?_
  refine AllReadyH.cons (o := ⟨some 27, .call ⟨.value (.func 40), #[.tmp 24, .tmp 26], #[25, 25]⟩, 4, "law.go:96", #[⟨6, .data⟩, ⟨8, .data⟩, ⟨8, .chain⟩, ⟨5, .guard⟩], some (5, false)⟩) rfl (fun K hK => ?_) AllReadyH.nil
  go_simp
  (first | (go_at_call 40; (with_reducible refine (E2.out _ hHeld.1).mono ?_); rintro e w13 ⟨rfl, hb13⟩; have hk13 : Below w6.heap.size w6 w13 ∧ True := ⟨hHeld.1.trans (hb13.mono hHeld.1.size), trivial⟩) | (go_at_call 40; (with_reducible refine (E3.out _ hHeld.1).mono ?_); rintro e w15 ⟨rfl, hb15⟩; have hk15 : Below w6.heap.size w6 w15 ∧ True := ⟨hHeld.1.trans (hb15.mono hHeld.1.size), trivial⟩) | (go_at_call 40; (with_reducible refine (E1.out _ _ hHeld.1 hv11).mono ?_); rintro e w12 ⟨rfl, hb12⟩; have hk12 : Below w6.heap.size w6 w12 ∧ True := ⟨hHeld.1.trans (hb12.mono hHeld.1.size), trivial⟩))
  go_wp2_with fail
  refine hK.out _ _ kp (fun hHeld => ?_)
  clear hK K
  try simp only [PT]
  refine tkY 10 ⟨some 28, .unOp .not 4 (.tmp 27), 4, "law.go:96", #[⟨9, .data⟩, ⟨5, .guard⟩], some (5, false)⟩ ?_ ?_ ?_
  rotate_left
  · intro w hSw; (try dsimp only at hSw); go_simp; (try with_reducible rfl)
  try simp only [PT]
  refine tkY 11 ⟨some 29, .pick (.tmp 23) (.const (.bool true)) (.tmp 28), 4, "law.go:96", #[⟨5, .data⟩, ⟨10, .data⟩], none⟩ ?_ ?_ ?_
  rotate_left
  · intro w hSw; (try dsimp only at hSw); go_simp; (try with_reducible rfl)
  try simp only [PT]
  refine tkY 12 ⟨some 30, .move (.tmp 29), 4, "law.go:96", #[⟨11, .data⟩, ⟨9, .chain⟩], none⟩ ?_ ?_ ?_
  rotate_left
  · intro w hSw; (try dsimp only at hSw); go_simp; (try with_reducible rfl)
  try simp only [PT]
  refine tkY 13 ⟨some 31, .load 25 (.tmp 2), 25, "law.go:96", #[⟨12, .guard⟩], some (12, false)⟩ ?_ ?_ ?_
  rotate_left
  · intro w hSw; (try dsimp only at hSw); refine (exec_load_row 25 (.tmp 2) (by rfl) bn (by rfl) 25 cn (0, 0) _ (Blk.below hSw.1 HN6.out.1) Tryz.underlying25 (by rfl) (infN HN6.out.2.2)).trans ?_; with_reducible rfl
  try simp only [PT]
  refine tkY 14 ⟨some 32, .load 25 (.tmp 3), 25, "law.go:96", #[⟨12, .guard⟩], some (12, false)⟩ ?_ ?_ ?_
  rotate_left
  · intro w hSw; (try dsimp only at hSw); refine (exec_load_row 25 (.tmp 3) (by rfl) bm (by rfl) 25 cm (0, 0) _ (Blk.below hSw.1 HM6.out.1) Tryz.underlying25 (by rfl) (infN HM6.out.2.2)).trans ?_; with_reducible rfl
  try simp only [PT]
  refine tkY 16 ⟨some 34, .load 25 (.tmp 2), 25, "law.go:96", #[⟨12, .guard⟩], some (12, false)⟩ ?_ ?_ ?_
  rotate_left
  · intro w hSw; (try dsimp only at hSw); refine (exec_load_row 25 (.tmp 2) (by rfl) bn (by rfl) 25 cn (0, 0) _ (Blk.below hSw.1 HN6.out.1) Tryz.underlying25 (by rfl) (infN HN6.out.2.2)).trans ?_; with_reducible rfl
  try simp only [PT]
  refine tkY 17 ⟨some 35, .load 25 (.tmp 3), 25, "law.go:96", #[⟨12, .guard⟩], some (12, false)⟩ ?_ ?_ ?_
  rotate_left
  · intro w hSw; (try dsimp only at hSw); refine (exec_load_row 25 (.tmp 3) (by rfl) bm (by rfl) 25 cm (0, 0) _ (Blk.below hSw.1 HM6.out.1) Tryz.underlying25 (by rfl) (infN HM6.out.2.2)).trans ?_; with_reducible rfl
  try simp only [PT]
  refine wpAnyH_ready (rs := [15]) (by kernel_rfl) (by simp) ?_
  refine AllReadyH.cons (o := ⟨some 33, .call ⟨.value (.func 40), #[.tmp 31, .tmp 32], #[25, 25]⟩, 4, "law.go:96", #[⟨13, .data⟩, ⟨14, .data⟩, ⟨12, .chain⟩, ⟨12, .guard⟩], some (12, false)⟩) rfl (fun K hK => ?_) AllReadyH.nil
  go_simp
  (first | (go_at_call 40; (with_reducible refine (E2.out _ hHeld.1).mono ?_); rintro e w13 ⟨rfl, hb13⟩; have hk13 : Below w6.heap.size w6 w13 ∧ True := ⟨hHeld.1.trans (hb13.mono hHeld.1.size), trivial⟩) | (go_at_call 40; (with_reducible refine (E3.out _ hHeld.1).mono ?_); rintro e w15 ⟨rfl, hb15⟩; have hk15 : Below w6.heap.size w6 w15 ∧ True := ⟨hHeld.1.trans (hb15.mono hHeld.1.size), trivial⟩) | (go_at_call 40; (with_reducible refine (E1.out _ _ hHeld.1 hv11).mono ?_); rintro e w12 ⟨rfl, hb12⟩; have hk12 : Below w6.heap.size w6 w12 ∧ True := ⟨hHeld.1.trans (hb12.mono hHeld.1.size), trivial⟩))
  go_wp2_with fail
  refine hK.out _ _ kp (fun hHeld => ?_)
  clear hK K
  try simp only [PT]
  refine wpAnyH_ready (rs := [18]) (by kernel_rfl) (by simp) ?_
  refine AllReadyH.cons (o := ⟨some 36, .call ⟨.value (.func 29), #[.tmp 34, .tmp 35], #[25, 25]⟩, 4, "law.go:96", #[⟨16, .data⟩, ⟨17, .data⟩, ⟨15, .chain⟩, ⟨12, .guard⟩], some (12, false)⟩) rfl (fun K hK => ?_) AllReadyH.nil
  go_simp
  (first | (go_at_call 29; (with_reducible refine (R2.out _ hHeld.1).mono ?_); rintro e w14 ⟨rfl, hb14⟩; have hk14 : Below w6.heap.size w6 w14 ∧ True := ⟨hHeld.1.trans (hb14.mono hHeld.1.size), trivial⟩) | (go_at_call 29; (with_reducible refine (R1.out _ _ hHeld.1 hv9).mono ?_); rintro e w10 ⟨rfl, hb10⟩; have hk10 : Below w6.heap.size w6 w10 ∧ True := ⟨hHeld.1.trans (hb10.mono hHeld.1.size), trivial⟩))
  go_wp2_with fail
  refine hK.out _ _ kp (fun hHeld => ?_)
  clear hK K
  try simp only [PT]
  refine tkY 19 ⟨some 37, .binOp .neq 4 (.tmp 33) (.tmp 36) 4, 4, "law.go:96", #[⟨15, .data⟩, ⟨18, .data⟩, ⟨12, .guard⟩], some (12, false)⟩ ?_ ?_ ?_
  rotate_left
  · intro w hSw; (try dsimp only at hSw); go_simp; (try with_reducible rfl)
  try simp only [PT]
  refine tkY 20 ⟨some 38, .pick (.tmp 30) (.const (.bool true)) (.tmp 37), 4, "law.go:96", #[⟨12, .data⟩, ⟨19, .data⟩], none⟩ ?_ ?_ ?_
  rotate_left
  · intro w hSw; (try dsimp only at hSw); go_simp; (try with_reducible rfl)
  try simp only [PT]
  refine tkY 21 ⟨some 39, .move (.tmp 38), 4, "law.go:96", #[⟨20, .data⟩, ⟨18, .chain⟩], none⟩ ?_ ?_ ?_
  rotate_left
  · intro w hSw; (try dsimp only at hSw); go_simp; (try with_reducible rfl)
  try simp only [PT]
  refine tkY 22 ⟨some 40, .load 25 (.tmp 2), 25, "law.go:96", #[⟨21, .guard⟩], some (21, false)⟩ ?_ ?_ ?_
  rotate_left
  · intro w hSw; (try dsimp only at hSw); refine (exec_load_row 25 (.tmp 2) (by rfl) bn (by rfl) 25 cn (0, 0) _ (Blk.below hSw.1 HN6.out.1) Tryz.underlying25 (by rfl) (infN HN6.out.2.2)).trans ?_; with_reducible rfl
  try simp only [PT]
  refine tkY 23 ⟨some 41, .load 25 (.tmp 2), 25, "law.go:96", #[⟨21, .guard⟩], some (21, false)⟩ ?_ ?_ ?_
  rotate_left
  · intro w hSw; (try dsimp only at hSw); refine (exec_load_row 25 (.tmp 2) (by rfl) bn (by rfl) 25 cn (0, 0) _ (Blk.below hSw.1 HN6.out.1) Tryz.underlying25 (by rfl) (infN HN6.out.2.2)).trans ?_; with_reducible rfl
  try simp only [PT]
  refine wpAnyH_ready (rs := [24]) (by kernel_rfl) (by simp) ?_
  refine AllReadyH.cons (o := ⟨some 42, .call ⟨.value (.func 40), #[.tmp 40, .tmp 41], #[25, 25]⟩, 4, "law.go:96", #[⟨22, .data⟩, ⟨23, .data⟩, ⟨21, .chain⟩, ⟨21, .guard⟩], some (21, false)⟩) rfl (fun K hK => ?_) AllReadyH.nil
  go_simp
  (first | (go_at_call 40; (with_reducible refine (E2.out _ hHeld.1).mono ?_); rintro e w13 ⟨rfl, hb13⟩; have hk13 : Below w6.heap.size w6 w13 ∧ True := ⟨hHeld.1.trans (hb13.mono hHeld.1.size), trivial⟩) | (go_at_call 40; (with_reducible refine (E3.out _ hHeld.1).mono ?_); rintro e w15 ⟨rfl, hb15⟩; have hk15 : Below w6.heap.size w6 w15 ∧ True := ⟨hHeld.1.trans (hb15.mono hHeld.1.size), trivial⟩) | (go_at_call 40; (with_reducible refine (E1.out _ _ hHeld.1 hv11).mono ?_); rintro e w12 ⟨rfl, hb12⟩; have hk12 : Below w6.heap.size w6 w12 ∧ True := ⟨hHeld.1.trans (hb12.mono hHeld.1.size), trivial⟩))
  go_wp2_with fail
  refine hK.out _ _ kp (fun hHeld => ?_)
  clear hK K
  try simp only [PT]
  refine tkY 25 ⟨some 43, .unOp .not 4 (.tmp 42), 4, "law.go:96", #[⟨24, .data⟩, ⟨21, .guard⟩], some (21, false)⟩ ?_ ?_ ?_
  rotate_left
  · intro w hSw; (try dsimp only at hSw); go_simp; (try with_reducible rfl)
  try simp only [PT]
  refine tkY 26 ⟨some 44, .pick (.tmp 39) (.const (.bool true)) (.tmp 43), 4, "law.go:96", #[⟨21, .data⟩, ⟨25, .data⟩], none⟩ ?_ ?_ ?_
  rotate_left
  · intro w hSw; (try dsimp only at hSw); go_simp; (try with_reducible rfl)
  try simp only [PT]
  refine wpAnyH_done (by kernel_rfl) ?_ _
  refine NoPanic.normal ?_
  cases vb
  all_goals (go_wp2_with (first | ((with_reducible show wpList _ _ _ (Oper.mk (some 49) _ _ _ _ _ :: _) _ _); refine wpList_load_rowG 25 (.tmp 5) rfl rfl bs rfl 25 cs (0, 0) _ (Blk.below (hk15.1.trans (hb16.mono hk15.1.size)) HS6.out.1) Tryz.underlying25 rfl (infN HS6.out.2.2) ?_) | ((with_reducible show wpList _ _ _ (Oper.mk (some 50) _ _ _ _ _ :: _) _ _); refine wpList_load_rowG 25 (.tmp 2) rfl rfl bn rfl 25 cn (0, 0) _ (Blk.below (hk15.1.trans (hb16.mono hk15.1.size)) HN6.out.1) Tryz.underlying25 rfl (infN HN6.out.2.2) ?_) | ((with_reducible show wpList _ _ _ (Oper.mk (some 45) _ _ _ _ _ :: _) _ _); refine wpList_load_row rfl 25 (.tmp 2) rfl bn rfl 25 cn (0, 0) _ (Blk.below hk15.1 HN6.out.1) Tryz.underlying25 rfl (infN HN6.out.2.2) ?_) | (go_at_call 20; (with_reducible refine (VN.out _ hk15.1).mono ?_); rintro e w16 ⟨rfl, hb16⟩; have hk16 := hk15.1.trans (hb16.mono hk15.1.size)) | (go_at_call 40; refine Calls.mono (EV.out (by first | exact trivial | rfl) w16 hk16) ?_; rintro e w17 ⟨rfl, hb17⟩)); go_ret; (first | exact ⟨rfl, hbel6.trans ((hk15.1.trans (hb16.mono hk15.1.size)).mono hbel6.size)⟩ | exact ⟨rfl, hbel6.trans (((hk15.1.trans (hb16.mono hk15.1.size)).trans (hb17.mono (Nat.le_trans hk15.1.size hb16.size))).mono hbel6.size)⟩))
end Go.Proofs.YtlhakdildbplkaaGreatDoor
