/- Contracts and plain words for the laws of this chapter, part 38: Lw2. No condition. -/
import Derived.Test.YtlhakdildbplkaaGreatDoorC37
import Derived.Test.YtlhakdildbplkaaGreatDoorC27
import Derived.Test.YtlhakdildbplkaaGreatDoorC10
import Derived.Test.YtlhakdildbplkaaGreatDoorC34
namespace Go.Proofs.YtlhakdildbplkaaGreatDoor
set_option linter.unusedSimpArgs false
set_option linter.unusedVariables false
open Go.RowKit
/-- What a getter answers: a node, laid in a fresh block. -/
theorem Nd.stored {W w2 : World} {cells : Array Value} {t : Tr} (h : TreeR w2 w2.heap.size (.agg cells) t) (hz : cells.size = 12) (hb : Below W.heap.size W w2) : Nd (w2.alloc (.cells cells 25)) w2.heap.size cells t ∧ Below W.heap.size W (w2.alloc (.cells cells 25)) :=
  ⟨Nd.new h hz, hb.alloc hb.size _⟩
theorem strs_true (l : List ByteArray) (hl : l.length ≤ 100000) (a b : Value) (W : World) (h1 : SlR W W.heap.size a l) (h2 : SlR W W.heap.size b l) : Calls Tryz.prog 26 #[a, b] W fun e w' => e = .returned (.bool true) ∧ Below W.heap.size W w' := by
  have h3 := strings_any l l a b W.heap.size hl hl W h1 h2
  rwa [decide_eq_true rfl] at h3
theorem req_true (t : Tr) (hz : t.sz ≤ 500000) (a b : Value) (W : World) (h1 : TreeR W W.heap.size a t) (h2 : TreeR W W.heap.size b t) : Calls Tryz.prog 29 #[a, b] W fun e w' => e = .returned (.bool true) ∧ Below W.heap.size W w' := by
  have h3 := requal_any t.count t t (Nat.le_refl _) hz hz a b W h1 h2
  rwa [decide_eq_true rfl] at h3
theorem kidF_sz : ∀ {f : Fo} {n : ByteArray} {k : Tr}, kidF f n = some k → k.sz ≤ f.sz
  | .nil, _, _, h => by cases h
  | .node h ss ks nx, n, k, e => by
    rw [kidF] at e
    split at e
    · injection e with e
      rw [← e]
      show h.sz + szS ss + ks.sz ≤ h.sz + szS ss + ks.sz + nx.sz
      omega
    · have := kidF_sz e
      show k.sz ≤ h.sz + szS ss + ks.sz + nx.sz
      omega
theorem findT_sz : ∀ (l : List ByteArray) (t x : Tr), findT t l = some x → x.sz ≤ t.sz
  | [], t, x, h => by injection h with h; rw [h]; exact Nat.le_refl _
  | n :: l, t, x, h => by
    cases hk : kidF t.ks n with
    | none => rw [findT_miss hk] at h; cases h
    | some k =>
      rw [findT_hit hk] at h
      have h1 := findT_sz l k x h
      have h2 := kidF_sz hk
      unfold Tr.sz at h1 h2 ⊢
      omega
theorem getT_sz {t : Tr} {p : ByteArray} {n : Nat} (h : t.sz ≤ n) (h20 : 20 ≤ n) : (getT t p).1.sz ≤ n := by
  unfold getT
  split
  · split
    · rename_i x hx
      exact Nat.le_trans (findT_sz _ _ _ hx) h
    · exact h20
  · exact h20
set_option maxRecDepth 100000 in
set_option maxHeartbeats 8000000 in
theorem law_paths (t : Tr) (v : Value) (p : ByteArray) (w : World) (hT : TabA w) (hv : TreeR w w.heap.size v t) (hz : t.sz ≤ 20971520) (hp : p.size ≤ 1048576) :
    Calls Tryz.prog 4 #[v, .string p] w fun e w' => e = .returned (.bool true) ∧ Below w.heap.size w w' := by
  obtain ⟨cn, rfl, hzc⟩ := Nd.cells hv
  have HTA := hide hT
  have HV := hide hv
  have HZ := hide hz
  clear hv hz hT
  have HL : Live w [] := trivial
  go_enter Tryz.func4, Tryz.ntmps4
  go_upto_region 1 with fail
  have HN1 := hide (Nd.new HV.out hzc)
  have hbel1 : Below w.heap.size w (w.alloc (.cells cn 25)) := (Below.refl _ _).alloc (Nat.le_refl _) _
  generalize w.alloc (.cells cn 25) = W1 at *
  obtain ⟨b, hb⟩ : ∃ b, b = w.heap.size := ⟨_, rfl⟩
  rw [← hb] at HN1 ⊢
  clear hb HV hzc
  have AW := hide (awake_any W1 (HTA.out.below hbel1))
  go_upto_if 10 with (go_at_call 11; refine AW.out.mono ?_; rintro e w2 ⟨rfl, hb2⟩)
  have HN2 := hide (HN1.out.below hb2)
  have hbel2 := hbel1.trans (hb2.mono hbel1.size)
  clear HN1 hbel1 hb2 AW
  cases hfew : fewB t 20000 with
  | false =>
    have FW := hide (few_any w2 cn t false hfew HZ.out HN2.out.2.1)
    go_wp2_with (first | ((with_reducible show wpList _ _ _ _ _ _); refine wpList_load_row rfl 25 (.tmp 2) rfl b rfl 25 cn (0, 0) _ HN2.out.1 Tryz.underlying25 rfl (infN HN2.out.2.2) ?_) | (go_at_call 12; refine (FW.out).mono ?_; rintro e w3 ⟨rfl, hb3⟩))
    go_ret
    exact ⟨rfl, hbel2.trans (hb3.mono hbel2.size)⟩
  | true =>
    obtain ⟨hct, hsz⟩ := few_sz hfew
    have FW := hide (few_any w2 cn t true hfew HZ.out HN2.out.2.1)
    clear hfew
    go_upto_region 5 with (first | ((with_reducible show wpList _ _ _ _ _ _); refine wpList_load_row rfl 25 (.tmp 2) rfl b rfl 25 cn (0, 0) _ HN2.out.1 Tryz.underlying25 rfl (infN HN2.out.2.2) ?_) | (go_at_call 12; refine (FW.out).mono ?_; rintro e w3 ⟨rfl, hb3⟩))
    have HN3 := hide (HN2.out.below hb3)
    have hbel3 := hbel2.trans (hb3.mono hbel2.size)
    clear HN2 hbel2 hb3 FW
    have hxz : (getT t p).1.sz ≤ 20000 := getT_sz hsz (by omega)
    have GT := hide (get_any t p (by omega) (by omega) (.agg cn) w3 (HTA.out.below hbel3).1 HN3.out.2.1)
    have GR := hide (show ∀ W, TreeR W W.heap.size (.agg cn) t → _ from fun W h => rget_any t p (by omega) (by omega) (.agg cn) W h)
    generalize getT t p = xe at *
    obtain ⟨x, er⟩ := xe
    dsimp only at hxz
    go_upto_region 6 with (first | ((with_reducible show wpList _ _ _ _ _ _); refine wpList_load_row rfl 25 (.tmp 2) rfl b rfl 25 cn (0, 0) _ HN3.out.1 Tryz.underlying25 rfl (infN HN3.out.2.2) ?_) | (go_at_call 21; refine (GT.out).mono ?_; rintro e w4 ⟨v4, rfl, hv4, hb4⟩; have HV4 := hide hv4; have HB4 := hide hb4; clear hv4 hb4) | ((with_reducible show wpList _ _ _ _ _ _); refine store_tree rfl (.tmp 5) (.tmp 18) rfl v4 _ rfl rfl rfl HV4.out ?_; rintro ca rfl hzca h1ca))
    obtain ⟨hA, hb5⟩ := Nd.stored HV4.out hzca HB4.out
    have HA := hide hA
    have HN5 := hide (HN3.out.below hb5)
    have hbel5 := hbel3.trans (hb5.mono hbel3.size)
    clear hA hb5 HV4 HB4 hzca h1ca HN3 hbel3 GT
    generalize w4.alloc (.cells ca 25) = W5 at *
    obtain ⟨ba, hba⟩ : ∃ ba, ba = w4.heap.size := ⟨_, rfl⟩
    rw [← hba] at HA ⊢
    clear hba
    go_upto_region 7 with (first | ((with_reducible show wpList _ _ _ _ _ _); refine wpList_load_row rfl 25 (.tmp 2) rfl b rfl 25 cn (0, 0) _ HN5.out.1 Tryz.underlying25 rfl (infN HN5.out.2.2) ?_) | (go_at_call 22; refine (GR.out _ HN5.out.2.1).mono ?_; rintro e w5 ⟨v5, rfl, hv5, hb5⟩; have HV5 := hide hv5; have HB5 := hide hb5; clear hv5 hb5) | ((with_reducible show wpList _ _ _ _ _ _); refine store_tree rfl (.tmp 7) (.tmp 24) rfl v5 _ rfl rfl rfl HV5.out ?_; rintro cb rfl hzcb h1cb))
    obtain ⟨hB, hb6⟩ := Nd.stored HV5.out hzcb HB5.out
    have HB := hide hB
    have HA6 := hide (HA.out.below hb6)
    have HN6 := hide (HN5.out.below hb6)
    have hbel6 := hbel5.trans (hb6.mono hbel5.size)
    clear hB hb6 HV5 HB5 hzcb h1cb HN5 hbel5 GR HA
    generalize w5.alloc (.cells cb 25) = w6 at *
    obtain ⟨bb, hbb⟩ : ∃ bb, bb = w5.heap.size := ⟨_, rfl⟩
    rw [← hbb] at HB ⊢
    clear hbb
    have hk6 : Below w6.heap.size w6 w6 ∧ True := ⟨Below.refl _ _, trivial⟩
    have hk6d : Below w6.heap.size w6 w6.drew ∧ True := ⟨(Below.refl w6.heap.size w6).drew, trivial⟩
    have HTB := hide (show ∀ W, Below w6.heap.size w6 W → TabA W from fun W h => HTA.out.below (hbel6.trans (h.mono hbel6.size)))
    have CO := hide (show ∀ W, Below w6.heap.size w6 W → Calls Tryz.prog 23 #[.agg cn] W fun e w' => e = .returned (.int .i64 (t.count : Int)) ∧ Below W.heap.size W w' from fun W h => count_any t (by omega) (.agg cn) W (HN6.out.2.1.later h))
    have CR := hide (show ∀ W, Below w6.heap.size w6 W → Calls Tryz.prog 13 #[.agg cn] W fun e w' => e = .returned (.int .i64 (t.count : Int)) ∧ Below W.heap.size W w' from fun W h => rcount_any t.count (by omega) t (Nat.le_refl _) (.agg cn) W (HN6.out.2.1.later h))
    have LE := hide (show ∀ W, Below w6.heap.size w6 W → Calls Tryz.prog 24 #[.agg cn] W fun e w' => e = .returned (.int .i64 (t.lev : Int)) ∧ Below W.heap.size W w' from fun W h => lev_any t (by omega) (.agg cn) W (HN6.out.2.1.later h))
    have LR := hide (show ∀ W, Below w6.heap.size w6 W → Calls Tryz.prog 25 #[.agg cn] W fun e w' => e = .returned (.int .i64 (t.lev : Int)) ∧ Below W.heap.size W w' from fun W h => rlev_any t.count (by omega) t (Nat.le_refl _) (.agg cn) W (HN6.out.2.1.later h))
    have PA := hide (show ∀ W, Below w6.heap.size w6 W → Calls Tryz.prog 27 #[.agg cn] W fun e w' => ∃ r, e = .returned r ∧ SlR w' w'.heap.size r (pathsT t) ∧ Below W.heap.size W w' from fun W h => (paths_any t (by omega) (.agg cn) W (HTB.out W h).1 (HN6.out.2.1.later h)).mono fun e w' ⟨r, h2, h3, h4⟩ => ⟨r, h2, SlR.of h3, h4⟩)
    have PR := hide (show ∀ W, Below w6.heap.size w6 W → Calls Tryz.prog 28 #[.agg cn] W fun e w' => ∃ r, e = .returned r ∧ SlR w' w'.heap.size r (pathsT t) ∧ Below W.heap.size W w' from fun W h => (rpathsT_any t (by omega) (.agg cn) W (HN6.out.2.1.later h)).mono fun e w' ⟨r, h2, h3, h4⟩ => ⟨r, h2, SlR.of h3, h4⟩)
    have hpl : (pathsT t).length ≤ 100000 := by
      cases hvd : validB t with
      | true => rw [paths_len hvd]; omega
      | false => unfold pathsT; rw [if_neg (by rw [hvd]; decide)]; exact Nat.zero_le _
    have ST := hide (strs_true (pathsT t) hpl)
    have QE := hide (show ∀ W, Below w6.heap.size w6 W → Calls Tryz.prog 29 #[.agg ca, .agg cb] W fun e w' => e = .returned (.bool true) ∧ Below W.heap.size W w' from fun W h => req_true x (by omega) (.agg ca) (.agg cb) W (HA6.out.2.1.later h) (HB.out.2.1.later h))
    clear hpl
    generalize pathsT t = ps at *
    refine wp_region_noPanic ?_
    refine wp_region_held_drew (S := (fun z => Below w6.heap.size w6 z ∧ True)) (by kernel_rfl) kp (fun hHeld => ?_)
    refine tkY 0 ⟨some 26, .load 25 (.tmp 2), 25, "law.go:54", #[], none⟩ ?_ ?_ ?_
    rotate_left
    · intro w hSw; (try dsimp only at hSw); refine (exec_load_row 25 (.tmp 2) (by rfl) b (by rfl) 25 cn (0, 0) _ (Blk.below hSw.1 HN6.out.1) Tryz.underlying25 (by rfl) (infN HN6.out.2.2)).trans ?_; with_reducible rfl
    try simp only [PT]
    refine tkY 2 ⟨some 28, .load 25 (.tmp 2), 25, "law.go:54", #[], none⟩ ?_ ?_ ?_
    rotate_left
    · intro w hSw; (try dsimp only at hSw); refine (exec_load_row 25 (.tmp 2) (by rfl) b (by rfl) 25 cn (0, 0) _ (Blk.below hSw.1 HN6.out.1) Tryz.underlying25 (by rfl) (infN HN6.out.2.2)).trans ?_; with_reducible rfl
    try simp only [PT]
    refine wpAnyH_ready (rs := [1]) (by kernel_rfl) (by simp) ?_
    refine AllReadyH.cons (o := ⟨some 27, .call ⟨.value (.func 23), #[.tmp 26], #[25]⟩, 3, "law.go:54", #[⟨0, .data⟩], none⟩) rfl (fun K hK => ?_) AllReadyH.nil
    go_simp
    (go_at_call 23; (with_reducible refine (CO.out _ hHeld.1).mono ?_); rintro e w9 ⟨rfl, hb9⟩; have hk9 : Below w6.heap.size w6 w9 ∧ True := ⟨hHeld.1.trans (hb9.mono hHeld.1.size), trivial⟩)
    go_wp2_with fail
    refine hK.out _ _ kp (fun hHeld => ?_)
    clear hK K
    try simp only [PT]
    refine wpAnyH_ready (rs := [3]) (by kernel_rfl) (by simp) ?_
    refine AllReadyH.cons (o := ⟨some 29, .call ⟨.value (.func 13), #[.tmp 28], #[25]⟩, 3, "law.go:54", #[⟨2, .data⟩, ⟨1, .chain⟩], none⟩) rfl (fun K hK => ?_) AllReadyH.nil
    go_simp
    (go_at_call 13; (with_reducible refine (CR.out _ hHeld.1).mono ?_); rintro e w9 ⟨rfl, hb9⟩; have hk9 : Below w6.heap.size w6 w9 ∧ True := ⟨hHeld.1.trans (hb9.mono hHeld.1.size), trivial⟩)
    go_wp2_with fail
    refine hK.out _ _ kp (fun hHeld => ?_)
    clear hK K
    try simp only [PT]
    refine tkY 4 ⟨some 30, .binOp .eql 3 (.tmp 27) (.tmp 29) 3, 4, "law.go:54", #[⟨1, .data⟩, ⟨3, .data⟩], none⟩ ?_ ?_ ?_
    rotate_left
    · intro w hSw; (try dsimp only at hSw); go_simp; (try with_reducible rfl)
    try simp only [PT]
    refine tkY 5 ⟨some 31, .move (.tmp 30), 4, "law.go:54", #[⟨4, .data⟩, ⟨3, .chain⟩], none⟩ ?_ ?_ ?_
    rotate_left
    · intro w hSw; (try dsimp only at hSw); go_simp; (try with_reducible rfl)
    try simp only [PT]
    refine tkY 6 ⟨some 32, .load 25 (.tmp 2), 25, "law.go:54", #[⟨5, .guard⟩], some (5, true)⟩ ?_ ?_ ?_
    rotate_left
    · intro w hSw; (try dsimp only at hSw); refine (exec_load_row 25 (.tmp 2) (by rfl) b (by rfl) 25 cn (0, 0) _ (Blk.below hSw.1 HN6.out.1) Tryz.underlying25 (by rfl) (infN HN6.out.2.2)).trans ?_; with_reducible rfl
    try simp only [PT]
    refine tkY 8 ⟨some 34, .load 25 (.tmp 2), 25, "law.go:54", #[⟨5, .guard⟩], some (5, true)⟩ ?_ ?_ ?_
    rotate_left
    · intro w hSw; (try dsimp only at hSw); refine (exec_load_row 25 (.tmp 2) (by rfl) b (by rfl) 25 cn (0, 0) _ (Blk.below hSw.1 HN6.out.1) Tryz.underlying25 (by rfl) (infN HN6.out.2.2)).trans ?_; with_reducible rfl
    try simp only [PT]
    refine wpAnyH_ready (rs := [7]) (by kernel_rfl) (by simp) ?_
    refine AllReadyH.cons (o := ⟨some 33, .call ⟨.value (.func 24), #[.tmp 32], #[25]⟩, 3, "law.go:54", #[⟨6, .data⟩, ⟨5, .chain⟩, ⟨5, .guard⟩], some (5, true)⟩) rfl (fun K hK => ?_) AllReadyH.nil
    go_simp
    (go_at_call 24; (with_reducible refine (LE.out _ hHeld.1).mono ?_); rintro e w9 ⟨rfl, hb9⟩; have hk9 : Below w6.heap.size w6 w9 ∧ True := ⟨hHeld.1.trans (hb9.mono hHeld.1.size), trivial⟩)
    go_wp2_with fail
    refine hK.out _ _ kp (fun hHeld => ?_)
    clear hK K
    try simp only [PT]
    refine wpAnyH_ready (rs := [9]) (by kernel_rfl) (by simp) ?_
    refine AllReadyH.cons (o := ⟨some 35, .call ⟨.value (.func 25), #[.tmp 34], #[25]⟩, 3, "law.go:54", #[⟨8, .data⟩, ⟨7, .chain⟩, ⟨5, .guard⟩], some (5, true)⟩) rfl (fun K hK => ?_) AllReadyH.nil
    go_simp
    (go_at_call 25; (with_reducible refine (LR.out _ hHeld.1).mono ?_); rintro e w9 ⟨rfl, hb9⟩; have hk9 : Below w6.heap.size w6 w9 ∧ True := ⟨hHeld.1.trans (hb9.mono hHeld.1.size), trivial⟩)
    go_wp2_with fail
    refine hK.out _ _ kp (fun hHeld => ?_)
    clear hK K
    try simp only [PT]
    refine tkY 10 ⟨some 36, .binOp .eql 3 (.tmp 33) (.tmp 35) 3, 4, "law.go:54", #[⟨7, .data⟩, ⟨9, .data⟩, ⟨5, .guard⟩], some (5, true)⟩ ?_ ?_ ?_
    rotate_left
    · intro w hSw; (try dsimp only at hSw); go_simp; (try with_reducible rfl)
    try simp only [PT]
    refine tkY 11 ⟨some 37, .pick (.tmp 31) (.tmp 36) (.const (.bool false)), 4, "law.go:54", #[⟨5, .data⟩, ⟨10, .data⟩], none⟩ ?_ ?_ ?_
    rotate_left
    · intro w hSw; (try dsimp only at hSw); go_simp; (try with_reducible rfl)
    try simp only [PT]
    refine tkY 12 ⟨some 38, .move (.tmp 37), 4, "law.go:54", #[⟨11, .data⟩, ⟨9, .chain⟩], none⟩ ?_ ?_ ?_
    rotate_left
    · intro w hSw; (try dsimp only at hSw); go_simp; (try with_reducible rfl)
    try simp only [PT]
    refine tkY 13 ⟨some 39, .load 25 (.tmp 2), 25, "law.go:54", #[⟨12, .guard⟩], some (12, true)⟩ ?_ ?_ ?_
    rotate_left
    · intro w hSw; (try dsimp only at hSw); refine (exec_load_row 25 (.tmp 2) (by rfl) b (by rfl) 25 cn (0, 0) _ (Blk.below hSw.1 HN6.out.1) Tryz.underlying25 (by rfl) (infN HN6.out.2.2)).trans ?_; with_reducible rfl
    try simp only [PT]
    refine tkY 15 ⟨some 41, .load 25 (.tmp 2), 25, "law.go:54", #[⟨12, .guard⟩], some (12, true)⟩ ?_ ?_ ?_
    rotate_left
    · intro w hSw; (try dsimp only at hSw); refine (exec_load_row 25 (.tmp 2) (by rfl) b (by rfl) 25 cn (0, 0) _ (Blk.below hSw.1 HN6.out.1) Tryz.underlying25 (by rfl) (infN HN6.out.2.2)).trans ?_; with_reducible rfl
    try simp only [PT]
    refine wpAnyH_ready (rs := [14]) (by kernel_rfl) (by simp) ?_
    refine AllReadyH.cons (o := ⟨some 40, .call ⟨.value (.func 27), #[.tmp 39], #[25]⟩, 38, "law.go:54", #[⟨13, .data⟩, ⟨12, .chain⟩, ⟨12, .guard⟩], some (12, true)⟩) rfl (fun K hK => ?_) AllReadyH.nil
    go_simp
    (go_at_call 27; (with_reducible refine (PA.out _ hHeld.1).mono ?_); rintro e w9 ⟨v9, rfl, hv9, hb9⟩; have hk9 : Below w6.heap.size w6 w9 ∧ True := ⟨hHeld.1.trans (hb9.mono hHeld.1.size), trivial⟩)
    go_wp2_with fail
    refine hK.out _ _ kp (fun hHeld => ?_)
    clear hK K
    try simp only [PT]
    refine wpAnyH_ready (rs := [16]) (by kernel_rfl) (by simp) ?_
    refine AllReadyH.cons (o := ⟨some 42, .call ⟨.value (.func 28), #[.tmp 41], #[25]⟩, 38, "law.go:54", #[⟨15, .data⟩, ⟨14, .chain⟩, ⟨12, .guard⟩], some (12, true)⟩) rfl (fun K hK => ?_) AllReadyH.nil
    go_simp
    (go_at_call 28; (with_reducible refine (PR.out _ hHeld.1).mono ?_); rintro e w10 ⟨v10, rfl, hv10, hb10⟩; have hk10 : Below w6.heap.size w6 w10 ∧ True := ⟨hHeld.1.trans (hb10.mono hHeld.1.size), trivial⟩; have rA := hv9.later2 hb10)
    go_wp2_with fail
    refine hK.out _ _ kp (fun hHeld => ?_)
    clear hK K
    try simp only [PT]
    refine wpAnyH_ready (rs := [17]) (by kernel_rfl) (by simp) ?_
    refine AllReadyH.cons (o := ⟨some 43, .call ⟨.value (.func 26), #[.tmp 40, .tmp 42], #[38, 38]⟩, 4, "law.go:54", #[⟨14, .data⟩, ⟨16, .data⟩, ⟨16, .chain⟩, ⟨12, .guard⟩], some (12, true)⟩) rfl (fun K hK => ?_) AllReadyH.nil
    go_simp
    (go_at_call 26; (with_reducible refine Calls.mono (ST.out _ _ _ (by with_reducible assumption) (by with_reducible assumption)) ?_); rintro e w9 ⟨rfl, hb9⟩; have hk9 : Below w6.heap.size w6 w9 ∧ True := ⟨hHeld.1.trans (hb9.mono hHeld.1.size), trivial⟩)
    go_wp2_with fail
    refine hK.out _ _ kp (fun hHeld => ?_)
    clear hK K
    try simp only [PT]
    refine tkY 18 ⟨some 44, .pick (.tmp 38) (.tmp 43) (.const (.bool false)), 4, "law.go:54", #[⟨12, .data⟩, ⟨17, .data⟩], none⟩ ?_ ?_ ?_
    rotate_left
    · intro w hSw; (try dsimp only at hSw); go_simp; (try with_reducible rfl)
    try simp only [PT]
    refine tkY 19 ⟨some 45, .move (.tmp 44), 4, "law.go:54", #[⟨18, .data⟩, ⟨17, .chain⟩], none⟩ ?_ ?_ ?_
    rotate_left
    · intro w hSw; (try dsimp only at hSw); go_simp; (try with_reducible rfl)
    try simp only [PT]
    refine tkY 20 ⟨some 46, .move (.tmp 6), 29, "law.go:54", #[⟨19, .guard⟩], some (19, true)⟩ ?_ ?_ ?_
    rotate_left
    · intro w hSw; (try dsimp only at hSw); go_simp; (try with_reducible rfl)
    try simp only [PT]
    refine tkY 21 ⟨some 47, .move (.tmp 8), 29, "law.go:54", #[⟨19, .guard⟩], some (19, true)⟩ ?_ ?_ ?_
    rotate_left
    · intro w hSw; (try dsimp only at hSw); go_simp; (try with_reducible rfl)
    try simp only [PT]
    refine tkY 22 ⟨some 48, .binOp .eql 29 (.tmp 46) (.tmp 47) 29, 4, "law.go:54", #[⟨20, .data⟩, ⟨21, .data⟩, ⟨19, .guard⟩], some (19, true)⟩ ?_ ?_ ?_
    rotate_left
    · intro w hSw; (try dsimp only at hSw); go_simp; (try with_reducible rfl)
    try simp only [PT]
    refine tkY 23 ⟨some 49, .pick (.tmp 45) (.tmp 48) (.const (.bool false)), 4, "law.go:54", #[⟨19, .data⟩, ⟨22, .data⟩], none⟩ ?_ ?_ ?_
    rotate_left
    · intro w hSw; (try dsimp only at hSw); go_simp; (try with_reducible rfl)
    try simp only [PT]
    refine tkY 24 ⟨some 50, .move (.tmp 49), 4, "law.go:54", #[⟨23, .data⟩, ⟨19, .chain⟩], none⟩ ?_ ?_ ?_
    rotate_left
    · intro w hSw; (try dsimp only at hSw); go_simp; (try with_reducible rfl)
    try simp only [PT]
    refine tkY 25 ⟨some 51, .load 25 (.tmp 5), 25, "law.go:54", #[⟨24, .guard⟩], some (24, true)⟩ ?_ ?_ ?_
    rotate_left
    · intro w hSw; (try dsimp only at hSw); refine (exec_load_row 25 (.tmp 5) (by rfl) ba (by rfl) 25 ca (0, 0) _ (Blk.below hSw.1 HA6.out.1) Tryz.underlying25 (by rfl) (infN HA6.out.2.2)).trans ?_; with_reducible rfl
    try simp only [PT]
    refine tkY 26 ⟨some 52, .load 25 (.tmp 7), 25, "law.go:54", #[⟨24, .guard⟩], some (24, true)⟩ ?_ ?_ ?_
    rotate_left
    · intro w hSw; (try dsimp only at hSw); refine (exec_load_row 25 (.tmp 7) (by rfl) bb (by rfl) 25 cb (0, 0) _ (Blk.below hSw.1 HB.out.1) Tryz.underlying25 (by rfl) (infN HB.out.2.2)).trans ?_; with_reducible rfl
    try simp only [PT]
    refine wpAnyH_ready (rs := [27]) (by kernel_rfl) (by simp) ?_
    refine AllReadyH.cons (o := ⟨some 53, .call ⟨.value (.func 29), #[.tmp 51, .tmp 52], #[25, 25]⟩, 4, "law.go:54", #[⟨25, .data⟩, ⟨26, .data⟩, ⟨24, .chain⟩, ⟨24, .guard⟩], some (24, true)⟩) rfl (fun K hK => ?_) AllReadyH.nil
    go_simp
    (go_at_call 29; (with_reducible refine (QE.out _ hHeld.1).mono ?_); rintro e w9 ⟨rfl, hb9⟩; have hk9 : Below w6.heap.size w6 w9 ∧ True := ⟨hHeld.1.trans (hb9.mono hHeld.1.size), trivial⟩)
    go_wp2_with fail
    refine hK.out _ _ kp (fun hHeld => ?_)
    clear hK K
    try simp only [PT]
    refine tkY 28 ⟨some 54, .pick (.tmp 50) (.tmp 53) (.const (.bool false)), 4, "law.go:54", #[⟨24, .data⟩, ⟨27, .data⟩], none⟩ ?_ ?_ ?_
    rotate_left
    · intro w hSw; (try dsimp only at hSw); go_simp; (try with_reducible rfl)
    try simp only [PT]
    refine tkY 29 ⟨some 4, .assign (.tmp 54), 4, "law.go:54", #[⟨28, .data⟩, ⟨27, .chain⟩, ⟨0, .phase⟩, ⟨1, .phase⟩, ⟨2, .phase⟩, ⟨3, .phase⟩, ⟨4, .phase⟩, ⟨5, .phase⟩, ⟨6, .phase⟩, ⟨7, .phase⟩, ⟨8, .phase⟩, ⟨9, .phase⟩, ⟨10, .phase⟩, ⟨11, .phase⟩, ⟨12, .phase⟩, ⟨13, .phase⟩, ⟨14, .phase⟩, ⟨15, .phase⟩, ⟨16, .phase⟩, ⟨17, .phase⟩, ⟨18, .phase⟩, ⟨19, .phase⟩, ⟨20, .phase⟩, ⟨21, .phase⟩, ⟨22, .phase⟩, ⟨23, .phase⟩, ⟨24, .phase⟩, ⟨25, .phase⟩, ⟨26, .phase⟩, ⟨27, .phase⟩, ⟨28, .phase⟩], none⟩ ?_ ?_ ?_
    rotate_left
    · intro w hSw; (try dsimp only at hSw); go_simp; (try with_reducible rfl)
    try simp only [PT]
    refine wpAnyH_done (by kernel_rfl) ?_ _
    refine NoPanic.normal ?_
    go_wp2_with fail
    go_ret
    exact ⟨rfl, hbel6.trans (hk9.1.mono hbel6.size)⟩
end Go.Proofs.YtlhakdildbplkaaGreatDoor
