/- Contracts and plain words for the laws of this chapter, part 27: X9, X10, X11. No condition. -/
import Derived.Test.YtlhakdildbplkaaGreatDoorD12
namespace Go.Proofs.YtlhakdildbplkaaGreatDoor
set_option linter.unusedSimpArgs false
set_option linter.unusedVariables false
open Go.RowKit
theorem rsplitS (s : ByteArray) (hs : s.size ≤ 2000000) (w : World) : Calls Tryz.prog 62 #[.string s, .int .u8 47] w fun e w' => ∃ v, e = .returned v ∧ StrsR w' w.heap.size v (words s) ∧ Below w.heap.size w w' :=
  (rsplit_any s hs w).mono fun e w' ⟨v, h1, h2, h3⟩ => ⟨v, h1, by
    have e := words_strs s
    have el : (words s).length = (partsL s.data.toList []).length := by
      have := congrArg List.length e
      unfold strsOf at this
      simpa using this
    unfold StrsR strV
    rw [e, el]
    exact h2, h3⟩
set_option maxRecDepth 100000 in
set_option maxHeartbeats 4000000 in
theorem rget_any (t : Tr) (p : ByteArray) (hsz : t.sz ≤ 60000) (hp : p.size ≤ 2000000) (v : Value) (w : World) (hv : TreeR w w.heap.size v t) : Calls Tryz.prog 22 #[v, .string p] w fun e w' => ∃ r, e = .returned (.tuple #[r, .int .i64 (getT t p).2]) ∧ TreeR w' w'.heap.size r (getT t p).1 ∧ Below w.heap.size w w' := by
  have VN := hide (fun W hW => rvalid_any t (Or.inl hsz) v W hW)
  have HV := hide hv
  obtain ⟨A, c, A2, c2, rfl, hkl, hstl⟩ := hv.openL
  clear hv hkl hstl
  have HL : Live w [] := trivial
  go_enter Tryz.func22, Tryz.ntmps22
  go_upto_region 1 with fail
  have HB := hide (show Blk ((w.alloc (.cells (t.h.cells (.slice A t.ks.len c) (.slice A2 t.ss.length c2)) 25)).alloc (.cells zeroN 25)) w.heap.size (t.h.cells (.slice A t.ks.len c) (.slice A2 t.ss.length c2)) 25 from (Blk.newAt rfl).alloc _)
  have HR := hide (show Blk ((w.alloc (.cells (t.h.cells (.slice A t.ks.len c) (.slice A2 t.ss.length c2)) 25)).alloc (.cells zeroN 25)) (w.heap.size + 1) zeroN 25 from Blk.newAt (by rw [World.size_alloc]))
  have hbel1 : Below w.heap.size w ((w.alloc (.cells (t.h.cells (.slice A t.ks.len c) (.slice A2 t.ss.length c2)) 25)).alloc (.cells zeroN 25)) := ((Below.refl _ _).alloc (Nat.le_refl _) _).alloc (by rw [World.size_alloc]; omega) _
  obtain ⟨W1, hW1⟩ : ∃ W1, W1 = (w.alloc (.cells (t.h.cells (.slice A t.ks.len c) (.slice A2 t.ss.length c2)) 25)).alloc (.cells zeroN 25) := ⟨_, rfl⟩
  rw [← hW1] at HB HR hbel1
  unfold zeroN at hW1
  rw [← hW1]
  clear hW1
  obtain ⟨r, hr⟩ : ∃ r, r = w.heap.size + 1 := ⟨_, rfl⟩
  rw [← hr] at HR ⊢
  obtain ⟨b, hb⟩ : ∃ b, b = w.heap.size := ⟨_, rfl⟩
  rw [← hb] at HB ⊢
  have hlo : b ≠ r ∧ w.heap.size ≤ b ∧ w.heap.size ≤ r := by omega
  obtain ⟨hbr, hwb, hwr⟩ := hlo
  clear hb hr
  have HV1 := hide (HV.out.own_below hbel1)
  have BZ := hide built_zero
  cases hvb : validB t
  case false =>
    have HZ := hide (getT_no (p := p) hvb)
    rw [hvb] at VN
    clear hvb
    go_wp2_with (first | (refine wpList_load_row rfl 25 (.tmp 2) rfl b rfl 25 (t.h.cells (.slice A t.ks.len c) (.slice A2 t.ss.length c2)) (0, 0) _ HB.out Tryz.underlying25 rfl (infN rfl) ?_) | (go_at_call 65; refine (VN.out _ HV1.out).mono ?_; rintro e w3 ⟨rfl, hb3⟩; have HR3 := hide (Blk.below hb3 HR.out)) | (refine wpList_build_is rfl 25 #[] rfl [] (by simp) _ BZ.out ?_) | (refine wpList_store_row rfl 25 (.tmp 4) (.tmp 12) rfl r zeroN rfl rfl 25 zeroN HR3.out (infN rfl) rfl (by kernel_rfl) ?_))
    refine bodyPost_ret (results_cell2 rfl _ _ r 25 zeroN (0, 0) _ rfl (setRow_heap _ _ _ _ _ _ HR3.out) (.int .i64 1) rfl Tryz.underlying25 rfl (infN rfl)) rfl ?_
    exact ⟨_, by rw [HZ.out], by rw [HZ.out]; exact zero_reads _ _, (hbel1.trans (hb3.mono hbel1.size)).trans ((FrO.setRow (O := fun j => j = r) rfl).below (by have := hbel1.size; have := hb3.size; omega) fun j hj => by subst hj; exact hwr)⟩
  case true =>
  have HP2 := hide (getT_yes (p := p) hvb)
  rw [hvb] at VN
  clear hvb
  by_cases hpe : p = eS
  case pos =>
    have HZ := hide (show getT t p = (t, 0) from HP2.out.1 t (by unfold partsP; rw [if_pos hpe]; rfl))
    subst hpe
    go_wp2_with (first | (refine wpList_load_row rfl 25 (.tmp 2) rfl b rfl 25 (t.h.cells (.slice A t.ks.len c) (.slice A2 t.ss.length c2)) (0, 0) _ HB.out Tryz.underlying25 rfl (infN rfl) ?_) | (refine wpList_load_row rfl 25 (.tmp 2) rfl b rfl 25 (t.h.cells (.slice A t.ks.len c) (.slice A2 t.ss.length c2)) (0, 0) _ HB3.out Tryz.underlying25 rfl (infN rfl) ?_) | (go_at_call 65; refine (VN.out _ HV1.out).mono ?_; rintro e w3 ⟨rfl, hb3⟩; have HR3 := hide (Blk.below hb3 HR.out); have HB3 := hide (Blk.below hb3 HB.out)) | (refine wpList_store_row rfl 25 (.tmp 4) (.tmp 15) rfl r (t.h.cells (.slice A t.ks.len c) (.slice A2 t.ss.length c2)) rfl rfl 25 zeroN HR3.out (infN rfl) rfl (nodeLit _ _ _ _ _ _ _) ?_))
    refine bodyPost_ret (results_cell2 rfl _ _ r 25 (t.h.cells (.slice A t.ks.len c) (.slice A2 t.ss.length c2)) (0, 0) _ rfl (setRow_heap _ _ _ _ _ _ HR3.out) (.int .i64 0) rfl Tryz.underlying25 rfl (infN rfl)) rfl ?_
    have hbel9 := (hbel1.trans (hb3.mono hbel1.size)).trans ((FrO.setRow (O := fun j => j = r) (cs := t.h.cells (.slice A t.ks.len c) (.slice A2 t.ss.length c2)) rfl).below (B := w.heap.size) (by have := hbel1.size; have := hb3.size; omega) fun j hj => by subst hj; exact hwr)
    exact ⟨_, by rw [HZ.out], by rw [HZ.out]; exact HV.out.own_below hbel9, hbel9⟩
  case neg =>
  have hpp : partsP p = words p := by unfold partsP; rw [if_neg hpe]
  rw [hpp] at HP2
  have q1 : (p.toList == []) = false := by
    rw [beq_eq_false_iff_ne]
    exact fun e => hpe (nil_list e)
  have hwl := words_len p
  have hmx : (words p).length ≤ 2000001 := by rw [hwl]; have := Lib.countB_le slash (by decide) p.size p (Nat.le_refl _); omega
  have SP := hide (fun W => rsplitS p hp W)
  clear hpe hpp hwl
  go_upto_region 6 with (first | (refine wpList_load_row rfl 25 (.tmp 2) rfl b rfl 25 (t.h.cells (.slice A t.ks.len c) (.slice A2 t.ss.length c2)) (0, 0) _ HB.out Tryz.underlying25 rfl (infN rfl) ?_) | (go_at_call 65; refine (VN.out _ HV1.out).mono ?_; rintro e w3 ⟨rfl, hb3⟩) | (go_at_call 62; refine (SP.out _).mono ?_; rintro e w4 ⟨r4, rfl, hr4, hb4⟩; have HSL := hide (SlR.of hr4); obtain ⟨A5, c5, rfl⟩ := own_slice hr4))
  have hbel3 := hbel1.trans (hb3.mono hbel1.size)
  have hbel4 := hbel3.trans (hb4.mono hbel3.size)
  have HB4 := hide (Blk.below hb4 (Blk.below hb3 HB.out))
  have HR4 := hide (Blk.below hb4 (Blk.below hb3 HR.out))
  have hsb : ∀ g, (Value.slice A5 (words p).length c5).ownBlock = some g → b ≠ g := fun g e => by have := (hr4.lt g e).1; have := (Blk.below hb3 HB.out).lt; omega
  have HSB := hide hsb
  clear HB HR HV1 hbel1 hb3 hb4 hr4 VN SP hbel3 hsb
  generalize words p = ps at *
  go_wp2_with fail
  go_loopw [7] (fun i wr => ∃ (k : Nat) (x : Tr) (kv sv : Value), i = .int .i64 (k : Int) ∧ k ≤ ps.length ∧ Blk wr b (x.h.cells kv sv) 25 ∧ Blk wr r zeroN 25 ∧ TreeR w w.heap.size (.agg (x.h.cells kv sv)) x ∧ x.sz ≤ 60000 ∧ findT t ps = findT x (ps.drop k) ∧ FrO (fun j => j = b) w4 wr) (fun i _ => ps.length - (intOf i).toNat)
  case atStart => exact ⟨0, t, _, _, rfl, by omega, HB4.out, HR4.out, HV.out, hsz, rfl, FrO.of (Below.refl _ _)⟩
  case round =>
    clear HB4 HR4 HV
    obtain ⟨k, x, kv, sv, rfl, hk, hB, hRz, htx, hxs, hfd, hfr⟩ := hrel
    have HB := hide hB
    have HR := hide hRz
    have HTX := hide htx
    have HF := hide hfd
    have HFR := hide hfr
    obtain ⟨A3, c3, A4, c4, ecells, hkl, -⟩ := htx.openL
    injection ecells with ecells
    have ekv : kv = .slice A3 x.ks.len c3 := by have := congrArg (fun a : Array Value => a[10]?) ecells; simpa [Hd.cells] using this
    have esv : sv = .slice A4 x.ss.length c4 := by have := congrArg (fun a : Array Value => a[11]?) ecells; simpa [Hd.cells] using this
    subst ekv; subst esv
    have HKL := hide hkl
    have hbel : Below w.heap.size w wr := hbel4.trans (hfr.below hbel4.size fun j hj => by subst hj; exact hwb)
    clear hB hRz htx hfd hfr ecells hkl
    by_cases hlt : k < ps.length
    case neg =>
      obtain rfl : k = ps.length := by omega
      have HZ := hide (show getT t p = (x, 0) from HP2.out.1 x (by rw [HF.out, List.drop_length, findT_nil]))
      go_wp2_with (first | (refine wpList_load_row rfl 25 (.tmp 2) rfl b rfl 25 (x.h.cells (.slice A3 x.ks.len c3) (.slice A4 x.ss.length c4)) (0, 0) _ HB.out Tryz.underlying25 rfl (infN rfl) ?_) | (refine wpList_store_row rfl 25 (.tmp 4) (.tmp 38) rfl r (x.h.cells (.slice A3 x.ks.len c3) (.slice A4 x.ss.length c4)) rfl rfl 25 zeroN HR.out (infN rfl) rfl (nodeLit _ _ _ _ _ _ _) ?_))
      refine bodyPost_ret (results_cell2 rfl _ _ r 25 (x.h.cells (.slice A3 x.ks.len c3) (.slice A4 x.ss.length c4)) (0, 0) _ rfl (setRow_heap _ _ _ _ _ _ HR.out) (.int .i64 0) rfl Tryz.underlying25 rfl (infN rfl)) rfl ?_
      have hbel9 := hbel.trans ((FrO.setRow (O := fun j => j = r) (cs := x.h.cells (.slice A3 x.ks.len c3) (.slice A4 x.ss.length c4)) rfl).below (B := w.heap.size) hbel.size fun j hj => by subst hj; exact hwr)
      exact ⟨_, by rw [HZ.out], by rw [HZ.out]; exact HTX.out.own_below hbel9, hbel9⟩
    case pos =>
    obtain ⟨n, hn⟩ : ∃ n, ps[k]? = some n := ⟨_, List.getElem?_eq_getElem hlt⟩
    obtain ⟨A6, c6, e6, hsl⟩ := HSL.out
    obtain ⟨sg, so, esg, hsg, hsc⟩ := hsl (by omega)
    injection e6 with e7 e8 e9
    subst e7; subst e9
    subst esg
    have hnb : sg ≠ b := fun e => HSB.out sg rfl e.symm
    have s1 : wr.cell? ⟨sg, so + k, none⟩ = some (.string n) := (World.cell?_of_block (HFR.out.block sg hsg hnb)).trans (hsc k n hn)
    have hdrop : ps.drop k = n :: ps.drop (k + 1) := by
      obtain ⟨h1, e1⟩ := List.getElem?_eq_some_iff.1 hn
      rw [List.drop_eq_getElem_cons h1, e1]
    have HDR := hide hdrop
    have hkl2 : x.ks.len ≤ 60000 := by have := x.ks.len_sz; unfold Tr.sz at hxs; omega
    have RK := hide (fun W hW => rkid_any x n (by omega) (.agg (x.h.cells (.slice A3 x.ks.len c3) (.slice A4 x.ss.length c4))) W hW)
    have HTD := hide (show TreeR wr.drew wr.drew.heap.size (.agg (x.h.cells (.slice A3 x.ks.len c3) (.slice A4 x.ss.length c4))) x from (HTX.out.own_below hbel).own_below ((Below.refl _ _).drew))
    have hkeepd : Blk wr.drew b (x.h.cells (.slice A3 x.ks.len c3) (.slice A4 x.ss.length c4)) 25 ∧ wr.drew.cell? ⟨sg, so + k, none⟩ = some (.string n) := ⟨HB.out, s1⟩
    have hkeep : Blk wr b (x.h.cells (.slice A3 x.ks.len c3) (.slice A4 x.ss.length c4)) 25 ∧ wr.cell? ⟨sg, so + k, none⟩ = some (.string n) := ⟨HB.out, s1⟩
    clear hdrop hn hsc hsl
    go_upto_region 9 with fail
    refine wp_region_noPanic ?_
    refine wp_region_held_drew (S := (fun z => Blk z b (x.h.cells (.slice A3 x.ks.len c3) (.slice A4 x.ss.length c4)) 25 ∧ z.cell? ⟨sg, so + k, none⟩ = some (.string n))) (by kernel_rfl) kp (fun hHeld => ?_)
    refine tkY 0 ⟨some 24, .load 25 (.tmp 2), 25, "ref.go:208", #[], none⟩ ?_ ?_ ?_
    rotate_left
    · intro w hSw; (try dsimp only at hSw); refine (exec_load_row 25 (.tmp 2) (by rfl) b (by rfl) 25 (x.h.cells (.slice A3 x.ks.len c3) (.slice A4 x.ss.length c4)) (0, 0) _ hSw.1 Tryz.underlying25 (by rfl) (infN rfl)).trans ?_; with_reducible rfl
    try simp only [PT]
    refine tkY 1 ⟨some 25, .move (.tmp 6), 38, "ref.go:208", #[], none⟩ ?_ ?_ ?_
    rotate_left
    · intro w hSw; (try dsimp only at hSw); go_simp; (try with_reducible rfl)
    try simp only [PT]
    refine tkY 2 ⟨some 26, .move (.tmp 7), 3, "ref.go:208", #[], none⟩ ?_ ?_ ?_
    rotate_left
    · intro w hSw; (try dsimp only at hSw); go_simp; (try with_reducible rfl)
    try simp only [PT]
    refine tkY 3 ⟨some 27, .indexAddr 38 (.tmp 25) (.tmp 26), 0, "ref.go:208", #[⟨1, .data⟩, ⟨2, .data⟩], none⟩ ?_ ?_ ?_
    rotate_left
    · intro w hSw; (try dsimp only at hSw); go_simp; (try with_reducible rfl)
    try simp only [PT]
    refine tkY 4 ⟨some 28, .load 9 (.tmp 27), 9, "ref.go:208", #[⟨3, .data⟩], none⟩ ?_ ?_ ?_
    rotate_left
    · intro w hSw; (try dsimp only at hSw); have c1 := hSw.2; go_simp; (try with_reducible rfl)
    try simp only [PT]
    refine wpAnyH_ready (rs := [5]) (by kernel_rfl) (by simp) ?_
    refine AllReadyH.cons (o := ⟨some 29, .call ⟨.value (.func 66), #[.tmp 24, .tmp 28], #[25, 9]⟩, 3, "ref.go:208", #[⟨0, .data⟩, ⟨4, .data⟩], none⟩) rfl (fun K hK => ?_) AllReadyH.nil
    go_simp
    (go_at_call 66; (with_reducible refine (RK.out _ HTD.out).mono ?_); rintro e w8 ⟨rfl, hb8⟩; have hkeep8 : Blk w8 b (x.h.cells (.slice A3 x.ks.len c3) (.slice A4 x.ss.length c4)) 25 ∧ w8.cell? ⟨sg, so + k, none⟩ = some (.string n) := ⟨Blk.below hb8 hkeepd.1, (hb8.cell (p := ⟨sg, so + k, none⟩) (cell_lt hkeepd.2)).trans hkeepd.2⟩)
    go_wp2_with fail
    refine hK.out _ _ kp (fun hHeld => ?_)
    clear hK K
    try simp only [PT]
    refine tkY 6 ⟨some 8, .assign (.tmp 29), 3, "ref.go:208", #[⟨5, .data⟩, ⟨5, .chain⟩, ⟨0, .phase⟩, ⟨1, .phase⟩, ⟨2, .phase⟩, ⟨3, .phase⟩, ⟨4, .phase⟩, ⟨5, .phase⟩], none⟩ ?_ ?_ ?_
    rotate_left
    · intro w hSw; (try dsimp only at hSw); go_simp; (try with_reducible rfl)
    try simp only [PT]
    refine wpAnyH_done (by kernel_rfl) ?_ _
    refine NoPanic.normal ?_
    have hbr8 : Below wr.heap.size wr w8 := (Below.refl wr.heap.size wr).drew.trans hb8
    have HB8 := hide (Blk.below hbr8 HB.out)
    have HR8 := hide (Blk.below hbr8 HR.out)
    have HFR8 := hide (HFR.out.trans (FrO.of (O := fun j => j = b) hbr8) (fun j h => Or.inl h))
    have hbel8 := hbel.trans (hbr8.mono hbel.size)
    clear hkeep hkeepd hkeep8 hHeld s1 HB HR HFR hb8 hbr8 RK
    cases hki : kidI x.ks n with
    | none =>
      have HZ := hide (show getT t p = (Tr.zero, 6) from HP2.out.2 (by rw [HF.out, HDR.out, findT_miss (kid_none hki)]))
      clear hki
      go_wp2_with (first | (refine wpList_build_is rfl 25 #[] rfl [] (by simp) _ BZ.out ?_) | (refine wpList_store_row rfl 25 (.tmp 4) (.tmp 32) rfl r zeroN rfl rfl 25 zeroN HR8.out (infN rfl) rfl (by kernel_rfl) ?_))
      refine bodyPost_ret (results_cell2 rfl _ _ r 25 zeroN (0, 0) _ rfl (setRow_heap _ _ _ _ _ _ HR8.out) (.int .i64 6) rfl Tryz.underlying25 rfl (infN rfl)) rfl ?_
      exact ⟨_, by rw [HZ.out], by rw [HZ.out]; exact zero_reads _ _, hbel8.trans ((FrO.setRow (O := fun j => j = r) rfl).below hbel8.size fun j hj => by subst hj; exact hwr)⟩
    | some i =>
      have hil := kidI_lt hki
      obtain ⟨kk, hk1, hk2, -⟩ := kid_some hki
      have HZ := hide (show findT t ps = findT kk (ps.drop (k + 1)) by rw [HF.out, HDR.out, findT_hit hk2])
      obtain ⟨g, o', hA, hg, hfo⟩ := HKL.out (by omega)
      subst hA
      obtain ⟨hsk, kv', sv', h3, h4, h5⟩ := hfo.at hk1
      have XR := hide (show w8.rangeAt g (o' + i * 12) (kk.h.cells kv' sv').toList by
        have h := range_below hbel8 hg h3
        rw [show o' + 0 * 12 + i * 12 = o' + i * 12 by omega] at h
        exact h)
      have HTK := hide (show TreeR w w.heap.size (.agg (kk.h.cells kv' sv')) kk from ⟨kv', sv', rfl, h4, h5⟩)
      obtain ⟨A7, c7, rfl⟩ : ∃ A7 c7, kv' = .slice A7 kk.ks.len c7 := by obtain ⟨A, c, e, _⟩ := h5; exact ⟨A, c, e⟩
      obtain ⟨A8, c8, rfl⟩ : ∃ A8 c8, sv' = .slice A8 kk.ss.length c8 := by obtain ⟨A, c, e, _⟩ := h4; exact ⟨A, c, e⟩
      have d10 : w8.cell? ⟨b, 10, none⟩ = some (.slice (some ⟨g, o', none⟩) x.ks.len c3) := HB8.out.cells 10
      have hks6 : kk.sz ≤ 60000 := by unfold Tr.sz at hxs; omega
      have hkv : kidV (some i) = (i : Int) := rfl
      rw [hkv]
      clear hki hk1 hk2 HF HDR h3 h4 h5 hfo hsk HKL hkv
      go_wp2_with (first | (refine wpList_load_midA rfl 25 (.tmp 36) rfl g (o' + i * 12) rfl (kk.h.cells (.slice A7 kk.ks.len c7) (.slice A8 kk.ss.length c8)) _ XR.out Tryz.underlying25 rfl (infNl rfl) ?_) | (refine wpList_store_row rfl 25 (.tmp 2) (.tmp 37) rfl b (kk.h.cells (.slice A7 kk.ks.len c7) (.slice A8 kk.ss.length c8)) rfl rfl 25 (x.h.cells (.slice (some ⟨g, o', none⟩) x.ks.len c3) (.slice A4 x.ss.length c4)) HB8.out (infN rfl) rfl (nodeLit _ _ _ _ _ _ _) ?_))
      have HBn := hide (show Blk (w8.setRow b (kk.h.cells (.slice A7 kk.ks.len c7) (.slice A8 kk.ss.length c8))) b (kk.h.cells (.slice A7 kk.ks.len c7) (.slice A8 kk.ss.length c8)) 25 from setRow_heap _ _ _ _ _ _ HB8.out)
      have HRn := hide (show Blk (w8.setRow b (kk.h.cells (.slice A7 kk.ks.len c7) (.slice A8 kk.ss.length c8))) r zeroN 25 from (setRow_other _ _ _ _ (Ne.symm hbr)).trans HR8.out)
      have HFn := hide (HFR8.out.trans (FrO.setRow (O := fun j => j = b) (w := w8) (cs := kk.h.cells (.slice A7 kk.ks.len c7) (.slice A8 kk.ss.length c8)) rfl) (fun j h => Or.inl h))
      clear HB8 HR8 HFR8 XR d10
      go_roundw
      case rel => exact ⟨k + 1, kk, _, _, by go_num, by omega, HBn.out, HRn.out, HTK.out, hks6, HZ.out, HFn.out⟩
      case measure => simp [intOf]; omega
theorem infS2 : (Tryz.prog.info? 69).map (·.size) = some 2 := by kernel_rfl
theorem exec_strm_neq {o : Oper} {ev : Operand → Value} {w : World} (x y : St) (a b : Operand) (ho : o.op = .binOp .neq 69 a b 69) (ha : ev a = .agg #[.string x.1, .string x.2]) (hb : ev b = .agg #[.string y.1, .string y.2]) (nq : Bool) (hq : (!decide (x = y)) = nq) : (execOp ev o).run Tryz.prog w = .ok (.value (.bool nq)) w := by
  subst hq
  unfold execOp
  simp only [ho, ha, hb]
  by_cases h1 : x.1 = y.1
  · have q1 : (x.1.toList == y.1.toList) = true := seq_y h1
    by_cases h2 : x.2 = y.2
    · have q2 : (x.2.toList == y.2.toList) = true := seq_y h2
      have e : decide (x = y) = true := decide_eq_true (Prod.ext h1 h2)
      rw [e]
      go_simp
    · have q2 : (x.2.toList == y.2.toList) = false := seq_n h2
      have e : decide (x = y) = false := decide_eq_false (fun e => h2 (by rw [e]))
      rw [e]
      go_simp
  · have q1 : (x.1.toList == y.1.toList) = false := seq_n h1
    have e : decide (x = y) = false := decide_eq_false (fun e => h1 (by rw [e]))
    rw [e]
    go_simp
def twoC (x y : St) (g o g2 o2 : Nat) (z : World) : Prop := z.rangeAt g o (#[.string x.1, .string x.2] : Array Value).toList ∧ z.rangeAt g2 o2 (#[.string y.1, .string y.2] : Array Value).toList
set_option maxRecDepth 100000 in
set_option maxHeartbeats 2000000 in
theorem streq_any (L M : List St) (A A2 : Option Addr) (c c2 B : Nat) (hL : L.length ≤ 1000000) (hM : M.length ≤ 1000000) (w : World) (hB : B ≤ w.heap.size) (ha : StL w B A L) (hb : StL w B A2 M) : Calls Tryz.prog 105 #[.slice A L.length c, .slice A2 M.length c2] w fun e w' => e = .returned (.bool (decide (L = M))) ∧ Below w.heap.size w w' := by
  have HA := hide ha
  have HB := hide hb
  clear ha hb
  have HL : Live w [] := trivial
  go_enter Tryz.func105, Tryz.ntmps105
  by_cases hlen : L.length = M.length
  case neg =>
    have HZ := hide (show decide (L = M) = false from decide_eq_false (fun e => hlen (by rw [e])))
    have q : ((L.length : Int) != (M.length : Int)) = true := by simp; omega
    have HQ := hide hlen
    clear hlen
    go_wp2_with fail
    go_ret
    exact ⟨ret_b HZ.out.symm, Below.refl _ _⟩
  case pos =>
  have HLN := hide hlen
  have q : ((L.length : Int) != (M.length : Int)) = false := by simp; omega
  clear hlen
  go_wp2_with fail
  go_loopw [13] (fun i wr => ∃ k : Nat, i = .int .i64 (k : Int) ∧ k ≤ L.length ∧ (L = M ↔ L.drop k = M.drop k) ∧ Below w.heap.size w wr) (fun i _ => L.length - (intOf i).toNat)
  case atStart => exact ⟨0, rfl, by omega, Iff.rfl, Below.refl _ _⟩
  case round =>
    obtain ⟨k, rfl, hk, hiff, hbel⟩ := hrel
    have HI := hide hiff
    clear hiff
    by_cases hlt : k < L.length
    case neg =>
      have HZ := hide (show decide (L = M) = true from decide_eq_true (HI.out.2 (by rw [List.drop_of_length_le (by omega), List.drop_of_length_le (by have := HLN.out; omega)])))
      go_wp2_with fail
      go_ret
      exact ⟨ret_b HZ.out.symm, hbel⟩
    case pos =>
    have hltM : k < M.length := by have := HLN.out; omega
    obtain ⟨x, hx⟩ : ∃ x, L[k]? = some x := ⟨_, List.getElem?_eq_getElem hlt⟩
    obtain ⟨y, hy⟩ : ∃ y, M[k]? = some y := ⟨_, List.getElem?_eq_getElem hltM⟩
    obtain ⟨g, o, rfl, hg, hc⟩ := HA.out.row (hbel.mono hB) hx
    obtain ⟨g2, o2, rfl, hg2, hc2⟩ := HB.out.row (hbel.mono hB) hy
    have hkeep : twoC x y g (o + k * 2) g2 (o2 + k * 2) wr ∧ True := ⟨⟨hc, hc2⟩, trivial⟩
    have hkeepd : twoC x y g (o + k * 2) g2 (o2 + k * 2) wr.drew ∧ True := ⟨⟨hc, hc2⟩, trivial⟩
    have HD := hide (drop_eq_cons hx hy)
    clear hx hy hc hc2
    go_upto_region 6 with fail
    obtain ⟨nq, hnq⟩ : ∃ nq, (!decide (x = y)) = nq := ⟨_, rfl⟩
    have HNQ := hide hnq
    clear hnq
    go_cut [24] (fun v wx => v = .bool nq ∧ wx = wr.drew)
    case first =>
      refine wp_region_noPanic ?_
      refine wp_region_held_drew (S := (fun z => twoC x y g (o + k * 2) g2 (o2 + k * 2) z ∧ True)) (by kernel_rfl) kp (fun hHeld => ?_)
      refine tkY 0 ⟨some 16, .move (.tmp 0), 23, "slices.go:25", #[], none⟩ ?_ ?_ ?_
      rotate_left
      · intro w hSw; (try dsimp only at hSw); go_simp; (try with_reducible rfl)
      try simp only [PT]
      refine tkY 1 ⟨some 17, .move (.tmp 5), 3, "slices.go:25", #[], none⟩ ?_ ?_ ?_
      rotate_left
      · intro w hSw; (try dsimp only at hSw); go_simp; (try with_reducible rfl)
      try simp only [PT]
      refine tkY 2 ⟨some 18, .indexAddr 23 (.tmp 16) (.tmp 17), 0, "slices.go:25", #[⟨0, .data⟩, ⟨1, .data⟩], none⟩ ?_ ?_ ?_
      rotate_left
      · intro w hSw; (try dsimp only at hSw); go_simp; (try with_reducible rfl)
      try simp only [PT]
      refine tkY 3 ⟨some 19, .load 69 (.tmp 18), 69, "slices.go:25", #[⟨2, .data⟩], none⟩ ?_ ?_ ?_
      rotate_left
      · intro w hSw; (try dsimp only at hSw); refine (exec_load_mid 69 (.tmp 18) (by rfl) g (o + k * 2) (by rfl) #[.string x.1, .string x.2] _ hSw.1.1 Tryz.underlying69 (by rfl) (by exact infS2)).trans ?_; with_reducible rfl
      try simp only [PT]
      refine tkY 4 ⟨some 20, .move (.tmp 1), 23, "slices.go:25", #[], none⟩ ?_ ?_ ?_
      rotate_left
      · intro w hSw; (try dsimp only at hSw); go_simp; (try with_reducible rfl)
      try simp only [PT]
      refine tkY 5 ⟨some 21, .move (.tmp 5), 3, "slices.go:25", #[], none⟩ ?_ ?_ ?_
      rotate_left
      · intro w hSw; (try dsimp only at hSw); go_simp; (try with_reducible rfl)
      try simp only [PT]
      refine tkY 6 ⟨some 22, .indexAddr 23 (.tmp 20) (.tmp 21), 0, "slices.go:25", #[⟨4, .data⟩, ⟨5, .data⟩], none⟩ ?_ ?_ ?_
      rotate_left
      · intro w hSw; (try dsimp only at hSw); go_simp; (try with_reducible rfl)
      try simp only [PT]
      refine tkY 7 ⟨some 23, .load 69 (.tmp 22), 69, "slices.go:25", #[⟨6, .data⟩], none⟩ ?_ ?_ ?_
      rotate_left
      · intro w hSw; (try dsimp only at hSw); refine (exec_load_mid 69 (.tmp 22) (by rfl) g2 (o2 + k * 2) (by rfl) #[.string y.1, .string y.2] _ hSw.1.2 Tryz.underlying69 (by rfl) (by exact infS2)).trans ?_; with_reducible rfl
      try simp only [PT]
      refine tkY 8 ⟨some 24, .binOp .neq 69 (.tmp 19) (.tmp 23) 69, 4, "slices.go:25", #[⟨3, .data⟩, ⟨7, .data⟩], none⟩ ?_ ?_ ?_
      rotate_left
      · intro w hSw; (try dsimp only at hSw); refine (exec_strm_neq x y (.tmp 19) (.tmp 23) (by rfl) (by rfl) (by rfl) nq HNQ.out).trans ?_; with_reducible rfl
      try simp only [PT]
      refine wpAnyH_done (by kernel_rfl) ?_ _
      refine NoPanic.normal ?_
      go_wp2_with fail
      go_meet
      exact ⟨rfl, rfl⟩
    case rest =>
    obtain ⟨rfl, rfl⟩ := hcut
    clear hkeep hkeepd
    cases nq
    · have hxy : x = y := by simpa using HNQ.out
      have HE := hide (show (L = M ↔ L.drop (k + 1) = M.drop (k + 1)) by rw [HI.out, HD.out]; simp [hxy])
      clear hxy HD
      go_wp2_with fail
      go_roundw
      case rel => exact ⟨k + 1, by go_num, by omega, HE.out, hbel.drew⟩
      case measure => simp [intOf]; omega
    · have hxy : ¬ x = y := by simpa using HNQ.out
      have HE := hide (show decide (L = M) = false from decide_eq_false (fun e => hxy (HD.out.1 (HI.out.1 e)).1))
      clear hxy HD
      go_wp2_with fail
      go_ret
      exact ⟨ret_b HE.out.symm, hbel.drew⟩
theorem ForR.eq_node {h h' : Hd} {ss ss' : List St} {ks ks' nx nx' : Fo} : Fo.node h ss ks nx = .node h' ss' ks' nx' ↔ (⟨h, ss, ks⟩ : Tr) = ⟨h', ss', ks'⟩ ∧ nx = nx' := by
  rw [Fo.node.injEq, Tr.mk.injEq]
  constructor
  · rintro ⟨a, b, c, d⟩; exact ⟨⟨a, b, c⟩, d⟩
  · rintro ⟨⟨a, b, c⟩, d⟩; exact ⟨a, b, c, d⟩
def EqOK (g : FuncId) (N : Nat) : Prop := ∀ a b : Tr, a.count ≤ N → a.sz ≤ 500000 → b.sz ≤ 500000 → ∀ (v1 v2 : Value) (W : World), TreeR W W.heap.size v1 a → TreeR W W.heap.size v2 b → Calls Tryz.prog g #[v1, v2] W fun e w' => e = .returned (.bool (decide (a = b))) ∧ Below W.heap.size W w'
set_option maxRecDepth 100000 in
set_option maxHeartbeats 4000000 in
theorem eqfunc_any (N : Nat) (EQ : EqOK 40 N) (L M : Fo) (A A2 : Option Addr) (c c2 B : Nat) (hLc : L.count ≤ N) (hL : L.sz ≤ 500000) (hM : M.sz ≤ 500000) (w : World) (hB : B ≤ w.heap.size) (ha : Left w B A L 0) (hb : Left w B A2 M 0) :
    Calls Tryz.prog 106 #[.slice A L.len c, .slice A2 M.len c2, .func (.func 40) #[] #[]] w fun e w' => e = .returned (.bool (decide (L = M))) ∧ Below w.heap.size w w' := by
  have HA := hide ha
  have HB := hide hb
  have HEQ := hide EQ
  have hL2 := L.len_sz
  have hM2 := M.len_sz
  have hL3 : L.len ≤ 500000 := by omega
  have hM3 : M.len ≤ 500000 := by omega
  have eg := enters_of Tryz.func40 (by kernel_rfl) rfl
  clear ha hb EQ hL2 hM2
  have HL : Live w [] := trivial
  go_enter Tryz.func106, Tryz.ntmps106
  by_cases hlen : L.len = M.len
  case neg =>
    have HZ := hide (show decide (L = M) = false from decide_eq_false (fun e => hlen (by rw [e])))
    have q : ((L.len : Int) != (M.len : Int)) = true := by simp; omega
    have HQ := hide hlen
    clear hlen
    go_wp2_with fail
    go_ret
    exact ⟨ret_b HZ.out.symm, Below.refl _ _⟩
  case pos =>
  have HLN := hide hlen
  have q : ((L.len : Int) != (M.len : Int)) = false := by simp; omega
  clear hlen
  go_wp2_with fail
  go_loopw [17] (fun i wr => ∃ (k : Nat) (r s : Fo), i = .int .i64 (k : Int) ∧ k + r.len = L.len ∧ k + s.len = M.len ∧ (L = M ↔ r = s) ∧ r.count ≤ N ∧ r.sz ≤ 500000 ∧ s.sz ≤ 500000 ∧ Left w B A r k ∧ Left w B A2 s k ∧ Below w.heap.size w wr) (fun i _ => L.len - (intOf i).toNat)
  case atStart => exact ⟨0, L, M, rfl, by omega, by omega, Iff.rfl, hLc, hL, hM, HA.out, HB.out, Below.refl _ _⟩
  case round =>
    clear HA HB
    obtain ⟨k, r, s, rfl, hkr, hks, hiff, hrc, hrs, hss, hl, hm, hbel⟩ := hrel
    have HI := hide hiff
    have HLr := hide hl
    have HMr := hide hm
    clear hiff hl hm
    have HLN2 := HLN.out
    cases r with
    | nil =>
      rw [Fo.len_nil] at hkr
      obtain rfl : k = L.len := by omega
      have hs0 : s = .nil := Fo.nil_of (by omega)
      have HZ := hide (show decide (L = M) = true from decide_eq_true (HI.out.2 hs0.symm))
      clear HLN2 hs0 HI
      go_wp2_with fail
      go_ret
      exact ⟨ret_b HZ.out.symm, hbel⟩
    | node h ss ks nx =>
    cases s with
    | nil => rw [Fo.len_nil] at hks; rw [Fo.len_node] at hkr; omega
    | node h' ss' ks' nx' =>
    rw [Fo.len_node] at hkr hks
    rw [Fo.count_node] at hrc
    rw [Fo.sz_node] at hrs hss
    have hlt : k < L.len := by omega
    have hltM : k < M.len := by omega
    clear HLN2
    obtain ⟨g, o, kc, rfl, hg, hr, hz, h1c, htr, hln⟩ := HLr.out.next
    obtain ⟨g2, o2, kc2, rfl, hg2, hr2, hz2, h1c2, htr2, hln2⟩ := HMr.out.next
    have R1 := hide (range_below (hbel.mono hB) hg hr)
    have R2 := hide (range_below (hbel.mono hB) hg2 hr2)
    have HLn := hide hln
    have HMn := hide hln2
    have HZ1 := hide hz
    have HZ2 := hide hz2
    have H1C := hide h1c
    have H1D := hide h1c2
    have hBr : B ≤ wr.heap.size := Nat.le_trans hB hbel.size
    have HT1 := hide ((htr.below (hbel.mono hB)).mono hBr)
    have HT2 := hide ((htr2.below (hbel.mono hB)).mono hBr)
    clear hr hr2 hz hz2 h1c h1c2 htr htr2 hln hln2 HLr HMr
    go_upto_region 6 with (first | (refine wpList_load_midA rfl 25 (.tmp 20) rfl g (o + k * 12) rfl kc _ R1.out Tryz.underlying25 rfl (infNl HZ1.out) ?_) | (refine wpList_store_new rfl 25 (.tmp 8) (.tmp 21) rfl kc rfl rfl 25 _ (infN HZ1.out) (by rw [HZ1.out]; rfl) H1C.out ?_))
    have hb5 : Below wr.heap.size wr (wr.alloc (.cells kc 25)) := (Below.refl _ _).alloc (Nat.le_refl _) _
    have HB5 := hide (show Blk (wr.alloc (.cells kc 25)) wr.heap.size kc 25 from Blk.newAt rfl)
    generalize wr.alloc (.cells kc 25) = W5 at *
    obtain ⟨d, hd⟩ : ∃ d, d = wr.heap.size := ⟨_, rfl⟩
    rw [← hd] at HB5 ⊢
    have R25 := hide (range_below hb5 (by omega) R2.out)
    clear hd R1 R2
    go_upto_region 7 with (first | (refine wpList_load_midA rfl 25 (.tmp 24) rfl g2 (o2 + k * 12) rfl kc2 _ R25.out Tryz.underlying25 rfl (infNl HZ2.out) ?_) | (refine wpList_store_new rfl 25 (.tmp 9) (.tmp 25) rfl kc2 rfl rfl 25 _ (infN HZ2.out) (by rw [HZ2.out]; rfl) H1D.out ?_))
    have hb6 : Below wr.heap.size wr (W5.alloc (.cells kc2 25)) := hb5.alloc hb5.size _
    have HB6 := hide (HB5.out.alloc (.cells kc2 25))
    have HC6 := hide (show Blk (W5.alloc (.cells kc2 25)) W5.heap.size kc2 25 from Blk.newAt rfl)
    generalize W5.alloc (.cells kc2 25) = W6 at *
    generalize W5.heap.size = d2 at *
    have HT16 := hide (HT1.out.own_below hb6)
    have HT26 := hide (HT2.out.own_below hb6)
    have hbel6 := hbel.trans (hb6.mono hbel.size)
    have CE0 := HEQ.out ⟨h, ss, ks⟩ ⟨h', ss', ks'⟩ (by show ks.count + 1 ≤ N; omega) (by show h.sz + szS ss + ks.sz ≤ _; omega) (by show h'.sz + szS ss' + ks'.sz ≤ _; omega) (.agg kc) (.agg kc2) W6 HT16.out HT26.out
    have HD := hide (show (L = M ↔ (⟨h, ss, ks⟩ : Tr) = ⟨h', ss', ks'⟩ ∧ nx = nx') by rw [HI.out, ForR.eq_node])
    obtain ⟨q2, hq2⟩ : ∃ q2, decide ((⟨h, ss, ks⟩ : Tr) = ⟨h', ss', ks'⟩) = q2 := ⟨_, rfl⟩
    rw [hq2] at CE0
    have CE := hide CE0
    clear HB5 R25 hb5 HI CE0 HT1 HT2 HT16 HT26
    cases q2
    case true =>
      have HE := hide (show (L = M ↔ nx = nx') by rw [HD.out]; simp only [of_decide_eq_true hq2, true_and])
      clear hq2 HD
      go_wp2_with (first | (refine wpList_load_row rfl 25 (.tmp 8) rfl d rfl 25 kc (0, 0) _ HB6.out Tryz.underlying25 rfl (infN HZ1.out) ?_) | (refine wpList_load_row rfl 25 (.tmp 9) rfl d2 rfl 25 kc2 (0, 0) _ HC6.out Tryz.underlying25 rfl (infN HZ2.out) ?_) | ((first | go_at_fn 40 | go_at_call 40); refine CE.out.mono ?_; rintro e w7 ⟨rfl, hb7⟩))
      go_roundw
      case rel => exact ⟨k + 1, nx, nx', by go_num, by omega, by omega, HE.out, by omega, by omega, by omega, HLn.out, HMn.out, hbel6.trans (hb7.mono hbel6.size)⟩
      case measure => simp [intOf]; omega
    case false =>
      have HE := hide (show decide (L = M) = false from decide_eq_false (fun e => of_decide_eq_false hq2 (HD.out.1 e).1))
      clear hq2 HD
      go_wp2_with (first | (refine wpList_load_row rfl 25 (.tmp 8) rfl d rfl 25 kc (0, 0) _ HB6.out Tryz.underlying25 rfl (infN HZ1.out) ?_) | (refine wpList_load_row rfl 25 (.tmp 9) rfl d2 rfl 25 kc2 (0, 0) _ HC6.out Tryz.underlying25 rfl (infN HZ2.out) ?_) | ((first | go_at_fn 40 | go_at_call 40); refine CE.out.mono ?_; rintro e w7 ⟨rfl, hb7⟩))
      go_ret
      exact ⟨ret_b HE.out.symm, hbel6.trans (hb7.mono hbel6.size)⟩
end Go.Proofs.YtlhakdildbplkaaGreatDoor
