/- Contracts and plain words for the laws of volume descriptors, part 22: J6, B4, B5. No condition. -/
import Derived.Test.YtjbhokmkmapkoaaGreatDoorC21
import Derived.Test.YtjbhokmkmapkoaaGreatDoorC18
namespace Go.Proofs.YtjbhokmkmapkoaaGreatDoor
set_option linter.unusedSimpArgs false
set_option linter.unusedVariables false
open Go.RowKit
open Go.PlainAid (bt get_bt bt_nonneg bt_le bt_end)
theorem vbool {a b : Bool} (h : a = b) : Value.bool a = .bool b := by rw [h]
theorem bad_root1 {d : DR} (h : d.root.id.toList = [0]) : (!d.root.use.toList.isEmpty) = badRoot d := by
  have hi : d.root.id = selfS := bl_eq.1 (h.trans (by decide +kernel))
  unfold badRoot
  rw [hi, Bool.eq_iff_iff]
  simp only [ne_eq, not_true_eq_false, false_or, decide_eq_true_eq, Bool.not_eq_true', List.isEmpty_eq_false_iff]
  constructor
  · intro h1 h2
    rw [h2] at h1
    exact h1 (by decide +kernel)
  · intro h1 h2
    exact h1 (bl_eq.1 (h2.trans (by decide +kernel)))
theorem bad_root2 {d : DR} (h : ¬ d.root.id.toList = [0]) : badRoot d = true := by
  unfold badRoot
  refine decide_eq_true (Or.inl fun hi => h ?_)
  rw [hi]; decide +kernel
theorem root_ok {d : DR} (h : badRoot d = false) : d.root.id = selfS ∧ d.root.use = ⟨#[]⟩ := by
  unfold badRoot at h
  have h := of_decide_eq_false h
  exact ⟨Decidable.byContradiction fun h1 => h (Or.inl h1), Decidable.byContradiction fun h1 => h (Or.inr h1)⟩
set_option maxRecDepth 100000 in
set_option maxHeartbeats 8000000 in
theorem check_12 (d : DR) (ht : d.typ = 1 ∨ d.typ = 2) (hsh : ShortD d) (w : World) (hT : TabD w) : Calls Tryz.prog 15 #[.agg d.cells] w fun e w' => e = .returned (.int .i64 (chkD d)) ∧ Below w.heap.size w w' := by
  have E := hide (chkD_12 ht)
  have q0 : (d.typ == 0) = false := by rcases ht with h | h <;> rw [h] <;> rfl
  have q3 : (d.typ == 255) = false := by rcases ht with h | h <;> rw [h] <;> rfl
  have q2 : (d.typ == 2) = wide d := rfl
  have HT := hide ht
  clear ht
  have HL : Live w [] := trivial
  go_enter Tryz.func15, Tryz.ntmps15
  go_upto_region 1 with fail
  have hB1 : Blk (w.alloc (.cells d.cells 27)) w.heap.size d.cells 27 := Blk.newAt rfl
  have hbel1 : Below w.heap.size w (w.alloc (.cells d.cells 27)) := by (exact bl)
  generalize w.alloc (.cells d.cells 27) = W1 at *
  have hlt1 := hB1.lt
  have hdd := Dat.of hB1
  unfold Dat at hdd
  go_upto_block 0 with fail
  go_cut [] (fun wx => W1 = wx)
  case first =>
    rcases HT.out with h | h
    · have q1 : (d.typ == 1) = true := by rw [h]; rfl
      clear h
      go_wp2_with fail
      go_meet
      rfl
    · have q1 : (d.typ == 1) = false := by rw [h]; rfl
      have q5 : wide d = true := by unfold wide; rw [h]; rfl
      clear h
      go_wp2_with fail
      go_meet
      rfl
  case rest =>
    obtain rfl := hcut
    have hd2 := Dat.of hB1
    by_cases hc : d.cat = 0
    case neg =>
      have EE := hide (show chkD d = 1 from by rw [E.out, if_pos hc])
      have qc : (d.cat != 0) = true := by simpa using hc
      clear hc
      go_wp2_with fail
      go_ret
      exact ⟨ret_i EE.out.symm, hbel1⟩
    case pos =>
    have E2 := E.out
    rw [if_neg (by simpa using hc)] at E2
    have EE := hide E2
    have qc : (d.cat != 0) = false := by rw [hc]; rfl
    clear hc E2 E
    go_wp2_with fail
    refine (fields_any w.heap.size 2 _).mono ?_
    rintro e w2 ⟨g, rfl, hbk, hb, hge⟩
    have hB2 := Blk.below hb hB1
    have hbel2 := hbel1.trans (hb.mono (by omega))
    have hgw : w.heap.size ≠ g := by omega
    clear qc hB1 hbel1 hb hlt1 hdd
    go_wp2_with fail
    go_loopw [41] (fun i wr => ∃ k : Nat, k ≤ 5 ∧ i = .int .i64 k ∧ (∀ j, j < k → fok d j = true) ∧ Blk wr w.heap.size d.cells 27 ∧ Blk wr g (fldCells w.heap.size 2) 65 ∧ Below w.heap.size w wr) (fun i _ => 5 - (intOf i).toNat)
    case atStart => exact ⟨0, by omega, rfl, fun j h => by omega, hB2, hbk, hbel2⟩
    case round =>
      obtain ⟨k, hk5, rfl, hall, hBr, hgr, hbelr⟩ := hrel
      have HALL := hide hall
      have HB := hide hBr
      have HG := hide hgr
      have hltr := hBr.lt
      have hglt := hgr.lt
      have hTr : TabD wr := hT.below hbelr
      clear hall
      by_cases hk : k < 5
      case pos =>
        have hf := fld_at w.heap.size k hk
        have f0 := (hgr.cells (k * 4)).trans hf.1
        have f1 := (hgr.cells (k * 4 + 1)).trans hf.2.1
        have f2 := (hgr.cells (k * 4 + 1 + 1)).trans hf.2.2.1
        have f3 := (hgr.cells (k * 4 + 1 + 1 + 1)).trans hf.2.2.2
        have ct : wr.cell? ⟨w.heap.size, 2 + k, none⟩ = some (.string (fTx d k)) := (hBr.cells (2 + k)).trans (txt_at d k hk)
        have cd : wr.cell? ⟨w.heap.size, 0, none⟩ = some (.int .i64 d.typ) := (hBr.cells 0).trans rfl
        have ALW := hide (fun W hW => alw_call d hsh k hk W hW)
        have hTr2 : ∀ o, TabD (wr.alloc o) := fun o => hTr.below ((Below.refl _ _).alloc (Nat.le_refl _) _)
        clear hf hBr hgr
        go_upto_region 20 with fail
        have HF : Blk (wr.alloc (.cells #[.int .i64 (fAt k), .int .i64 (fSz k), .bool (fSt k), .pointer (some ⟨w.heap.size, 2 + k, none⟩)] 65)) wr.heap.size #[.int .i64 (fAt k), .int .i64 (fSz k), .bool (fSt k), .pointer (some ⟨w.heap.size, 2 + k, none⟩)] 65 := Blk.newAt rfl
        have HBa := HB.out.alloc (.cells #[.int .i64 (fAt k), .int .i64 (fSz k), .bool (fSt k), .pointer (some ⟨w.heap.size, 2 + k, none⟩)] 65)
        have hTa := hTr2 (.cells #[.int .i64 (fAt k), .int .i64 (fSz k), .bool (fSt k), .pointer (some ⟨w.heap.size, 2 + k, none⟩)] 65)
        have hba : Below wr.heap.size wr (wr.alloc (.cells #[.int .i64 (fAt k), .int .i64 (fSz k), .bool (fSt k), .pointer (some ⟨w.heap.size, 2 + k, none⟩)] 65)) := (Below.refl _ _).alloc (Nat.le_refl _) _
        generalize wr.alloc (.cells #[.int .i64 (fAt k), .int .i64 (fSz k), .bool (fSt k), .pointer (some ⟨w.heap.size, 2 + k, none⟩)] 65) = Wa at *
        clear f0 f1 f2 f3 ct cd hTr2
        simp only [show decide ((k : Int) < 5) = true from decide_eq_true (by omega)]
        refine' region_linF (RL := LV _ :: LV _ :: LV _ :: LV _ :: LV _ :: LV _ :: LV _ :: LV _ :: LV _ :: LV _ :: LV _ :: []) (by kernel_rfl) (by kernel_rfl) ?main
        case main =>
          refine ⟨fun u => ?_, ?_, ?_, ?_⟩
          · simp only [putsL, Act.put, List.setIfInBounds_toArray, List.set_cons_zero, List.set_cons_succ, Nat.reduceAdd]
            rfl
          · repeat (first | exact LAll.nil | refine LAll.cons (by first | exact LV.st _ | exact LB.st _ _ _ | exact LP.st _ _ | exact LT.st) ?_)
          · refine LinStepsF.cons (fun u wx hbx hd K hK => ?_) ?_
            · (have hFx := (Blk.below hbx HF).cells; have f0 : wx.cell? ⟨wr.heap.size, 0, none⟩ = some (.int .i64 (fAt k)) := hFx 0; have f1 : wx.cell? ⟨wr.heap.size, 1, none⟩ = some (.int .i64 (fSz k)) := hFx 1; have f2 : wx.cell? ⟨wr.heap.size, 2, none⟩ = some (.bool (fSt k)) := hFx 2; have f3 : wx.cell? ⟨wr.heap.size, 3, none⟩ = some (.pointer (some ⟨w.heap.size, 2 + k, none⟩)) := hFx 3; have ct : wx.cell? ⟨w.heap.size, 2 + k, none⟩ = some (.string (fTx d k)) := ((Blk.below hbx HBa).cells (2 + k)).trans (txt_at d k hk); have cd : wx.cell? ⟨w.heap.size, 0, none⟩ = some (.int .i64 d.typ) := ((Blk.below hbx HBa).cells 0).trans rfl; have hTx := hTa.below hbx; clear hFx)
              go_simp
              refine hK.out _ _ (by simp only [PT]; rfl) bl lvC
            refine LinStepsF.cons (fun u wx hbx hd K hK => ?_) ?_
            · have e0 : u 0 = _ := (show LV _ (u 0) wx from hd.out 0 (by kernel_rfl))
              (have hFx := (Blk.below hbx HF).cells; have f0 : wx.cell? ⟨wr.heap.size, 0, none⟩ = some (.int .i64 (fAt k)) := hFx 0; have f1 : wx.cell? ⟨wr.heap.size, 1, none⟩ = some (.int .i64 (fSz k)) := hFx 1; have f2 : wx.cell? ⟨wr.heap.size, 2, none⟩ = some (.bool (fSt k)) := hFx 2; have f3 : wx.cell? ⟨wr.heap.size, 3, none⟩ = some (.pointer (some ⟨w.heap.size, 2 + k, none⟩)) := hFx 3; have ct : wx.cell? ⟨w.heap.size, 2 + k, none⟩ = some (.string (fTx d k)) := ((Blk.below hbx HBa).cells (2 + k)).trans (txt_at d k hk); have cd : wx.cell? ⟨w.heap.size, 0, none⟩ = some (.int .i64 d.typ) := ((Blk.below hbx HBa).cells 0).trans rfl; have hTx := hTa.below hbx; clear hFx)
              go_simp
              refine hK.out _ _ (by simp only [PT, e0]; rfl) bl lvC
            refine LinStepsF.cons (fun u wx hbx hd K hK => ?_) ?_
            · have e1 : u 1 = _ := (show LV _ (u 1) wx from hd.out 1 (by kernel_rfl))
              (have hFx := (Blk.below hbx HF).cells; have f0 : wx.cell? ⟨wr.heap.size, 0, none⟩ = some (.int .i64 (fAt k)) := hFx 0; have f1 : wx.cell? ⟨wr.heap.size, 1, none⟩ = some (.int .i64 (fSz k)) := hFx 1; have f2 : wx.cell? ⟨wr.heap.size, 2, none⟩ = some (.bool (fSt k)) := hFx 2; have f3 : wx.cell? ⟨wr.heap.size, 3, none⟩ = some (.pointer (some ⟨w.heap.size, 2 + k, none⟩)) := hFx 3; have ct : wx.cell? ⟨w.heap.size, 2 + k, none⟩ = some (.string (fTx d k)) := ((Blk.below hbx HBa).cells (2 + k)).trans (txt_at d k hk); have cd : wx.cell? ⟨w.heap.size, 0, none⟩ = some (.int .i64 d.typ) := ((Blk.below hbx HBa).cells 0).trans rfl; have hTx := hTa.below hbx; clear hFx)
              go_simp
              refine hK.out _ _ (by simp only [PT, e1]; rfl) bl lvC
            refine LinStepsF.cons (fun u wx hbx hd K hK => ?_) ?_
            · have e2 : u 2 = _ := (show LV _ (u 2) wx from hd.out 2 (by kernel_rfl))
              (have hFx := (Blk.below hbx HF).cells; have f0 : wx.cell? ⟨wr.heap.size, 0, none⟩ = some (.int .i64 (fAt k)) := hFx 0; have f1 : wx.cell? ⟨wr.heap.size, 1, none⟩ = some (.int .i64 (fSz k)) := hFx 1; have f2 : wx.cell? ⟨wr.heap.size, 2, none⟩ = some (.bool (fSt k)) := hFx 2; have f3 : wx.cell? ⟨wr.heap.size, 3, none⟩ = some (.pointer (some ⟨w.heap.size, 2 + k, none⟩)) := hFx 3; have ct : wx.cell? ⟨w.heap.size, 2 + k, none⟩ = some (.string (fTx d k)) := ((Blk.below hbx HBa).cells (2 + k)).trans (txt_at d k hk); have cd : wx.cell? ⟨w.heap.size, 0, none⟩ = some (.int .i64 d.typ) := ((Blk.below hbx HBa).cells 0).trans rfl; have hTx := hTa.below hbx; clear hFx)
              go_simp
              refine hK.out _ _ (by simp only [PT, e2]; rfl) bl lvC
            refine LinStepsF.cons (fun u wx hbx hd K hK => ?_) ?_
            · (have hFx := (Blk.below hbx HF).cells; have f0 : wx.cell? ⟨wr.heap.size, 0, none⟩ = some (.int .i64 (fAt k)) := hFx 0; have f1 : wx.cell? ⟨wr.heap.size, 1, none⟩ = some (.int .i64 (fSz k)) := hFx 1; have f2 : wx.cell? ⟨wr.heap.size, 2, none⟩ = some (.bool (fSt k)) := hFx 2; have f3 : wx.cell? ⟨wr.heap.size, 3, none⟩ = some (.pointer (some ⟨w.heap.size, 2 + k, none⟩)) := hFx 3; have ct : wx.cell? ⟨w.heap.size, 2 + k, none⟩ = some (.string (fTx d k)) := ((Blk.below hbx HBa).cells (2 + k)).trans (txt_at d k hk); have cd : wx.cell? ⟨w.heap.size, 0, none⟩ = some (.int .i64 d.typ) := ((Blk.below hbx HBa).cells 0).trans rfl; have hTx := hTa.below hbx; clear hFx)
              go_simp
              refine hK.out _ _ (by simp only [PT]; rfl) bl lvC
            refine LinStepsF.cons (fun u wx hbx hd K hK => ?_) ?_
            · have e4 : u 4 = _ := (show LV _ (u 4) wx from hd.out 4 (by kernel_rfl))
              (have hFx := (Blk.below hbx HF).cells; have f0 : wx.cell? ⟨wr.heap.size, 0, none⟩ = some (.int .i64 (fAt k)) := hFx 0; have f1 : wx.cell? ⟨wr.heap.size, 1, none⟩ = some (.int .i64 (fSz k)) := hFx 1; have f2 : wx.cell? ⟨wr.heap.size, 2, none⟩ = some (.bool (fSt k)) := hFx 2; have f3 : wx.cell? ⟨wr.heap.size, 3, none⟩ = some (.pointer (some ⟨w.heap.size, 2 + k, none⟩)) := hFx 3; have ct : wx.cell? ⟨w.heap.size, 2 + k, none⟩ = some (.string (fTx d k)) := ((Blk.below hbx HBa).cells (2 + k)).trans (txt_at d k hk); have cd : wx.cell? ⟨w.heap.size, 0, none⟩ = some (.int .i64 d.typ) := ((Blk.below hbx HBa).cells 0).trans rfl; have hTx := hTa.below hbx; clear hFx)
              go_simp
              refine hK.out _ _ (by simp only [PT, e4]; rfl) bl lvC
            refine LinStepsF.cons (fun u wx hbx hd K hK => ?_) ?_
            · (have hFx := (Blk.below hbx HF).cells; have f0 : wx.cell? ⟨wr.heap.size, 0, none⟩ = some (.int .i64 (fAt k)) := hFx 0; have f1 : wx.cell? ⟨wr.heap.size, 1, none⟩ = some (.int .i64 (fSz k)) := hFx 1; have f2 : wx.cell? ⟨wr.heap.size, 2, none⟩ = some (.bool (fSt k)) := hFx 2; have f3 : wx.cell? ⟨wr.heap.size, 3, none⟩ = some (.pointer (some ⟨w.heap.size, 2 + k, none⟩)) := hFx 3; have ct : wx.cell? ⟨w.heap.size, 2 + k, none⟩ = some (.string (fTx d k)) := ((Blk.below hbx HBa).cells (2 + k)).trans (txt_at d k hk); have cd : wx.cell? ⟨w.heap.size, 0, none⟩ = some (.int .i64 d.typ) := ((Blk.below hbx HBa).cells 0).trans rfl; have hTx := hTa.below hbx; clear hFx)
              go_simp
              refine hK.out _ _ (by simp only [PT]; rfl) bl lvC
            refine LinStepsF.cons (fun u wx hbx hd K hK => ?_) ?_
            · have e6 : u 6 = _ := (show LV _ (u 6) wx from hd.out 6 (by kernel_rfl))
              (have hFx := (Blk.below hbx HF).cells; have f0 : wx.cell? ⟨wr.heap.size, 0, none⟩ = some (.int .i64 (fAt k)) := hFx 0; have f1 : wx.cell? ⟨wr.heap.size, 1, none⟩ = some (.int .i64 (fSz k)) := hFx 1; have f2 : wx.cell? ⟨wr.heap.size, 2, none⟩ = some (.bool (fSt k)) := hFx 2; have f3 : wx.cell? ⟨wr.heap.size, 3, none⟩ = some (.pointer (some ⟨w.heap.size, 2 + k, none⟩)) := hFx 3; have ct : wx.cell? ⟨w.heap.size, 2 + k, none⟩ = some (.string (fTx d k)) := ((Blk.below hbx HBa).cells (2 + k)).trans (txt_at d k hk); have cd : wx.cell? ⟨w.heap.size, 0, none⟩ = some (.int .i64 d.typ) := ((Blk.below hbx HBa).cells 0).trans rfl; have hTx := hTa.below hbx; clear hFx)
              go_simp
              refine hK.out _ _ (by simp only [PT, e6]; rfl) bl lvC
            refine LinStepsF.cons (fun u wx hbx hd K hK => ?_) ?_
            · have e7 : u 7 = _ := (show LV _ (u 7) wx from hd.out 7 (by kernel_rfl))
              (have hFx := (Blk.below hbx HF).cells; have f0 : wx.cell? ⟨wr.heap.size, 0, none⟩ = some (.int .i64 (fAt k)) := hFx 0; have f1 : wx.cell? ⟨wr.heap.size, 1, none⟩ = some (.int .i64 (fSz k)) := hFx 1; have f2 : wx.cell? ⟨wr.heap.size, 2, none⟩ = some (.bool (fSt k)) := hFx 2; have f3 : wx.cell? ⟨wr.heap.size, 3, none⟩ = some (.pointer (some ⟨w.heap.size, 2 + k, none⟩)) := hFx 3; have ct : wx.cell? ⟨w.heap.size, 2 + k, none⟩ = some (.string (fTx d k)) := ((Blk.below hbx HBa).cells (2 + k)).trans (txt_at d k hk); have cd : wx.cell? ⟨w.heap.size, 0, none⟩ = some (.int .i64 d.typ) := ((Blk.below hbx HBa).cells 0).trans rfl; have hTx := hTa.below hbx; clear hFx)
              go_simp
              refine hK.out _ _ (by simp only [PT, e7]; rfl) bl lvC
            refine LinStepsF.cons (fun u wx hbx hd K hK => ?_) ?_
            · have e3 : u 3 = _ := (show LV _ (u 3) wx from hd.out 3 (by kernel_rfl))
              have e5 : u 5 = _ := (show LV _ (u 5) wx from hd.out 5 (by kernel_rfl))
              have e8 : u 8 = _ := (show LV _ (u 8) wx from hd.out 8 (by kernel_rfl))
              (have hFx := (Blk.below hbx HF).cells; have f0 : wx.cell? ⟨wr.heap.size, 0, none⟩ = some (.int .i64 (fAt k)) := hFx 0; have f1 : wx.cell? ⟨wr.heap.size, 1, none⟩ = some (.int .i64 (fSz k)) := hFx 1; have f2 : wx.cell? ⟨wr.heap.size, 2, none⟩ = some (.bool (fSt k)) := hFx 2; have f3 : wx.cell? ⟨wr.heap.size, 3, none⟩ = some (.pointer (some ⟨w.heap.size, 2 + k, none⟩)) := hFx 3; have ct : wx.cell? ⟨w.heap.size, 2 + k, none⟩ = some (.string (fTx d k)) := ((Blk.below hbx HBa).cells (2 + k)).trans (txt_at d k hk); have cd : wx.cell? ⟨w.heap.size, 0, none⟩ = some (.int .i64 d.typ) := ((Blk.below hbx HBa).cells 0).trans rfl; have hTx := hTa.below hbx; clear hFx)
              go_simp
              (go_at_call 48; (with_reducible refine (ALW.out _ (by assumption)).mono ?_); rintro e w' ⟨rfl, hb⟩)
              go_wp2_with fail
              refine hK.out _ _ (by simp only [PT, e3, e5, e8]; rfl) bl lvC
            refine LinStepsF.cons (fun u wx hbx hd K hK => ?_) ?_
            · have e9 : u 9 = _ := (show LV _ (u 9) wx from hd.out 9 (by kernel_rfl))
              (have hFx := (Blk.below hbx HF).cells; have f0 : wx.cell? ⟨wr.heap.size, 0, none⟩ = some (.int .i64 (fAt k)) := hFx 0; have f1 : wx.cell? ⟨wr.heap.size, 1, none⟩ = some (.int .i64 (fSz k)) := hFx 1; have f2 : wx.cell? ⟨wr.heap.size, 2, none⟩ = some (.bool (fSt k)) := hFx 2; have f3 : wx.cell? ⟨wr.heap.size, 3, none⟩ = some (.pointer (some ⟨w.heap.size, 2 + k, none⟩)) := hFx 3; have ct : wx.cell? ⟨w.heap.size, 2 + k, none⟩ = some (.string (fTx d k)) := ((Blk.below hbx HBa).cells (2 + k)).trans (txt_at d k hk); have cd : wx.cell? ⟨w.heap.size, 0, none⟩ = some (.int .i64 d.typ) := ((Blk.below hbx HBa).cells 0).trans rfl; have hTx := hTa.below hbx; clear hFx)
              go_simp
              refine hK.out _ _ (by simp only [PT, e9]; rfl) bl lvC
            exact LinStepsF.nil
          · intro u wx hbx hall
            have e10 : u 10 = _ := (show LV _ (u 10) wx from hall.out 10 (by decide))
            have hbd : Below wr.heap.size wr wx := hba.trans (hbx.mono hba.size)
            cases hfk : fok d k
            case false =>
              have EE2 := hide (show chkD d = 4 from by rw [EE.out, if_pos (names_no hk hfk)])
              rw [hfk] at e10
              clear hfk
              have e10 : u 10 = .bool true := e10
              rw [e10]
              go_wp2_with fail
              go_ret
              exact ⟨ret_i EE2.out.symm, hbelr.trans (hbd.mono (by omega))⟩
            case true =>
              rw [hfk] at e10
              have HALL2 := hide (show ∀ j, j < k + 1 → fok d j = true from fun j hj => (Nat.lt_succ_iff_lt_or_eq.1 hj).elim (fun h => HALL.out j h) (fun h => by rw [h]; exact hfk))
              clear hfk
              have e10 : u 10 = .bool false := e10
              rw [e10]
              go_wp2_with fail
              go_roundw
              case rel => exact ⟨k + 1, by omega, by go_num, HALL2.out, Blk.below hbd HB.out, Blk.below hbd HG.out, hbelr.trans (hbd.mono (by omega))⟩
              case measure => simp [intOf]; omega
      case neg =>
        have ek : k = 5 := by omega
        subst ek
        have hnm : namesB d = true := names_all HALL.out
        have E3 := EE.out
        rw [if_neg (by rw [hnm]; simp)] at E3
        have E3 := hide E3
        clear hbk hge hB2 hbel2 HG hglt hgw hnm HALL hgr
        have hd3 := Dat.of hBr
        unfold Dat at hd3
        clear hBr
        go_upto_region 23 with fail
        go_cut [66] (fun v wx => v = .bool (badRoot d) ∧ wr = wx)
        case first =>
          go_wp2_with fail
          all_goals
            go_meet
            first | exact ⟨vbool (bad_root1 (by assumption)), rfl⟩ | exact ⟨vbool (bad_root2 (by assumption)).symm, rfl⟩
        case rest =>
          obtain ⟨rfl, rfl⟩ := hcut
          cases hbad : badRoot d
          case true =>
            have EE3 := hide (show chkD d = 1 from by rw [E3.out, if_pos hbad])
            clear hbad
            go_wp2_with fail
            go_ret
            exact ⟨ret_i EE3.out.symm, hbelr⟩
          case false =>
            have E4 := hide (show chkD d = if (rangesB d && (tmB d.time && zoneB d.zone) && decide (recE d.root = 0)) = true then 0 else 2 from by rw [E3.out, if_neg (by rw [hbad]; simp)])
            have HR := hide (root_ok hbad)
            clear hbad E3 EE
            go_upto_region 26 with fail
            have HV : Blk (wr.alloc (.cells #[.string d.name, .string d.set, .string d.pub, .string d.prep, .string d.app, .int .i64 d.number, .int .i64 d.discs, .int .i64 d.time] 23)) wr.heap.size #[.string d.name, .string d.set, .string d.pub, .string d.prep, .string d.app, .int .i64 d.number, .int .i64 d.discs, .int .i64 d.time] 23 := Blk.newAt rfl
            have HBv := HB.out.alloc (.cells #[.string d.name, .string d.set, .string d.pub, .string d.prep, .string d.app, .int .i64 d.number, .int .i64 d.discs, .int .i64 d.time] 23)
            have hTv : TabD (wr.alloc (.cells #[.string d.name, .string d.set, .string d.pub, .string d.prep, .string d.app, .int .i64 d.number, .int .i64 d.discs, .int .i64 d.time] 23)) := hTr.below ((Below.refl _ _).alloc (Nat.le_refl _) _)
            have hbv : Below w.heap.size w (wr.alloc (.cells #[.string d.name, .string d.set, .string d.pub, .string d.prep, .string d.app, .int .i64 d.number, .int .i64 d.discs, .int .i64 d.time] 23)) := hbelr.alloc hbelr.size _
            generalize wr.alloc (.cells #[.string d.name, .string d.set, .string d.pub, .string d.prep, .string d.app, .int .i64 d.number, .int .i64 d.discs, .int .i64 d.time] 23) = W3 at *
            clear hd3 hTr hbelr
            have hdv := Dat.of HBv
            unfold Dat at hdv
            have hltv := HV.lt
            have v5 : W3.cell? ⟨wr.heap.size, 5, none⟩ = some (.int .i64 d.number) := HV.cells 5
            have v6 : W3.cell? ⟨wr.heap.size, 6, none⟩ = some (.int .i64 d.discs) := HV.cells 6
            go_cut [112] (fun v wx => v = .bool (!rangesB d) ∧ W3 = wx)
            case first =>
              cases h1 : wordB d.space
              case false =>
                go_wp2_with (first | (go_at_call 47; (with_reducible refine (word_any _ _).mono ?_); rintro e w' ⟨rfl, rfl⟩))
                go_meet
                exact ⟨vbool (by unfold rangesB; simp [*]), rfl⟩
              case true =>
              cases h2 : wordB d.psize
              case false =>
                go_wp2_with (first | (go_at_call 47; (with_reducible refine (word_any _ _).mono ?_); rintro e w' ⟨rfl, rfl⟩))
                go_meet
                exact ⟨vbool (by unfold rangesB; simp [*]), rfl⟩
              case true =>
              cases h3 : wordB d.pl
              case false =>
                go_wp2_with (first | (go_at_call 47; (with_reducible refine (word_any _ _).mono ?_); rintro e w' ⟨rfl, rfl⟩))
                go_meet
                exact ⟨vbool (by unfold rangesB; simp [*]), rfl⟩
              case true =>
              cases h4 : wordB d.pm
              case false =>
                go_wp2_with (first | (go_at_call 47; (with_reducible refine (word_any _ _).mono ?_); rintro e w' ⟨rfl, rfl⟩))
                go_meet
                exact ⟨vbool (by unfold rangesB; simp [*]), rfl⟩
              case true =>
              have HR1 := hide (show rangesB d = decide (1 ≤ d.discs ∧ d.discs ≤ 65535 ∧ 1 ≤ d.number ∧ d.number ≤ d.discs) from by unfold rangesB; rw [h1, h2, h3, h4]; rfl)
              go_wp2_with (first | (go_at_call 47; (with_reducible refine (word_any _ _).mono ?_); rintro e w' ⟨rfl, rfl⟩))
              all_goals
                go_meet
                exact ⟨vbool (by rw [HR1.out, Bool.eq_iff_iff]; simp <;> omega), rfl⟩
            case rest =>
            obtain ⟨rfl, rfl⟩ := hcut
            cases hrg : rangesB d
            case false =>
              have EE3 := hide (show chkD d = 2 from by rw [E4.out, hrg]; rfl)
              clear hrg
              go_wp2_with fail
              go_ret
              exact ⟨ret_i EE3.out.symm, hbv⟩
            case true =>
              obtain ⟨x, kd, DES0, hD⟩ := des_call d
              have DES := hide DES0
              have ENC := hide (fun W => dirEnc_any d.root HR.out.1 HR.out.2 W)
              have E5 := hide (show chkD d = if ((tmB d.time && zoneB d.zone) && decide (recE d.root = 0)) = true then 0 else 2 from by rw [E4.out, hrg]; simp only [Bool.true_and])
              clear hrg DES0 E4
              go_upto_region 29 with (go_at_call 37; refine (DES.out _ hTv.2).mono ?_; rintro e w4 ⟨rfl, hb4⟩)
              have HB4 := Blk.below hb4 HBv
              have hdv4 := Dat.of HB4
              unfold Dat at hdv4
              clear hdv HBv HV v5 v6
              go_upto_region 30 with (go_at_call 36; refine (ENC.out _).mono ?_; rintro e w5 ⟨rfl, hb5⟩)
              have hb35 : Below w.heap.size w w5 := (hbv.trans (hb4.mono hbv.size)).trans (hb5.mono (hbv.trans (hb4.mono hbv.size)).size)
              rcases hD.2 with ⟨htz, rfl, -⟩ | ⟨htz, rfl⟩
              · by_cases he : recE d.root = 0
                · have EE3 := hide (show chkD d = 0 from by rw [E5.out, htz, he]; rfl)
                  rw [he]
                  clear htz he
                  go_wp2_with fail
                  go_ret
                  exact ⟨ret_i EE3.out.symm, hb35⟩
                · have EE3 := hide (show chkD d = 2 from by rw [E5.out, htz, decide_eq_false he]; rfl)
                  clear htz
                  go_wp2_with fail
                  go_ret
                  exact ⟨ret_i EE3.out.symm, hb35⟩
              · have EE3 := hide (show chkD d = 2 from by rw [E5.out, htz]; rfl)
                clear htz
                go_wp2_with fail
                all_goals
                  go_ret
                  exact ⟨ret_i EE3.out.symm, hb35⟩
/-- Check. -/
theorem check_any (d : DR) (hsh : ShortD d) (w : World) (hT : TabD w) : Calls Tryz.prog 15 #[.agg d.cells] w fun e w' => e = .returned (.int .i64 (chkD d)) ∧ Below w.heap.size w w' := by
  by_cases h0 : d.typ = 0
  · exact check_0 d h0 w
  by_cases h3 : d.typ = 255
  · exact check_255 d h3 w
  by_cases h12 : d.typ = 1 ∨ d.typ = 2
  · exact check_12 d h12 hsh w hT
  · exact check_no d h0 h3 (fun h => h12 (Or.inl h)) (fun h => h12 (Or.inr h)) w
end Go.Proofs.YtjbhokmkmapkoaaGreatDoor
namespace Go.Proofs.YtjbhokmkmapkoaaGreatDoor
set_option linter.unusedSimpArgs false
set_option linter.unusedVariables false
open Go.RowKit
open Go.PlainAid (bt get_bt bt_nonneg bt_le bt_end)
/-- One byte more, laid just before. -/
theorem wp_one {x : Int} {w : World} {ops : Array Oper} {rest : List Oper} {o : Oper} {a : Act} {Q : Exit → Act → World → Prop} (hgd : o.guard = none) (sl xo : Operand)
    (ho : o.op = .call { callee := .builtin .append, args := #[sl, xo], argTypes := #[48, 48] })
    (B : Nat) (v : Value) (l : List UInt8) (hs : a.eval sl = v) (W0 : World) (h : RowB B v l w) (hb : Below B W0 w) (hB : B ≤ w.heap.size) (p : UInt8) (ex : x = (p.toNat : Int)) (hx : a.eval xo = .slice (some ⟨w.heap.size, 0, none⟩) 1 1) (hlen : l.length ≤ 100000000)
    (hk : ∀ v' w', RowB B v' (l ++ [p]) w' → Below B W0 w' → w.heap.size ≤ w'.heap.size → wpList Tryz.prog ops Q rest (a.put o.dst v') w') : wpList Tryz.prog ops Q (o :: rest) a (w.alloc (.cells #[.int .u8 x] 5)) := by
  subst ex
  obtain ⟨i0, hi, hz0, hz1, hz2⟩ := info_parts u8Info
  have h' : (w.alloc (.cells #[.int .u8 (p.toNat : Int)] 5)).ownsRow B 5 1 v l.length (Lib.byteCells l) := World.ownsRow.alloc h _
  have hsz : (w.alloc (.cells #[.int .u8 (p.toNat : Int)] 5)).heap.size = w.heap.size + 1 := World.size_alloc _ _
  refine wpList_append_own _ hgd sl xo 48 ho B 5 i0 (.int .u8 0) 1 1 Tryz.underlying48 hi hz0 hz1 hz2 rfl (by decide) v l.length (Lib.byteCells l) hs h' ⟨w.heap.size, 0, none⟩ 1 1 (Lib.byteCells [p]) hx rfl (World.news_of_block (heap_alloc_new w _)) (Lib.byteCells_one _) (by unfold maxLen; omega) (by omega) (by omega) ?_
  intro v' w' ho' hg _
  have hg2 := hg.size
  refine hk v' w' ?_ ((hb.alloc hB _).grown hg (by omega) (fun k hk => (World.ownsRow.lt h k hk).1)) (by omega)
  unfold RowB
  rw [List.length_append, Lib.byteCells_append]
  exact ho'
theorem row_made (w : World) : RowB w.heap.size (.slice (some ⟨w.heap.size, 0, none⟩) 0 0) [] (w.alloc (.cells #[] 5)) := World.ownsRow_made w #[] 0 (base := w.heap.size) (e := 5) (size := 1) (Nat.le_refl _) (by unfold maxLen; omega) rfl
/-- The k least significant bytes. -/
def leB (n : Int) : Nat → List UInt8
  | 0 => []
  | k + 1 => leB n k ++ [u8 (n / 256 ^ k % 256)]
theorem leB_len (n : Int) : ∀ k, (leB n k).length = k
  | 0 => rfl
  | k + 1 => by unfold leB; rw [List.length_append, leB_len n k]; rfl
theorem leB2 (n : Int) : leB n 2 = l2 n := by simp [leB, l2]
theorem leB4 (n : Int) : leB n 4 = l4 n := by simp [leB, l4]
theorem div_in {n : Int} (h : 0 ≤ n ∧ n ≤ 4294967295) (k : Nat) : 0 ≤ n / 256 ^ k ∧ n / 256 ^ k ≤ 4294967295 := by
  have h1 : (0 : Int) ≤ n / 256 ^ k := Int.ediv_nonneg h.1 (Int.pow_nonneg (by omega))
  have h2 : n / 256 ^ k ≤ n := Int.ediv_le_self _ h.1
  omega
theorem div_next (n : Int) (k : Nat) : n / 256 ^ k / 256 = n / 256 ^ (k + 1) := by
  rw [Int.ediv_ediv_of_nonneg (Int.pow_nonneg (by omega)), Int.pow_succ]
set_option maxRecDepth 100000 in
set_option maxHeartbeats 4000000 in
theorem rbytes_any (n : Int) (S : Nat) (hS : S ≤ 8) (h : 0 ≤ n ∧ n ≤ 4294967295) (w : World) : Calls Tryz.prog 87 #[.int .i64 n, .int .i64 S] w fun e w' => e = .returned (.string ⟨(leB n S).toArray⟩) ∧ Below w.heap.size w w' := by
  have HL : Live w [] := trivial
  go_enter Tryz.func87, Tryz.ntmps87
  go_wp2
  go_loopw [0, 5, 6] (fun nv out i wr => ∃ k : Nat, k ≤ S ∧ i = .int .i64 k ∧ nv = .int .i64 (n / 256 ^ k) ∧ RowB w.heap.size out (leB n k) wr ∧ Below w.heap.size w wr) (fun _ _ i _ => S - (intOf i).toNat)
  case atStart => exact ⟨0, by omega, rfl, by simp, row_made w, by (exact bl)⟩
  case round =>
    obtain ⟨k, hk, rfl, rfl, hr, hbr⟩ := hrel
    have HR := hide hr
    clear hr
    have hszr := hbr.size
    have HL : Live wr [] := trivial
    by_cases hlt : k < S
    · have hd := div_in h k
      have HN := hide (div_next n k)
      have HE := hide (show leB n (k + 1) = leB n k ++ [Go.Proofs.YtjbhokmkmapkoaaGreatDoor.u8 (n / 256 ^ k % 256)] from rfl)
      obtain ⟨m, hm⟩ : ∃ m, n / 256 ^ k = m := ⟨_, rfl⟩
      rw [hm] at hd HN HE ⊢
      clear hm
      have hll : (leB n k).length ≤ 100000000 := by rw [leB_len]; omega
      go_wp2_with (at_builtin; refine wp_one rfl _ _ rfl w.heap.size _ (leB n k) rfl w HR.out hbr hszr (Go.Proofs.YtjbhokmkmapkoaaGreatDoor.u8 (m % 256)) (u8_nat (v := m % 256) (by omega)).symm rfl hll ?_; intro v2 w3 hrow3 hbel3 hsz3)
      go_roundw
      case rel => exact ⟨k + 1, by omega, by go_num, congrArg (Value.int .i64) HN.out, by rw [HE.out]; exact hrow3, hbel3⟩
      case measure => simp [intOf]; omega
    · obtain rfl : k = S := by omega
      have cv := conv_row HR.out
      go_wp2
      go_ret
      exact ⟨rfl, hbr⟩
set_option maxRecDepth 100000 in
set_option maxHeartbeats 4000000 in
theorem rrev_any (s : ByteArray) (hs : s.size ≤ 8) (w : World) : Calls Tryz.prog 88 #[.string s] w fun e w' => e = .returned (.string ⟨s.data.toList.reverse.toArray⟩) ∧ Below w.heap.size w w' := by
  have hsl : s.data.toList.length = s.size := Array.length_toList
  have HL : Live w [] := trivial
  go_enter Tryz.func88, Tryz.ntmps88
  go_wp2
  go_loopw [3, 4] (fun out i wr => ∃ k : Nat, k ≤ s.size ∧ i = .int .i64 ((k : Int) - 1) ∧ RowB w.heap.size out (s.data.toList.drop k).reverse wr ∧ Below w.heap.size w wr) (fun _ i _ => (intOf i + 1).toNat)
  case atStart => exact ⟨s.size, by omega, rfl, by rw [List.drop_of_length_le (by omega)]; exact row_made w, by (exact bl)⟩
  case round =>
    obtain ⟨k, hk, rfl, hr, hbr⟩ := hrel
    have HR := hide hr
    clear hr
    have hszr := hbr.size
    have HL : Live wr [] := trivial
    by_cases hlt : 0 < k
    · obtain ⟨j, rfl⟩ : ∃ j, k = j + 1 := ⟨k - 1, by omega⟩
      have hj : j < s.size := by omega
      have e0 : (((j + 1 : Nat) : Int) - 1) = (j : Int) := by omega
      have HE := hide (show (s.data.toList.drop j).reverse = (s.data.toList.drop (j + 1)).reverse ++ [s[j]'hj] by
        rw [List.drop_eq_getElem_cons (show j < s.data.toList.length by omega), List.reverse_cons]
        have e : s.data.toList[j]'(by omega) = s[j]'hj := Array.getElem_toList _
        rw [e])
      have hll : (s.data.toList.drop (j + 1)).reverse.length ≤ 100000000 := by rw [List.length_reverse, List.length_drop]; omega
      rw [e0]
      go_wp2_with (at_builtin; refine wp_one rfl _ _ rfl w.heap.size _ (s.data.toList.drop (j + 1)).reverse rfl w HR.out hbr hszr (s[j]'hj) rfl rfl hll ?_; intro v2 w3 hrow3 hbel3 hsz3)
      go_roundw
      case rel => exact ⟨j, by omega, by go_num, by rw [HE.out]; exact hrow3, hbel3⟩
      case measure => simp [intOf]
    · obtain rfl : k = 0 := by omega
      have cv := conv_row HR.out
      have hz : ((0 : Nat) : Int) - 1 = -1 := rfl
      go_wp2
      go_ret
      exact ⟨rfl, hbr⟩
end Go.Proofs.YtjbhokmkmapkoaaGreatDoor
namespace Go.Proofs.YtjbhokmkmapkoaaGreatDoor
set_option linter.unusedSimpArgs false
set_option linter.unusedVariables false
open Go.RowKit
open Go.PlainAid (bt get_bt bt_nonneg bt_le bt_end)
set_option maxHeartbeats 1000000 in
theorem rfits2 (n : Int) (h : 0 ≤ n ∧ n ≤ 65535) (w : World) : Calls Tryz.prog 86 #[.int .i64 n, .int .i64 2] w fun e w' => e = .returned (.bool true) ∧ w = w' := by
  have hz : n / 256 / 256 = 0 := by omega
  have HL : Live w [] := trivial
  go_enter Tryz.func86, Tryz.ntmps86
  go_wp2
  refine wp_loop_rounds 3 ?_
  repeat any_goals (rw [rounds_succ]; go_wp2)
  go_ret
  exact ⟨rfl, rfl⟩
theorem rbytes2 (n : Int) (h : 0 ≤ n ∧ n ≤ 65535) (w : World) : Calls Tryz.prog 87 #[.int .i64 n, .int .i64 2] w fun e w' => e = .returned (.string ⟨(l2 n).toArray⟩) ∧ Below w.heap.size w w' := by
  have := rbytes_any n 2 (by omega) (by omega) w
  rw [leB2] at this
  exact this
theorem rrev2 (n : Int) (w : World) : Calls Tryz.prog 88 #[.string ⟨(l2 n).toArray⟩] w fun e w' => e = .returned (.string ⟨(b2 n).toArray⟩) ∧ Below w.heap.size w w' := rrev_any ⟨(l2 n).toArray⟩ (show 2 ≤ 8 by omega) w
set_option maxHeartbeats 1000000 in
theorem rlittle2 (n : Int) (h : 0 ≤ n ∧ n ≤ 65535) (w : World) : Calls Tryz.prog 40 #[.int .i64 n, .int .i64 2] w fun e w' => e = .returned (.tuple #[.string ⟨(l2 n).toArray⟩, .int .i64 0]) ∧ Below w.heap.size w w' := by
  have HL : Live w [] := trivial
  go_enter Tryz.func40, Tryz.ntmps40
  go_wp2_with (first | (go_at_call 86; (with_reducible refine (rfits2 _ (by omega) _).mono ?_); rintro e w' ⟨rfl, rfl⟩) | (go_at_call 87; (with_reducible refine (rbytes2 _ (by omega) _).mono ?_); rintro e w' ⟨rfl, hb⟩; have hz := hb.size; (try simp only [SZ, Nat.reduceAdd] at hz); (first | obtain ⟨HL, hk⟩ := HL.callA hb hz | obtain ⟨HL, hk⟩ := HL.call0A hb hz); (try simp only [addN, Nat.add_zero] at HL hk); have hl := HL; simp only [Live] at hl; (try simp only [Kept] at hk)))
  go_ret2
  exact ⟨rfl, by (exact bl)⟩
set_option maxHeartbeats 1000000 in
theorem rboth2 (n : Int) (h : 0 ≤ n ∧ n ≤ 65535) (w : World) : Calls Tryz.prog 100 #[.int .i64 n, .int .i64 2] w fun e w' => e = .returned (.tuple #[.string ⟨(both2 n).toArray⟩, .int .i64 0]) ∧ Below w.heap.size w w' := by
  have z1 : (⟨(l2 n).toArray⟩ : ByteArray).size = 2 := rfl
  have z2 : (⟨(b2 n).toArray⟩ : ByteArray).size = 2 := rfl
  have HL : Live w [] := trivial
  go_enter Tryz.func100, Tryz.ntmps100
  go_wp2_with (first | (go_at_call 40; (with_reducible refine (rlittle2 _ (by omega) _).mono ?_); rintro e w' ⟨rfl, hb⟩; have hz := hb.size; (try simp only [SZ, Nat.reduceAdd] at hz); (first | obtain ⟨HL, hk⟩ := HL.callA hb hz | obtain ⟨HL, hk⟩ := HL.call0A hb hz); (try simp only [addN, Nat.add_zero] at HL hk); have hl := HL; simp only [Live] at hl; (try simp only [Kept] at hk)) | (go_at_call 88; (with_reducible refine (rrev2 _ _).mono ?_); rintro e w' ⟨rfl, hb⟩; have hz := hb.size; (try simp only [SZ, Nat.reduceAdd] at hz); (first | obtain ⟨HL, hk⟩ := HL.callA hb hz | obtain ⟨HL, hk⟩ := HL.call0A hb hz); (try simp only [addN, Nat.add_zero] at HL hk); have hl := HL; simp only [Live] at hl; (try simp only [Kept] at hk)))
  go_ret2
  exact ⟨rfl, by (exact bl)⟩
set_option maxHeartbeats 1000000 in
theorem rfits4 (n : Int) (h : 0 ≤ n ∧ n ≤ 4294967295) (w : World) : Calls Tryz.prog 86 #[.int .i64 n, .int .i64 4] w fun e w' => e = .returned (.bool true) ∧ w = w' := by
  have hz : n / 256 / 256 / 256 / 256 = 0 := by omega
  have HL : Live w [] := trivial
  go_enter Tryz.func86, Tryz.ntmps86
  go_wp2
  refine wp_loop_rounds 5 ?_
  repeat any_goals (rw [rounds_succ]; go_wp2)
  go_ret
  exact ⟨rfl, rfl⟩
theorem rbytes4 (n : Int) (h : 0 ≤ n ∧ n ≤ 4294967295) (w : World) : Calls Tryz.prog 87 #[.int .i64 n, .int .i64 4] w fun e w' => e = .returned (.string ⟨(l4 n).toArray⟩) ∧ Below w.heap.size w w' := by
  have := rbytes_any n 4 (by omega) (by omega) w
  rw [leB4] at this
  exact this
theorem rrev4 (n : Int) (w : World) : Calls Tryz.prog 88 #[.string ⟨(l4 n).toArray⟩] w fun e w' => e = .returned (.string ⟨(b4 n).toArray⟩) ∧ Below w.heap.size w w' := rrev_any ⟨(l4 n).toArray⟩ (show 4 ≤ 8 by omega) w
set_option maxHeartbeats 1000000 in
theorem rlittle4 (n : Int) (h : 0 ≤ n ∧ n ≤ 4294967295) (w : World) : Calls Tryz.prog 40 #[.int .i64 n, .int .i64 4] w fun e w' => e = .returned (.tuple #[.string ⟨(l4 n).toArray⟩, .int .i64 0]) ∧ Below w.heap.size w w' := by
  have HL : Live w [] := trivial
  go_enter Tryz.func40, Tryz.ntmps40
  go_wp2_with (first | (go_at_call 86; (with_reducible refine (rfits4 _ (by omega) _).mono ?_); rintro e w' ⟨rfl, rfl⟩) | (go_at_call 87; (with_reducible refine (rbytes4 _ (by omega) _).mono ?_); rintro e w' ⟨rfl, hb⟩; have hz := hb.size; (try simp only [SZ, Nat.reduceAdd] at hz); (first | obtain ⟨HL, hk⟩ := HL.callA hb hz | obtain ⟨HL, hk⟩ := HL.call0A hb hz); (try simp only [addN, Nat.add_zero] at HL hk); have hl := HL; simp only [Live] at hl; (try simp only [Kept] at hk)))
  go_ret2
  exact ⟨rfl, by (exact bl)⟩
set_option maxHeartbeats 1000000 in
theorem rbig4 (n : Int) (h : 0 ≤ n ∧ n ≤ 4294967295) (w : World) : Calls Tryz.prog 41 #[.int .i64 n, .int .i64 4] w fun e w' => e = .returned (.tuple #[.string ⟨(b4 n).toArray⟩, .int .i64 0]) ∧ Below w.heap.size w w' := by
  have HL : Live w [] := trivial
  go_enter Tryz.func41, Tryz.ntmps41
  go_wp2_with (first | (go_at_call 40; (with_reducible refine (rlittle4 _ (by omega) _).mono ?_); rintro e w' ⟨rfl, hb⟩; have hz := hb.size; (try simp only [SZ, Nat.reduceAdd] at hz); (first | obtain ⟨HL, hk⟩ := HL.callA hb hz | obtain ⟨HL, hk⟩ := HL.call0A hb hz); (try simp only [addN, Nat.add_zero] at HL hk); have hl := HL; simp only [Live] at hl; (try simp only [Kept] at hk)) | (go_at_call 88; (with_reducible refine (rrev4 _ _).mono ?_); rintro e w' ⟨rfl, hb⟩; have hz := hb.size; (try simp only [SZ, Nat.reduceAdd] at hz); (first | obtain ⟨HL, hk⟩ := HL.callA hb hz | obtain ⟨HL, hk⟩ := HL.call0A hb hz); (try simp only [addN, Nat.add_zero] at HL hk); have hl := HL; simp only [Live] at hl; (try simp only [Kept] at hk)))
  go_ret2
  exact ⟨rfl, by (exact bl)⟩
set_option maxHeartbeats 1000000 in
theorem rboth4 (n : Int) (h : 0 ≤ n ∧ n ≤ 4294967295) (w : World) : Calls Tryz.prog 100 #[.int .i64 n, .int .i64 4] w fun e w' => e = .returned (.tuple #[.string ⟨(both4 n).toArray⟩, .int .i64 0]) ∧ Below w.heap.size w w' := by
  have z1 : (⟨(l4 n).toArray⟩ : ByteArray).size = 4 := rfl
  have z2 : (⟨(b4 n).toArray⟩ : ByteArray).size = 4 := rfl
  have HL : Live w [] := trivial
  go_enter Tryz.func100, Tryz.ntmps100
  go_wp2_with (first | (go_at_call 40; (with_reducible refine (rlittle4 _ (by omega) _).mono ?_); rintro e w' ⟨rfl, hb⟩; have hz := hb.size; (try simp only [SZ, Nat.reduceAdd] at hz); (first | obtain ⟨HL, hk⟩ := HL.callA hb hz | obtain ⟨HL, hk⟩ := HL.call0A hb hz); (try simp only [addN, Nat.add_zero] at HL hk); have hl := HL; simp only [Live] at hl; (try simp only [Kept] at hk)) | (go_at_call 88; (with_reducible refine (rrev4 _ _).mono ?_); rintro e w' ⟨rfl, hb⟩; have hz := hb.size; (try simp only [SZ, Nat.reduceAdd] at hz); (first | obtain ⟨HL, hk⟩ := HL.callA hb hz | obtain ⟨HL, hk⟩ := HL.call0A hb hz); (try simp only [addN, Nat.add_zero] at HL hk); have hl := HL; simp only [Live] at hl; (try simp only [Kept] at hk)))
  go_ret2
  exact ⟨rfl, by (exact bl)⟩
end Go.Proofs.YtjbhokmkmapkoaaGreatDoor
