/- Contracts and plain words for the laws of volume descriptors, part 16: J6. No condition. -/
import Derived.Test.YtjbhokmkmapkoaaGreatDoorC15
namespace Go.Proofs.YtjbhokmkmapkoaaGreatDoor
set_option linter.unusedSimpArgs false
set_option linter.unusedVariables false
open Go.RowKit
open Go.PlainAid (bt get_bt bt_nonneg bt_le bt_end)
theorem vbool {a b : Bool} (h : a = b) : Value.bool a = .bool b := by rw [h]
theorem bad_root1 {d : DR} (h : d.root.id.toList = [0]) : (!d.root.use.toList.isEmpty) = badRoot d := by
  have hi : d.root.id = selfS := bl_eq.1 (h.trans (by decide +kernel))
  unfold badRoot
  rw [hi, Bool.eq_iff_iff]
  simp only [ne_eq, not_true_eq_false, false_or, decide_eq_true_eq, Bool.not_eq_true', List.isEmpty_eq_false_iff]
  constructor
  · intro h1 h2
    rw [h2] at h1
    exact h1 (by decide +kernel)
  · intro h1 h2
    exact h1 (bl_eq.1 (h2.trans (by decide +kernel)))
theorem bad_root2 {d : DR} (h : ¬ d.root.id.toList = [0]) : badRoot d = true := by
  unfold badRoot
  refine decide_eq_true (Or.inl fun hi => h ?_)
  rw [hi]; decide +kernel
theorem root_ok {d : DR} (h : badRoot d = false) : d.root.id = selfS ∧ d.root.use = ⟨#[]⟩ := by
  unfold badRoot at h
  have h := of_decide_eq_false h
  exact ⟨Decidable.byContradiction fun h1 => h (Or.inl h1), Decidable.byContradiction fun h1 => h (Or.inr h1)⟩
set_option maxRecDepth 100000 in
set_option maxHeartbeats 8000000 in
theorem check_12 (d : DR) (ht : d.typ = 1 ∨ d.typ = 2) (hsh : ShortD d) (w : World) (hT : TabD w) : Calls Tryz.prog 15 #[.agg d.cells] w fun e w' => e = .returned (.int .i64 (chkD d)) ∧ Below w.heap.size w w' := by
  have E := hide (chkD_12 ht)
  have q0 : (d.typ == 0) = false := by rcases ht with h | h <;> rw [h] <;> rfl
  have q3 : (d.typ == 255) = false := by rcases ht with h | h <;> rw [h] <;> rfl
  have q2 : (d.typ == 2) = wide d := rfl
  have HT := hide ht
  clear ht
  have HL : Live w [] := trivial
  go_enter Tryz.func15, Tryz.ntmps15
  go_upto_region 1 with fail
  have hB1 : Blk (w.alloc (.cells d.cells 27)) w.heap.size d.cells 27 := Blk.newAt rfl
  have hbel1 : Below w.heap.size w (w.alloc (.cells d.cells 27)) := by (repeat' (first | (with_reducible exact Below.refl _ _) | (with_reducible refine Below.alloc ?_ ?_ _) | (with_reducible refine Below.setCell ?_ ?_ _) | (with_reducible refine Below.drew ?_) | (with_reducible refine below_drewN' ?_) | (with_reducible refine below_bytesW ?_ ?_) | (with_reducible refine Below.trans ?_ (Below.mono (by assumption) ?_)) | omega | (simp only [World.size_alloc, World.size_setCell, World.size_drew]; omega) | (simp [size_bytesW]; omega) | (simp; omega)))
  generalize w.alloc (.cells d.cells 27) = W1 at *
  have hlt1 := hB1.lt
  have hdd := Dat.of hB1
  unfold Dat at hdd
  go_upto_block 0 with fail
  go_cut [] (fun wx => W1 = wx)
  case first =>
    rcases HT.out with h | h
    · have q1 : (d.typ == 1) = true := by rw [h]; rfl
      clear h
      go_wp2_with fail
      go_meet
      rfl
    · have q1 : (d.typ == 1) = false := by rw [h]; rfl
      have q5 : wide d = true := by unfold wide; rw [h]; rfl
      clear h
      go_wp2_with fail
      go_meet
      rfl
  case rest =>
    obtain rfl := hcut
    have hd2 := Dat.of hB1
    by_cases hc : d.cat = 0
    case neg =>
      have EE := hide (show chkD d = 1 from by rw [E.out, if_pos hc])
      have qc : (d.cat != 0) = true := by simpa using hc
      clear hc
      go_wp2_with fail
      go_ret
      exact ⟨ret_i EE.out.symm, hbel1⟩
    case pos =>
    have E2 := E.out
    rw [if_neg (by simpa using hc)] at E2
    have EE := hide E2
    have qc : (d.cat != 0) = false := by rw [hc]; rfl
    clear hc E2 E
    go_wp2_with fail
    refine (fields_any w.heap.size 2 _).mono ?_
    rintro e w2 ⟨g, rfl, hbk, hb, hge⟩
    have hB2 := Blk.below hb hB1
    have hbel2 := hbel1.trans (hb.mono (by omega))
    have hgw : w.heap.size ≠ g := by omega
    clear qc hB1 hbel1 hb hlt1 hdd
    go_wp2_with fail
    go_loopw [41] (fun i wr => ∃ k : Nat, k ≤ 5 ∧ i = .int .i64 k ∧ (∀ j, j < k → fok d j = true) ∧ Blk wr w.heap.size d.cells 27 ∧ Blk wr g (fldCells w.heap.size 2) 65 ∧ Below w.heap.size w wr) (fun i _ => 5 - (intOf i).toNat)
    case atStart => exact ⟨0, by omega, rfl, fun j h => by omega, hB2, hbk, hbel2⟩
    case round =>
      obtain ⟨k, hk5, rfl, hall, hBr, hgr, hbelr⟩ := hrel
      have HALL := hide hall
      have HB := hide hBr
      have HG := hide hgr
      have hltr := hBr.lt
      have hglt := hgr.lt
      have hTr : TabD wr := hT.below hbelr
      clear hall
      by_cases hk : k < 5
      case pos =>
        have hf := fld_at w.heap.size k hk
        have f0 := (hgr.cells (k * 4)).trans hf.1
        have f1 := (hgr.cells (k * 4 + 1)).trans hf.2.1
        have f2 := (hgr.cells (k * 4 + 1 + 1)).trans hf.2.2.1
        have f3 := (hgr.cells (k * 4 + 1 + 1 + 1)).trans hf.2.2.2
        have ct : wr.cell? ⟨w.heap.size, 2 + k, none⟩ = some (.string (fTx d k)) := (hBr.cells (2 + k)).trans (txt_at d k hk)
        have cd : wr.cell? ⟨w.heap.size, 0, none⟩ = some (.int .i64 d.typ) := (hBr.cells 0).trans rfl
        have ALW := hide (fun W hW => alw_call d hsh k hk W hW)
        have hTr2 : ∀ o, TabD (wr.alloc o) := fun o => hTr.below ((Below.refl _ _).alloc (Nat.le_refl _) _)
        clear hf hBr hgr
        go_upto_region 20 with fail
        have HF : Blk (wr.alloc (.cells #[.int .i64 (fAt k), .int .i64 (fSz k), .bool (fSt k), .pointer (some ⟨w.heap.size, 2 + k, none⟩)] 65)) wr.heap.size #[.int .i64 (fAt k), .int .i64 (fSz k), .bool (fSt k), .pointer (some ⟨w.heap.size, 2 + k, none⟩)] 65 := Blk.newAt rfl
        have HBa := HB.out.alloc (.cells #[.int .i64 (fAt k), .int .i64 (fSz k), .bool (fSt k), .pointer (some ⟨w.heap.size, 2 + k, none⟩)] 65)
        have hTa := hTr2 (.cells #[.int .i64 (fAt k), .int .i64 (fSz k), .bool (fSt k), .pointer (some ⟨w.heap.size, 2 + k, none⟩)] 65)
        have hba : Below wr.heap.size wr (wr.alloc (.cells #[.int .i64 (fAt k), .int .i64 (fSz k), .bool (fSt k), .pointer (some ⟨w.heap.size, 2 + k, none⟩)] 65)) := (Below.refl _ _).alloc (Nat.le_refl _) _
        generalize wr.alloc (.cells #[.int .i64 (fAt k), .int .i64 (fSz k), .bool (fSt k), .pointer (some ⟨w.heap.size, 2 + k, none⟩)] 65) = Wa at *
        clear f0 f1 f2 f3 ct cd hTr2
        simp only [show decide ((k : Int) < 5) = true from decide_eq_true (by omega)]
        refine' region_linF (RL := LV _ :: LV _ :: LV _ :: LV _ :: LV _ :: LV _ :: LV _ :: LV _ :: LV _ :: LV _ :: LV _ :: []) (by kernel_rfl) (by kernel_rfl) ?main
        case main =>
          refine ⟨fun u => ?_, ?_, ?_, ?_⟩
          · simp only [putsL, Act.put, List.setIfInBounds_toArray, List.set_cons_zero, List.set_cons_succ, Nat.reduceAdd]
            rfl
          · repeat (first | exact LAll.nil | refine LAll.cons (by first | exact LV.st _ | exact LB.st _ _ _ | exact LP.st _ _ | exact LT.st) ?_)
          · refine LinStepsF.cons (fun u wx hbx hd K hK => ?_) ?_
            · (have hFx := (Blk.below hbx HF).cells; have f0 : wx.cell? ⟨wr.heap.size, 0, none⟩ = some (.int .i64 (fAt k)) := hFx 0; have f1 : wx.cell? ⟨wr.heap.size, 1, none⟩ = some (.int .i64 (fSz k)) := hFx 1; have f2 : wx.cell? ⟨wr.heap.size, 2, none⟩ = some (.bool (fSt k)) := hFx 2; have f3 : wx.cell? ⟨wr.heap.size, 3, none⟩ = some (.pointer (some ⟨w.heap.size, 2 + k, none⟩)) := hFx 3; have ct : wx.cell? ⟨w.heap.size, 2 + k, none⟩ = some (.string (fTx d k)) := ((Blk.below hbx HBa).cells (2 + k)).trans (txt_at d k hk); have cd : wx.cell? ⟨w.heap.size, 0, none⟩ = some (.int .i64 d.typ) := ((Blk.below hbx HBa).cells 0).trans rfl; have hTx := hTa.below hbx; clear hFx)
              go_simp
              refine hK.out _ _ (by simp only [Act.put, List.setIfInBounds_toArray, List.set_cons_zero, List.set_cons_succ]; rfl) (by (repeat' (first | (with_reducible exact Below.refl _ _) | (with_reducible refine Below.alloc ?_ ?_ _) | (with_reducible refine Below.setCell ?_ ?_ _) | (with_reducible refine Below.drew ?_) | (with_reducible refine below_drewN' ?_) | (with_reducible refine below_bytesW ?_ ?_) | (with_reducible refine Below.trans ?_ (Below.mono (by assumption) ?_)) | omega | (simp only [World.size_alloc, World.size_setCell, World.size_drew]; omega) | (simp [size_bytesW]; omega) | (simp; omega)))) (by (show LV _ _ _); unfold LV outOf; go_simp; exact rfl)
            refine LinStepsF.cons (fun u wx hbx hd K hK => ?_) ?_
            · have e0 : u 0 = _ := (show LV _ (u 0) wx from hd.out 0 (by kernel_rfl))
              (have hFx := (Blk.below hbx HF).cells; have f0 : wx.cell? ⟨wr.heap.size, 0, none⟩ = some (.int .i64 (fAt k)) := hFx 0; have f1 : wx.cell? ⟨wr.heap.size, 1, none⟩ = some (.int .i64 (fSz k)) := hFx 1; have f2 : wx.cell? ⟨wr.heap.size, 2, none⟩ = some (.bool (fSt k)) := hFx 2; have f3 : wx.cell? ⟨wr.heap.size, 3, none⟩ = some (.pointer (some ⟨w.heap.size, 2 + k, none⟩)) := hFx 3; have ct : wx.cell? ⟨w.heap.size, 2 + k, none⟩ = some (.string (fTx d k)) := ((Blk.below hbx HBa).cells (2 + k)).trans (txt_at d k hk); have cd : wx.cell? ⟨w.heap.size, 0, none⟩ = some (.int .i64 d.typ) := ((Blk.below hbx HBa).cells 0).trans rfl; have hTx := hTa.below hbx; clear hFx)
              go_simp
              refine hK.out _ _ (by simp only [Act.put, List.setIfInBounds_toArray, List.set_cons_zero, List.set_cons_succ, e0]; rfl) (by (repeat' (first | (with_reducible exact Below.refl _ _) | (with_reducible refine Below.alloc ?_ ?_ _) | (with_reducible refine Below.setCell ?_ ?_ _) | (with_reducible refine Below.drew ?_) | (with_reducible refine below_drewN' ?_) | (with_reducible refine below_bytesW ?_ ?_) | (with_reducible refine Below.trans ?_ (Below.mono (by assumption) ?_)) | omega | (simp only [World.size_alloc, World.size_setCell, World.size_drew]; omega) | (simp [size_bytesW]; omega) | (simp; omega)))) (by (show LV _ _ _); unfold LV outOf; go_simp; exact rfl)
            refine LinStepsF.cons (fun u wx hbx hd K hK => ?_) ?_
            · have e1 : u 1 = _ := (show LV _ (u 1) wx from hd.out 1 (by kernel_rfl))
              (have hFx := (Blk.below hbx HF).cells; have f0 : wx.cell? ⟨wr.heap.size, 0, none⟩ = some (.int .i64 (fAt k)) := hFx 0; have f1 : wx.cell? ⟨wr.heap.size, 1, none⟩ = some (.int .i64 (fSz k)) := hFx 1; have f2 : wx.cell? ⟨wr.heap.size, 2, none⟩ = some (.bool (fSt k)) := hFx 2; have f3 : wx.cell? ⟨wr.heap.size, 3, none⟩ = some (.pointer (some ⟨w.heap.size, 2 + k, none⟩)) := hFx 3; have ct : wx.cell? ⟨w.heap.size, 2 + k, none⟩ = some (.string (fTx d k)) := ((Blk.below hbx HBa).cells (2 + k)).trans (txt_at d k hk); have cd : wx.cell? ⟨w.heap.size, 0, none⟩ = some (.int .i64 d.typ) := ((Blk.below hbx HBa).cells 0).trans rfl; have hTx := hTa.below hbx; clear hFx)
              go_simp
              refine hK.out _ _ (by simp only [Act.put, List.setIfInBounds_toArray, List.set_cons_zero, List.set_cons_succ, e1]; rfl) (by (repeat' (first | (with_reducible exact Below.refl _ _) | (with_reducible refine Below.alloc ?_ ?_ _) | (with_reducible refine Below.setCell ?_ ?_ _) | (with_reducible refine Below.drew ?_) | (with_reducible refine below_drewN' ?_) | (with_reducible refine below_bytesW ?_ ?_) | (with_reducible refine Below.trans ?_ (Below.mono (by assumption) ?_)) | omega | (simp only [World.size_alloc, World.size_setCell, World.size_drew]; omega) | (simp [size_bytesW]; omega) | (simp; omega)))) (by (show LV _ _ _); unfold LV outOf; go_simp; exact rfl)
            refine LinStepsF.cons (fun u wx hbx hd K hK => ?_) ?_
            · have e2 : u 2 = _ := (show LV _ (u 2) wx from hd.out 2 (by kernel_rfl))
              (have hFx := (Blk.below hbx HF).cells; have f0 : wx.cell? ⟨wr.heap.size, 0, none⟩ = some (.int .i64 (fAt k)) := hFx 0; have f1 : wx.cell? ⟨wr.heap.size, 1, none⟩ = some (.int .i64 (fSz k)) := hFx 1; have f2 : wx.cell? ⟨wr.heap.size, 2, none⟩ = some (.bool (fSt k)) := hFx 2; have f3 : wx.cell? ⟨wr.heap.size, 3, none⟩ = some (.pointer (some ⟨w.heap.size, 2 + k, none⟩)) := hFx 3; have ct : wx.cell? ⟨w.heap.size, 2 + k, none⟩ = some (.string (fTx d k)) := ((Blk.below hbx HBa).cells (2 + k)).trans (txt_at d k hk); have cd : wx.cell? ⟨w.heap.size, 0, none⟩ = some (.int .i64 d.typ) := ((Blk.below hbx HBa).cells 0).trans rfl; have hTx := hTa.below hbx; clear hFx)
              go_simp
              refine hK.out _ _ (by simp only [Act.put, List.setIfInBounds_toArray, List.set_cons_zero, List.set_cons_succ, e2]; rfl) (by (repeat' (first | (with_reducible exact Below.refl _ _) | (with_reducible refine Below.alloc ?_ ?_ _) | (with_reducible refine Below.setCell ?_ ?_ _) | (with_reducible refine Below.drew ?_) | (with_reducible refine below_drewN' ?_) | (with_reducible refine below_bytesW ?_ ?_) | (with_reducible refine Below.trans ?_ (Below.mono (by assumption) ?_)) | omega | (simp only [World.size_alloc, World.size_setCell, World.size_drew]; omega) | (simp [size_bytesW]; omega) | (simp; omega)))) (by (show LV _ _ _); unfold LV outOf; go_simp; exact rfl)
            refine LinStepsF.cons (fun u wx hbx hd K hK => ?_) ?_
            · (have hFx := (Blk.below hbx HF).cells; have f0 : wx.cell? ⟨wr.heap.size, 0, none⟩ = some (.int .i64 (fAt k)) := hFx 0; have f1 : wx.cell? ⟨wr.heap.size, 1, none⟩ = some (.int .i64 (fSz k)) := hFx 1; have f2 : wx.cell? ⟨wr.heap.size, 2, none⟩ = some (.bool (fSt k)) := hFx 2; have f3 : wx.cell? ⟨wr.heap.size, 3, none⟩ = some (.pointer (some ⟨w.heap.size, 2 + k, none⟩)) := hFx 3; have ct : wx.cell? ⟨w.heap.size, 2 + k, none⟩ = some (.string (fTx d k)) := ((Blk.below hbx HBa).cells (2 + k)).trans (txt_at d k hk); have cd : wx.cell? ⟨w.heap.size, 0, none⟩ = some (.int .i64 d.typ) := ((Blk.below hbx HBa).cells 0).trans rfl; have hTx := hTa.below hbx; clear hFx)
              go_simp
              refine hK.out _ _ (by simp only [Act.put, List.setIfInBounds_toArray, List.set_cons_zero, List.set_cons_succ]; rfl) (by (repeat' (first | (with_reducible exact Below.refl _ _) | (with_reducible refine Below.alloc ?_ ?_ _) | (with_reducible refine Below.setCell ?_ ?_ _) | (with_reducible refine Below.drew ?_) | (with_reducible refine below_drewN' ?_) | (with_reducible refine below_bytesW ?_ ?_) | (with_reducible refine Below.trans ?_ (Below.mono (by assumption) ?_)) | omega | (simp only [World.size_alloc, World.size_setCell, World.size_drew]; omega) | (simp [size_bytesW]; omega) | (simp; omega)))) (by (show LV _ _ _); unfold LV outOf; go_simp; exact rfl)
            refine LinStepsF.cons (fun u wx hbx hd K hK => ?_) ?_
            · have e4 : u 4 = _ := (show LV _ (u 4) wx from hd.out 4 (by kernel_rfl))
              (have hFx := (Blk.below hbx HF).cells; have f0 : wx.cell? ⟨wr.heap.size, 0, none⟩ = some (.int .i64 (fAt k)) := hFx 0; have f1 : wx.cell? ⟨wr.heap.size, 1, none⟩ = some (.int .i64 (fSz k)) := hFx 1; have f2 : wx.cell? ⟨wr.heap.size, 2, none⟩ = some (.bool (fSt k)) := hFx 2; have f3 : wx.cell? ⟨wr.heap.size, 3, none⟩ = some (.pointer (some ⟨w.heap.size, 2 + k, none⟩)) := hFx 3; have ct : wx.cell? ⟨w.heap.size, 2 + k, none⟩ = some (.string (fTx d k)) := ((Blk.below hbx HBa).cells (2 + k)).trans (txt_at d k hk); have cd : wx.cell? ⟨w.heap.size, 0, none⟩ = some (.int .i64 d.typ) := ((Blk.below hbx HBa).cells 0).trans rfl; have hTx := hTa.below hbx; clear hFx)
              go_simp
              refine hK.out _ _ (by simp only [Act.put, List.setIfInBounds_toArray, List.set_cons_zero, List.set_cons_succ, e4]; rfl) (by (repeat' (first | (with_reducible exact Below.refl _ _) | (with_reducible refine Below.alloc ?_ ?_ _) | (with_reducible refine Below.setCell ?_ ?_ _) | (with_reducible refine Below.drew ?_) | (with_reducible refine below_drewN' ?_) | (with_reducible refine below_bytesW ?_ ?_) | (with_reducible refine Below.trans ?_ (Below.mono (by assumption) ?_)) | omega | (simp only [World.size_alloc, World.size_setCell, World.size_drew]; omega) | (simp [size_bytesW]; omega) | (simp; omega)))) (by (show LV _ _ _); unfold LV outOf; go_simp; exact rfl)
            refine LinStepsF.cons (fun u wx hbx hd K hK => ?_) ?_
            · (have hFx := (Blk.below hbx HF).cells; have f0 : wx.cell? ⟨wr.heap.size, 0, none⟩ = some (.int .i64 (fAt k)) := hFx 0; have f1 : wx.cell? ⟨wr.heap.size, 1, none⟩ = some (.int .i64 (fSz k)) := hFx 1; have f2 : wx.cell? ⟨wr.heap.size, 2, none⟩ = some (.bool (fSt k)) := hFx 2; have f3 : wx.cell? ⟨wr.heap.size, 3, none⟩ = some (.pointer (some ⟨w.heap.size, 2 + k, none⟩)) := hFx 3; have ct : wx.cell? ⟨w.heap.size, 2 + k, none⟩ = some (.string (fTx d k)) := ((Blk.below hbx HBa).cells (2 + k)).trans (txt_at d k hk); have cd : wx.cell? ⟨w.heap.size, 0, none⟩ = some (.int .i64 d.typ) := ((Blk.below hbx HBa).cells 0).trans rfl; have hTx := hTa.below hbx; clear hFx)
              go_simp
              refine hK.out _ _ (by simp only [Act.put, List.setIfInBounds_toArray, List.set_cons_zero, List.set_cons_succ]; rfl) (by (repeat' (first | (with_reducible exact Below.refl _ _) | (with_reducible refine Below.alloc ?_ ?_ _) | (with_reducible refine Below.setCell ?_ ?_ _) | (with_reducible refine Below.drew ?_) | (with_reducible refine below_drewN' ?_) | (with_reducible refine below_bytesW ?_ ?_) | (with_reducible refine Below.trans ?_ (Below.mono (by assumption) ?_)) | omega | (simp only [World.size_alloc, World.size_setCell, World.size_drew]; omega) | (simp [size_bytesW]; omega) | (simp; omega)))) (by (show LV _ _ _); unfold LV outOf; go_simp; exact rfl)
            refine LinStepsF.cons (fun u wx hbx hd K hK => ?_) ?_
            · have e6 : u 6 = _ := (show LV _ (u 6) wx from hd.out 6 (by kernel_rfl))
              (have hFx := (Blk.below hbx HF).cells; have f0 : wx.cell? ⟨wr.heap.size, 0, none⟩ = some (.int .i64 (fAt k)) := hFx 0; have f1 : wx.cell? ⟨wr.heap.size, 1, none⟩ = some (.int .i64 (fSz k)) := hFx 1; have f2 : wx.cell? ⟨wr.heap.size, 2, none⟩ = some (.bool (fSt k)) := hFx 2; have f3 : wx.cell? ⟨wr.heap.size, 3, none⟩ = some (.pointer (some ⟨w.heap.size, 2 + k, none⟩)) := hFx 3; have ct : wx.cell? ⟨w.heap.size, 2 + k, none⟩ = some (.string (fTx d k)) := ((Blk.below hbx HBa).cells (2 + k)).trans (txt_at d k hk); have cd : wx.cell? ⟨w.heap.size, 0, none⟩ = some (.int .i64 d.typ) := ((Blk.below hbx HBa).cells 0).trans rfl; have hTx := hTa.below hbx; clear hFx)
              go_simp
              refine hK.out _ _ (by simp only [Act.put, List.setIfInBounds_toArray, List.set_cons_zero, List.set_cons_succ, e6]; rfl) (by (repeat' (first | (with_reducible exact Below.refl _ _) | (with_reducible refine Below.alloc ?_ ?_ _) | (with_reducible refine Below.setCell ?_ ?_ _) | (with_reducible refine Below.drew ?_) | (with_reducible refine below_drewN' ?_) | (with_reducible refine below_bytesW ?_ ?_) | (with_reducible refine Below.trans ?_ (Below.mono (by assumption) ?_)) | omega | (simp only [World.size_alloc, World.size_setCell, World.size_drew]; omega) | (simp [size_bytesW]; omega) | (simp; omega)))) (by (show LV _ _ _); unfold LV outOf; go_simp; exact rfl)
            refine LinStepsF.cons (fun u wx hbx hd K hK => ?_) ?_
            · have e7 : u 7 = _ := (show LV _ (u 7) wx from hd.out 7 (by kernel_rfl))
              (have hFx := (Blk.below hbx HF).cells; have f0 : wx.cell? ⟨wr.heap.size, 0, none⟩ = some (.int .i64 (fAt k)) := hFx 0; have f1 : wx.cell? ⟨wr.heap.size, 1, none⟩ = some (.int .i64 (fSz k)) := hFx 1; have f2 : wx.cell? ⟨wr.heap.size, 2, none⟩ = some (.bool (fSt k)) := hFx 2; have f3 : wx.cell? ⟨wr.heap.size, 3, none⟩ = some (.pointer (some ⟨w.heap.size, 2 + k, none⟩)) := hFx 3; have ct : wx.cell? ⟨w.heap.size, 2 + k, none⟩ = some (.string (fTx d k)) := ((Blk.below hbx HBa).cells (2 + k)).trans (txt_at d k hk); have cd : wx.cell? ⟨w.heap.size, 0, none⟩ = some (.int .i64 d.typ) := ((Blk.below hbx HBa).cells 0).trans rfl; have hTx := hTa.below hbx; clear hFx)
              go_simp
              refine hK.out _ _ (by simp only [Act.put, List.setIfInBounds_toArray, List.set_cons_zero, List.set_cons_succ, e7]; rfl) (by (repeat' (first | (with_reducible exact Below.refl _ _) | (with_reducible refine Below.alloc ?_ ?_ _) | (with_reducible refine Below.setCell ?_ ?_ _) | (with_reducible refine Below.drew ?_) | (with_reducible refine below_drewN' ?_) | (with_reducible refine below_bytesW ?_ ?_) | (with_reducible refine Below.trans ?_ (Below.mono (by assumption) ?_)) | omega | (simp only [World.size_alloc, World.size_setCell, World.size_drew]; omega) | (simp [size_bytesW]; omega) | (simp; omega)))) (by (show LV _ _ _); unfold LV outOf; go_simp; exact rfl)
            refine LinStepsF.cons (fun u wx hbx hd K hK => ?_) ?_
            · have e3 : u 3 = _ := (show LV _ (u 3) wx from hd.out 3 (by kernel_rfl))
              have e5 : u 5 = _ := (show LV _ (u 5) wx from hd.out 5 (by kernel_rfl))
              have e8 : u 8 = _ := (show LV _ (u 8) wx from hd.out 8 (by kernel_rfl))
              (have hFx := (Blk.below hbx HF).cells; have f0 : wx.cell? ⟨wr.heap.size, 0, none⟩ = some (.int .i64 (fAt k)) := hFx 0; have f1 : wx.cell? ⟨wr.heap.size, 1, none⟩ = some (.int .i64 (fSz k)) := hFx 1; have f2 : wx.cell? ⟨wr.heap.size, 2, none⟩ = some (.bool (fSt k)) := hFx 2; have f3 : wx.cell? ⟨wr.heap.size, 3, none⟩ = some (.pointer (some ⟨w.heap.size, 2 + k, none⟩)) := hFx 3; have ct : wx.cell? ⟨w.heap.size, 2 + k, none⟩ = some (.string (fTx d k)) := ((Blk.below hbx HBa).cells (2 + k)).trans (txt_at d k hk); have cd : wx.cell? ⟨w.heap.size, 0, none⟩ = some (.int .i64 d.typ) := ((Blk.below hbx HBa).cells 0).trans rfl; have hTx := hTa.below hbx; clear hFx)
              go_simp
              (first | (go_at_call 48; (with_reducible refine (ALW.out _ (by assumption)).mono ?_); rintro e w' ⟨rfl, hb⟩))
              go_wp2_with fail
              refine hK.out _ _ (by simp only [Act.put, List.setIfInBounds_toArray, List.set_cons_zero, List.set_cons_succ, e3, e5, e8]; rfl) (by (repeat' (first | (with_reducible exact Below.refl _ _) | (with_reducible refine Below.alloc ?_ ?_ _) | (with_reducible refine Below.setCell ?_ ?_ _) | (with_reducible refine Below.drew ?_) | (with_reducible refine below_drewN' ?_) | (with_reducible refine below_bytesW ?_ ?_) | (with_reducible refine Below.trans ?_ (Below.mono (by assumption) ?_)) | omega | (simp only [World.size_alloc, World.size_setCell, World.size_drew]; omega) | (simp [size_bytesW]; omega) | (simp; omega)))) (by (show LV _ _ _); unfold LV outOf; go_simp; exact rfl)
            refine LinStepsF.cons (fun u wx hbx hd K hK => ?_) ?_
            · have e9 : u 9 = _ := (show LV _ (u 9) wx from hd.out 9 (by kernel_rfl))
              (have hFx := (Blk.below hbx HF).cells; have f0 : wx.cell? ⟨wr.heap.size, 0, none⟩ = some (.int .i64 (fAt k)) := hFx 0; have f1 : wx.cell? ⟨wr.heap.size, 1, none⟩ = some (.int .i64 (fSz k)) := hFx 1; have f2 : wx.cell? ⟨wr.heap.size, 2, none⟩ = some (.bool (fSt k)) := hFx 2; have f3 : wx.cell? ⟨wr.heap.size, 3, none⟩ = some (.pointer (some ⟨w.heap.size, 2 + k, none⟩)) := hFx 3; have ct : wx.cell? ⟨w.heap.size, 2 + k, none⟩ = some (.string (fTx d k)) := ((Blk.below hbx HBa).cells (2 + k)).trans (txt_at d k hk); have cd : wx.cell? ⟨w.heap.size, 0, none⟩ = some (.int .i64 d.typ) := ((Blk.below hbx HBa).cells 0).trans rfl; have hTx := hTa.below hbx; clear hFx)
              go_simp
              refine hK.out _ _ (by simp only [Act.put, List.setIfInBounds_toArray, List.set_cons_zero, List.set_cons_succ, e9]; rfl) (by (repeat' (first | (with_reducible exact Below.refl _ _) | (with_reducible refine Below.alloc ?_ ?_ _) | (with_reducible refine Below.setCell ?_ ?_ _) | (with_reducible refine Below.drew ?_) | (with_reducible refine below_drewN' ?_) | (with_reducible refine below_bytesW ?_ ?_) | (with_reducible refine Below.trans ?_ (Below.mono (by assumption) ?_)) | omega | (simp only [World.size_alloc, World.size_setCell, World.size_drew]; omega) | (simp [size_bytesW]; omega) | (simp; omega)))) (by (show LV _ _ _); unfold LV outOf; go_simp; exact rfl)
            exact LinStepsF.nil
          · intro u wx hbx hall
            have e10 : u 10 = _ := (show LV _ (u 10) wx from hall.out 10 (by decide))
            have hbd : Below wr.heap.size wr wx := hba.trans (hbx.mono hba.size)
            cases hfk : fok d k
            case false =>
              have EE2 := hide (show chkD d = 4 from by rw [EE.out, if_pos (names_no hk hfk)])
              rw [hfk] at e10
              clear hfk
              have e10 : u 10 = .bool true := e10
              rw [e10]
              go_wp2_with fail
              go_ret
              exact ⟨ret_i EE2.out.symm, hbelr.trans (hbd.mono (by omega))⟩
            case true =>
              rw [hfk] at e10
              have HALL2 := hide (show ∀ j, j < k + 1 → fok d j = true from fun j hj => (Nat.lt_succ_iff_lt_or_eq.1 hj).elim (fun h => HALL.out j h) (fun h => by rw [h]; exact hfk))
              clear hfk
              have e10 : u 10 = .bool false := e10
              rw [e10]
              go_wp2_with fail
              go_roundw
              case rel => exact ⟨k + 1, by omega, by go_num, HALL2.out, Blk.below hbd HB.out, Blk.below hbd HG.out, hbelr.trans (hbd.mono (by omega))⟩
              case measure => simp [intOf]; omega
      case neg =>
        have ek : k = 5 := by omega
        subst ek
        have hnm : namesB d = true := names_all HALL.out
        have E3 := EE.out
        rw [if_neg (by rw [hnm]; simp)] at E3
        have E3 := hide E3
        clear hbk hge hB2 hbel2 HG hglt hgw hnm HALL hgr
        have hd3 := Dat.of hBr
        unfold Dat at hd3
        clear hBr
        go_upto_region 23 with fail
        go_cut [66] (fun v wx => v = .bool (badRoot d) ∧ wr = wx)
        case first =>
          go_wp2_with fail
          all_goals
            go_meet
            first | exact ⟨vbool (bad_root1 (by assumption)), rfl⟩ | exact ⟨vbool (bad_root2 (by assumption)).symm, rfl⟩
        case rest =>
          obtain ⟨rfl, rfl⟩ := hcut
          cases hbad : badRoot d
          case true =>
            have EE3 := hide (show chkD d = 1 from by rw [E3.out, if_pos hbad])
            clear hbad
            go_wp2_with fail
            go_ret
            exact ⟨ret_i EE3.out.symm, hbelr⟩
          case false =>
            have E4 := hide (show chkD d = if (rangesB d && (tmB d.time && zoneB d.zone) && decide (recE d.root = 0)) = true then 0 else 2 from by rw [E3.out, if_neg (by rw [hbad]; simp)])
            have HR := hide (root_ok hbad)
            clear hbad E3 EE
            go_upto_region 26 with fail
            have HV : Blk (wr.alloc (.cells #[.string d.name, .string d.set, .string d.pub, .string d.prep, .string d.app, .int .i64 d.number, .int .i64 d.discs, .int .i64 d.time] 23)) wr.heap.size #[.string d.name, .string d.set, .string d.pub, .string d.prep, .string d.app, .int .i64 d.number, .int .i64 d.discs, .int .i64 d.time] 23 := Blk.newAt rfl
            have HBv := HB.out.alloc (.cells #[.string d.name, .string d.set, .string d.pub, .string d.prep, .string d.app, .int .i64 d.number, .int .i64 d.discs, .int .i64 d.time] 23)
            have hTv : TabD (wr.alloc (.cells #[.string d.name, .string d.set, .string d.pub, .string d.prep, .string d.app, .int .i64 d.number, .int .i64 d.discs, .int .i64 d.time] 23)) := hTr.below ((Below.refl _ _).alloc (Nat.le_refl _) _)
            have hbv : Below w.heap.size w (wr.alloc (.cells #[.string d.name, .string d.set, .string d.pub, .string d.prep, .string d.app, .int .i64 d.number, .int .i64 d.discs, .int .i64 d.time] 23)) := hbelr.alloc hbelr.size _
            generalize wr.alloc (.cells #[.string d.name, .string d.set, .string d.pub, .string d.prep, .string d.app, .int .i64 d.number, .int .i64 d.discs, .int .i64 d.time] 23) = W3 at *
            clear hd3 hTr hbelr
            have hdv := Dat.of HBv
            unfold Dat at hdv
            have hltv := HV.lt
            have v5 : W3.cell? ⟨wr.heap.size, 5, none⟩ = some (.int .i64 d.number) := HV.cells 5
            have v6 : W3.cell? ⟨wr.heap.size, 6, none⟩ = some (.int .i64 d.discs) := HV.cells 6
            go_cut [112] (fun v wx => v = .bool (!rangesB d) ∧ W3 = wx)
            case first =>
              cases h1 : wordB d.space
              case false =>
                go_wp2_with (first | (go_at_call 47; (with_reducible refine (word_any _ _).mono ?_); rintro e w' ⟨rfl, rfl⟩))
                go_meet
                exact ⟨vbool (by unfold rangesB; simp [*]), rfl⟩
              case true =>
              cases h2 : wordB d.psize
              case false =>
                go_wp2_with (first | (go_at_call 47; (with_reducible refine (word_any _ _).mono ?_); rintro e w' ⟨rfl, rfl⟩))
                go_meet
                exact ⟨vbool (by unfold rangesB; simp [*]), rfl⟩
              case true =>
              cases h3 : wordB d.pl
              case false =>
                go_wp2_with (first | (go_at_call 47; (with_reducible refine (word_any _ _).mono ?_); rintro e w' ⟨rfl, rfl⟩))
                go_meet
                exact ⟨vbool (by unfold rangesB; simp [*]), rfl⟩
              case true =>
              cases h4 : wordB d.pm
              case false =>
                go_wp2_with (first | (go_at_call 47; (with_reducible refine (word_any _ _).mono ?_); rintro e w' ⟨rfl, rfl⟩))
                go_meet
                exact ⟨vbool (by unfold rangesB; simp [*]), rfl⟩
              case true =>
              have HR1 := hide (show rangesB d = decide (1 ≤ d.discs ∧ d.discs ≤ 65535 ∧ 1 ≤ d.number ∧ d.number ≤ d.discs) from by unfold rangesB; rw [h1, h2, h3, h4]; rfl)
              go_wp2_with (first | (go_at_call 47; (with_reducible refine (word_any _ _).mono ?_); rintro e w' ⟨rfl, rfl⟩))
              all_goals
                go_meet
                exact ⟨vbool (by rw [HR1.out, Bool.eq_iff_iff]; simp <;> omega), rfl⟩
            case rest =>
            obtain ⟨rfl, rfl⟩ := hcut
            cases hrg : rangesB d
            case false =>
              have EE3 := hide (show chkD d = 2 from by rw [E4.out, hrg]; rfl)
              clear hrg
              go_wp2_with fail
              go_ret
              exact ⟨ret_i EE3.out.symm, hbv⟩
            case true =>
              obtain ⟨x, kd, DES0, hD⟩ := des_call d
              have DES := hide DES0
              have ENC := hide (fun W => dirEnc_any d.root HR.out.1 HR.out.2 W)
              have E5 := hide (show chkD d = if ((tmB d.time && zoneB d.zone) && decide (recE d.root = 0)) = true then 0 else 2 from by rw [E4.out, hrg]; simp only [Bool.true_and])
              clear hrg DES0 E4
              go_upto_region 29 with (go_at_call 37; refine (DES.out _ hTv.2).mono ?_; rintro e w4 ⟨rfl, hb4⟩)
              have HB4 := Blk.below hb4 HBv
              have hdv4 := Dat.of HB4
              unfold Dat at hdv4
              clear hdv HBv HV v5 v6
              go_upto_region 30 with (go_at_call 36; refine (ENC.out _).mono ?_; rintro e w5 ⟨rfl, hb5⟩)
              have hb35 : Below w.heap.size w w5 := (hbv.trans (hb4.mono hbv.size)).trans (hb5.mono (hbv.trans (hb4.mono hbv.size)).size)
              rcases hD.2 with ⟨htz, rfl, -⟩ | ⟨htz, rfl⟩
              · by_cases he : recE d.root = 0
                · have EE3 := hide (show chkD d = 0 from by rw [E5.out, htz, he]; rfl)
                  rw [he]
                  clear htz he
                  go_wp2_with fail
                  go_ret
                  exact ⟨ret_i EE3.out.symm, hb35⟩
                · have EE3 := hide (show chkD d = 2 from by rw [E5.out, htz, decide_eq_false he]; rfl)
                  clear htz
                  go_wp2_with fail
                  go_ret
                  exact ⟨ret_i EE3.out.symm, hb35⟩
              · have EE3 := hide (show chkD d = 2 from by rw [E5.out, htz]; rfl)
                clear htz
                go_wp2_with fail
                all_goals
                  go_ret
                  exact ⟨ret_i EE3.out.symm, hb35⟩
/-- Check. -/
theorem check_any (d : DR) (hsh : ShortD d) (w : World) (hT : TabD w) : Calls Tryz.prog 15 #[.agg d.cells] w fun e w' => e = .returned (.int .i64 (chkD d)) ∧ Below w.heap.size w w' := by
  by_cases h0 : d.typ = 0
  · exact check_0 d h0 w
  by_cases h3 : d.typ = 255
  · exact check_255 d h3 w
  by_cases h12 : d.typ = 1 ∨ d.typ = 2
  · exact check_12 d h12 hsh w hT
  · exact check_no d h0 h3 (fun h => h12 (Or.inl h)) (fun h => h12 (Or.inr h)) w
end Go.Proofs.YtjbhokmkmapkoaaGreatDoor
