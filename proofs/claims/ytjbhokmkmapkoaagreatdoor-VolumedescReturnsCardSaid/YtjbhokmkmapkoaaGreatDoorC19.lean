/- Contracts and plain words for the laws of volume descriptors, part 19: I7. No condition. -/
import Derived.Test.YtjbhokmkmapkoaaGreatDoorC18
import Derived.Test.YtjbhokmkmapkoaaGreatDoorC17
namespace Go.Proofs.YtjbhokmkmapkoaaGreatDoor
set_option linter.unusedSimpArgs false
set_option linter.unusedVariables false
open Go.RowKit
open Go.PlainAid (bt get_bt bt_nonneg bt_le bt_end)
def goodR (s : ByteArray) : Bool := decide (bt s 0 = 34 ∧ bt s 32 = 1)
def oddR (s : ByteArray) : Bool := decide (bt s 1 ≠ 0 ∨ bt s 26 ≠ 0 ∨ bt s 27 ≠ 0)
theorem decR_bad1 {s : ByteArray} (hs : s.size = 34) (h : ¬ (bt s 0 = 34 ∧ bt s 32 = 1)) : decR s = (Rec.zero, 0, 10) := by
  have h0 := bt_nonneg s 32
  have h1 := bt_nonneg s 0
  unfold decR
  rw [if_neg (by omega), if_pos]
  rw [hs]
  unfold padN
  omega
theorem decR_good1 {s : ByteArray} (hs : s.size = 34) (h0 : bt s 0 = 34) (h1 : bt s 32 = 1) : decR s = if bt s 1 ≠ 0 ∨ bt s 26 ≠ 0 ∨ bt s 27 ≠ 0 then (Rec.zero, 0, 14)
  else if (rrT (s.extract 18 25)).2.2 ≠ 0 then (Rec.zero, 0, (rrT (s.extract 18 25)).2.2)
  else (⟨s.extract 33 34, le4 s 2, le4 s 10, (rrT (s.extract 18 25)).1, (rrT (s.extract 18 25)).2.1, bt s 25, le2 s 28, s.extract 34 34⟩, 34, 0) := by
  have t1 : (1 : Int).toNat = 1 := rfl
  have t34 : (34 : Int).toNat = 34 := rfl
  have p1 : padN 1 = 34 := rfl
  unfold decR
  rw [if_neg (by omega), h0, h1, hs, t1, t34, p1, if_neg (by omega)]
/-- What is read as a record, its size and the error. -/
def DecP (s : ByteArray) (w : World) (e : Ending) (w' : World) : Prop := e = .returned (.tuple #[.agg (decR s).1.cells, .int .i64 (decR s).2.1, .int .i64 (decR s).2.2]) ∧ Below w.heap.size w w'
theorem DecP.mk {s : ByteArray} {w : World} {e : Ending} {w' : World} {x : Rec × Int × Int} (h : decR s = x) (he : e = .returned (.tuple #[.agg x.1.cells, .int .i64 x.2.1, .int .i64 x.2.2])) (hb : Below w.heap.size w w') : DecP s w e w' := by
  unfold DecP; rw [h]; exact ⟨he, hb⟩
theorem padded_i (n : Int) (h : 0 ≤ n ∧ n ≤ 255) (w : World) : Calls Tryz.prog 112 #[.int .i64 n] w fun e w' => e = .returned (.int .i64 ((34 + n) / 2 * 2)) ∧ w = w' := by
  have HL : Live w [] := trivial
  go_enter Tryz.func112, Tryz.ntmps112
  go_wp2
  go_ret
  exact ⟨ret_i (by omega), rfl⟩
theorem padded_1 (w : World) : Calls Tryz.prog 112 #[.int .i64 1] w fun e w' => e = .returned (.int .i64 34) ∧ w = w' := padded_i 1 (by omega) w
set_option maxHeartbeats 400000 in
theorem num4_any (s : ByteArray) (b p : Nat) (hs : s.size ≤ 100000) (hp : p + 4 ≤ s.size) (w : World) (hc : w.cell? ⟨b, 0, none⟩ = some (.string s)) : Calls Tryz.prog 114 #[.int .i64 p, .int .i64 4, .pointer (some ⟨b, 0, none⟩)] w fun e w' => e = .returned (.int .i64 (le4 s p)) ∧ w = w' := by
  have L4 := hide (fun W => readL4 s p hs hp W)
  have HL : Live w [] := trivial
  go_enter Tryz.func114, Tryz.ntmps114
  go_wp2_with (first | (go_at_call 53; (with_reducible refine (L4.out _).mono ?_); rintro e w' ⟨rfl, rfl⟩))
  go_ret
  exact ⟨rfl, rfl⟩
set_option maxHeartbeats 400000 in
theorem num2_any (s : ByteArray) (b p : Nat) (hs : s.size ≤ 100000) (hp : p + 2 ≤ s.size) (w : World) (hc : w.cell? ⟨b, 0, none⟩ = some (.string s)) : Calls Tryz.prog 114 #[.int .i64 p, .int .i64 2, .pointer (some ⟨b, 0, none⟩)] w fun e w' => e = .returned (.int .i64 (le2 s p)) ∧ w = w' := by
  have L4 := hide (fun W => readL2 s p hs hp W)
  have HL : Live w [] := trivial
  go_enter Tryz.func114, Tryz.ntmps114
  go_wp2_with (first | (go_at_call 53; (with_reducible refine (L4.out _).mono ?_); rintro e w' ⟨rfl, rfl⟩))
  go_ret
  exact ⟨rfl, rfl⟩
set_option maxRecDepth 100000 in
set_option maxHeartbeats 8000000 in
theorem dirDec_any (s : ByteArray) (hs : s.size = 34) (w : World) : Calls Tryz.prog 57 #[.string s] w (DecP s w) := by
  have HS := hide hs
  have z1 : (34 : Int) ≤ (s.size : Int) := by omega
  have z2 : (s.size : Int) ≤ 34 := by omega
  have z3 : 34 ≤ s.size := by omega
  have n0 : 0 < s.size := by omega
  have n32 : 32 < s.size := by omega
  have i0 : (0 : Int) < (s.size : Int) := by omega
  have i32 : (32 : Int) < (s.size : Int) := by omega
  have b0 := bt_nonneg s 0
  have b1 := bt_le s 0
  have b2 := bt_nonneg s 32
  have b3 := bt_le s 32
  have b4 := bt_nonneg s 25
  have b5 := bt_le s 25
  clear hs
  have hbb := get_bt s
  have HL : Live w [] := trivial
  go_enter Tryz.func57, Tryz.ntmps57
  go_upto_region 3 with fail
  have hB1 : Blk ((w.alloc (.cells #[.string s] 9)).alloc (.cells #[.string ⟨#[]⟩, .int .i64 0, .int .i64 0, .int .i64 0, .int .i64 0, .int .i64 0, .int .i64 0, .string ⟨#[]⟩] 25)) w.heap.size #[.string s] 9 := (Blk.newAt rfl).alloc _
  have hB2 : Blk ((w.alloc (.cells #[.string s] 9)).alloc (.cells #[.string ⟨#[]⟩, .int .i64 0, .int .i64 0, .int .i64 0, .int .i64 0, .int .i64 0, .int .i64 0, .string ⟨#[]⟩] 25)) (w.heap.size + 1) #[.string ⟨#[]⟩, .int .i64 0, .int .i64 0, .int .i64 0, .int .i64 0, .int .i64 0, .int .i64 0, .string ⟨#[]⟩] 25 := Blk.newAt (by simp)
  have hbel1 : Below w.heap.size w ((w.alloc (.cells #[.string s] 9)).alloc (.cells #[.string ⟨#[]⟩, .int .i64 0, .int .i64 0, .int .i64 0, .int .i64 0, .int .i64 0, .int .i64 0, .string ⟨#[]⟩] 25)) := by (repeat' (first | (with_reducible exact Below.refl _ _) | (with_reducible refine Below.alloc ?_ ?_ _) | (with_reducible refine Below.setCell ?_ ?_ _) | (with_reducible refine Below.drew ?_) | (with_reducible refine below_drewN' ?_) | (with_reducible refine below_bytesW ?_ ?_) | (with_reducible refine Below.trans ?_ (Below.mono (by assumption) ?_)) | omega | (simp only [World.size_alloc, World.size_setCell, World.size_drew]; omega) | (simp [size_bytesW]; omega) | (simp; omega)))
  generalize (w.alloc (.cells #[.string s] 9)).alloc (.cells #[.string ⟨#[]⟩, .int .i64 0, .int .i64 0, .int .i64 0, .int .i64 0, .int .i64 0, .int .i64 0, .string ⟨#[]⟩] 25) = W1 at *
  have w0 : IntKind.i64.wrap (bt s 0) = bt s 0 := IntWalk.i64_in _ (by omega)
  have w32 : IntKind.i64.wrap (bt s 32) = bt s 32 := IntWalk.i64_in _ (by omega)
  refine' region_linF (RL := LV _ :: LV _ :: LV _ :: LV _ :: LV _ :: LV _ :: LV _ :: LV _ :: []) (by kernel_rfl) (by kernel_rfl) ?main
  case main =>
    refine ⟨fun u => ?_, ?_, ?_, ?_⟩
    · simp only [putsL, Act.put, List.setIfInBounds_toArray, List.set_cons_zero, List.set_cons_succ, Nat.reduceAdd]
      rfl
    · repeat (first | exact LAll.nil | refine LAll.cons (by first | exact LV.st _ | exact LB.st _ _ _ | exact LP.st _ _ | exact LT.st) ?_)
    · refine LinStepsF.cons (fun u wx hbx hd K hK => ?_) ?_
      · (have hcb : wx.cell? ⟨w.heap.size, 0, none⟩ = some (.string s) := (Blk.below hbx hB1).cells 0)
        go_simp
        refine hK.out _ _ (by simp only [Act.put, List.setIfInBounds_toArray, List.set_cons_zero, List.set_cons_succ]; rfl) (by (repeat' (first | (with_reducible exact Below.refl _ _) | (with_reducible refine Below.alloc ?_ ?_ _) | (with_reducible refine Below.setCell ?_ ?_ _) | (with_reducible refine Below.drew ?_) | (with_reducible refine below_drewN' ?_) | (with_reducible refine below_bytesW ?_ ?_) | (with_reducible refine Below.trans ?_ (Below.mono (by assumption) ?_)) | omega | (simp only [World.size_alloc, World.size_setCell, World.size_drew]; omega) | (simp [size_bytesW]; omega) | (simp; omega)))) (by (show LV _ _ _); unfold LV outOf; go_simp; exact rfl)
      refine LinStepsF.cons (fun u wx hbx hd K hK => ?_) ?_
      · have e0 : u 0 = _ := (show LV _ (u 0) wx from hd.out 0 (by kernel_rfl))
        (have hcb : wx.cell? ⟨w.heap.size, 0, none⟩ = some (.string s) := (Blk.below hbx hB1).cells 0)
        go_simp
        refine hK.out _ _ (by simp only [Act.put, List.setIfInBounds_toArray, List.set_cons_zero, List.set_cons_succ, e0]; rfl) (by (repeat' (first | (with_reducible exact Below.refl _ _) | (with_reducible refine Below.alloc ?_ ?_ _) | (with_reducible refine Below.setCell ?_ ?_ _) | (with_reducible refine Below.drew ?_) | (with_reducible refine below_drewN' ?_) | (with_reducible refine below_bytesW ?_ ?_) | (with_reducible refine Below.trans ?_ (Below.mono (by assumption) ?_)) | omega | (simp only [World.size_alloc, World.size_setCell, World.size_drew]; omega) | (simp [size_bytesW]; omega) | (simp; omega)))) (by (show LV _ _ _); unfold LV outOf; go_simp; exact rfl)
      refine LinStepsF.cons (fun u wx hbx hd K hK => ?_) ?_
      · have e1 : u 1 = _ := (show LV _ (u 1) wx from hd.out 1 (by kernel_rfl))
        (have hcb : wx.cell? ⟨w.heap.size, 0, none⟩ = some (.string s) := (Blk.below hbx hB1).cells 0)
        go_simp
        refine hK.out _ _ (by simp only [Act.put, List.setIfInBounds_toArray, List.set_cons_zero, List.set_cons_succ, e1]; rfl) (by (repeat' (first | (with_reducible exact Below.refl _ _) | (with_reducible refine Below.alloc ?_ ?_ _) | (with_reducible refine Below.setCell ?_ ?_ _) | (with_reducible refine Below.drew ?_) | (with_reducible refine below_drewN' ?_) | (with_reducible refine below_bytesW ?_ ?_) | (with_reducible refine Below.trans ?_ (Below.mono (by assumption) ?_)) | omega | (simp only [World.size_alloc, World.size_setCell, World.size_drew]; omega) | (simp [size_bytesW]; omega) | (simp; omega)))) (by (show LV _ _ _); unfold LV outOf; go_simp; exact rfl)
      refine LinStepsF.cons (fun u wx hbx hd K hK => ?_) ?_
      · (have hcb : wx.cell? ⟨w.heap.size, 0, none⟩ = some (.string s) := (Blk.below hbx hB1).cells 0)
        go_simp
        refine hK.out _ _ (by simp only [Act.put, List.setIfInBounds_toArray, List.set_cons_zero, List.set_cons_succ]; rfl) (by (repeat' (first | (with_reducible exact Below.refl _ _) | (with_reducible refine Below.alloc ?_ ?_ _) | (with_reducible refine Below.setCell ?_ ?_ _) | (with_reducible refine Below.drew ?_) | (with_reducible refine below_drewN' ?_) | (with_reducible refine below_bytesW ?_ ?_) | (with_reducible refine Below.trans ?_ (Below.mono (by assumption) ?_)) | omega | (simp only [World.size_alloc, World.size_setCell, World.size_drew]; omega) | (simp [size_bytesW]; omega) | (simp; omega)))) (by (show LV _ _ _); unfold LV outOf; go_simp; exact rfl)
      refine LinStepsF.cons (fun u wx hbx hd K hK => ?_) ?_
      · have e3 : u 3 = _ := (show LV _ (u 3) wx from hd.out 3 (by kernel_rfl))
        (have hcb : wx.cell? ⟨w.heap.size, 0, none⟩ = some (.string s) := (Blk.below hbx hB1).cells 0)
        go_simp
        refine hK.out _ _ (by simp only [Act.put, List.setIfInBounds_toArray, List.set_cons_zero, List.set_cons_succ, e3]; rfl) (by (repeat' (first | (with_reducible exact Below.refl _ _) | (with_reducible refine Below.alloc ?_ ?_ _) | (with_reducible refine Below.setCell ?_ ?_ _) | (with_reducible refine Below.drew ?_) | (with_reducible refine below_drewN' ?_) | (with_reducible refine below_bytesW ?_ ?_) | (with_reducible refine Below.trans ?_ (Below.mono (by assumption) ?_)) | omega | (simp only [World.size_alloc, World.size_setCell, World.size_drew]; omega) | (simp [size_bytesW]; omega) | (simp; omega)))) (by (show LV _ _ _); unfold LV outOf; go_simp; exact rfl)
      refine LinStepsF.cons (fun u wx hbx hd K hK => ?_) ?_
      · have e4 : u 4 = _ := (show LV _ (u 4) wx from hd.out 4 (by kernel_rfl))
        (have hcb : wx.cell? ⟨w.heap.size, 0, none⟩ = some (.string s) := (Blk.below hbx hB1).cells 0)
        go_simp
        refine hK.out _ _ (by simp only [Act.put, List.setIfInBounds_toArray, List.set_cons_zero, List.set_cons_succ, e4]; rfl) (by (repeat' (first | (with_reducible exact Below.refl _ _) | (with_reducible refine Below.alloc ?_ ?_ _) | (with_reducible refine Below.setCell ?_ ?_ _) | (with_reducible refine Below.drew ?_) | (with_reducible refine below_drewN' ?_) | (with_reducible refine below_bytesW ?_ ?_) | (with_reducible refine Below.trans ?_ (Below.mono (by assumption) ?_)) | omega | (simp only [World.size_alloc, World.size_setCell, World.size_drew]; omega) | (simp [size_bytesW]; omega) | (simp; omega)))) (by (show LV _ _ _); unfold LV outOf; go_simp; exact rfl)
      refine LinStepsF.cons (fun u wx hbx hd K hK => ?_) ?_
      · have e0 : u 0 = _ := (show LV _ (u 0) wx from hd.out 0 (by kernel_rfl))
        have e1 : u 1 = _ := (show LV _ (u 1) wx from hd.out 1 (by kernel_rfl))
        have e2 : u 2 = _ := (show LV _ (u 2) wx from hd.out 2 (by kernel_rfl))
        (have hcb : wx.cell? ⟨w.heap.size, 0, none⟩ = some (.string s) := (Blk.below hbx hB1).cells 0)
        go_simp
        refine hK.out _ _ (by simp only [Act.put, List.setIfInBounds_toArray, List.set_cons_zero, List.set_cons_succ, e0, e1, e2]; rfl) (by (repeat' (first | (with_reducible exact Below.refl _ _) | (with_reducible refine Below.alloc ?_ ?_ _) | (with_reducible refine Below.setCell ?_ ?_ _) | (with_reducible refine Below.drew ?_) | (with_reducible refine below_drewN' ?_) | (with_reducible refine below_bytesW ?_ ?_) | (with_reducible refine Below.trans ?_ (Below.mono (by assumption) ?_)) | omega | (simp only [World.size_alloc, World.size_setCell, World.size_drew]; omega) | (simp [size_bytesW]; omega) | (simp; omega)))) (by (show LV _ _ _); unfold LV outOf; go_simp; exact rfl)
      refine LinStepsF.cons (fun u wx hbx hd K hK => ?_) ?_
      · have e0 : u 0 = _ := (show LV _ (u 0) wx from hd.out 0 (by kernel_rfl))
        have e1 : u 1 = _ := (show LV _ (u 1) wx from hd.out 1 (by kernel_rfl))
        have e2 : u 2 = _ := (show LV _ (u 2) wx from hd.out 2 (by kernel_rfl))
        have e3 : u 3 = _ := (show LV _ (u 3) wx from hd.out 3 (by kernel_rfl))
        have e4 : u 4 = _ := (show LV _ (u 4) wx from hd.out 4 (by kernel_rfl))
        have e5 : u 5 = _ := (show LV _ (u 5) wx from hd.out 5 (by kernel_rfl))
        have e6 : u 6 = _ := (show LV _ (u 6) wx from hd.out 6 (by kernel_rfl))
        (have hcb : wx.cell? ⟨w.heap.size, 0, none⟩ = some (.string s) := (Blk.below hbx hB1).cells 0)
        go_simp
        refine hK.out _ _ (by simp only [Act.put, List.setIfInBounds_toArray, List.set_cons_zero, List.set_cons_succ, e0, e1, e2, e3, e4, e5, e6]; rfl) (by (repeat' (first | (with_reducible exact Below.refl _ _) | (with_reducible refine Below.alloc ?_ ?_ _) | (with_reducible refine Below.setCell ?_ ?_ _) | (with_reducible refine Below.drew ?_) | (with_reducible refine below_drewN' ?_) | (with_reducible refine below_bytesW ?_ ?_) | (with_reducible refine Below.trans ?_ (Below.mono (by assumption) ?_)) | omega | (simp only [World.size_alloc, World.size_setCell, World.size_drew]; omega) | (simp [size_bytesW]; omega) | (simp; omega)))) (by (show LV _ _ _); unfold LV outOf; go_simp; exact rfl)
      exact LinStepsF.nil
    · intro u wx hbx hall
      have e3 : u 6 = _ := (show LV _ (u 6) wx from hall.out 6 (by decide))
      have e7 : u 7 = _ := (show LV _ (u 7) wx from hall.out 7 (by decide))
      have hBa := Blk.below hbx hB1
      have hBb := Blk.below hbx hB2
      have hbel2 := hbel1.trans (hbx.mono hbel1.size)
      rw [e3, e7]
      clear w0 w32 e3 e7 hall hB1 hB2 hbel1 hbx
      have hc1 : wx.cell? ⟨w.heap.size, 0, none⟩ = some (.string s) := hBa.cells 0
      go_upto_region 4 with fail
      go_cut [5, 6, 43] (fun va vb v wy => va = .int .i64 (bt s 0) ∧ vb = .int .i64 (bt s 32) ∧ v = .bool (!goodR s) ∧ wx = wy)
      case first =>
        go_wp2_with (first | (go_at_call 112; (with_reducible refine (padded_i _ (by omega) _).mono ?_); rintro e w' ⟨rfl, rfl⟩))
        all_goals
          go_meet
          exact ⟨by first | rfl | simp [*], by first | rfl | simp [*], vbool (by unfold goodR; rw [Bool.eq_iff_iff]; simp [*] <;> omega), rfl⟩
      case rest =>
      obtain ⟨rfl, rfl, rfl, rfl⟩ := hcut
      have hf2 : ∀ o, wx.frozen? ⟨w.heap.size + 1, o, none⟩ = false := hBb.free
      have hcz := hBb.cells
      cases hgd : goodR s
      case false =>
        have hD := hide (decR_bad1 HS.out (of_decide_eq_false hgd))
        go_wp2_with fail
        ((try simp only [Exit.inBlock, Exit.then]); refine bodyPost_ret (by simp only [results, Tryz.results57]; go_simp; try rfl) rfl ?_)
        exact DecP.mk hD.out rfl (by (repeat' (first | (with_reducible exact Below.refl _ _) | (with_reducible refine Below.alloc ?_ ?_ _) | (with_reducible refine Below.setCell ?_ ?_ _) | (with_reducible refine Below.drew ?_) | (with_reducible refine below_drewN' ?_) | (with_reducible refine below_bytesW ?_ ?_) | (with_reducible refine Below.trans ?_ (Below.mono (by assumption) ?_)) | omega | (simp only [World.size_alloc, World.size_setCell, World.size_drew]; omega) | (simp [size_bytesW]; omega) | (simp; omega))))
      case true =>
      obtain ⟨g0, g1⟩ := of_decide_eq_true hgd
      have HD := hide (decR_good1 HS.out g0 g1)
      rw [g0, g1]
      go_upto_region 6 with fail
      have n1 : 1 < s.size := by omega
      have n26 : 26 < s.size := by omega
      have n27 : 27 < s.size := by omega
      have i1 : (1 : Int) < (s.size : Int) := by omega
      have i26 : (26 : Int) < (s.size : Int) := by omega
      have i27 : (27 : Int) < (s.size : Int) := by omega
      go_cut [57] (fun v wy => v = .bool (oddR s) ∧ wx = wy)
      case first =>
        clear g0 g1 hgd
        go_wp2_with fail
        all_goals
          go_meet
          exact ⟨vbool (by unfold oddR; rw [Bool.eq_iff_iff]; simp [*]), rfl⟩
      case rest =>
      obtain ⟨rfl, rfl⟩ := hcut
      have HD1 := HD.out
      cases hod : oddR s
      case true =>
        rw [if_pos (of_decide_eq_true hod)] at HD1
        have hD := hide HD1
        clear HD1 HD g0 g1 hgd
        go_wp2_with fail
        ((try simp only [Exit.inBlock, Exit.then]); refine bodyPost_ret (by simp only [results, Tryz.results57]; go_simp; try rfl) rfl ?_)
        exact DecP.mk hD.out rfl (by (repeat' (first | (with_reducible exact Below.refl _ _) | (with_reducible refine Below.alloc ?_ ?_ _) | (with_reducible refine Below.setCell ?_ ?_ _) | (with_reducible refine Below.drew ?_) | (with_reducible refine below_drewN' ?_) | (with_reducible refine below_bytesW ?_ ?_) | (with_reducible refine Below.trans ?_ (Below.mono (by assumption) ?_)) | omega | (simp only [World.size_alloc, World.size_setCell, World.size_drew]; omega) | (simp [size_bytesW]; omega) | (simp; omega))))
      case false =>
      rw [if_neg (of_decide_eq_false hod)] at HD1
      have RRX := hide (fun W => rrT_any (s.extract 18 25) W)
      have HD2 := hide HD1
      have HL : Live wx [w.heap.size, w.heap.size + 1] := ⟨hBa.lt, hBb.lt, trivial⟩
      clear HD1 HD g0 g1 hgd n1 n26 n27 i1 i26 i27 hf2 hcz
      go_wp2_with fail
      refine (RRX.out _).mono ?_
      rintro e W2 ⟨rfl, hb2⟩
      have hBa2 := Blk.below hb2 hBa
      have hBb2 := Blk.below hb2 hBb
      have hbel3 := hbel2.trans (hb2.mono hbel2.size)
      clear hb2 hBa hBb hbel2 hc1 HL
      have hf2 : ∀ o, W2.frozen? ⟨w.heap.size + 1, o, none⟩ = false := hBb2.free
      have hcz := hBb2.cells
      cases her : decide ((rrT (s.extract 18 25)).2.2 = 0)
      case false =>
        have hne := of_decide_eq_false her
        have HD3 := HD2.out
        rw [if_pos hne] at HD3
        have hD := hide HD3
        have q1 : ((rrT (s.extract 18 25)).2.2 != 0) = true := by simpa using hne
        clear HD3 her
        generalize (rrT (s.extract 18 25)).2.2 = er at *
        go_wp2_with fail
        ((try simp only [Exit.inBlock, Exit.then]); refine bodyPost_ret (by simp only [results, Tryz.results57]; go_simp; try rfl) rfl ?_)
        exact DecP.mk hD.out rfl (by (repeat' (first | (with_reducible exact Below.refl _ _) | (with_reducible refine Below.alloc ?_ ?_ _) | (with_reducible refine Below.setCell ?_ ?_ _) | (with_reducible refine Below.drew ?_) | (with_reducible refine below_drewN' ?_) | (with_reducible refine below_bytesW ?_ ?_) | (with_reducible refine Below.trans ?_ (Below.mono (by assumption) ?_)) | omega | (simp only [World.size_alloc, World.size_setCell, World.size_drew]; omega) | (simp [size_bytesW]; omega) | (simp; omega))))
      case true =>
      have heq := of_decide_eq_true her
      have HD3 := HD2.out
      rw [if_neg (by rw [heq]; simp)] at HD3
      rw [show s.extract 34 34 = ByteArray.empty by simp] at HD3
      have hD := hide HD3
      rw [heq]
      clear HD3 her heq HD2 RRX
      go_upto_region 12 with fail
      have NA : Hid (∀ W : World, W.cell? ⟨w.heap.size, 0, none⟩ = some (.string s) → Calls Tryz.prog 114 #[.int .i64 2, .int .i64 4, .pointer (some ⟨w.heap.size, 0, none⟩)] W fun e w' => e = .returned (.int .i64 (le4 s 2)) ∧ W = w') := hide (fun W hW => num4_any s w.heap.size 2 (by omega) (by omega) W hW)
      have NB : Hid (∀ W : World, W.cell? ⟨w.heap.size, 0, none⟩ = some (.string s) → Calls Tryz.prog 114 #[.int .i64 10, .int .i64 4, .pointer (some ⟨w.heap.size, 0, none⟩)] W fun e w' => e = .returned (.int .i64 (le4 s 10)) ∧ W = w') := hide (fun W hW => num4_any s w.heap.size 10 (by omega) (by omega) W hW)
      have NC : Hid (∀ W : World, W.cell? ⟨w.heap.size, 0, none⟩ = some (.string s) → Calls Tryz.prog 114 #[.int .i64 28, .int .i64 2, .pointer (some ⟨w.heap.size, 0, none⟩)] W fun e w' => e = .returned (.int .i64 (le2 s 28)) ∧ W = w') := hide (fun W hW => num2_any s w.heap.size 28 (by omega) (by omega) W hW)
      have PD := hide padded_1
      have n25 : 25 < s.size := by omega
      have w34 : IntKind.i64.wrap (33 + 1) = 34 := by decide
      have w34b : IntKind.i64.wrap 34 = 34 := by decide
      have i25 : (25 : Int) < (s.size : Int) := by omega
      have w25 : IntKind.i64.wrap (bt s 25) = bt s 25 := IntWalk.i64_in _ (by omega)
      have hcb : W2.cell? ⟨w.heap.size, 0, none⟩ = some (.string s) := hBa2.cells 0
      refine wp_region_noPanic ?_
      refine wp_region_held_drew (S := (fun x => x.cell? ⟨w.heap.size, 0, none⟩ = some (.string s) ∧ True)) (by kernel_rfl) (by (try dsimp only); first | with_reducible assumption | (simp [*, go_sem]; done) | (refine ⟨?_, ?_⟩ <;> simp [*, go_sem])) (fun hHeld => ?_)
      refine wpAnyH_take (i := 0) (oi := { dst := some 71, op := Go.Op.load 9 (Go.Operand.tmp 1), type := 9, pos := "dirrecord.go:89", after := #[], guard := none }) (v := ?_) rfl (by kernel_rfl) (by kernel_rfl) (by kernel_rfl) (fun _ _ _ h => h) (Or.inl ⟨by rfl, ?_⟩) (by assumption) ?_
      rotate_left
      · intro w hSw; (try dsimp only at hSw); go_simp; (try with_reducible rfl)
      try simp only [Act.put, List.setIfInBounds_toArray, List.set_cons_zero, List.set_cons_succ]
      refine wpAnyH_take (i := 1) (oi := { dst := some 72, op := Go.Op.move (Go.Operand.tmp 6), type := 3, pos := "dirrecord.go:89", after := #[], guard := none }) (v := ?_) rfl (by kernel_rfl) (by kernel_rfl) (by kernel_rfl) (fun _ _ _ h => h) (Or.inl ⟨by rfl, ?_⟩) (by assumption) ?_
      rotate_left
      · intro w hSw; (try dsimp only at hSw); go_simp; (try with_reducible rfl)
      try simp only [Act.put, List.setIfInBounds_toArray, List.set_cons_zero, List.set_cons_succ]
      refine wpAnyH_take (i := 2) (oi := { dst := some 73, op := Go.Op.binOp Go.BinOp.add 3 (Go.Operand.const (Go.Value.int Go.IntKind.i64 33)) (Go.Operand.tmp 72) 3, type := 3, pos := "dirrecord.go:89", after := #[{ on := 1, ground := Go.Ground.data }], guard := none }) (v := ?_) rfl (by kernel_rfl) (by kernel_rfl) (by kernel_rfl) (fun _ _ _ h => h) (Or.inl ⟨by rfl, ?_⟩) (by assumption) ?_
      rotate_left
      · intro w hSw; (try dsimp only at hSw); go_simp; (try with_reducible rfl)
      try simp only [Act.put, List.setIfInBounds_toArray, List.set_cons_zero, List.set_cons_succ]
      refine wpAnyH_take (i := 3) (oi := { dst := some 74, op := Go.Op.slice 9 (Go.Operand.tmp 71) (some (Go.Operand.const (Go.Value.int Go.IntKind.i64 33))) (some (Go.Operand.tmp 73)) none, type := 9, pos := "dirrecord.go:89", after := #[{ on := 0, ground := Go.Ground.data }, { on := 2, ground := Go.Ground.data }], guard := none }) (v := ?_) rfl (by kernel_rfl) (by kernel_rfl) (by kernel_rfl) (fun _ _ _ h => h) (Or.inl ⟨by rfl, ?_⟩) (by assumption) ?_
      rotate_left
      · intro w hSw; (try dsimp only at hSw); go_simp; (try with_reducible rfl)
      try simp only [Act.put, List.setIfInBounds_toArray, List.set_cons_zero, List.set_cons_succ]
      refine wpAnyH_take (i := 4) (oi := { dst := some 75, op := Go.Op.move (Go.Operand.tmp 10), type := 77, pos := "dirrecord.go:89", after := #[], guard := none }) (v := ?_) rfl (by kernel_rfl) (by kernel_rfl) (by kernel_rfl) (fun _ _ _ h => h) (Or.inl ⟨by rfl, ?_⟩) (by assumption) ?_
      rotate_left
      · intro w hSw; (try dsimp only at hSw); go_simp; (try with_reducible rfl)
      try simp only [Act.put, List.setIfInBounds_toArray, List.set_cons_zero, List.set_cons_succ]
      refine wpAnyH_take (i := 6) (oi := { dst := some 77, op := Go.Op.move (Go.Operand.tmp 10), type := 77, pos := "dirrecord.go:89", after := #[], guard := none }) (v := ?_) rfl (by kernel_rfl) (by kernel_rfl) (by kernel_rfl) (fun _ _ _ h => h) (Or.inl ⟨by rfl, ?_⟩) (by assumption) ?_
      rotate_left
      · intro w hSw; (try dsimp only at hSw); go_simp; (try with_reducible rfl)
      try simp only [Act.put, List.setIfInBounds_toArray, List.set_cons_zero, List.set_cons_succ]
      refine wpAnyH_take (i := 8) (oi := { dst := some 79, op := Go.Op.move (Go.Operand.tmp 7), type := 3, pos := "dirrecord.go:89", after := #[], guard := none }) (v := ?_) rfl (by kernel_rfl) (by kernel_rfl) (by kernel_rfl) (fun _ _ _ h => h) (Or.inl ⟨by rfl, ?_⟩) (by assumption) ?_
      rotate_left
      · intro w hSw; (try dsimp only at hSw); go_simp; (try with_reducible rfl)
      try simp only [Act.put, List.setIfInBounds_toArray, List.set_cons_zero, List.set_cons_succ]
      refine wpAnyH_take (i := 9) (oi := { dst := some 80, op := Go.Op.move (Go.Operand.tmp 8), type := 3, pos := "dirrecord.go:89", after := #[], guard := none }) (v := ?_) rfl (by kernel_rfl) (by kernel_rfl) (by kernel_rfl) (fun _ _ _ h => h) (Or.inl ⟨by rfl, ?_⟩) (by assumption) ?_
      rotate_left
      · intro w hSw; (try dsimp only at hSw); go_simp; (try with_reducible rfl)
      try simp only [Act.put, List.setIfInBounds_toArray, List.set_cons_zero, List.set_cons_succ]
      refine wpAnyH_take (i := 10) (oi := { dst := some 81, op := Go.Op.load 9 (Go.Operand.tmp 1), type := 9, pos := "dirrecord.go:89", after := #[], guard := none }) (v := ?_) rfl (by kernel_rfl) (by kernel_rfl) (by kernel_rfl) (fun _ _ _ h => h) (Or.inl ⟨by rfl, ?_⟩) (by assumption) ?_
      rotate_left
      · intro w hSw; (try dsimp only at hSw); go_simp; (try with_reducible rfl)
      try simp only [Act.put, List.setIfInBounds_toArray, List.set_cons_zero, List.set_cons_succ]
      refine wpAnyH_take (i := 11) (oi := { dst := some 82, op := Go.Op.index 9 (Go.Operand.tmp 81) (Go.Operand.const (Go.Value.int Go.IntKind.i64 25)), type := 5, pos := "dirrecord.go:89", after := #[{ on := 10, ground := Go.Ground.data }], guard := none }) (v := ?_) rfl (by kernel_rfl) (by kernel_rfl) (by kernel_rfl) (fun _ _ _ h => h) (Or.inl ⟨by rfl, ?_⟩) (by assumption) ?_
      rotate_left
      · intro w hSw; (try dsimp only at hSw); go_simp; (try with_reducible rfl)
      try simp only [Act.put, List.setIfInBounds_toArray, List.set_cons_zero, List.set_cons_succ]
      refine wpAnyH_take (i := 12) (oi := { dst := some 83, op := Go.Op.convert 5 3 (Go.Operand.tmp 82), type := 3, pos := "dirrecord.go:89", after := #[{ on := 11, ground := Go.Ground.data }], guard := none }) (v := ?_) rfl (by kernel_rfl) (by kernel_rfl) (by kernel_rfl) (fun _ _ _ h => h) (Or.inl ⟨by rfl, ?_⟩) (by assumption) ?_
      rotate_left
      · intro w hSw; (try dsimp only at hSw); go_simp; (try with_reducible rfl)
      try simp only [Act.put, List.setIfInBounds_toArray, List.set_cons_zero, List.set_cons_succ]
      refine wpAnyH_take (i := 13) (oi := { dst := some 84, op := Go.Op.move (Go.Operand.tmp 10), type := 77, pos := "dirrecord.go:89", after := #[], guard := none }) (v := ?_) rfl (by kernel_rfl) (by kernel_rfl) (by kernel_rfl) (fun _ _ _ h => h) (Or.inl ⟨by rfl, ?_⟩) (by assumption) ?_
      rotate_left
      · intro w hSw; (try dsimp only at hSw); go_simp; (try with_reducible rfl)
      try simp only [Act.put, List.setIfInBounds_toArray, List.set_cons_zero, List.set_cons_succ]
      refine wpAnyH_take (i := 15) (oi := { dst := some 86, op := Go.Op.load 9 (Go.Operand.tmp 1), type := 9, pos := "dirrecord.go:89", after := #[], guard := none }) (v := ?_) rfl (by kernel_rfl) (by kernel_rfl) (by kernel_rfl) (fun _ _ _ h => h) (Or.inl ⟨by rfl, ?_⟩) (by assumption) ?_
      rotate_left
      · intro w hSw; (try dsimp only at hSw); go_simp; (try with_reducible rfl)
      try simp only [Act.put, List.setIfInBounds_toArray, List.set_cons_zero, List.set_cons_succ]
      refine wpAnyH_take (i := 16) (oi := { dst := some 87, op := Go.Op.move (Go.Operand.tmp 6), type := 3, pos := "dirrecord.go:89", after := #[], guard := none }) (v := ?_) rfl (by kernel_rfl) (by kernel_rfl) (by kernel_rfl) (fun _ _ _ h => h) (Or.inl ⟨by rfl, ?_⟩) (by assumption) ?_
      rotate_left
      · intro w hSw; (try dsimp only at hSw); go_simp; (try with_reducible rfl)
      try simp only [Act.put, List.setIfInBounds_toArray, List.set_cons_zero, List.set_cons_succ]
      refine wpAnyH_take (i := 18) (oi := { dst := some 89, op := Go.Op.move (Go.Operand.tmp 5), type := 3, pos := "dirrecord.go:89", after := #[], guard := none }) (v := ?_) rfl (by kernel_rfl) (by kernel_rfl) (by kernel_rfl) (fun _ _ _ h => h) (Or.inl ⟨by rfl, ?_⟩) (by assumption) ?_
      rotate_left
      · intro w hSw; (try dsimp only at hSw); go_simp; (try with_reducible rfl)
      try simp only [Act.put, List.setIfInBounds_toArray, List.set_cons_zero, List.set_cons_succ]
      refine wpAnyH_take (i := 21) (oi := { dst := some 92, op := Go.Op.move (Go.Operand.tmp 5), type := 3, pos := "dirrecord.go:89", after := #[{ on := 22, ground := Go.Ground.gcOnly Go.Departure.lateStores }], guard := none }) (v := ?_) rfl (by kernel_rfl) (by kernel_rfl) (by kernel_rfl) (fun _ _ _ h => h) (Or.inl ⟨by rfl, ?_⟩) (by assumption) ?_
      rotate_left
      · intro w hSw; (try dsimp only at hSw); go_simp; (try with_reducible rfl)
      try simp only [Act.put, List.setIfInBounds_toArray, List.set_cons_zero, List.set_cons_succ]
      refine wpAnyH_ready (rs := [5]) (by kernel_rfl) (by simp) ?_
      refine AllReadyH.cons (o := { dst := some 76, op := Go.Op.call { callee := Go.Callee.value (Go.Operand.tmp 75), args := #[Go.Operand.const (Go.Value.int Go.IntKind.i64 2), Go.Operand.const (Go.Value.int Go.IntKind.i64 4)], argTypes := #[3, 3] }, type := 3, pos := "dirrecord.go:89", after := #[{ on := 4, ground := Go.Ground.data }], guard := none }) rfl (fun K hK => ?_) AllReadyH.nil
      go_simp
      (first | (go_at_call 114; (with_reducible refine (NA.out _ (by (try dsimp only); first | assumption | (simp [*, go_sem]; done))).mono ?_); rintro e w' ⟨rfl, rfl⟩) | (go_at_call 114; (with_reducible refine (NB.out _ (by (try dsimp only); first | assumption | (simp [*, go_sem]; done))).mono ?_); rintro e w' ⟨rfl, rfl⟩) | (go_at_call 114; (with_reducible refine (NC.out _ (by (try dsimp only); first | assumption | (simp [*, go_sem]; done))).mono ?_); rintro e w' ⟨rfl, rfl⟩) | (go_at_call 112; (with_reducible refine (PD.out _).mono ?_); rintro e w' ⟨rfl, rfl⟩))
      go_wp2_with fail
      refine hK.out _ _ (by (try dsimp only); first | with_reducible assumption | (simp [*, go_sem]; done) | (refine ⟨?_, ?_⟩ <;> simp [*, go_sem])) (fun hHeld => ?_)
      clear hK K
      try simp only [Act.put, List.setIfInBounds_toArray, List.set_cons_zero, List.set_cons_succ]
      refine wpAnyH_ready (rs := [7]) (by kernel_rfl) (by simp) ?_
      refine AllReadyH.cons (o := { dst := some 78, op := Go.Op.call { callee := Go.Callee.value (Go.Operand.tmp 77), args := #[Go.Operand.const (Go.Value.int Go.IntKind.i64 10), Go.Operand.const (Go.Value.int Go.IntKind.i64 4)], argTypes := #[3, 3] }, type := 3, pos := "dirrecord.go:89", after := #[{ on := 6, ground := Go.Ground.data }, { on := 5, ground := Go.Ground.chain }], guard := none }) rfl (fun K hK => ?_) AllReadyH.nil
      go_simp
      (first | (go_at_call 114; (with_reducible refine (NA.out _ (by (try dsimp only); first | assumption | (simp [*, go_sem]; done))).mono ?_); rintro e w' ⟨rfl, rfl⟩) | (go_at_call 114; (with_reducible refine (NB.out _ (by (try dsimp only); first | assumption | (simp [*, go_sem]; done))).mono ?_); rintro e w' ⟨rfl, rfl⟩) | (go_at_call 114; (with_reducible refine (NC.out _ (by (try dsimp only); first | assumption | (simp [*, go_sem]; done))).mono ?_); rintro e w' ⟨rfl, rfl⟩) | (go_at_call 112; (with_reducible refine (PD.out _).mono ?_); rintro e w' ⟨rfl, rfl⟩))
      go_wp2_with fail
      refine hK.out _ _ (by (try dsimp only); first | with_reducible assumption | (simp [*, go_sem]; done) | (refine ⟨?_, ?_⟩ <;> simp [*, go_sem])) (fun hHeld => ?_)
      clear hK K
      try simp only [Act.put, List.setIfInBounds_toArray, List.set_cons_zero, List.set_cons_succ]
      refine wpAnyH_ready (rs := [14]) (by kernel_rfl) (by simp) ?_
      refine AllReadyH.cons (o := { dst := some 85, op := Go.Op.call { callee := Go.Callee.value (Go.Operand.tmp 84), args := #[Go.Operand.const (Go.Value.int Go.IntKind.i64 28), Go.Operand.const (Go.Value.int Go.IntKind.i64 2)], argTypes := #[3, 3] }, type := 3, pos := "dirrecord.go:89", after := #[{ on := 13, ground := Go.Ground.data }, { on := 7, ground := Go.Ground.chain }], guard := none }) rfl (fun K hK => ?_) AllReadyH.nil
      go_simp
      (first | (go_at_call 114; (with_reducible refine (NA.out _ (by (try dsimp only); first | assumption | (simp [*, go_sem]; done))).mono ?_); rintro e w' ⟨rfl, rfl⟩) | (go_at_call 114; (with_reducible refine (NB.out _ (by (try dsimp only); first | assumption | (simp [*, go_sem]; done))).mono ?_); rintro e w' ⟨rfl, rfl⟩) | (go_at_call 114; (with_reducible refine (NC.out _ (by (try dsimp only); first | assumption | (simp [*, go_sem]; done))).mono ?_); rintro e w' ⟨rfl, rfl⟩) | (go_at_call 112; (with_reducible refine (PD.out _).mono ?_); rintro e w' ⟨rfl, rfl⟩))
      go_wp2_with fail
      refine hK.out _ _ (by (try dsimp only); first | with_reducible assumption | (simp [*, go_sem]; done) | (refine ⟨?_, ?_⟩ <;> simp [*, go_sem])) (fun hHeld => ?_)
      clear hK K
      try simp only [Act.put, List.setIfInBounds_toArray, List.set_cons_zero, List.set_cons_succ]
      refine wpAnyH_ready (rs := [17]) (by kernel_rfl) (by simp) ?_
      refine AllReadyH.cons (o := { dst := some 88, op := Go.Op.call { callee := Go.Callee.value (Go.Operand.func 112), args := #[Go.Operand.tmp 87], argTypes := #[3] }, type := 3, pos := "dirrecord.go:89", after := #[{ on := 16, ground := Go.Ground.data }, { on := 14, ground := Go.Ground.chain }], guard := none }) rfl (fun K hK => ?_) AllReadyH.nil
      go_simp
      (first | (go_at_call 114; (with_reducible refine (NA.out _ (by (try dsimp only); first | assumption | (simp [*, go_sem]; done))).mono ?_); rintro e w' ⟨rfl, rfl⟩) | (go_at_call 114; (with_reducible refine (NB.out _ (by (try dsimp only); first | assumption | (simp [*, go_sem]; done))).mono ?_); rintro e w' ⟨rfl, rfl⟩) | (go_at_call 114; (with_reducible refine (NC.out _ (by (try dsimp only); first | assumption | (simp [*, go_sem]; done))).mono ?_); rintro e w' ⟨rfl, rfl⟩) | (go_at_call 112; (with_reducible refine (PD.out _).mono ?_); rintro e w' ⟨rfl, rfl⟩))
      go_wp2_with fail
      refine hK.out _ _ (by (try dsimp only); first | with_reducible assumption | (simp [*, go_sem]; done) | (refine ⟨?_, ?_⟩ <;> simp [*, go_sem])) (fun hHeld => ?_)
      clear hK K
      try simp only [Act.put, List.setIfInBounds_toArray, List.set_cons_zero, List.set_cons_succ]
      refine wpAnyH_take (i := 19) (oi := { dst := some 90, op := Go.Op.slice 9 (Go.Operand.tmp 86) (some (Go.Operand.tmp 88)) (some (Go.Operand.tmp 89)) none, type := 9, pos := "dirrecord.go:89", after := #[{ on := 15, ground := Go.Ground.data }, { on := 17, ground := Go.Ground.data }, { on := 18, ground := Go.Ground.data }], guard := none }) (v := ?_) rfl (by kernel_rfl) (by kernel_rfl) (by kernel_rfl) (fun _ _ _ h => h) (Or.inl ⟨by rfl, ?_⟩) (by assumption) ?_
      rotate_left
      · intro w hSw; (try dsimp only at hSw); go_simp; (try with_reducible rfl)
      try simp only [Act.put, List.setIfInBounds_toArray, List.set_cons_zero, List.set_cons_succ]
      refine wpAnyH_take (i := 20) (oi := { dst := some 91, op := Go.Op.build 25 #[(0, Go.Operand.tmp 74), (1, Go.Operand.tmp 76), (2, Go.Operand.tmp 78), (3, Go.Operand.tmp 79), (4, Go.Operand.tmp 80), (5, Go.Operand.tmp 83), (6, Go.Operand.tmp 85), (7, Go.Operand.tmp 90)], type := 25, pos := "dirrecord.go:89", after := #[{ on := 3, ground := Go.Ground.data }, { on := 5, ground := Go.Ground.data }, { on := 7, ground := Go.Ground.data }, { on := 8, ground := Go.Ground.data }, { on := 9, ground := Go.Ground.data }, { on := 12, ground := Go.Ground.data }, { on := 14, ground := Go.Ground.data }, { on := 19, ground := Go.Ground.data }], guard := none }) (v := ?_) rfl (by kernel_rfl) (by kernel_rfl) (by kernel_rfl) (fun _ _ _ h => h) (Or.inl ⟨by rfl, ?_⟩) (by assumption) ?_
      rotate_left
      · intro w hSw; (try dsimp only at hSw); go_simp; (try with_reducible rfl)
      try simp only [Act.put, List.setIfInBounds_toArray, List.set_cons_zero, List.set_cons_succ]
      refine wpAnyH_ready (rs := [22]) (by kernel_rfl) (by simp) ?_
      refine AllReadyH.cons (o := { dst := none, op := Go.Op.store 25 (Go.Operand.tmp 2) (Go.Operand.tmp 91), type := 0, pos := "dirrecord.go:89", after := #[{ on := 20, ground := Go.Ground.data }, { on := 17, ground := Go.Ground.chain }, { on := 0, ground := Go.Ground.phase }, { on := 1, ground := Go.Ground.phase }, { on := 2, ground := Go.Ground.phase }, { on := 3, ground := Go.Ground.phase }, { on := 4, ground := Go.Ground.phase }, { on := 5, ground := Go.Ground.phase }, { on := 6, ground := Go.Ground.phase }, { on := 7, ground := Go.Ground.phase }, { on := 8, ground := Go.Ground.phase }, { on := 9, ground := Go.Ground.phase }, { on := 10, ground := Go.Ground.phase }, { on := 11, ground := Go.Ground.phase }, { on := 12, ground := Go.Ground.phase }, { on := 13, ground := Go.Ground.phase }, { on := 14, ground := Go.Ground.phase }, { on := 15, ground := Go.Ground.phase }, { on := 16, ground := Go.Ground.phase }, { on := 17, ground := Go.Ground.phase }, { on := 18, ground := Go.Ground.phase }, { on := 19, ground := Go.Ground.phase }, { on := 20, ground := Go.Ground.phase }, { on := 21, ground := Go.Ground.textOnly Go.Departure.lateStores }], guard := none }) rfl (fun K hK => ?_) AllReadyH.nil
      go_simp
      refine hK.out _ _ (by (try dsimp only); first | with_reducible assumption | (simp [*, go_sem]; done) | (refine ⟨?_, ?_⟩ <;> simp [*, go_sem])) (fun hHeld => ?_)
      clear hK K
      try simp only [Act.put, List.setIfInBounds_toArray, List.set_cons_zero, List.set_cons_succ]
      refine wpAnyH_take (i := 23) (oi := { dst := some 3, op := Go.Op.assign (Go.Operand.tmp 92), type := 3, pos := "dirrecord.go:89", after := #[{ on := 21, ground := Go.Ground.data }, { on := 22, ground := Go.Ground.chain }, { on := 0, ground := Go.Ground.phase }, { on := 1, ground := Go.Ground.phase }, { on := 2, ground := Go.Ground.phase }, { on := 3, ground := Go.Ground.phase }, { on := 4, ground := Go.Ground.phase }, { on := 5, ground := Go.Ground.phase }, { on := 6, ground := Go.Ground.phase }, { on := 7, ground := Go.Ground.phase }, { on := 8, ground := Go.Ground.phase }, { on := 9, ground := Go.Ground.phase }, { on := 10, ground := Go.Ground.phase }, { on := 11, ground := Go.Ground.phase }, { on := 12, ground := Go.Ground.phase }, { on := 13, ground := Go.Ground.phase }, { on := 14, ground := Go.Ground.phase }, { on := 15, ground := Go.Ground.phase }, { on := 16, ground := Go.Ground.phase }, { on := 17, ground := Go.Ground.phase }, { on := 18, ground := Go.Ground.phase }, { on := 19, ground := Go.Ground.phase }, { on := 20, ground := Go.Ground.phase }, { on := 21, ground := Go.Ground.phase }, { on := 22, ground := Go.Ground.phase }], guard := none }) (v := ?_) rfl (by kernel_rfl) (by kernel_rfl) (by kernel_rfl) (fun _ _ _ h => h) (Or.inl ⟨by rfl, ?_⟩) (by assumption) ?_
      rotate_left
      · intro w hSw; (try dsimp only at hSw); go_simp; (try with_reducible rfl)
      try simp only [Act.put, List.setIfInBounds_toArray, List.set_cons_zero, List.set_cons_succ]
      refine wpAnyH_take (i := 24) (oi := { dst := some 4, op := Go.Op.assign (Go.Operand.const (Go.Value.int Go.IntKind.i64 0)), type := 30, pos := "dirrecord.go:89", after := #[{ on := 23, ground := Go.Ground.chain }, { on := 0, ground := Go.Ground.phase }, { on := 1, ground := Go.Ground.phase }, { on := 2, ground := Go.Ground.phase }, { on := 3, ground := Go.Ground.phase }, { on := 4, ground := Go.Ground.phase }, { on := 5, ground := Go.Ground.phase }, { on := 6, ground := Go.Ground.phase }, { on := 7, ground := Go.Ground.phase }, { on := 8, ground := Go.Ground.phase }, { on := 9, ground := Go.Ground.phase }, { on := 10, ground := Go.Ground.phase }, { on := 11, ground := Go.Ground.phase }, { on := 12, ground := Go.Ground.phase }, { on := 13, ground := Go.Ground.phase }, { on := 14, ground := Go.Ground.phase }, { on := 15, ground := Go.Ground.phase }, { on := 16, ground := Go.Ground.phase }, { on := 17, ground := Go.Ground.phase }, { on := 18, ground := Go.Ground.phase }, { on := 19, ground := Go.Ground.phase }, { on := 20, ground := Go.Ground.phase }, { on := 21, ground := Go.Ground.phase }, { on := 22, ground := Go.Ground.phase }, { on := 23, ground := Go.Ground.phase }], guard := none }) (v := ?_) rfl (by kernel_rfl) (by kernel_rfl) (by kernel_rfl) (fun _ _ _ h => h) (Or.inl ⟨by rfl, ?_⟩) (by assumption) ?_
      rotate_left
      · intro w hSw; (try dsimp only at hSw); go_simp; (try with_reducible rfl)
      try simp only [Act.put, List.setIfInBounds_toArray, List.set_cons_zero, List.set_cons_succ]
      refine wpAnyH_done (by kernel_rfl) ?_ _
      refine NoPanic.normal ?_
      go_wp2_with fail
      ((try simp only [Exit.inBlock, Exit.then]); refine bodyPost_ret (by simp only [results, Tryz.results57]; go_simp; try rfl) rfl ?_)
      exact DecP.mk hD.out rfl (by (repeat' (first | (with_reducible exact Below.refl _ _) | (with_reducible refine Below.alloc ?_ ?_ _) | (with_reducible refine Below.setCell ?_ ?_ _) | (with_reducible refine Below.drew ?_) | (with_reducible refine below_drewN' ?_) | (with_reducible refine below_bytesW ?_ ?_) | (with_reducible refine Below.trans ?_ (Below.mono (by assumption) ?_)) | omega | (simp only [World.size_alloc, World.size_setCell, World.size_drew]; omega) | (simp [size_bytesW]; omega) | (simp; omega))))
end Go.Proofs.YtjbhokmkmapkoaaGreatDoor
