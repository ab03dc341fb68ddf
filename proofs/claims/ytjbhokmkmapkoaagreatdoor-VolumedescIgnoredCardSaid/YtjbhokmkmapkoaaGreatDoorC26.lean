/- Contracts and plain words for the laws of volume descriptors, part 26: I7, B7. No condition. -/
import Derived.Test.YtjbhokmkmapkoaaGreatDoorC25
import Derived.Test.YtjbhokmkmapkoaaGreatDoorC23
namespace Go.Proofs.YtjbhokmkmapkoaaGreatDoor
set_option linter.unusedSimpArgs false
set_option linter.unusedVariables false
open Go.RowKit
open Go.PlainAid (bt get_bt bt_nonneg bt_le bt_end)
def goodR (s : ByteArray) : Bool := decide (bt s 0 = 34 ∧ bt s 32 = 1)
def oddR (s : ByteArray) : Bool := decide (bt s 1 ≠ 0 ∨ bt s 26 ≠ 0 ∨ bt s 27 ≠ 0)
theorem decR_bad1 {s : ByteArray} (hs : s.size = 34) (h : ¬ (bt s 0 = 34 ∧ bt s 32 = 1)) : decR s = (Rec.zero, 0, 10) := by
  have h0 := bt_nonneg s 32
  have h1 := bt_nonneg s 0
  unfold decR
  rw [if_neg (by omega), if_pos]
  rw [hs]
  unfold padN
  omega
theorem decR_good1 {s : ByteArray} (hs : s.size = 34) (h0 : bt s 0 = 34) (h1 : bt s 32 = 1) : decR s = if bt s 1 ≠ 0 ∨ bt s 26 ≠ 0 ∨ bt s 27 ≠ 0 then (Rec.zero, 0, 14)
  else if (rrT (s.extract 18 25)).2.2 ≠ 0 then (Rec.zero, 0, (rrT (s.extract 18 25)).2.2)
  else (⟨s.extract 33 34, le4 s 2, le4 s 10, (rrT (s.extract 18 25)).1, (rrT (s.extract 18 25)).2.1, bt s 25, le2 s 28, s.extract 34 34⟩, 34, 0) := by
  have t1 : (1 : Int).toNat = 1 := rfl
  have t34 : (34 : Int).toNat = 34 := rfl
  have p1 : padN 1 = 34 := rfl
  unfold decR
  rw [if_neg (by omega), h0, h1, hs, t1, t34, p1, if_neg (by omega)]
/-- What is read as a record, its size and the error. -/
def DecP (s : ByteArray) (w : World) (e : Ending) (w' : World) : Prop := e = .returned (.tuple #[.agg (decR s).1.cells, .int .i64 (decR s).2.1, .int .i64 (decR s).2.2]) ∧ Below w.heap.size w w'
theorem DecP.mk {s : ByteArray} {w : World} {e : Ending} {w' : World} {x : Rec × Int × Int} (h : decR s = x) (he : e = .returned (.tuple #[.agg x.1.cells, .int .i64 x.2.1, .int .i64 x.2.2])) (hb : Below w.heap.size w w') : DecP s w e w' := by
  unfold DecP; rw [h]; exact ⟨he, hb⟩
theorem padded_i (n : Int) (h : 0 ≤ n ∧ n ≤ 255) (w : World) : Calls Tryz.prog 112 #[.int .i64 n] w fun e w' => e = .returned (.int .i64 ((34 + n) / 2 * 2)) ∧ w = w' := by
  have HL : Live w [] := trivial
  go_enter Tryz.func112, Tryz.ntmps112
  go_wp2
  go_ret
  exact ⟨ret_i (by omega), rfl⟩
theorem padded_1 (w : World) : Calls Tryz.prog 112 #[.int .i64 1] w fun e w' => e = .returned (.int .i64 34) ∧ w = w' := padded_i 1 (by omega) w
set_option maxHeartbeats 400000 in
theorem num4_any (s : ByteArray) (b p : Nat) (hs : s.size ≤ 100000) (hp : p + 4 ≤ s.size) (w : World) (hc : w.cell? ⟨b, 0, none⟩ = some (.string s)) : Calls Tryz.prog 114 #[.int .i64 p, .int .i64 4, .pointer (some ⟨b, 0, none⟩)] w fun e w' => e = .returned (.int .i64 (le4 s p)) ∧ w = w' := by
  have L4 := hide (fun W => readL4 s p hs hp W)
  have HL : Live w [] := trivial
  go_enter Tryz.func114, Tryz.ntmps114
  go_wp2_with (first | (go_at_call 53; (with_reducible refine (L4.out _).mono ?_); rintro e w' ⟨rfl, rfl⟩))
  go_ret
  exact ⟨rfl, rfl⟩
set_option maxHeartbeats 400000 in
theorem num2_any (s : ByteArray) (b p : Nat) (hs : s.size ≤ 100000) (hp : p + 2 ≤ s.size) (w : World) (hc : w.cell? ⟨b, 0, none⟩ = some (.string s)) : Calls Tryz.prog 114 #[.int .i64 p, .int .i64 2, .pointer (some ⟨b, 0, none⟩)] w fun e w' => e = .returned (.int .i64 (le2 s p)) ∧ w = w' := by
  have L4 := hide (fun W => readL2 s p hs hp W)
  have HL : Live w [] := trivial
  go_enter Tryz.func114, Tryz.ntmps114
  go_wp2_with (first | (go_at_call 53; (with_reducible refine (L4.out _).mono ?_); rintro e w' ⟨rfl, rfl⟩))
  go_ret
  exact ⟨rfl, rfl⟩
set_option maxRecDepth 100000 in
set_option maxHeartbeats 8000000 in
theorem dirDec_any (s : ByteArray) (hs : s.size = 34) (w : World) : Calls Tryz.prog 57 #[.string s] w (DecP s w) := by
  have HS := hide hs
  have z1 : (34 : Int) ≤ (s.size : Int) := by omega
  have z2 : (s.size : Int) ≤ 34 := by omega
  have z3 : 34 ≤ s.size := by omega
  have n0 : 0 < s.size := by omega
  have n32 : 32 < s.size := by omega
  have i0 : (0 : Int) < (s.size : Int) := by omega
  have i32 : (32 : Int) < (s.size : Int) := by omega
  have b0 := bt_nonneg s 0
  have b1 := bt_le s 0
  have b2 := bt_nonneg s 32
  have b3 := bt_le s 32
  have b4 := bt_nonneg s 25
  have b5 := bt_le s 25
  clear hs
  have hbb := get_bt s
  have HL : Live w [] := trivial
  go_enter Tryz.func57, Tryz.ntmps57
  go_upto_region 3 with fail
  have hB1 : Blk ((w.alloc (.cells #[.string s] 9)).alloc (.cells #[.string ⟨#[]⟩, .int .i64 0, .int .i64 0, .int .i64 0, .int .i64 0, .int .i64 0, .int .i64 0, .string ⟨#[]⟩] 25)) w.heap.size #[.string s] 9 := (Blk.newAt rfl).alloc _
  have hB2 : Blk ((w.alloc (.cells #[.string s] 9)).alloc (.cells #[.string ⟨#[]⟩, .int .i64 0, .int .i64 0, .int .i64 0, .int .i64 0, .int .i64 0, .int .i64 0, .string ⟨#[]⟩] 25)) (w.heap.size + 1) #[.string ⟨#[]⟩, .int .i64 0, .int .i64 0, .int .i64 0, .int .i64 0, .int .i64 0, .int .i64 0, .string ⟨#[]⟩] 25 := Blk.newAt (by simp)
  have hbel1 : Below w.heap.size w ((w.alloc (.cells #[.string s] 9)).alloc (.cells #[.string ⟨#[]⟩, .int .i64 0, .int .i64 0, .int .i64 0, .int .i64 0, .int .i64 0, .int .i64 0, .string ⟨#[]⟩] 25)) := by (exact bl)
  generalize (w.alloc (.cells #[.string s] 9)).alloc (.cells #[.string ⟨#[]⟩, .int .i64 0, .int .i64 0, .int .i64 0, .int .i64 0, .int .i64 0, .int .i64 0, .string ⟨#[]⟩] 25) = W1 at *
  have w0 : IntKind.i64.wrap (bt s 0) = bt s 0 := IntWalk.i64_in _ (by omega)
  have w32 : IntKind.i64.wrap (bt s 32) = bt s 32 := IntWalk.i64_in _ (by omega)
  refine' region_linF (RL := LV _ :: LV _ :: LV _ :: LV _ :: LV _ :: LV _ :: LV _ :: LV _ :: []) (by kernel_rfl) (by kernel_rfl) ?main
  case main =>
    refine ⟨fun u => ?_, ?_, ?_, ?_⟩
    · simp only [putsL, Act.put, List.setIfInBounds_toArray, List.set_cons_zero, List.set_cons_succ, Nat.reduceAdd]
      rfl
    · repeat (first | exact LAll.nil | refine LAll.cons (by first | exact LV.st _ | exact LB.st _ _ _ | exact LP.st _ _ | exact LT.st) ?_)
    · refine LinStepsF.cons (fun u wx hbx hd K hK => ?_) ?_
      · (have hcb : wx.cell? ⟨w.heap.size, 0, none⟩ = some (.string s) := (Blk.below hbx hB1).cells 0)
        go_simp
        refine hK.out _ _ (by simp only [PT]; rfl) bl lvC
      refine LinStepsF.cons (fun u wx hbx hd K hK => ?_) ?_
      · have e0 : u 0 = _ := (show LV _ (u 0) wx from hd.out 0 (by kernel_rfl))
        (have hcb : wx.cell? ⟨w.heap.size, 0, none⟩ = some (.string s) := (Blk.below hbx hB1).cells 0)
        go_simp
        refine hK.out _ _ (by simp only [PT, e0]; rfl) bl lvC
      refine LinStepsF.cons (fun u wx hbx hd K hK => ?_) ?_
      · have e1 : u 1 = _ := (show LV _ (u 1) wx from hd.out 1 (by kernel_rfl))
        (have hcb : wx.cell? ⟨w.heap.size, 0, none⟩ = some (.string s) := (Blk.below hbx hB1).cells 0)
        go_simp
        refine hK.out _ _ (by simp only [PT, e1]; rfl) bl lvC
      refine LinStepsF.cons (fun u wx hbx hd K hK => ?_) ?_
      · (have hcb : wx.cell? ⟨w.heap.size, 0, none⟩ = some (.string s) := (Blk.below hbx hB1).cells 0)
        go_simp
        refine hK.out _ _ (by simp only [PT]; rfl) bl lvC
      refine LinStepsF.cons (fun u wx hbx hd K hK => ?_) ?_
      · have e3 : u 3 = _ := (show LV _ (u 3) wx from hd.out 3 (by kernel_rfl))
        (have hcb : wx.cell? ⟨w.heap.size, 0, none⟩ = some (.string s) := (Blk.below hbx hB1).cells 0)
        go_simp
        refine hK.out _ _ (by simp only [PT, e3]; rfl) bl lvC
      refine LinStepsF.cons (fun u wx hbx hd K hK => ?_) ?_
      · have e4 : u 4 = _ := (show LV _ (u 4) wx from hd.out 4 (by kernel_rfl))
        (have hcb : wx.cell? ⟨w.heap.size, 0, none⟩ = some (.string s) := (Blk.below hbx hB1).cells 0)
        go_simp
        refine hK.out _ _ (by simp only [PT, e4]; rfl) bl lvC
      refine LinStepsF.cons (fun u wx hbx hd K hK => ?_) ?_
      · have e0 : u 0 = _ := (show LV _ (u 0) wx from hd.out 0 (by kernel_rfl))
        have e1 : u 1 = _ := (show LV _ (u 1) wx from hd.out 1 (by kernel_rfl))
        have e2 : u 2 = _ := (show LV _ (u 2) wx from hd.out 2 (by kernel_rfl))
        (have hcb : wx.cell? ⟨w.heap.size, 0, none⟩ = some (.string s) := (Blk.below hbx hB1).cells 0)
        go_simp
        refine hK.out _ _ (by simp only [PT, e0, e1, e2]; rfl) bl lvC
      refine LinStepsF.cons (fun u wx hbx hd K hK => ?_) ?_
      · have e0 : u 0 = _ := (show LV _ (u 0) wx from hd.out 0 (by kernel_rfl))
        have e1 : u 1 = _ := (show LV _ (u 1) wx from hd.out 1 (by kernel_rfl))
        have e2 : u 2 = _ := (show LV _ (u 2) wx from hd.out 2 (by kernel_rfl))
        have e3 : u 3 = _ := (show LV _ (u 3) wx from hd.out 3 (by kernel_rfl))
        have e4 : u 4 = _ := (show LV _ (u 4) wx from hd.out 4 (by kernel_rfl))
        have e5 : u 5 = _ := (show LV _ (u 5) wx from hd.out 5 (by kernel_rfl))
        have e6 : u 6 = _ := (show LV _ (u 6) wx from hd.out 6 (by kernel_rfl))
        (have hcb : wx.cell? ⟨w.heap.size, 0, none⟩ = some (.string s) := (Blk.below hbx hB1).cells 0)
        go_simp
        refine hK.out _ _ (by simp only [PT, e0, e1, e2, e3, e4, e5, e6]; rfl) bl lvC
      exact LinStepsF.nil
    · intro u wx hbx hall
      have e3 : u 6 = _ := (show LV _ (u 6) wx from hall.out 6 (by decide))
      have e7 : u 7 = _ := (show LV _ (u 7) wx from hall.out 7 (by decide))
      have hBa := Blk.below hbx hB1
      have hBb := Blk.below hbx hB2
      have hbel2 := hbel1.trans (hbx.mono hbel1.size)
      rw [e3, e7]
      clear w0 w32 e3 e7 hall hB1 hB2 hbel1 hbx
      have hc1 : wx.cell? ⟨w.heap.size, 0, none⟩ = some (.string s) := hBa.cells 0
      go_upto_region 4 with fail
      go_cut [5, 6, 43] (fun va vb v wy => va = .int .i64 (bt s 0) ∧ vb = .int .i64 (bt s 32) ∧ v = .bool (!goodR s) ∧ wx = wy)
      case first =>
        go_wp2_with (first | (go_at_call 112; (with_reducible refine (padded_i _ (by omega) _).mono ?_); rintro e w' ⟨rfl, rfl⟩))
        all_goals
          go_meet
          exact ⟨by first | rfl | simp [*], by first | rfl | simp [*], vbool (by unfold goodR; rw [Bool.eq_iff_iff]; simp [*] <;> omega), rfl⟩
      case rest =>
      obtain ⟨rfl, rfl, rfl, rfl⟩ := hcut
      have hf2 : ∀ o, wx.frozen? ⟨w.heap.size + 1, o, none⟩ = false := hBb.free
      have hcz := hBb.cells
      cases hgd : goodR s
      case false =>
        have hD := hide (decR_bad1 HS.out (of_decide_eq_false hgd))
        go_wp2_with fail
        ((try simp only [Exit.inBlock, Exit.then]); refine bodyPost_ret (by simp only [results, Tryz.results57]; go_simp; try rfl) rfl ?_)
        exact DecP.mk hD.out rfl (by (exact bl))
      case true =>
      obtain ⟨g0, g1⟩ := of_decide_eq_true hgd
      have HD := hide (decR_good1 HS.out g0 g1)
      rw [g0, g1]
      go_upto_region 6 with fail
      have n1 : 1 < s.size := by omega
      have n26 : 26 < s.size := by omega
      have n27 : 27 < s.size := by omega
      have i1 : (1 : Int) < (s.size : Int) := by omega
      have i26 : (26 : Int) < (s.size : Int) := by omega
      have i27 : (27 : Int) < (s.size : Int) := by omega
      go_cut [57] (fun v wy => v = .bool (oddR s) ∧ wx = wy)
      case first =>
        clear g0 g1 hgd
        go_wp2_with fail
        all_goals
          go_meet
          exact ⟨vbool (by unfold oddR; rw [Bool.eq_iff_iff]; simp [*]), rfl⟩
      case rest =>
      obtain ⟨rfl, rfl⟩ := hcut
      have HD1 := HD.out
      cases hod : oddR s
      case true =>
        rw [if_pos (of_decide_eq_true hod)] at HD1
        have hD := hide HD1
        clear HD1 HD g0 g1 hgd
        go_wp2_with fail
        ((try simp only [Exit.inBlock, Exit.then]); refine bodyPost_ret (by simp only [results, Tryz.results57]; go_simp; try rfl) rfl ?_)
        exact DecP.mk hD.out rfl (by (exact bl))
      case false =>
      rw [if_neg (of_decide_eq_false hod)] at HD1
      have RRX := hide (fun W => rrT_any (s.extract 18 25) W)
      have HD2 := hide HD1
      have HL : Live wx [w.heap.size, w.heap.size + 1] := ⟨hBa.lt, hBb.lt, trivial⟩
      clear HD1 HD g0 g1 hgd n1 n26 n27 i1 i26 i27 hf2 hcz
      go_wp2_with fail
      refine (RRX.out _).mono ?_
      rintro e W2 ⟨rfl, hb2⟩
      have hBa2 := Blk.below hb2 hBa
      have hBb2 := Blk.below hb2 hBb
      have hbel3 := hbel2.trans (hb2.mono hbel2.size)
      clear hb2 hBa hBb hbel2 hc1 HL
      have hf2 : ∀ o, W2.frozen? ⟨w.heap.size + 1, o, none⟩ = false := hBb2.free
      have hcz := hBb2.cells
      cases her : decide ((rrT (s.extract 18 25)).2.2 = 0)
      case false =>
        have hne := of_decide_eq_false her
        have HD3 := HD2.out
        rw [if_pos hne] at HD3
        have hD := hide HD3
        have q1 : ((rrT (s.extract 18 25)).2.2 != 0) = true := by simpa using hne
        clear HD3 her
        generalize (rrT (s.extract 18 25)).2.2 = er at *
        go_wp2_with fail
        ((try simp only [Exit.inBlock, Exit.then]); refine bodyPost_ret (by simp only [results, Tryz.results57]; go_simp; try rfl) rfl ?_)
        exact DecP.mk hD.out rfl (by (exact bl))
      case true =>
      have heq := of_decide_eq_true her
      have HD3 := HD2.out
      rw [if_neg (by rw [heq]; simp)] at HD3
      rw [show s.extract 34 34 = ByteArray.empty by simp] at HD3
      have hD := hide HD3
      rw [heq]
      clear HD3 her heq HD2 RRX
      go_upto_region 12 with fail
      have NA : Hid (∀ W : World, W.cell? ⟨w.heap.size, 0, none⟩ = some (.string s) → Calls Tryz.prog 114 #[.int .i64 2, .int .i64 4, .pointer (some ⟨w.heap.size, 0, none⟩)] W fun e w' => e = .returned (.int .i64 (le4 s 2)) ∧ W = w') := hide (fun W hW => num4_any s w.heap.size 2 (by omega) (by omega) W hW)
      have NB : Hid (∀ W : World, W.cell? ⟨w.heap.size, 0, none⟩ = some (.string s) → Calls Tryz.prog 114 #[.int .i64 10, .int .i64 4, .pointer (some ⟨w.heap.size, 0, none⟩)] W fun e w' => e = .returned (.int .i64 (le4 s 10)) ∧ W = w') := hide (fun W hW => num4_any s w.heap.size 10 (by omega) (by omega) W hW)
      have NC : Hid (∀ W : World, W.cell? ⟨w.heap.size, 0, none⟩ = some (.string s) → Calls Tryz.prog 114 #[.int .i64 28, .int .i64 2, .pointer (some ⟨w.heap.size, 0, none⟩)] W fun e w' => e = .returned (.int .i64 (le2 s 28)) ∧ W = w') := hide (fun W hW => num2_any s w.heap.size 28 (by omega) (by omega) W hW)
      have PD := hide padded_1
      have n25 : 25 < s.size := by omega
      have w34 : IntKind.i64.wrap (33 + 1) = 34 := by decide
      have w34b : IntKind.i64.wrap 34 = 34 := by decide
      have i25 : (25 : Int) < (s.size : Int) := by omega
      have w25 : IntKind.i64.wrap (bt s 25) = bt s 25 := IntWalk.i64_in _ (by omega)
      have hcb : W2.cell? ⟨w.heap.size, 0, none⟩ = some (.string s) := hBa2.cells 0
      refine wp_region_noPanic ?_
      refine wp_region_held_drew (S := (fun x => x.cell? ⟨w.heap.size, 0, none⟩ = some (.string s) ∧ True)) (by kernel_rfl) kp (fun hHeld => ?_)
      refine tkY 0 ⟨some 71, .load 9 (.tmp 1), 9, "dirrecord.go:89", #[], none⟩ ?_ ?_ ?_
      rotate_left
      · intro w hSw; (try dsimp only at hSw); go_simp; (try with_reducible rfl)
      try simp only [PT]
      refine tkY 1 ⟨some 72, .move (.tmp 6), 3, "dirrecord.go:89", #[], none⟩ ?_ ?_ ?_
      rotate_left
      · intro w hSw; (try dsimp only at hSw); go_simp; (try with_reducible rfl)
      try simp only [PT]
      refine tkY 2 ⟨some 73, .binOp .add 3 (.const (.int .i64 33)) (.tmp 72) 3, 3, "dirrecord.go:89", #[⟨1, .data⟩], none⟩ ?_ ?_ ?_
      rotate_left
      · intro w hSw; (try dsimp only at hSw); go_simp; (try with_reducible rfl)
      try simp only [PT]
      refine tkY 3 ⟨some 74, .slice 9 (.tmp 71) (some (.const (.int .i64 33))) (some (.tmp 73)) none, 9, "dirrecord.go:89", #[⟨0, .data⟩, ⟨2, .data⟩], none⟩ ?_ ?_ ?_
      rotate_left
      · intro w hSw; (try dsimp only at hSw); go_simp; (try with_reducible rfl)
      try simp only [PT]
      refine tkY 4 ⟨some 75, .move (.tmp 10), 77, "dirrecord.go:89", #[], none⟩ ?_ ?_ ?_
      rotate_left
      · intro w hSw; (try dsimp only at hSw); go_simp; (try with_reducible rfl)
      try simp only [PT]
      refine tkY 6 ⟨some 77, .move (.tmp 10), 77, "dirrecord.go:89", #[], none⟩ ?_ ?_ ?_
      rotate_left
      · intro w hSw; (try dsimp only at hSw); go_simp; (try with_reducible rfl)
      try simp only [PT]
      refine tkY 8 ⟨some 79, .move (.tmp 7), 3, "dirrecord.go:89", #[], none⟩ ?_ ?_ ?_
      rotate_left
      · intro w hSw; (try dsimp only at hSw); go_simp; (try with_reducible rfl)
      try simp only [PT]
      refine tkY 9 ⟨some 80, .move (.tmp 8), 3, "dirrecord.go:89", #[], none⟩ ?_ ?_ ?_
      rotate_left
      · intro w hSw; (try dsimp only at hSw); go_simp; (try with_reducible rfl)
      try simp only [PT]
      refine tkY 10 ⟨some 81, .load 9 (.tmp 1), 9, "dirrecord.go:89", #[], none⟩ ?_ ?_ ?_
      rotate_left
      · intro w hSw; (try dsimp only at hSw); go_simp; (try with_reducible rfl)
      try simp only [PT]
      refine tkY 11 ⟨some 82, .index 9 (.tmp 81) (.const (.int .i64 25)), 5, "dirrecord.go:89", #[⟨10, .data⟩], none⟩ ?_ ?_ ?_
      rotate_left
      · intro w hSw; (try dsimp only at hSw); go_simp; (try with_reducible rfl)
      try simp only [PT]
      refine tkY 12 ⟨some 83, .convert 5 3 (.tmp 82), 3, "dirrecord.go:89", #[⟨11, .data⟩], none⟩ ?_ ?_ ?_
      rotate_left
      · intro w hSw; (try dsimp only at hSw); go_simp; (try with_reducible rfl)
      try simp only [PT]
      refine tkY 13 ⟨some 84, .move (.tmp 10), 77, "dirrecord.go:89", #[], none⟩ ?_ ?_ ?_
      rotate_left
      · intro w hSw; (try dsimp only at hSw); go_simp; (try with_reducible rfl)
      try simp only [PT]
      refine tkY 15 ⟨some 86, .load 9 (.tmp 1), 9, "dirrecord.go:89", #[], none⟩ ?_ ?_ ?_
      rotate_left
      · intro w hSw; (try dsimp only at hSw); go_simp; (try with_reducible rfl)
      try simp only [PT]
      refine tkY 16 ⟨some 87, .move (.tmp 6), 3, "dirrecord.go:89", #[], none⟩ ?_ ?_ ?_
      rotate_left
      · intro w hSw; (try dsimp only at hSw); go_simp; (try with_reducible rfl)
      try simp only [PT]
      refine tkY 18 ⟨some 89, .move (.tmp 5), 3, "dirrecord.go:89", #[], none⟩ ?_ ?_ ?_
      rotate_left
      · intro w hSw; (try dsimp only at hSw); go_simp; (try with_reducible rfl)
      try simp only [PT]
      refine tkY 21 ⟨some 92, .move (.tmp 5), 3, "dirrecord.go:89", #[⟨22, .gcOnly .lateStores⟩], none⟩ ?_ ?_ ?_
      rotate_left
      · intro w hSw; (try dsimp only at hSw); go_simp; (try with_reducible rfl)
      try simp only [PT]
      refine wpAnyH_ready (rs := [5]) (by kernel_rfl) (by simp) ?_
      refine AllReadyH.cons (o := ⟨some 76, .call ⟨.value (.tmp 75), #[.const (.int .i64 2), .const (.int .i64 4)], #[3, 3]⟩, 3, "dirrecord.go:89", #[⟨4, .data⟩], none⟩) rfl (fun K hK => ?_) AllReadyH.nil
      go_simp
      (first | (go_at_call 114; (with_reducible refine (NA.out _ (by (try dsimp only); first | assumption | (simp [*, go_sem]; done))).mono ?_); rintro e w' ⟨rfl, rfl⟩) | (go_at_call 114; (with_reducible refine (NB.out _ (by (try dsimp only); first | assumption | (simp [*, go_sem]; done))).mono ?_); rintro e w' ⟨rfl, rfl⟩) | (go_at_call 114; (with_reducible refine (NC.out _ (by (try dsimp only); first | assumption | (simp [*, go_sem]; done))).mono ?_); rintro e w' ⟨rfl, rfl⟩) | (go_at_call 112; (with_reducible refine (PD.out _).mono ?_); rintro e w' ⟨rfl, rfl⟩))
      go_wp2_with fail
      refine hK.out _ _ kp (fun hHeld => ?_)
      clear hK K
      try simp only [PT]
      refine wpAnyH_ready (rs := [7]) (by kernel_rfl) (by simp) ?_
      refine AllReadyH.cons (o := ⟨some 78, .call ⟨.value (.tmp 77), #[.const (.int .i64 10), .const (.int .i64 4)], #[3, 3]⟩, 3, "dirrecord.go:89", #[⟨6, .data⟩, ⟨5, .chain⟩], none⟩) rfl (fun K hK => ?_) AllReadyH.nil
      go_simp
      (first | (go_at_call 114; (with_reducible refine (NA.out _ (by (try dsimp only); first | assumption | (simp [*, go_sem]; done))).mono ?_); rintro e w' ⟨rfl, rfl⟩) | (go_at_call 114; (with_reducible refine (NB.out _ (by (try dsimp only); first | assumption | (simp [*, go_sem]; done))).mono ?_); rintro e w' ⟨rfl, rfl⟩) | (go_at_call 114; (with_reducible refine (NC.out _ (by (try dsimp only); first | assumption | (simp [*, go_sem]; done))).mono ?_); rintro e w' ⟨rfl, rfl⟩) | (go_at_call 112; (with_reducible refine (PD.out _).mono ?_); rintro e w' ⟨rfl, rfl⟩))
      go_wp2_with fail
      refine hK.out _ _ kp (fun hHeld => ?_)
      clear hK K
      try simp only [PT]
      refine wpAnyH_ready (rs := [14]) (by kernel_rfl) (by simp) ?_
      refine AllReadyH.cons (o := ⟨some 85, .call ⟨.value (.tmp 84), #[.const (.int .i64 28), .const (.int .i64 2)], #[3, 3]⟩, 3, "dirrecord.go:89", #[⟨13, .data⟩, ⟨7, .chain⟩], none⟩) rfl (fun K hK => ?_) AllReadyH.nil
      go_simp
      (first | (go_at_call 114; (with_reducible refine (NA.out _ (by (try dsimp only); first | assumption | (simp [*, go_sem]; done))).mono ?_); rintro e w' ⟨rfl, rfl⟩) | (go_at_call 114; (with_reducible refine (NB.out _ (by (try dsimp only); first | assumption | (simp [*, go_sem]; done))).mono ?_); rintro e w' ⟨rfl, rfl⟩) | (go_at_call 114; (with_reducible refine (NC.out _ (by (try dsimp only); first | assumption | (simp [*, go_sem]; done))).mono ?_); rintro e w' ⟨rfl, rfl⟩) | (go_at_call 112; (with_reducible refine (PD.out _).mono ?_); rintro e w' ⟨rfl, rfl⟩))
      go_wp2_with fail
      refine hK.out _ _ kp (fun hHeld => ?_)
      clear hK K
      try simp only [PT]
      refine wpAnyH_ready (rs := [17]) (by kernel_rfl) (by simp) ?_
      refine AllReadyH.cons (o := ⟨some 88, .call ⟨.value (.func 112), #[.tmp 87], #[3]⟩, 3, "dirrecord.go:89", #[⟨16, .data⟩, ⟨14, .chain⟩], none⟩) rfl (fun K hK => ?_) AllReadyH.nil
      go_simp
      (go_at_call 112; (with_reducible refine (PD.out _).mono ?_); rintro e w' ⟨rfl, rfl⟩)
      go_wp2_with fail
      refine hK.out _ _ kp (fun hHeld => ?_)
      clear hK K
      try simp only [PT]
      refine tkY 19 ⟨some 90, .slice 9 (.tmp 86) (some (.tmp 88)) (some (.tmp 89)) none, 9, "dirrecord.go:89", #[⟨15, .data⟩, ⟨17, .data⟩, ⟨18, .data⟩], none⟩ ?_ ?_ ?_
      rotate_left
      · intro w hSw; (try dsimp only at hSw); go_simp; (try with_reducible rfl)
      try simp only [PT]
      refine tkY 20 ⟨some 91, .build 25 #[(0, .tmp 74), (1, .tmp 76), (2, .tmp 78), (3, .tmp 79), (4, .tmp 80), (5, .tmp 83), (6, .tmp 85), (7, .tmp 90)], 25, "dirrecord.go:89", #[⟨3, .data⟩, ⟨5, .data⟩, ⟨7, .data⟩, ⟨8, .data⟩, ⟨9, .data⟩, ⟨12, .data⟩, ⟨14, .data⟩, ⟨19, .data⟩], none⟩ ?_ ?_ ?_
      rotate_left
      · intro w hSw; (try dsimp only at hSw); go_simp; (try with_reducible rfl)
      try simp only [PT]
      refine wpAnyH_ready (rs := [22]) (by kernel_rfl) (by simp) ?_
      refine AllReadyH.cons (o := ⟨none, .store 25 (.tmp 2) (.tmp 91), 0, "dirrecord.go:89", #[⟨20, .data⟩, ⟨17, .chain⟩, ⟨0, .phase⟩, ⟨1, .phase⟩, ⟨2, .phase⟩, ⟨3, .phase⟩, ⟨4, .phase⟩, ⟨5, .phase⟩, ⟨6, .phase⟩, ⟨7, .phase⟩, ⟨8, .phase⟩, ⟨9, .phase⟩, ⟨10, .phase⟩, ⟨11, .phase⟩, ⟨12, .phase⟩, ⟨13, .phase⟩, ⟨14, .phase⟩, ⟨15, .phase⟩, ⟨16, .phase⟩, ⟨17, .phase⟩, ⟨18, .phase⟩, ⟨19, .phase⟩, ⟨20, .phase⟩, ⟨21, .textOnly .lateStores⟩], none⟩) rfl (fun K hK => ?_) AllReadyH.nil
      go_simp
      refine hK.out _ _ kp (fun hHeld => ?_)
      clear hK K
      try simp only [PT]
      refine tkY 23 ⟨some 3, .assign (.tmp 92), 3, "dirrecord.go:89", #[⟨21, .data⟩, ⟨22, .chain⟩, ⟨0, .phase⟩, ⟨1, .phase⟩, ⟨2, .phase⟩, ⟨3, .phase⟩, ⟨4, .phase⟩, ⟨5, .phase⟩, ⟨6, .phase⟩, ⟨7, .phase⟩, ⟨8, .phase⟩, ⟨9, .phase⟩, ⟨10, .phase⟩, ⟨11, .phase⟩, ⟨12, .phase⟩, ⟨13, .phase⟩, ⟨14, .phase⟩, ⟨15, .phase⟩, ⟨16, .phase⟩, ⟨17, .phase⟩, ⟨18, .phase⟩, ⟨19, .phase⟩, ⟨20, .phase⟩, ⟨21, .phase⟩, ⟨22, .phase⟩], none⟩ ?_ ?_ ?_
      rotate_left
      · intro w hSw; (try dsimp only at hSw); go_simp; (try with_reducible rfl)
      try simp only [PT]
      refine tkY 24 ⟨some 4, .assign (.const (.int .i64 0)), 30, "dirrecord.go:89", #[⟨23, .chain⟩, ⟨0, .phase⟩, ⟨1, .phase⟩, ⟨2, .phase⟩, ⟨3, .phase⟩, ⟨4, .phase⟩, ⟨5, .phase⟩, ⟨6, .phase⟩, ⟨7, .phase⟩, ⟨8, .phase⟩, ⟨9, .phase⟩, ⟨10, .phase⟩, ⟨11, .phase⟩, ⟨12, .phase⟩, ⟨13, .phase⟩, ⟨14, .phase⟩, ⟨15, .phase⟩, ⟨16, .phase⟩, ⟨17, .phase⟩, ⟨18, .phase⟩, ⟨19, .phase⟩, ⟨20, .phase⟩, ⟨21, .phase⟩, ⟨22, .phase⟩, ⟨23, .phase⟩], none⟩ ?_ ?_ ?_
      rotate_left
      · intro w hSw; (try dsimp only at hSw); go_simp; (try with_reducible rfl)
      try simp only [PT]
      refine wpAnyH_done (by kernel_rfl) ?_ _
      refine NoPanic.normal ?_
      go_wp2_with fail
      ((try simp only [Exit.inBlock, Exit.then]); refine bodyPost_ret (by simp only [results, Tryz.results57]; go_simp; try rfl) rfl ?_)
      exact DecP.mk hD.out rfl (by (exact bl))
end Go.Proofs.YtjbhokmkmapkoaaGreatDoor
namespace Go.Proofs.YtjbhokmkmapkoaaGreatDoor
set_option linter.unusedSimpArgs false
set_option linter.unusedVariables false
open Go.RowKit
open Go.PlainAid (bt get_bt bt_nonneg bt_le bt_end)
theorem ret2_x {a b : Int} {v : Value} (h : a = b) : Ending.returned (.tuple #[.int .i64 a, v]) = .returned (.tuple #[.int .i64 b, v]) := by rw [h]
set_option maxHeartbeats 1000000 in
theorem rpart_any (s : ByteArray) (p c : Nat) (ci : Int) (hci : ci = c) (hs : s.size ≤ 100000) (h : p + c ≤ s.size) (w : World) : Calls Tryz.prog 128 #[.string s, .int .i64 p, .int .i64 ci] w fun e w' => e = .returned (.tuple #[.string (s.extract p (p + c)), .bool true]) ∧ w = w' := by
  subst hci
  have h1 : ¬ ((s.size : Int) < (p : Int)) := by omega
  have h2 : ¬ ((s.size : Int) - (p : Int) < (c : Int)) := by omega
  have h3 : (p : Int) + (c : Int) ≤ (s.size : Int) := by omega
  have HL : Live w [] := trivial
  go_enter Tryz.func128, Tryz.ntmps128
  go_wp2
  go_ret2
  exact ⟨rfl, rfl⟩
set_option maxHeartbeats 2000000 in
theorem rvalue2 (x : ByteArray) (hx : x.size = 2) (w : World) : Calls Tryz.prog 129 #[.string x] w fun e w' => e = .returned (.tuple #[.int .i64 (le2 x 0), .int .i64 0]) ∧ w = w' := by
  have hg := get_bt x
  have b0 := bt_nonneg x 0
  have c0 := bt_le x 0
  have b1 := bt_nonneg x 1
  have c1 := bt_le x 1
  have hxi : (x.size : Int) = 2 := by omega
  have HL : Live w [] := trivial
  go_enter Tryz.func129, Tryz.ntmps129
  go_wp2
  refine wp_loop_rounds 3 ?_
  repeat any_goals (rw [rounds_succ]; go_wp2)
  go_ret2
  exact ⟨ret2_x (by unfold le2; simp only [Nat.zero_add]; omega), rfl⟩
theorem le2_ext (s : ByteArray) (p : Nat) (hp : p + 2 ≤ s.size) : le2 (s.extract p (p + 2)) 0 = le2 s p := by
  unfold le2
  rw [bt_extract s p (p + 2) 0 (by omega) (by omega), bt_extract s p (p + 2) 1 (by omega) (by omega)]
  simp
theorem ext2_size (s : ByteArray) (p : Nat) (hp : p + 2 ≤ s.size) : (s.extract p (p + 2)).size = 2 := by rw [ByteArray.size_extract]; omega
set_option maxHeartbeats 1000000 in
theorem rreadL2 (s : ByteArray) (p : Nat) (hs : s.size ≤ 100000) (hp : p + 2 ≤ s.size) (w : World) : Calls Tryz.prog 119 #[.string s, .int .i64 p, .int .i64 2] w fun e w' => e = .returned (.tuple #[.int .i64 (le2 s p), .int .i64 0]) ∧ w = w' := by
  have RP2 := hide (fun W => rpart_any s p 2 2 rfl hs (by omega) W)
  have RV2 := hide (fun W => rvalue2 (s.extract p (p + 2)) (ext2_size s p hp) W)
  rw [le2_ext s p hp] at RV2
  have HL : Live w [] := trivial
  go_enter Tryz.func119, Tryz.ntmps119
  go_wp2_with (first | (go_at_call 128; (with_reducible refine (RP2.out _).mono ?_); rintro e w' ⟨rfl, rfl⟩) | (go_at_call 129; (with_reducible refine (RV2.out _).mono ?_); rintro e w' ⟨rfl, rfl⟩))
  go_ret2
  exact ⟨rfl, rfl⟩
set_option maxHeartbeats 2000000 in
theorem rvalue4 (x : ByteArray) (hx : x.size = 4) (w : World) : Calls Tryz.prog 129 #[.string x] w fun e w' => e = .returned (.tuple #[.int .i64 (le4 x 0), .int .i64 0]) ∧ w = w' := by
  have hg := get_bt x
  have b0 := bt_nonneg x 0
  have c0 := bt_le x 0
  have b1 := bt_nonneg x 1
  have c1 := bt_le x 1
  have b2 := bt_nonneg x 2
  have c2 := bt_le x 2
  have b3 := bt_nonneg x 3
  have c3 := bt_le x 3
  have hxi : (x.size : Int) = 4 := by omega
  have HL : Live w [] := trivial
  go_enter Tryz.func129, Tryz.ntmps129
  go_wp2
  refine wp_loop_rounds 5 ?_
  repeat any_goals (rw [rounds_succ]; go_wp2)
  go_ret2
  exact ⟨ret2_x (by unfold le4; simp only [Nat.zero_add]; omega), rfl⟩
theorem le4_ext (s : ByteArray) (p : Nat) (hp : p + 4 ≤ s.size) : le4 (s.extract p (p + 4)) 0 = le4 s p := by
  unfold le4
  rw [bt_extract s p (p + 4) 0 (by omega) (by omega), bt_extract s p (p + 4) 1 (by omega) (by omega), bt_extract s p (p + 4) 2 (by omega) (by omega), bt_extract s p (p + 4) 3 (by omega) (by omega)]
  simp
theorem ext4_size (s : ByteArray) (p : Nat) (hp : p + 4 ≤ s.size) : (s.extract p (p + 4)).size = 4 := by rw [ByteArray.size_extract]; omega
set_option maxHeartbeats 1000000 in
theorem rreadL4 (s : ByteArray) (p : Nat) (hs : s.size ≤ 100000) (hp : p + 4 ≤ s.size) (w : World) : Calls Tryz.prog 119 #[.string s, .int .i64 p, .int .i64 4] w fun e w' => e = .returned (.tuple #[.int .i64 (le4 s p), .int .i64 0]) ∧ w = w' := by
  have RP4 := hide (fun W => rpart_any s p 4 4 rfl hs (by omega) W)
  have RV4 := hide (fun W => rvalue4 (s.extract p (p + 4)) (ext4_size s p hp) W)
  rw [le4_ext s p hp] at RV4
  have HL : Live w [] := trivial
  go_enter Tryz.func119, Tryz.ntmps119
  go_wp2_with (first | (go_at_call 128; (with_reducible refine (RP4.out _).mono ?_); rintro e w' ⟨rfl, rfl⟩) | (go_at_call 129; (with_reducible refine (RV4.out _).mono ?_); rintro e w' ⟨rfl, rfl⟩))
  go_ret2
  exact ⟨rfl, rfl⟩
end Go.Proofs.YtjbhokmkmapkoaaGreatDoor
