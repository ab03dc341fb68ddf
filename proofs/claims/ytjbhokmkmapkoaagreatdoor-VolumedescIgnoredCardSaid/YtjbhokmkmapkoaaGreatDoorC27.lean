/- Contracts and plain words for the laws of volume descriptors, part 27: I8, B8, T1, V6. No condition. -/
import Derived.Test.YtjbhokmkmapkoaaGreatDoorC26
import Derived.Test.YtjbhokmkmapkoaaGreatDoorC24
import Derived.Test.YtjbhokmkmapkoaaGreatDoorC16
import Derived.Test.YtjbhokmkmapkoaaGreatDoorC14
import Derived.Test.YtjbhokmkmapkoaaGreatDoorC22
namespace Go.Proofs.YtjbhokmkmapkoaaGreatDoor
set_option linter.unusedSimpArgs false
set_option linter.unusedVariables false
open Go.RowKit
open Go.PlainAid (bt get_bt bt_nonneg bt_le bt_end)
def endR (n : Int) : Int := if n % 2 = 0 then 34 + n else 33 + n
set_option maxHeartbeats 400000 in
theorem rnum4_any (s : ByteArray) (p : Nat) (hs : s.size ≤ 100000) (hp : p + 4 ≤ s.size) (w : World) : Calls Tryz.prog 121 #[.string s, .int .i64 p, .int .i64 4] w fun e w' => e = .returned (.int .i64 (le4 s p)) ∧ w = w' := by
  have RL4 := hide (fun W => rreadL4 s p hs hp W)
  have HL : Live w [] := trivial
  go_enter Tryz.func121, Tryz.ntmps121
  go_wp2_with (first | (go_at_call 119; (with_reducible refine (RL4.out _).mono ?_); rintro e w' ⟨rfl, rfl⟩))
  go_ret
  exact ⟨rfl, rfl⟩
set_option maxHeartbeats 400000 in
theorem rnum2_any (s : ByteArray) (p : Nat) (hs : s.size ≤ 100000) (hp : p + 2 ≤ s.size) (w : World) : Calls Tryz.prog 121 #[.string s, .int .i64 p, .int .i64 2] w fun e w' => e = .returned (.int .i64 (le2 s p)) ∧ w = w' := by
  have RL4 := hide (fun W => rreadL2 s p hs hp W)
  have HL : Live w [] := trivial
  go_enter Tryz.func121, Tryz.ntmps121
  go_wp2_with (first | (go_at_call 119; (with_reducible refine (RL4.out _).mono ?_); rintro e w' ⟨rfl, rfl⟩))
  go_ret
  exact ⟨rfl, rfl⟩
set_option maxRecDepth 100000 in
set_option maxHeartbeats 8000000 in
theorem rdirDec_any (s : ByteArray) (hs : s.size = 34) (w : World) : Calls Tryz.prog 61 #[.string s] w (DecP s w) := by
  have HS := hide hs
  have z1 : (34 : Int) ≤ (s.size : Int) := by omega
  have z2 : (s.size : Int) ≤ 34 := by omega
  have z3 : 34 ≤ s.size := by omega
  have n0 : 0 < s.size := by omega
  have n32 : 32 < s.size := by omega
  have i0 : (0 : Int) < (s.size : Int) := by omega
  have i32 : (32 : Int) < (s.size : Int) := by omega
  have b0 := bt_nonneg s 0
  have b1 := bt_le s 0
  have b2 := bt_nonneg s 32
  have b3 := bt_le s 32
  have b4 := bt_nonneg s 25
  have b5 := bt_le s 25
  clear hs
  have hbb := get_bt s
  have HL : Live w [] := trivial
  go_enter Tryz.func61, Tryz.ntmps61
  go_upto_region 4 with fail
  have hB1 : Blk ((w.alloc (.cells Rec.zero.cells 25)).alloc (.cells Rec.zero.cells 25)) w.heap.size Rec.zero.cells 25 := (Blk.newAt rfl).alloc _
  have hB2 : Blk ((w.alloc (.cells Rec.zero.cells 25)).alloc (.cells Rec.zero.cells 25)) (w.heap.size + 1) Rec.zero.cells 25 := Blk.newAt (by simp)
  have hbel1 : Below w.heap.size w ((w.alloc (.cells Rec.zero.cells 25)).alloc (.cells Rec.zero.cells 25)) := by (exact bl)
  unfold Rec.cells Rec.zero at hB1 hB2 hbel1
  dsimp only at hB1 hB2 hbel1
  generalize (w.alloc (.cells #[.string ⟨#[]⟩, .int .i64 0, .int .i64 0, .int .i64 0, .int .i64 0, .int .i64 0, .int .i64 0, .string ⟨#[]⟩] 25)).alloc (.cells #[.string ⟨#[]⟩, .int .i64 0, .int .i64 0, .int .i64 0, .int .i64 0, .int .i64 0, .int .i64 0, .string ⟨#[]⟩] 25) = W1 at *
  have w0 : IntKind.i64.wrap (bt s 0) = bt s 0 := IntWalk.i64_in _ (by omega)
  have w32 : IntKind.i64.wrap (bt s 32) = bt s 32 := IntWalk.i64_in _ (by omega)
  refine' region_linF (RL := LV _ :: LV _ :: LV _ :: LV _ :: LV _ :: LV _ :: LV _ :: LV _ :: []) (by kernel_rfl) (by kernel_rfl) ?main
  case main =>
    refine ⟨fun u => ?_, ?_, ?_, ?_⟩
    · simp only [putsL, Act.put, List.setIfInBounds_toArray, List.set_cons_zero, List.set_cons_succ, Nat.reduceAdd]
      rfl
    · repeat (first | exact LAll.nil | refine LAll.cons (by first | exact LV.st _ | exact LB.st _ _ _ | exact LP.st _ _ | exact LT.st) ?_)
    · refine LinStepsF.cons (fun u wx hbx hd K hK => ?_) ?_
      · go_simp
        refine hK.out _ _ (by simp only [PT]; rfl) bl lvC
      refine LinStepsF.cons (fun u wx hbx hd K hK => ?_) ?_
      · have e0 : u 0 = _ := (show LV _ (u 0) wx from hd.out 0 (by kernel_rfl))
        go_simp
        refine hK.out _ _ (by simp only [PT, e0]; rfl) bl lvC
      refine LinStepsF.cons (fun u wx hbx hd K hK => ?_) ?_
      · have e1 : u 1 = _ := (show LV _ (u 1) wx from hd.out 1 (by kernel_rfl))
        go_simp
        refine hK.out _ _ (by simp only [PT, e1]; rfl) bl lvC
      refine LinStepsF.cons (fun u wx hbx hd K hK => ?_) ?_
      · go_simp
        refine hK.out _ _ (by simp only [PT]; rfl) bl lvC
      refine LinStepsF.cons (fun u wx hbx hd K hK => ?_) ?_
      · have e3 : u 3 = _ := (show LV _ (u 3) wx from hd.out 3 (by kernel_rfl))
        go_simp
        refine hK.out _ _ (by simp only [PT, e3]; rfl) bl lvC
      refine LinStepsF.cons (fun u wx hbx hd K hK => ?_) ?_
      · have e4 : u 4 = _ := (show LV _ (u 4) wx from hd.out 4 (by kernel_rfl))
        go_simp
        refine hK.out _ _ (by simp only [PT, e4]; rfl) bl lvC
      refine LinStepsF.cons (fun u wx hbx hd K hK => ?_) ?_
      · have e0 : u 0 = _ := (show LV _ (u 0) wx from hd.out 0 (by kernel_rfl))
        have e1 : u 1 = _ := (show LV _ (u 1) wx from hd.out 1 (by kernel_rfl))
        have e2 : u 2 = _ := (show LV _ (u 2) wx from hd.out 2 (by kernel_rfl))
        go_simp
        refine hK.out _ _ (by simp only [PT, e0, e1, e2]; rfl) bl lvC
      refine LinStepsF.cons (fun u wx hbx hd K hK => ?_) ?_
      · have e0 : u 0 = _ := (show LV _ (u 0) wx from hd.out 0 (by kernel_rfl))
        have e1 : u 1 = _ := (show LV _ (u 1) wx from hd.out 1 (by kernel_rfl))
        have e2 : u 2 = _ := (show LV _ (u 2) wx from hd.out 2 (by kernel_rfl))
        have e3 : u 3 = _ := (show LV _ (u 3) wx from hd.out 3 (by kernel_rfl))
        have e4 : u 4 = _ := (show LV _ (u 4) wx from hd.out 4 (by kernel_rfl))
        have e5 : u 5 = _ := (show LV _ (u 5) wx from hd.out 5 (by kernel_rfl))
        have e6 : u 6 = _ := (show LV _ (u 6) wx from hd.out 6 (by kernel_rfl))
        go_simp
        refine hK.out _ _ (by simp only [PT, e0, e1, e2, e3, e4, e5, e6]; rfl) bl lvC
      exact LinStepsF.nil
    · intro u wx hbx hall
      have e3 : u 6 = _ := (show LV _ (u 6) wx from hall.out 6 (by decide))
      have e7 : u 7 = _ := (show LV _ (u 7) wx from hall.out 7 (by decide))
      have hBa := Blk.below hbx hB1
      have hBb := Blk.below hbx hB2
      have hbel2 := hbel1.trans (hbx.mono hbel1.size)
      rw [e3, e7]
      clear w0 w32 e3 e7 hall hB1 hB2 hbel1 hbx
      have hf2 : ∀ o, wx.frozen? ⟨w.heap.size, o, none⟩ = false := hBa.free
      have hcz := hBa.cells
      have hcn := hBb.cells
      go_upto_if 27 with fail
      go_cut [8] (fun va wy => va = .int .i64 (endR (bt s 32)) ∧ wx = wy)
      case first =>
        by_cases h2 : bt s 32 % 2 = 0
        · have e := hide (show endR (bt s 32) = 34 + bt s 32 by unfold endR; rw [if_pos h2])
          go_wp2_with fail
          go_meet
          exact ⟨by rw [e.out]; first | rfl | go_num, rfl⟩
        · have e := hide (show endR (bt s 32) = 33 + bt s 32 by unfold endR; rw [if_neg h2])
          go_wp2_with fail
          go_meet
          exact ⟨by rw [e.out], rfl⟩
      case rest =>
      obtain ⟨rfl, rfl⟩ := hcut
      have he : 33 ≤ endR (bt s 32) ∧ endR (bt s 32) ≤ 289 ∧ (endR (bt s 32) ≤ 34 ↔ bt s 32 ≤ 1) := by unfold endR; split <;> omega
      obtain ⟨he1, he2, he3⟩ := he
      have HE3 := hide he3
      clear he3
      obtain ⟨en, hen⟩ : ∃ en, en = endR (bt s 32) := ⟨_, rfl⟩
      rw [← hen] at he1 he2 HE3 ⊢
      have HEN := hide hen
      clear hen
      go_upto_region 8 with fail
      go_cut [6, 7, 51] (fun va vb v wy => va = .int .i64 (bt s 0) ∧ vb = .int .i64 (bt s 32) ∧ v = .bool (!goodR s) ∧ wx = wy)
      case first =>
        have HE4 := HE3.out
        go_wp2_with fail
        all_goals
          go_meet
          exact ⟨by first | rfl | simp [*], by first | rfl | simp [*], vbool (by unfold goodR; rw [Bool.eq_iff_iff]; simp [*] <;> omega), rfl⟩
      case rest =>
      obtain ⟨rfl, rfl, rfl, rfl⟩ := hcut
      cases hgd : goodR s
      case false =>
        have hD := hide (decR_bad1 HS.out (of_decide_eq_false hgd))
        go_wp2_with fail
        ((try simp only [Exit.inBlock, Exit.then]); refine bodyPost_ret (by simp only [results, Tryz.results61]; go_simp; try rfl) rfl ?_)
        exact DecP.mk hD.out rfl (by (exact bl))
      case true =>
      obtain ⟨g0, g1⟩ := of_decide_eq_true hgd
      have HD := hide (decR_good1 HS.out g0 g1)
      have hen : en = 34 := by rw [HEN.out, g1]; rfl
      rw [g0, g1, hen]
      clear HEN HE3 he1 he2 hen
      go_upto_region 10 with fail
      have n1 : 1 < s.size := by omega
      have n26 : 26 < s.size := by omega
      have n27 : 27 < s.size := by omega
      have i1 : (1 : Int) < (s.size : Int) := by omega
      have i26 : (26 : Int) < (s.size : Int) := by omega
      have i27 : (27 : Int) < (s.size : Int) := by omega
      go_cut [65] (fun v wy => v = .bool (oddR s) ∧ wx = wy)
      case first =>
        clear g0 g1 hgd
        go_wp2_with fail
        all_goals
          go_meet
          exact ⟨vbool (by unfold oddR; rw [Bool.eq_iff_iff]; simp [*]), rfl⟩
      case rest =>
      obtain ⟨rfl, rfl⟩ := hcut
      have HD1 := HD.out
      cases hod : oddR s
      case true =>
        rw [if_pos (of_decide_eq_true hod)] at HD1
        have hD := hide HD1
        clear HD1 HD g0 g1 hgd
        go_wp2_with fail
        ((try simp only [Exit.inBlock, Exit.then]); refine bodyPost_ret (by simp only [results, Tryz.results61]; go_simp; try rfl) rfl ?_)
        exact DecP.mk hD.out rfl (by (exact bl))
      case false =>
      rw [if_neg (of_decide_eq_false hod)] at HD1
      have RRRX := hide (fun W => rrrT_any (s.extract 18 25) W)
      have HD2 := hide HD1
      clear HD1 HD g0 g1 hgd n1 n26 n27 i1 i26 i27 hf2 hcz hcn
      go_wp2_with fail
      refine (RRRX.out _).mono ?_
      rintro e W2 ⟨rfl, hb2⟩
      have hBa2 := Blk.below hb2 hBa
      have hBb2 := Blk.below hb2 hBb
      have hbel3 := hbel2.trans (hb2.mono hbel2.size)
      clear hb2 hBa hBb hbel2
      have hf2 : ∀ o, W2.frozen? ⟨w.heap.size, o, none⟩ = false := hBa2.free
      have hcz := hBa2.cells
      have hcn := hBb2.cells
      cases her : decide ((rrT (s.extract 18 25)).2.2 = 0)
      case false =>
        have hne := of_decide_eq_false her
        have HD3 := HD2.out
        rw [if_pos hne] at HD3
        have hD := hide HD3
        have q1 : ((rrT (s.extract 18 25)).2.2 != 0) = true := by simpa using hne
        clear HD3 her
        generalize (rrT (s.extract 18 25)).2.2 = er at *
        go_wp2_with fail
        ((try simp only [Exit.inBlock, Exit.then]); refine bodyPost_ret (by simp only [results, Tryz.results61]; go_simp; try rfl) rfl ?_)
        exact DecP.mk hD.out rfl (by (exact bl))
      case true =>
      have heq := of_decide_eq_true her
      have HD3 := HD2.out
      rw [if_neg (by rw [heq]; simp)] at HD3
      rw [show s.extract 34 34 = ByteArray.empty by simp] at HD3
      have hD := hide HD3
      rw [heq]
      clear HD3 her heq HD2 RRRX hcn
      go_upto_region 15 with fail
      have RNA : Hid (∀ W : World, Calls Tryz.prog 121 #[.string s, .int .i64 2, .int .i64 4] W fun e w' => e = .returned (.int .i64 (le4 s 2)) ∧ W = w') := hide (fun W => rnum4_any s 2 (by omega) (by omega) W)
      have RNB : Hid (∀ W : World, Calls Tryz.prog 121 #[.string s, .int .i64 10, .int .i64 4] W fun e w' => e = .returned (.int .i64 (le4 s 10)) ∧ W = w') := hide (fun W => rnum4_any s 10 (by omega) (by omega) W)
      have RNC : Hid (∀ W : World, Calls Tryz.prog 121 #[.string s, .int .i64 28, .int .i64 2] W fun e w' => e = .returned (.int .i64 (le2 s 28)) ∧ W = w') := hide (fun W => rnum2_any s 28 (by omega) (by omega) W)
      have n25 : 25 < s.size := by omega
      have w34 : IntKind.i64.wrap (33 + 1) = 34 := by decide
      have w34b : IntKind.i64.wrap 34 = 34 := by decide
      have i25 : (25 : Int) < (s.size : Int) := by omega
      have w25 : IntKind.i64.wrap (bt s 25) = bt s 25 := IntWalk.i64_in _ (by omega)
      refine wp_region_noPanic ?_
      refine wp_region_held_drew (S := (fun x => True ∧ True)) (by kernel_rfl) kp (fun hHeld => ?_)
      refine tkY 0 ⟨some 78, .move (.tmp 0), 9, "ref.go:81", #[], none⟩ ?_ ?_ ?_
      rotate_left
      · intro w hSw; (try dsimp only at hSw); go_simp; (try with_reducible rfl)
      try simp only [PT]
      refine tkY 1 ⟨some 79, .move (.tmp 7), 3, "ref.go:81", #[], none⟩ ?_ ?_ ?_
      rotate_left
      · intro w hSw; (try dsimp only at hSw); go_simp; (try with_reducible rfl)
      try simp only [PT]
      refine tkY 2 ⟨some 80, .binOp .add 3 (.const (.int .i64 33)) (.tmp 79) 3, 3, "ref.go:81", #[⟨1, .data⟩], none⟩ ?_ ?_ ?_
      rotate_left
      · intro w hSw; (try dsimp only at hSw); go_simp; (try with_reducible rfl)
      try simp only [PT]
      refine tkY 3 ⟨some 81, .slice 9 (.tmp 78) (some (.const (.int .i64 33))) (some (.tmp 80)) none, 9, "ref.go:81", #[⟨0, .data⟩, ⟨2, .data⟩], none⟩ ?_ ?_ ?_
      rotate_left
      · intro w hSw; (try dsimp only at hSw); go_simp; (try with_reducible rfl)
      try simp only [PT]
      refine tkY 4 ⟨some 82, .move (.tmp 0), 9, "ref.go:81", #[], none⟩ ?_ ?_ ?_
      rotate_left
      · intro w hSw; (try dsimp only at hSw); go_simp; (try with_reducible rfl)
      try simp only [PT]
      refine tkY 6 ⟨some 84, .move (.tmp 0), 9, "ref.go:81", #[], none⟩ ?_ ?_ ?_
      rotate_left
      · intro w hSw; (try dsimp only at hSw); go_simp; (try with_reducible rfl)
      try simp only [PT]
      refine tkY 8 ⟨some 86, .move (.tmp 9), 3, "ref.go:81", #[], none⟩ ?_ ?_ ?_
      rotate_left
      · intro w hSw; (try dsimp only at hSw); go_simp; (try with_reducible rfl)
      try simp only [PT]
      refine tkY 9 ⟨some 87, .move (.tmp 10), 3, "ref.go:81", #[], none⟩ ?_ ?_ ?_
      rotate_left
      · intro w hSw; (try dsimp only at hSw); go_simp; (try with_reducible rfl)
      try simp only [PT]
      refine tkY 10 ⟨some 88, .move (.tmp 0), 9, "ref.go:81", #[], none⟩ ?_ ?_ ?_
      rotate_left
      · intro w hSw; (try dsimp only at hSw); go_simp; (try with_reducible rfl)
      try simp only [PT]
      refine tkY 11 ⟨some 89, .index 9 (.tmp 88) (.const (.int .i64 25)), 5, "ref.go:81", #[⟨10, .data⟩], none⟩ ?_ ?_ ?_
      rotate_left
      · intro w hSw; (try dsimp only at hSw); go_simp; (try with_reducible rfl)
      try simp only [PT]
      refine tkY 12 ⟨some 90, .convert 5 3 (.tmp 89), 3, "ref.go:81", #[⟨11, .data⟩], none⟩ ?_ ?_ ?_
      rotate_left
      · intro w hSw; (try dsimp only at hSw); go_simp; (try with_reducible rfl)
      try simp only [PT]
      refine tkY 13 ⟨some 91, .move (.tmp 0), 9, "ref.go:81", #[], none⟩ ?_ ?_ ?_
      rotate_left
      · intro w hSw; (try dsimp only at hSw); go_simp; (try with_reducible rfl)
      try simp only [PT]
      refine tkY 15 ⟨some 93, .move (.tmp 0), 9, "ref.go:81", #[], none⟩ ?_ ?_ ?_
      rotate_left
      · intro w hSw; (try dsimp only at hSw); go_simp; (try with_reducible rfl)
      try simp only [PT]
      refine tkY 16 ⟨some 94, .move (.tmp 8), 3, "ref.go:81", #[], none⟩ ?_ ?_ ?_
      rotate_left
      · intro w hSw; (try dsimp only at hSw); go_simp; (try with_reducible rfl)
      try simp only [PT]
      refine tkY 17 ⟨some 95, .move (.tmp 6), 3, "ref.go:81", #[], none⟩ ?_ ?_ ?_
      rotate_left
      · intro w hSw; (try dsimp only at hSw); go_simp; (try with_reducible rfl)
      try simp only [PT]
      refine tkY 18 ⟨some 96, .slice 9 (.tmp 93) (some (.tmp 94)) (some (.tmp 95)) none, 9, "ref.go:81", #[⟨15, .data⟩, ⟨16, .data⟩, ⟨17, .data⟩], none⟩ ?_ ?_ ?_
      rotate_left
      · intro w hSw; (try dsimp only at hSw); go_simp; (try with_reducible rfl)
      try simp only [PT]
      refine tkY 20 ⟨some 98, .move (.tmp 6), 3, "ref.go:81", #[⟨21, .gcOnly .lateStores⟩], none⟩ ?_ ?_ ?_
      rotate_left
      · intro w hSw; (try dsimp only at hSw); go_simp; (try with_reducible rfl)
      try simp only [PT]
      refine wpAnyH_ready (rs := [5]) (by kernel_rfl) (by simp) ?_
      refine AllReadyH.cons (o := ⟨some 83, .call ⟨.value (.func 121), #[.tmp 82, .const (.int .i64 2), .const (.int .i64 4)], #[9, 3, 3]⟩, 3, "ref.go:81", #[⟨4, .data⟩], none⟩) rfl (fun K hK => ?_) AllReadyH.nil
      go_simp
      (first | (go_at_call 121; (with_reducible refine (RNA.out _).mono ?_); rintro e w' ⟨rfl, rfl⟩) | (go_at_call 121; (with_reducible refine (RNB.out _).mono ?_); rintro e w' ⟨rfl, rfl⟩) | (go_at_call 121; (with_reducible refine (RNC.out _).mono ?_); rintro e w' ⟨rfl, rfl⟩))
      go_wp2_with fail
      refine hK.out _ _ kp (fun hHeld => ?_)
      clear hK K
      try simp only [PT]
      refine wpAnyH_ready (rs := [7]) (by kernel_rfl) (by simp) ?_
      refine AllReadyH.cons (o := ⟨some 85, .call ⟨.value (.func 121), #[.tmp 84, .const (.int .i64 10), .const (.int .i64 4)], #[9, 3, 3]⟩, 3, "ref.go:81", #[⟨6, .data⟩, ⟨5, .chain⟩], none⟩) rfl (fun K hK => ?_) AllReadyH.nil
      go_simp
      (first | (go_at_call 121; (with_reducible refine (RNA.out _).mono ?_); rintro e w' ⟨rfl, rfl⟩) | (go_at_call 121; (with_reducible refine (RNB.out _).mono ?_); rintro e w' ⟨rfl, rfl⟩) | (go_at_call 121; (with_reducible refine (RNC.out _).mono ?_); rintro e w' ⟨rfl, rfl⟩))
      go_wp2_with fail
      refine hK.out _ _ kp (fun hHeld => ?_)
      clear hK K
      try simp only [PT]
      refine wpAnyH_ready (rs := [14]) (by kernel_rfl) (by simp) ?_
      refine AllReadyH.cons (o := ⟨some 92, .call ⟨.value (.func 121), #[.tmp 91, .const (.int .i64 28), .const (.int .i64 2)], #[9, 3, 3]⟩, 3, "ref.go:81", #[⟨13, .data⟩, ⟨7, .chain⟩], none⟩) rfl (fun K hK => ?_) AllReadyH.nil
      go_simp
      (first | (go_at_call 121; (with_reducible refine (RNA.out _).mono ?_); rintro e w' ⟨rfl, rfl⟩) | (go_at_call 121; (with_reducible refine (RNB.out _).mono ?_); rintro e w' ⟨rfl, rfl⟩) | (go_at_call 121; (with_reducible refine (RNC.out _).mono ?_); rintro e w' ⟨rfl, rfl⟩))
      go_wp2_with fail
      refine hK.out _ _ kp (fun hHeld => ?_)
      clear hK K
      try simp only [PT]
      refine tkY 19 ⟨some 97, .build 25 #[(0, .tmp 81), (1, .tmp 83), (2, .tmp 85), (3, .tmp 86), (4, .tmp 87), (5, .tmp 90), (6, .tmp 92), (7, .tmp 96)], 25, "ref.go:81", #[⟨3, .data⟩, ⟨5, .data⟩, ⟨7, .data⟩, ⟨8, .data⟩, ⟨9, .data⟩, ⟨12, .data⟩, ⟨14, .data⟩, ⟨18, .data⟩], none⟩ ?_ ?_ ?_
      rotate_left
      · intro w hSw; (try dsimp only at hSw); go_simp; (try with_reducible rfl)
      try simp only [PT]
      refine wpAnyH_ready (rs := [21]) (by kernel_rfl) (by simp) ?_
      refine AllReadyH.cons (o := ⟨none, .store 25 (.tmp 2) (.tmp 97), 0, "ref.go:81", #[⟨19, .data⟩, ⟨14, .chain⟩, ⟨0, .phase⟩, ⟨1, .phase⟩, ⟨2, .phase⟩, ⟨3, .phase⟩, ⟨4, .phase⟩, ⟨5, .phase⟩, ⟨6, .phase⟩, ⟨7, .phase⟩, ⟨8, .phase⟩, ⟨9, .phase⟩, ⟨10, .phase⟩, ⟨11, .phase⟩, ⟨12, .phase⟩, ⟨13, .phase⟩, ⟨14, .phase⟩, ⟨15, .phase⟩, ⟨16, .phase⟩, ⟨17, .phase⟩, ⟨18, .phase⟩, ⟨19, .phase⟩, ⟨20, .textOnly .lateStores⟩], none⟩) rfl (fun K hK => ?_) AllReadyH.nil
      go_simp
      refine hK.out _ _ kp (fun hHeld => ?_)
      clear hK K
      try simp only [PT]
      refine tkY 22 ⟨some 3, .assign (.tmp 98), 3, "ref.go:81", #[⟨20, .data⟩, ⟨21, .chain⟩, ⟨0, .phase⟩, ⟨1, .phase⟩, ⟨2, .phase⟩, ⟨3, .phase⟩, ⟨4, .phase⟩, ⟨5, .phase⟩, ⟨6, .phase⟩, ⟨7, .phase⟩, ⟨8, .phase⟩, ⟨9, .phase⟩, ⟨10, .phase⟩, ⟨11, .phase⟩, ⟨12, .phase⟩, ⟨13, .phase⟩, ⟨14, .phase⟩, ⟨15, .phase⟩, ⟨16, .phase⟩, ⟨17, .phase⟩, ⟨18, .phase⟩, ⟨19, .phase⟩, ⟨20, .phase⟩, ⟨21, .phase⟩], none⟩ ?_ ?_ ?_
      rotate_left
      · intro w hSw; (try dsimp only at hSw); go_simp; (try with_reducible rfl)
      try simp only [PT]
      refine tkY 23 ⟨some 4, .assign (.const (.int .i64 0)), 30, "ref.go:81", #[⟨22, .chain⟩, ⟨0, .phase⟩, ⟨1, .phase⟩, ⟨2, .phase⟩, ⟨3, .phase⟩, ⟨4, .phase⟩, ⟨5, .phase⟩, ⟨6, .phase⟩, ⟨7, .phase⟩, ⟨8, .phase⟩, ⟨9, .phase⟩, ⟨10, .phase⟩, ⟨11, .phase⟩, ⟨12, .phase⟩, ⟨13, .phase⟩, ⟨14, .phase⟩, ⟨15, .phase⟩, ⟨16, .phase⟩, ⟨17, .phase⟩, ⟨18, .phase⟩, ⟨19, .phase⟩, ⟨20, .phase⟩, ⟨21, .phase⟩, ⟨22, .phase⟩], none⟩ ?_ ?_ ?_
      rotate_left
      · intro w hSw; (try dsimp only at hSw); go_simp; (try with_reducible rfl)
      try simp only [PT]
      refine wpAnyH_done (by kernel_rfl) ?_ _
      refine NoPanic.normal ?_
      go_wp2_with fail
      ((try simp only [Exit.inBlock, Exit.then]); refine bodyPost_ret (by simp only [results, Tryz.results61]; go_simp; try rfl) rfl ?_)
      exact DecP.mk hD.out rfl (by (exact bl))
end Go.Proofs.YtjbhokmkmapkoaaGreatDoor
namespace Go.Proofs.YtjbhokmkmapkoaaGreatDoor
set_option linter.unusedSimpArgs false
set_option linter.unusedVariables false
open Go.RowKit
open Go.PlainAid (bt get_bt bt_nonneg bt_le bt_end)
theorem lst2 (x : ByteArray) (hx : x.size = 2) : x.data.toList = [u8 (bt x 0), u8 (bt x 1)] := by
  rw [bt_list, hx]; rfl
theorem lst4 (x : ByteArray) (hx : x.size = 4) : x.data.toList = [u8 (bt x 0), u8 (bt x 1), u8 (bt x 2), u8 (bt x 3)] := by
  rw [bt_list, hx]; rfl
theorem rev_le4 (x : ByteArray) (hx : x.size = 4) : le4 ⟨x.data.toList.reverse.toArray⟩ 0 = be4 x 0 := by
  have b0 := bt_nonneg x 0
  have c0 := bt_le x 0
  have b1 := bt_nonneg x 1
  have c1 := bt_le x 1
  have b2 := bt_nonneg x 2
  have c2 := bt_le x 2
  have b3 := bt_nonneg x 3
  have c3 := bt_le x 3
  have r0 : bt ⟨([u8 (bt x 3), u8 (bt x 2), u8 (bt x 1), u8 (bt x 0)] : List UInt8).toArray⟩ 0 = bt x 3 := (bt_of rfl).trans (u8_nat (v := bt x 3) (by omega))
  have r1 : bt ⟨([u8 (bt x 3), u8 (bt x 2), u8 (bt x 1), u8 (bt x 0)] : List UInt8).toArray⟩ 1 = bt x 2 := (bt_of rfl).trans (u8_nat (v := bt x 2) (by omega))
  have r2 : bt ⟨([u8 (bt x 3), u8 (bt x 2), u8 (bt x 1), u8 (bt x 0)] : List UInt8).toArray⟩ 2 = bt x 1 := (bt_of rfl).trans (u8_nat (v := bt x 1) (by omega))
  have r3 : bt ⟨([u8 (bt x 3), u8 (bt x 2), u8 (bt x 1), u8 (bt x 0)] : List UInt8).toArray⟩ 3 = bt x 0 := (bt_of rfl).trans (u8_nat (v := bt x 0) (by omega))
  rw [lst4 x hx]
  show le4 ⟨([u8 (bt x 3), u8 (bt x 2), u8 (bt x 1), u8 (bt x 0)] : List UInt8).toArray⟩ 0 = _
  unfold le4 be4
  simp only [Nat.zero_add]
  rw [r0, r1, r2, r3]
theorem rev_size4 (x : ByteArray) (hx : x.size = 4) : (⟨x.data.toList.reverse.toArray⟩ : ByteArray).size = 4 := by
  show x.data.toList.reverse.toArray.size = _
  rw [List.size_toArray, List.length_reverse, ← hx]
  exact Array.length_toList
theorem be4_ext (s : ByteArray) (p : Nat) (hp : p + 4 ≤ s.size) : be4 (s.extract p (p + 4)) 0 = be4 s p := by
  unfold be4
  rw [bt_extract s p (p + 4) 3 (by omega) (by omega), bt_extract s p (p + 4) 2 (by omega) (by omega), bt_extract s p (p + 4) 1 (by omega) (by omega), bt_extract s p (p + 4) 0 (by omega) (by omega)]
  simp
set_option maxHeartbeats 1000000 in
theorem rreadB4 (s : ByteArray) (p : Nat) (hs : s.size ≤ 100000) (hp : p + 4 ≤ s.size) (w : World) : Calls Tryz.prog 64 #[.string s, .int .i64 p, .int .i64 4] w fun e w' => e = .returned (.tuple #[.int .i64 (be4 s p), .int .i64 0]) ∧ Below w.heap.size w w' := by
  have hxz := ext4_size s p hp
  have RP4 := hide (fun W => rpart_any s p 4 4 rfl hs (by omega) W)
  have hv := fun W => rvalue4 ⟨(s.extract p (p + 4)).data.toList.reverse.toArray⟩ (rev_size4 _ hxz) W
  have hr := fun W => rrev_any (s.extract p (p + 4)) (by omega) W
  rw [rev_le4 _ hxz, be4_ext s p hp] at hv
  generalize (⟨(s.extract p (p + 4)).data.toList.reverse.toArray⟩ : ByteArray) = y at hv hr
  have RV4 := hide hv
  have RR4 := hide hr
  clear hv hr hxz
  have HL : Live w [] := trivial
  go_enter Tryz.func64, Tryz.ntmps64
  go_wp2_with (first | (go_at_call 128; (with_reducible refine (RP4.out _).mono ?_); rintro e w' ⟨rfl, rfl⟩) | (go_at_call 88; (with_reducible refine (RR4.out _).mono ?_); rintro e w' ⟨rfl, hb⟩; have hz := hb.size; (try simp only [SZ, Nat.reduceAdd] at hz); (first | obtain ⟨HL, hk⟩ := HL.callA hb hz | obtain ⟨HL, hk⟩ := HL.call0A hb hz); (try simp only [addN, Nat.add_zero] at HL hk); have hl := HL; simp only [Live] at hl; (try simp only [Kept] at hk)) | (go_at_call 129; (with_reducible refine (RV4.out _).mono ?_); rintro e w' ⟨rfl, rfl⟩))
  go_ret2
  exact ⟨rfl, by (exact bl)⟩
end Go.Proofs.YtjbhokmkmapkoaaGreatDoor
namespace Go.Proofs.YtjbhokmkmapkoaaGreatDoor
set_option linter.unusedSimpArgs false
set_option linter.unusedVariables false
open Go.RowKit
open Go.PlainAid (bt get_bt bt_nonneg bt_le bt_end)
set_option maxHeartbeats 400000 in
theorem rlit4 (s : ByteArray) (p : Nat) (hs : s.size ≤ 100000) (hp : p + 4 ≤ s.size) (w : World) : Calls Tryz.prog 60 #[.string s, .int .i64 p, .int .i64 4] w fun e w' => e = .returned (.int .i64 (le4 s p)) ∧ w = w' := by
  have SL := hide (fun W => rreadL4 s p hs hp W)
  have HL : Live w [] := trivial
  go_enter Tryz.func60, Tryz.ntmps60
  go_wp2_with (first | (go_at_call 119; (with_reducible refine (SL.out _).mono ?_); rintro e w' ⟨rfl, rfl⟩))
  go_ret
  exact ⟨rfl, rfl⟩
set_option maxHeartbeats 400000 in
theorem rlit2 (s : ByteArray) (p : Nat) (hs : s.size ≤ 100000) (hp : p + 2 ≤ s.size) (w : World) : Calls Tryz.prog 60 #[.string s, .int .i64 p, .int .i64 2] w fun e w' => e = .returned (.int .i64 (le2 s p)) ∧ w = w' := by
  have SL := hide (fun W => rreadL2 s p hs hp W)
  have HL : Live w [] := trivial
  go_enter Tryz.func60, Tryz.ntmps60
  go_wp2_with (first | (go_at_call 119; (with_reducible refine (SL.out _).mono ?_); rintro e w' ⟨rfl, rfl⟩))
  go_ret
  exact ⟨rfl, rfl⟩
/-- A field's text, and whether it can be read. -/
def TxtP (wd : Bool) (x : ByteArray) (w : World) (e : Ending) (w' : World) : Prop := e = .returned (.tuple #[.string (txtS wd x), .bool (txtB wd x)]) ∧ Below w.heap.size w w'
theorem TxtP.mk {wd : Bool} {x y : ByteArray} {b : Bool} {w w' : World} (h : txtS wd x = y) (h2 : txtB wd x = b) (hb : Below w.heap.size w w') : TxtP wd x w (.returned (.tuple #[.string y, .bool b])) w' := by subst h; subst h2; exact ⟨rfl, hb⟩
set_option maxHeartbeats 400000 in
theorem rtext_any (x : ByteArray) (wd : Bool) (hs : x.size ≤ 65536) (w : World) : Calls Tryz.prog 62 #[.string x, .bool wd] w (TxtP wd x w) := by
  cases wd
  case false =>
    have RT := hide (fun W => rtrim_any x hs W)
    have HL : Live w [] := trivial
    go_enter Tryz.func62, Tryz.ntmps62
    go_wp2_with (go_at_call 123; refine (RT.out _).mono ?_; rintro e w' ⟨rfl, rfl⟩)
    go_ret2
    exact TxtP.mk rfl rfl (by (exact bl))
  case true =>
    have RW0 := fun W => rwtrim_any x hs W
    have hX : txtS true x = ⟨(wtrimS x).1.toArray⟩ := rfl
    have hY : txtB true x = decide ((wtrimS x).2 = 0) := rfl
    obtain ⟨l, ec, hlc⟩ : ∃ l ec, wtrimS x = (l, ec) := pair_of _
    rw [hlc] at RW0 hX hY
    have RW := hide RW0
    have HX := hide hX
    clear RW0 hX hlc
    by_cases he : ec = 0
    · have HY := hide (hY.trans (decide_eq_true he))
      have q : (ec == 0) = true := by simpa using he
      clear hY he
      have HL : Live w [] := trivial
      go_enter Tryz.func62, Tryz.ntmps62
      go_wp2_with (go_at_call 122; refine (RW.out _).mono ?_; rintro e w' ⟨rfl, hb⟩)
      go_ret2
      exact TxtP.mk HX.out HY.out hb
    · have HY := hide (hY.trans (decide_eq_false he))
      have q : (ec == 0) = false := by simpa using he
      clear hY he
      have HL : Live w [] := trivial
      go_enter Tryz.func62, Tryz.ntmps62
      go_wp2_with (go_at_call 122; refine (RW.out _).mono ?_; rintro e w' ⟨rfl, hb⟩)
      go_ret2
      exact TxtP.mk HX.out HY.out hb
/-- The state of the reference's Decode: the result's block, the empty descriptor's, the descriptor's. -/
structure RS (w : World) (b2 b4 b5 : Nat) (D : DR) (W : World) : Prop where
  bel : Below w.heap.size w W
  r2 : Blk W b2 DR.zero.cells 27
  n4 : Blk W b4 DR.zero.cells 27
  d5 : Blk W b5 D.cells 27
  l1 : w.heap.size ≤ b2
  l2 : b2 < b4
  l3 : b4 < b5
section
variable {w : World} {b2 b4 b5 : Nat} {D : DR} {W : World}
theorem RS.below (h : RS w b2 b4 b5 D W) {W' : World} (hb : Below W.heap.size W W') : RS w b2 b4 b5 D W' :=
  ⟨h.bel.trans (hb.mono h.bel.size), Blk.below hb h.r2, Blk.below hb h.n4, Blk.below hb h.d5, h.l1, h.l2, h.l3⟩
theorem RS.alloc (h : RS w b2 b4 b5 D W) (o : Obj) : RS w b2 b4 b5 D (W.alloc o) :=
  ⟨h.bel.alloc h.bel.size _, h.r2.alloc _, h.n4.alloc _, h.d5.alloc _, h.l1, h.l2, h.l3⟩
theorem RS.drew (h : RS w b2 b4 b5 D W) : RS w b2 b4 b5 D W.drew :=
  ⟨⟨h.bel.os, h.bel.tape, h.bel.output, h.bel.size, h.bel.block⟩, h.r2, h.n4, h.d5, h.l1, h.l2, h.l3⟩
theorem RS.set (h : RS w b2 b4 b5 D W) (D' : DR) (j : Nat) (v : Value) (e : D.cells.setIfInBounds j v = D'.cells) : RS w b2 b4 b5 D' (W.setCell ⟨b5, j, none⟩ v) :=
  have := h.l1; have := h.l2; have := h.l3
  ⟨h.bel.setCell (p := ⟨b5, j, none⟩) (by simp only; omega) _, Blk.other (by omega) h.r2, Blk.other (by omega) h.n4, Blk.put e h.d5, h.l1, h.l2, h.l3⟩
theorem RS.mid (h : RS w b2 b4 b5 D W) (D' : DR) (o : Nat) (vs : List Value) (e : putAll vs o D.cells = D'.cells) : RS w b2 b4 b5 D' (W.setCells b5 o vs) :=
  have := h.l1; have := h.l2; have := h.l3
  ⟨Below.puts (by omega) vs o W h.bel, Blk.others (by omega) vs o W h.r2, Blk.others (by omega) vs o W h.n4, e ▸ Blk.putAll vs o _ W h.d5, h.l1, h.l2, h.l3⟩
theorem RS.cell (h : RS w b2 b4 b5 D W) (j : Nat) {v : Value} (e : D.cells[j]? = some v) : W.cell? ⟨b5, j, none⟩ = some v := (h.d5.cells j).trans e
theorem RS.bl (h : RS w b2 b4 b5 D W) : b5 < W.heap.size := h.d5.lt
end
theorem step_store_mid {P : Program} {ops : Array Oper} {o : Oper} {a : Act} {w : World} {K : Act → World → Prop} {Q : Exit → Act → World → Prop} {E : Prop} (hw : Region.wanted o (yielded ops a.tmps) = true) (ty : TypeId) (x y : Operand) (ho : o.op = .store ty x y)
    (b k : Nat) (cells : Array Value) (hx : a.eval x = .pointer (some ⟨b, k, none⟩)) (hy : a.eval y = .agg cells)
    (ht : w.there b k cells.size) (hi : (P.info? ty).map (·.size) = some cells.size) (h1 : cells.all (·.oneCell') = true)
    (h : K (a.put o.dst undef) (w.setCells b k cells.toList)) : if Region.wanted o (yielded ops a.tmps) = true then Oper.wp P o a w K Q else E := by
  rw [if_pos hw]
  exact wp_store_mid ty x y ho b k cells hx hy ht hi h1 h
theorem exec_load_row {P : Program} {o : Oper} {ev : Operand → Value} {w : World} (ty : TypeId) (x : Operand) (ho : o.op = .load ty x)
    (g : Nat) (hx : ev x = .pointer (some ⟨g, 0, none⟩)) (t : TypeId) (cs : Array Value) (fr : Nat × Nat) (d : TypeDesc) (hg : w.heap[g]? = some (.cells cs t fr))
    (hu : P.underlying ty = some d) (hd : (match d with | .struct _ | .array _ _ => true | _ => false) = true) (hi : (P.info? ty).map (·.size) = some cs.size) : (execOp ev o).run P w = .ok (.value (.agg cs)) w := by
  unfold execOp
  simp only [ho, hx, Instr.loadAt, Instr.sureAddr, Sem.run_bind, Sem.run_pure, Result.andThen_ok, run_loadVar_row w g t ty cs fr d hg hu hd hi]
theorem ext_three {s : ByteArray} {p q : Nat} (hq : q = p + 3) (h : p + 3 ≤ s.size) : (s.extract p q).toList = [s[p]'(by omega), s[p + 1]'(by omega), s[p + 2]'(by omega)] := by
  subst hq
  rw [Lib.extract_toList]
  have hl : s.data.toList.length = s.size := Array.length_toList
  rw [List.drop_eq_getElem_cons (by omega), List.drop_eq_getElem_cons (by omega), List.drop_eq_getElem_cons (by omega)]
  show List.take (p + 3 - p) _ = _
  rw [show p + 3 - p = 3 by omega]
  rfl
theorem esc_three {s : ByteArray} (h : s.size = 2048) (c : UInt8) : ((s.extract 88 91).toList == [37, 47, c]) = decide (bt s 88 = 37 ∧ bt s 89 = 47 ∧ bt s 90 = c.toNat) := by
  have e1 : ((s[88]'(by omega)).toNat : Int) = bt s 88 := get_bt s 88 (by omega)
  have e2 : ((s[88 + 1]'(by omega)).toNat : Int) = bt s 89 := get_bt s 89 (by omega)
  have e3 : ((s[88 + 2]'(by omega)).toNat : Int) = bt s 90 := get_bt s 90 (by omega)
  rw [ext_three (p := 88) rfl (by omega), Bool.eq_iff_iff, beq_iff_eq, decide_eq_true_eq, ← e1, ← e2, ← e3]
  simp only [List.cons.injEq, and_true]
  constructor
  · rintro ⟨h1, h2, h3⟩; rw [h1, h2, h3]; exact ⟨rfl, rfl, rfl⟩
  · rintro ⟨h1, h2, h3⟩; exact ⟨UInt8.toNat_inj.1 (by show _ = 37; omega), UInt8.toNat_inj.1 (by show _ = 47; omega), UInt8.toNat_inj.1 (by omega)⟩
/-- The escapes are the third, the second or the first of those allowed, or none. -/
theorem esc_cases {s : ByteArray} (h : s.size = 2048) : (escB s = true ∧ (s.extract 88 91 = ⟨#[37, 47, 64]⟩ ∨ s.extract 88 91 = ⟨#[37, 47, 67]⟩ ∨ s.extract 88 91 = ⟨#[37, 47, 69]⟩)) ∨ (escB s = false ∧ ((s.extract 88 91).toList == [37, 47, 64]) = false ∧ ((s.extract 88 91).toList == [37, 47, 67]) = false ∧ ((s.extract 88 91).toList == [37, 47, 69]) = false) := by
  have k (c : UInt8) (hc : bt s 88 = 37 ∧ bt s 89 = 47 ∧ bt s 90 = c.toNat) : s.extract 88 91 = ⟨#[37, 47, c]⟩ := by
    have e := esc_three h c
    rw [decide_eq_true hc, beq_iff_eq] at e
    exact bl_eq.1 (e.trans (by rw [ByteArray.toList_eq]))
  cases he : escB s
  · have hn := of_decide_eq_false he
    refine Or.inr ⟨rfl, ?_, ?_, ?_⟩
    · rw [esc_three h]; refine decide_eq_false fun hh => hn ⟨hh.1, hh.2.1, Or.inl hh.2.2⟩
    · rw [esc_three h]; refine decide_eq_false fun hh => hn ⟨hh.1, hh.2.1, Or.inr (Or.inl hh.2.2)⟩
    · rw [esc_three h]; refine decide_eq_false fun hh => hn ⟨hh.1, hh.2.1, Or.inr (Or.inr hh.2.2)⟩
  · obtain ⟨h1, h2, h3⟩ := of_decide_eq_true he
    refine Or.inl ⟨rfl, ?_⟩
    rcases h3 with h3 | h3 | h3
    · exact Or.inl (k 64 ⟨h1, h2, h3⟩)
    · exact Or.inr (Or.inl (k 67 ⟨h1, h2, h3⟩))
    · exact Or.inr (Or.inr (k 69 ⟨h1, h2, h3⟩))
def dTy (t : Int) : DR := { DR.zero with typ := t }
def dTyC (t c : Int) : DR := { DR.zero with typ := t, cat := c }
theorem pTyC (t c : Int) : (dTy t).cells.setIfInBounds 1 (.int .i64 c) = (dTyC t c).cells := rfl
/-- The texts and numbers of a volume put in. -/
def sVo (D : DR) (a b c d e : ByteArray) (n m t : Int) : DR := { D with name := a, set := b, pub := c, prep := d, app := e, number := n, discs := m, time := t }
theorem pVo (D : DR) (a b c d e : ByteArray) (n m t : Int) : putAll (#[.string a, .string b, .string c, .string d, .string e, .int .i64 n, .int .i64 m, .int .i64 t] : Array Value).toList 2 D.cells = (sVo D a b c d e n m t).cells := by kernel_rfl
theorem rbody_all {s : ByteArray} {r : Rec} {n e t z f : Int} (hr : decR (s.extract 156 190) = (r, n, e)) (ht : rdT (s.extract 813 830) = (t, z, f)) : sPm (sRt (sPl (sPs (sSp (sZn (sVo (dTy (bt s 0)) (txtS (w2B s) (s.extract 40 72)) (txtS (w2B s) (s.extract 190 318)) (txtS (w2B s) (s.extract 318 446)) (txtS (w2B s) (s.extract 446 574)) (txtS (w2B s) (s.extract 574 702)) (le2 s 124) (le2 s 120) t) z) (le4 s 80)) (le4 s 132)) (le4 s 140)) r) (be4 s 148) = bodyD s := by
  unfold bodyD
  rw [hr, ht]
  simp [sRt, sZn, sSp, sVo, sPs, sPl, sPm, w2B, dTy, DR.zero]
theorem rgood_of {s : ByteArray} {r : Rec} {n e t z f : Int} (hr : decR (s.extract 156 190) = (r, n, e)) (ht : rdT (s.extract 813 830) = (t, z, f)) : goodD s = (decide (e = 0) && decide (n = 34) && (txtB (w2B s) (s.extract 40 72) && txtB (w2B s) (s.extract 190 318) && txtB (w2B s) (s.extract 318 446) && txtB (w2B s) (s.extract 446 574) && txtB (w2B s) (s.extract 574 702) && decide (f = 0)) && decide (chkD (bodyD s) = 0)) := by
  unfold goodD rightD w2B
  rw [hr, ht, Bool.eq_iff_iff]
  simp only [Bool.and_eq_true, decide_eq_true_eq]
  constructor
  · rintro ⟨⟨⟨⟨⟨a, b⟩, c⟩, d⟩, e⟩, f, g, h, i⟩; exact ⟨⟨⟨f, g⟩, ⟨⟨⟨⟨a, b⟩, c⟩, d⟩, e⟩, h⟩, i⟩
  · rintro ⟨⟨⟨f, g⟩, ⟨⟨⟨⟨a, b⟩, c⟩, d⟩, e⟩, h⟩, i⟩; exact ⟨⟨⟨⟨⟨a, b⟩, c⟩, d⟩, e⟩, f, g, h, i⟩
end Go.Proofs.YtjbhokmkmapkoaaGreatDoor
namespace Go.Proofs.YtjbhokmkmapkoaaGreatDoor
set_option linter.unusedSimpArgs false
set_option linter.unusedVariables false
open Go.RowKit
open Go.PlainAid (bt get_bt bt_nonneg bt_le bt_end)
set_option maxRecDepth 100000 in
set_option maxHeartbeats 8000000 in
theorem dec_tail {s : ByteArray} {w W : World} {b2 b4 b6 : Nat} {n er fr : Int} {v0 v1 v3 v4 v5 v7 v9 v10 v11 v12 v13 v14 v17 v18 v20 v21 v22 v23 v24 v25 v26 v27 v28 v29 v30 v31 v32 v33 v34 v35 v36 v37 v38 v39 v40 v41 v42 v43 v44 v45 v46 v47 v48 v49 v50 v51 v52 v53 v54 v55 v56 v57 v58 v59 v60 v61 v62 v63 v64 v65 v66 v67 v68 v69 v70 v71 v72 v73 v74 v75 v76 v77 v78 v79 v80 v81 v82 v83 v84 v85 v86 v87 v88 v89 v90 v91 v92 v93 v94 v95 v96 v97 v98 v99 v100 v101 v102 v103 v104 v105 v106 v107 v108 v109 v110 v111 v112 v113 v114 v115 v116 v117 v118 v119 v120 v121 v122 v123 v124 v125 v126 v127 v128 v129 v130 v131 v132 v133 v134 v135 v136 v137 v138 v139 v140 v141 v142 v143 v144 v145 v146 v147 v148 v149 v150 v151 v152 v153 v154 v155 v156 v157 v158 v159 v160 v161 v162 v163 v164 v165 v166 v167 v168 v169 v170 v171 v172 v173 v174 v175 v176 v177 v178 v179 v180 : Value} (hT : TabD w) (HS12 : Hid (DS w s b2 b4 b6 (bodyD s) W)) (HG : Hid (goodD s = (fOkS s 5 && decide (er = 0) && decide (n = 34) && decide (fr = 0) && decide (chkD (bodyD s) = 0))))
    (HSUP : Hid (decD s = if goodD s = true then (bodyD s, 0) else (DR.zero, 10))) : Code.wp Tryz.prog ((Tryz.f17.body.bind (tailAt 37)).getD .skip) (bodyPost Tryz.prog Tryz.f17 (DecDP s w)) ⟨#[v0, v1, .pointer (some ⟨b2, 0, none⟩), v3, v4, v5, .pointer (some ⟨b6, 0, none⟩), v7, .bool (fOkS s 5), v9, v10, v11, v12, v13, v14, .int .i64 n, .int .i64 er, v17, v18, .int .i64 fr, v20, v21, v22, v23, v24, v25, v26, v27, v28, v29, v30, v31, v32, v33, v34, v35, v36, v37, v38, v39, v40, v41, v42, v43, v44, v45, v46, v47, v48, v49, v50, v51, v52, v53, v54, v55, v56, v57, v58, v59, v60, v61, v62, v63, v64, v65, v66, v67, v68, v69, v70, v71, v72, v73, v74, v75, v76, v77, v78, v79, v80, v81, v82, v83, v84, v85, v86, v87, v88, v89, v90, v91, v92, v93, v94, v95, v96, v97, v98, v99, v100, v101, v102, v103, v104, v105, v106, v107, v108, v109, v110, v111, v112, v113, v114, v115, v116, v117, v118, v119, v120, v121, v122, v123, v124, v125, v126, v127, v128, v129, v130, v131, v132, v133, v134, v135, v136, v137, v138, v139, v140, v141, v142, v143, v144, v145, v146, v147, v148, v149, v150, v151, v152, v153, v154, v155, v156, v157, v158, v159, v160, v161, v162, v163, v164, v165, v166, v167, v168, v169, v170, v171, v172, v173, v174, v175, v176, v177, v178, v179, v180], []⟩ W := by
  have CK := hide (fun W hW => check_any (bodyD s) (body_short s) W hW)
  conv => arg 2; whnf
  dsimp only
  go_upto_region 37 with fail
  go_cut [8, 178] (fun v8 v wx => v = .bool (!goodD s) ∧ DS w s b2 b4 b6 (bodyD s) wx)
  case first =>
    by_cases h0 : fOkS s 5 = true
    case neg =>
      have q : fOkS s 5 = false := by simpa using h0
      clear h0
      go_wp2_with fail
      go_meet
      exact ⟨vbool (by rw [HG.out, q]; rfl), HS12.out⟩
    case pos =>
    by_cases h1 : er = 0
    case neg =>
      have q : (er != 0) = true := by simpa using h1
      have G := hide (show goodD s = false from by rw [HG.out, decide_eq_false h1]; simp)
      clear h1
      go_wp2_with fail
      go_meet
      exact ⟨vbool (by rw [G.out]; rfl), HS12.out⟩
    case pos =>
    have q1 : (er != 0) = false := by simpa using h1
    by_cases h2 : n = 34
    case neg =>
      have q : (n != 34) = true := by simpa using h2
      have G := hide (show goodD s = false from by rw [HG.out, decide_eq_false h2]; simp)
      clear h2 h1
      go_wp2_with fail
      go_meet
      exact ⟨vbool (by rw [G.out]; rfl), HS12.out⟩
    case pos =>
    have q2 : (n != 34) = false := by simpa using h2
    by_cases h3 : fr = 0
    case neg =>
      have q : (fr != 0) = true := by simpa using h3
      have G := hide (show goodD s = false from by rw [HG.out, decide_eq_false h3]; simp)
      clear h3 h2 h1
      go_wp2_with fail
      go_meet
      exact ⟨vbool (by rw [G.out]; rfl), HS12.out⟩
    case pos =>
    have q3 : (fr != 0) = false := by simpa using h3
    by_cases h4 : chkD (bodyD s) = 0
    case neg =>
      have q : (chkD (bodyD s) != 0) = true := by simpa using h4
      have G := hide (show goodD s = false from by rw [HG.out, decide_eq_false h4]; simp)
      clear h4 h3 h2 h1
      go_wp2_with (first | (refine wpList_load_rowG 27 (.tmp 6) rfl rfl b6 rfl 27 (bodyD s).cells (0, 0) _ HS12.out.d6 Tryz.underlying27 rfl (info27 _) ?_) | (go_at_call 15; refine (CK.out _ (hT.below HS12.out.bel)).mono ?_; rintro e w13 ⟨rfl, hb13⟩))
      go_meet
      exact ⟨vbool (by rw [G.out]; rfl), HS12.out.below hb13⟩
    case pos =>
    have q : (chkD (bodyD s) != 0) = false := by simpa using h4
    have G := hide (show goodD s = true from by rw [HG.out, h0, decide_eq_true h1, decide_eq_true h2, decide_eq_true h3, decide_eq_true h4]; rfl)
    clear h4 h3 h2 h1
    go_wp2_with (first | (refine wpList_load_rowG 27 (.tmp 6) rfl rfl b6 rfl 27 (bodyD s).cells (0, 0) _ HS12.out.d6 Tryz.underlying27 rfl (info27 _) ?_) | (go_at_call 15; refine (CK.out _ (hT.below HS12.out.bel)).mono ?_; rintro e w13 ⟨rfl, hb13⟩))
    go_meet
    exact ⟨vbool (by rw [G.out]; rfl), HS12.out.below hb13⟩
  case rest =>
  obtain ⟨rfl, hS13⟩ := hcut
  have HS13 := hide hS13
  clear hS13 HS12 CK HG
  cases hgd : goodD s
  case false =>
    have HD := hide (show decD s = (DR.zero, 10) from by rw [HSUP.out, hgd]; rfl)
    have HRZ := hide (show Blk (wc.setRow b2 #[.int .i64 0, .int .i64 0, .string ⟨#[]⟩, .string ⟨#[]⟩, .string ⟨#[]⟩, .string ⟨#[]⟩, .string ⟨#[]⟩, .int .i64 0, .int .i64 0, .int .i64 0, .int .i64 0, .int .i64 0, .int .i64 0, .int .i64 0, .int .i64 0, .string ⟨#[]⟩, .int .i64 0, .int .i64 0, .int .i64 0, .int .i64 0, .int .i64 0, .int .i64 0, .string ⟨#[]⟩]) b2 DR.zero.cells 27 from HS13.out.r2.setRow)
    have hbl := below_setRow' HS13.out.bel (Nat.le_of_lt HS13.out.l1) #[.int .i64 0, .int .i64 0, .string ⟨#[]⟩, .string ⟨#[]⟩, .string ⟨#[]⟩, .string ⟨#[]⟩, .string ⟨#[]⟩, .int .i64 0, .int .i64 0, .int .i64 0, .int .i64 0, .int .i64 0, .int .i64 0, .int .i64 0, .int .i64 0, .string ⟨#[]⟩, .int .i64 0, .int .i64 0, .int .i64 0, .int .i64 0, .int .i64 0, .int .i64 0, .string ⟨#[]⟩]
    clear hgd
    go_wp2_with (refine wpList_store_row rfl 27 (.tmp 2) (.tmp 179) rfl b2 #[.int .i64 0, .int .i64 0, .string ⟨#[]⟩, .string ⟨#[]⟩, .string ⟨#[]⟩, .string ⟨#[]⟩, .string ⟨#[]⟩, .int .i64 0, .int .i64 0, .int .i64 0, .int .i64 0, .int .i64 0, .int .i64 0, .int .i64 0, .int .i64 0, .string ⟨#[]⟩, .int .i64 0, .int .i64 0, .int .i64 0, .int .i64 0, .int .i64 0, .int .i64 0, .string ⟨#[]⟩] rfl rfl 27 _ HS13.out.r2 (by as_aux_lemma => kernel_rfl) rfl (by as_aux_lemma => kernel_rfl) ?_)
    (try simp only [Exit.inBlock, Exit.then])
    exact dec_ret _ rfl rfl rfl HRZ.out HD.out hbl
  case true =>
    have HD := hide (show decD s = (bodyD s, 0) from by rw [HSUP.out, hgd]; rfl)
    have HRZ := hide (show Blk (wc.setRow b2 (bodyD s).cells) b2 (bodyD s).cells 27 from HS13.out.r2.setRow)
    have hbl := below_setRow' HS13.out.bel (Nat.le_of_lt HS13.out.l1) (bodyD s).cells
    clear hgd
    go_wp2_with (first | (refine wpList_load_row rfl 27 (.tmp 6) rfl b6 rfl 27 (bodyD s).cells (0, 0) _ HS13.out.d6 Tryz.underlying27 rfl (info27 _) ?_) | (refine wpList_store_row rfl 27 (.tmp 2) (.tmp 180) rfl b2 (bodyD s).cells rfl rfl 27 _ HS13.out.r2 (info27 _) (size27 _ _) (one27 _) ?_))
    (try simp only [Exit.inBlock, Exit.then])
    exact dec_ret _ rfl rfl rfl HRZ.out HD.out hbl
end Go.Proofs.YtjbhokmkmapkoaaGreatDoor
