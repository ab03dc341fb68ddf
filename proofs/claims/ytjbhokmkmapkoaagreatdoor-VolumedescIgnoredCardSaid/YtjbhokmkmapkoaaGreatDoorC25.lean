/- Contracts and plain words for the laws of volume descriptors, part 25: I6. No condition. -/
import Derived.Test.YtjbhokmkmapkoaaGreatDoorC24
namespace Go.Proofs.YtjbhokmkmapkoaaGreatDoor
set_option linter.unusedSimpArgs false
set_option linter.unusedVariables false
open Go.RowKit
open Go.PlainAid (bt get_bt bt_nonneg bt_le bt_end)
/-- string([]byte) of a block that is known whole. -/
theorem conv_blk (W : World) (x n : Nat) (ns : List Int) (C : Array Value) (hC : C = (ns.map (Value.int .u8)).toArray) (hn : n = ns.length) (T : TypeId) (h : Blk W x C T) :
    (convert 48 9 (.slice (some ⟨x, 0, none⟩) n n)).run Tryz.prog W = .ok (.string ⟨(ns.map fun n => UInt8.ofNat n.toNat).toArray⟩) W := by
  subst hn
  refine run_conv_bytes W 48 9 5 Tryz.underlying48 Tryz.underlying5 Tryz.underlying9 ⟨x, 0, none⟩ _ ns (fun j v hj => ?_)
  have e : (Addr.add ⟨x, 0, none⟩ j) = ⟨x, j, none⟩ := by simp [Addr.add]; intro h; exact h.symm
  rw [e, h.cells, hC]
  simpa using hj
set_option maxRecDepth 100000 in
set_option maxHeartbeats 8000000 in
theorem rdirEnc_any (r : Rec) (hi : r.id = selfS) (hu : r.use = ⟨#[]⟩) (w : World) : Calls Tryz.prog 42 #[.agg r.cells] w fun e w' => e = .returned (.tuple #[.string (encRS r), .int .i64 (recE r)]) ∧ Below w.heap.size w w' := by
  obtain ⟨d, k, RT0, hdk⟩ := rrec_call r
  have RRT := hide RT0
  have HD := hide hdk
  have hd7 : d.size ≤ 7 := hdk.1
  have hk02 : k = 0 ∨ k = 2 := by
    rcases hdk.2 with ⟨_, h, _⟩ | ⟨_, h⟩
    · exact Or.inl h
    · exact Or.inr h
  have HI := hide hi
  have HU := hide hu
  have hEq := hide (recE_self hi hu)
  clear RT0 hdk hi hu
  have HL : Live w [] := trivial
  go_enter Tryz.func42, Tryz.ntmps42
  go_upto_region 1 with fail
  have hB1 : Blk (w.alloc (.cells r.cells 25)) w.heap.size r.cells 25 := Blk.newAt rfl
  have hbel1 : Below w.heap.size w (w.alloc (.cells r.cells 25)) := by (exact bl)
  generalize w.alloc (.cells r.cells 25) = W1 at *
  have hlt1 := hB1.lt
  have hrr := Rat.of hB1
  unfold Rat at hrr
  rw [HI.out, HU.out] at hrr
  unfold selfS at hrr
  have HL : Live W1 [w.heap.size] := ⟨hlt1, trivial⟩
  go_upto_region 7 with (first | (go_at_call 89; (with_reducible refine (rsize_self _).mono ?_); rintro e w' ⟨rfl, rfl⟩) | (go_at_call 90; (with_reducible refine (RRT.out _).mono ?_); rintro e w' ⟨rfl, hb⟩; have hz := hb.size; (try simp only [SZ, Nat.reduceAdd] at hz); (first | obtain ⟨HL, hk⟩ := HL.callA hb hz | obtain ⟨HL, hk⟩ := HL.call0A hb hz); (try simp only [addN, Nat.add_zero] at HL hk); have hl := HL; simp only [Live] at hl; (try simp only [Kept] at hk)))
  have hB2 : Blk w' w.heap.size r.cells 25 := Blk.below hb hB1
  have hbel2 : Below w.heap.size w w' := hbel1.trans (hb.mono (by omega))
  generalize w' = W2 at *
  clear hk HL hl hz hB1 hrr hlt1 hbel1 hb
  have hrr := Rat.of hB2
  unfold Rat at hrr
  go_cut [61] (fun v wx => v = .bool (!(decide (k = 0) && wordB r.lba && wordB r.len && halfB r.seq && byteB r.flags)) ∧ W2 = wx)
  case first =>
    cases h1 : wordB r.lba
    case false =>
      go_wp2_with (first | (go_at_call 91; (with_reducible refine (rf_word _ _).mono ?_); rintro e w' ⟨rfl, rfl⟩) | (go_at_call 91; (with_reducible refine (rf_byte _ _).mono ?_); rintro e w' ⟨rfl, rfl⟩) | (go_at_call 91; (with_reducible refine (rf_half _ _).mono ?_); rintro e w' ⟨rfl, rfl⟩))
      go_meet
      exact ⟨vbool (by simp [*]), rfl⟩
    case true =>
    cases h2 : wordB r.len
    case false =>
      go_wp2_with (first | (go_at_call 91; (with_reducible refine (rf_word _ _).mono ?_); rintro e w' ⟨rfl, rfl⟩) | (go_at_call 91; (with_reducible refine (rf_byte _ _).mono ?_); rintro e w' ⟨rfl, rfl⟩) | (go_at_call 91; (with_reducible refine (rf_half _ _).mono ?_); rintro e w' ⟨rfl, rfl⟩))
      go_meet
      exact ⟨vbool (by simp [*]), rfl⟩
    case true =>
    cases h3 : byteB r.flags
    case false =>
      go_wp2_with (first | (go_at_call 91; (with_reducible refine (rf_word _ _).mono ?_); rintro e w' ⟨rfl, rfl⟩) | (go_at_call 91; (with_reducible refine (rf_byte _ _).mono ?_); rintro e w' ⟨rfl, rfl⟩) | (go_at_call 91; (with_reducible refine (rf_half _ _).mono ?_); rintro e w' ⟨rfl, rfl⟩))
      go_meet
      exact ⟨vbool (by simp [*]), rfl⟩
    case true =>
    cases h4 : halfB r.seq
    case false =>
      go_wp2_with (first | (go_at_call 91; (with_reducible refine (rf_word _ _).mono ?_); rintro e w' ⟨rfl, rfl⟩) | (go_at_call 91; (with_reducible refine (rf_byte _ _).mono ?_); rintro e w' ⟨rfl, rfl⟩) | (go_at_call 91; (with_reducible refine (rf_half _ _).mono ?_); rintro e w' ⟨rfl, rfl⟩))
      go_meet
      exact ⟨vbool (by simp [*]), rfl⟩
    case true =>
    rcases hk02 with rfl | rfl
    · go_wp2_with (first | (go_at_call 91; (with_reducible refine (rf_word _ _).mono ?_); rintro e w' ⟨rfl, rfl⟩) | (go_at_call 91; (with_reducible refine (rf_byte _ _).mono ?_); rintro e w' ⟨rfl, rfl⟩) | (go_at_call 91; (with_reducible refine (rf_half _ _).mono ?_); rintro e w' ⟨rfl, rfl⟩))
      go_meet
      exact ⟨vbool (by simp [*]), rfl⟩
    · go_wp2_with (first | (go_at_call 91; (with_reducible refine (rf_word _ _).mono ?_); rintro e w' ⟨rfl, rfl⟩) | (go_at_call 91; (with_reducible refine (rf_byte _ _).mono ?_); rintro e w' ⟨rfl, rfl⟩) | (go_at_call 91; (with_reducible refine (rf_half _ _).mono ?_); rintro e w' ⟨rfl, rfl⟩))
      go_meet
      exact ⟨vbool (by simp [*]), rfl⟩
  case rest =>
    obtain ⟨rfl, rfl⟩ := hcut
    have hgd : (tmB r.time && zoneB r.zone) = decide (k = 0) := by
      rcases HD.out.2 with ⟨h, h2, _⟩ | ⟨h, h2⟩
      · rw [h, h2]; rfl
      · rw [h, h2]; rfl
    have hEq2 := hEq.out
    rw [hgd] at hEq2
    clear hgd
    cases hbad : (decide (k = 0) && wordB r.lba && wordB r.len && halfB r.seq && byteB r.flags)
    case false =>
      rw [hbad] at hEq2
      have hE : recE r = 2 := hEq2
      have hEE := hide hE
      have hER := hide (show encRS r = ⟨#[]⟩ by unfold encRS; rw [hE]; rfl)
      clear hEq2 hE hbad
      go_wp2_with fail
      go_ret2
      exact ⟨ret2_sb hER.out.symm hEE.out.symm, hbel2⟩
    case true =>
      rw [hbad] at hEq2
      have hE : recE r = 0 := hEq2
      have hEE := hide hE
      have hER := hide (show encRS r = ⟨(encR r).toArray⟩ by unfold encRS; rw [hE]; rfl)
      obtain ⟨⟨htm, hzz⟩, b1, b2, b3, b4⟩ := recE_zero hE
      have hds : d.size = 7 := by
        rcases HD.out.2 with ⟨_, _, e⟩ | ⟨e, _⟩
        · rw [e]; exact recT2_size htm hzz
        · rw [htm, hzz] at e; cases e
      clear htm hzz
      have hBy := hide (renc_bytes HI.out HU.out HD.out hE)
      clear hEq2 hE hbad
      rw [HI.out, HU.out] at hrr
      unfold selfS at hrr
      go_upto_region 9 with fail
      have l4a : (both4 r.lba).length = 8 := rfl
      have l4b : (both4 r.len).length = 8 := rfl
      have l2a : (both2 r.seq).length = 4 := rfl
      have uf : IntKind.u8.wrap r.flags = r.flags := IntWalk.u8_in _ (by omega)
      refine' region_linF (RL := LV _ :: LV _ :: LB 2 _ _ :: LV _ :: LV _ :: LV _ :: LV _ :: LV _ :: LV _ :: LV _ :: LV _ :: LV _ :: LV _ :: LV _ :: LV _ :: LV _ :: LV _ :: LB 3 _ _ :: LV _ :: LV _ :: LV _ :: LV _ :: LV _ :: LV _ :: LV _ :: LV _ :: LV _ :: LV _ :: LB 1 _ _ :: LV _ :: LV _ :: LV _ :: LV _ :: LV _ :: LV _ :: []) (by kernel_rfl) (by kernel_rfl) ?main
      case main =>
        refine ⟨fun u => ?_, ?_, ?_, ?_⟩
        · simp only [putsL, Act.put, List.setIfInBounds_toArray, List.set_cons_zero, List.set_cons_succ, Nat.reduceAdd]
          rfl
        · repeat (first | exact LAll.nil | refine LAll.cons (by first | exact LV.st _ | exact LB.st _ _ _ | exact LP.st _ _ | exact LT.st) ?_)
        · refine LinStepsF.cons (fun u wx hbx hd K hK => ?_) ?_
          · (have hBx := Blk.below hbx hB2; have hrr := Rat.of hBx; unfold Rat at hrr; rw [HI.out, HU.out] at hrr; unfold selfS at hrr)
            go_simp
            refine hK.out _ _ (by simp only [PT]; rfl) bl lvC
          refine LinStepsF.cons (fun u wx hbx hd K hK => ?_) ?_
          · have e0 : u 0 = _ := (show LV _ (u 0) wx from hd.out 0 (by kernel_rfl))
            (have hBx := Blk.below hbx hB2; have hrr := Rat.of hBx; unfold Rat at hrr; rw [HI.out, HU.out] at hrr; unfold selfS at hrr)
            go_simp
            refine hK.out _ _ (by simp only [PT, e0]; rfl) bl lvC
          refine LinStepsF.cons (fun u wx hbx hd K hK => ?_) ?_
          · have e1 : u 1 = _ := (show LV _ (u 1) wx from hd.out 1 (by kernel_rfl))
            (have hBx := Blk.below hbx hB2; have hrr := Rat.of hBx; unfold Rat at hrr; rw [HI.out, HU.out] at hrr; unfold selfS at hrr)
            go_simp
            refine hK.out _ _ (by simp only [PT, e1]; rfl) bl lbC
          refine LinStepsF.cons (fun u wx hbx hd K hK => ?_) ?_
          · obtain ⟨x2, e2, b2⟩ := (show LB _ _ _ (u 2) wx from hd.out 2 (by kernel_rfl))
            (have hBx := Blk.below hbx hB2; have hrr := Rat.of hBx; unfold Rat at hrr; rw [HI.out, HU.out] at hrr; unfold selfS at hrr)
            (have cv := conv_blk wx x2 2 [34, 0] _ rfl rfl _ b2; go_simp)
            refine hK.out _ _ (by simp only [PT, e2]; rfl) bl lvC
          refine LinStepsF.cons (fun u wx hbx hd K hK => ?_) ?_
          · (have hBx := Blk.below hbx hB2; have hrr := Rat.of hBx; unfold Rat at hrr; rw [HI.out, HU.out] at hrr; unfold selfS at hrr)
            go_simp
            refine hK.out _ _ (by simp only [PT]; rfl) bl lvC
          refine LinStepsF.cons (fun u wx hbx hd K hK => ?_) ?_
          · have e4 : u 4 = _ := (show LV _ (u 4) wx from hd.out 4 (by kernel_rfl))
            (have hBx := Blk.below hbx hB2; have hrr := Rat.of hBx; unfold Rat at hrr; rw [HI.out, HU.out] at hrr; unfold selfS at hrr)
            go_simp
            refine hK.out _ _ (by simp only [PT, e4]; rfl) bl lvC
          refine LinStepsF.cons (fun u wx hbx hd K hK => ?_) ?_
          · have e5 : u 5 = _ := (show LV _ (u 5) wx from hd.out 5 (by kernel_rfl))
            (have hBx := Blk.below hbx hB2; have hrr := Rat.of hBx; unfold Rat at hrr; rw [HI.out, HU.out] at hrr; unfold selfS at hrr)
            go_simp
            (first | (go_at_call 92; (with_reducible refine (rb20_4 _ (by omega) _).mono ?_); rintro e w' ⟨rfl, hb⟩) | (go_at_call 92; (with_reducible refine (rb20_2 _ (by omega) _).mono ?_); rintro e w' ⟨rfl, hb⟩))
            go_wp2_with fail
            refine hK.out _ _ (by simp only [PT, e5]; rfl) bl lvC
          refine LinStepsF.cons (fun u wx hbx hd K hK => ?_) ?_
          · have e3 : u 3 = _ := (show LV _ (u 3) wx from hd.out 3 (by kernel_rfl))
            have e6 : u 6 = _ := (show LV _ (u 6) wx from hd.out 6 (by kernel_rfl))
            (have hBx := Blk.below hbx hB2; have hrr := Rat.of hBx; unfold Rat at hrr; rw [HI.out, HU.out] at hrr; unfold selfS at hrr)
            go_simp
            refine hK.out _ _ (by simp only [PT, e3, e6]; rfl) bl lvC
          refine LinStepsF.cons (fun u wx hbx hd K hK => ?_) ?_
          · (have hBx := Blk.below hbx hB2; have hrr := Rat.of hBx; unfold Rat at hrr; rw [HI.out, HU.out] at hrr; unfold selfS at hrr)
            go_simp
            refine hK.out _ _ (by simp only [PT]; rfl) bl lvC
          refine LinStepsF.cons (fun u wx hbx hd K hK => ?_) ?_
          · have e8 : u 8 = _ := (show LV _ (u 8) wx from hd.out 8 (by kernel_rfl))
            (have hBx := Blk.below hbx hB2; have hrr := Rat.of hBx; unfold Rat at hrr; rw [HI.out, HU.out] at hrr; unfold selfS at hrr)
            go_simp
            refine hK.out _ _ (by simp only [PT, e8]; rfl) bl lvC
          refine LinStepsF.cons (fun u wx hbx hd K hK => ?_) ?_
          · have e6 : u 6 = _ := (show LV _ (u 6) wx from hd.out 6 (by kernel_rfl))
            have e9 : u 9 = _ := (show LV _ (u 9) wx from hd.out 9 (by kernel_rfl))
            (have hBx := Blk.below hbx hB2; have hrr := Rat.of hBx; unfold Rat at hrr; rw [HI.out, HU.out] at hrr; unfold selfS at hrr)
            go_simp
            (first | (go_at_call 92; (with_reducible refine (rb20_4 _ (by omega) _).mono ?_); rintro e w' ⟨rfl, hb⟩) | (go_at_call 92; (with_reducible refine (rb20_2 _ (by omega) _).mono ?_); rintro e w' ⟨rfl, hb⟩))
            go_wp2_with fail
            refine hK.out _ _ (by simp only [PT, e6, e9]; rfl) bl lvC
          refine LinStepsF.cons (fun u wx hbx hd K hK => ?_) ?_
          · have e7 : u 7 = _ := (show LV _ (u 7) wx from hd.out 7 (by kernel_rfl))
            have e10 : u 10 = _ := (show LV _ (u 10) wx from hd.out 10 (by kernel_rfl))
            (have hBx := Blk.below hbx hB2; have hrr := Rat.of hBx; unfold Rat at hrr; rw [HI.out, HU.out] at hrr; unfold selfS at hrr)
            go_simp
            refine hK.out _ _ (by simp only [PT, e7, e10]; rfl) bl lvC
          refine LinStepsF.cons (fun u wx hbx hd K hK => ?_) ?_
          · (have hBx := Blk.below hbx hB2; have hrr := Rat.of hBx; unfold Rat at hrr; rw [HI.out, HU.out] at hrr; unfold selfS at hrr)
            go_simp
            refine hK.out _ _ (by simp only [PT]; rfl) bl lvC
          refine LinStepsF.cons (fun u wx hbx hd K hK => ?_) ?_
          · have e11 : u 11 = _ := (show LV _ (u 11) wx from hd.out 11 (by kernel_rfl))
            have e12 : u 12 = _ := (show LV _ (u 12) wx from hd.out 12 (by kernel_rfl))
            (have hBx := Blk.below hbx hB2; have hrr := Rat.of hBx; unfold Rat at hrr; rw [HI.out, HU.out] at hrr; unfold selfS at hrr)
            go_simp
            refine hK.out _ _ (by simp only [PT, e11, e12]; rfl) bl lvC
          refine LinStepsF.cons (fun u wx hbx hd K hK => ?_) ?_
          · (have hBx := Blk.below hbx hB2; have hrr := Rat.of hBx; unfold Rat at hrr; rw [HI.out, HU.out] at hrr; unfold selfS at hrr)
            go_simp
            refine hK.out _ _ (by simp only [PT]; rfl) bl lvC
          refine LinStepsF.cons (fun u wx hbx hd K hK => ?_) ?_
          · have e14 : u 14 = _ := (show LV _ (u 14) wx from hd.out 14 (by kernel_rfl))
            (have hBx := Blk.below hbx hB2; have hrr := Rat.of hBx; unfold Rat at hrr; rw [HI.out, HU.out] at hrr; unfold selfS at hrr)
            go_simp
            refine hK.out _ _ (by simp only [PT, e14]; rfl) bl lvC
          refine LinStepsF.cons (fun u wx hbx hd K hK => ?_) ?_
          · have e15 : u 15 = _ := (show LV _ (u 15) wx from hd.out 15 (by kernel_rfl))
            (have hBx := Blk.below hbx hB2; have hrr := Rat.of hBx; unfold Rat at hrr; rw [HI.out, HU.out] at hrr; unfold selfS at hrr)
            go_simp
            refine hK.out _ _ (by simp only [PT, e15]; rfl) bl lvC
          refine LinStepsF.cons (fun u wx hbx hd K hK => ?_) ?_
          · have e16 : u 16 = _ := (show LV _ (u 16) wx from hd.out 16 (by kernel_rfl))
            (have hBx := Blk.below hbx hB2; have hrr := Rat.of hBx; unfold Rat at hrr; rw [HI.out, HU.out] at hrr; unfold selfS at hrr)
            go_simp
            refine hK.out _ _ (by simp only [PT, e16]; rfl) bl lbC
          refine LinStepsF.cons (fun u wx hbx hd K hK => ?_) ?_
          · obtain ⟨x17, e17, b17⟩ := (show LB _ _ _ (u 17) wx from hd.out 17 (by kernel_rfl))
            (have hBx := Blk.below hbx hB2; have hrr := Rat.of hBx; unfold Rat at hrr; rw [HI.out, HU.out] at hrr; unfold selfS at hrr)
            (have cv := conv_blk wx x17 3 [r.flags, 0, 0] _ rfl rfl _ b17; go_simp)
            refine hK.out _ _ (by simp only [PT, e17]; rfl) bl lvC
          refine LinStepsF.cons (fun u wx hbx hd K hK => ?_) ?_
          · have e13 : u 13 = _ := (show LV _ (u 13) wx from hd.out 13 (by kernel_rfl))
            have e18 : u 18 = _ := (show LV _ (u 18) wx from hd.out 18 (by kernel_rfl))
            (have hBx := Blk.below hbx hB2; have hrr := Rat.of hBx; unfold Rat at hrr; rw [HI.out, HU.out] at hrr; unfold selfS at hrr)
            go_simp
            refine hK.out _ _ (by simp only [PT, e13, e18]; rfl) bl lvC
          refine LinStepsF.cons (fun u wx hbx hd K hK => ?_) ?_
          · (have hBx := Blk.below hbx hB2; have hrr := Rat.of hBx; unfold Rat at hrr; rw [HI.out, HU.out] at hrr; unfold selfS at hrr)
            go_simp
            refine hK.out _ _ (by simp only [PT]; rfl) bl lvC
          refine LinStepsF.cons (fun u wx hbx hd K hK => ?_) ?_
          · have e20 : u 20 = _ := (show LV _ (u 20) wx from hd.out 20 (by kernel_rfl))
            (have hBx := Blk.below hbx hB2; have hrr := Rat.of hBx; unfold Rat at hrr; rw [HI.out, HU.out] at hrr; unfold selfS at hrr)
            go_simp
            refine hK.out _ _ (by simp only [PT, e20]; rfl) bl lvC
          refine LinStepsF.cons (fun u wx hbx hd K hK => ?_) ?_
          · have e10 : u 10 = _ := (show LV _ (u 10) wx from hd.out 10 (by kernel_rfl))
            have e21 : u 21 = _ := (show LV _ (u 21) wx from hd.out 21 (by kernel_rfl))
            (have hBx := Blk.below hbx hB2; have hrr := Rat.of hBx; unfold Rat at hrr; rw [HI.out, HU.out] at hrr; unfold selfS at hrr)
            go_simp
            (first | (go_at_call 92; (with_reducible refine (rb20_4 _ (by omega) _).mono ?_); rintro e w' ⟨rfl, hb⟩) | (go_at_call 92; (with_reducible refine (rb20_2 _ (by omega) _).mono ?_); rintro e w' ⟨rfl, hb⟩))
            go_wp2_with fail
            refine hK.out _ _ (by simp only [PT, e10, e21]; rfl) bl lvC
          refine LinStepsF.cons (fun u wx hbx hd K hK => ?_) ?_
          · have e19 : u 19 = _ := (show LV _ (u 19) wx from hd.out 19 (by kernel_rfl))
            have e22 : u 22 = _ := (show LV _ (u 22) wx from hd.out 22 (by kernel_rfl))
            (have hBx := Blk.below hbx hB2; have hrr := Rat.of hBx; unfold Rat at hrr; rw [HI.out, HU.out] at hrr; unfold selfS at hrr)
            go_simp
            refine hK.out _ _ (by simp only [PT, e19, e22]; rfl) bl lvC
          refine LinStepsF.cons (fun u wx hbx hd K hK => ?_) ?_
          · (have hBx := Blk.below hbx hB2; have hrr := Rat.of hBx; unfold Rat at hrr; rw [HI.out, HU.out] at hrr; unfold selfS at hrr)
            go_simp
            refine hK.out _ _ (by simp only [PT]; rfl) bl lvC
          refine LinStepsF.cons (fun u wx hbx hd K hK => ?_) ?_
          · have e24 : u 24 = _ := (show LV _ (u 24) wx from hd.out 24 (by kernel_rfl))
            (have hBx := Blk.below hbx hB2; have hrr := Rat.of hBx; unfold Rat at hrr; rw [HI.out, HU.out] at hrr; unfold selfS at hrr)
            go_simp
            refine hK.out _ _ (by simp only [PT, e24]; rfl) bl lvC
          refine LinStepsF.cons (fun u wx hbx hd K hK => ?_) ?_
          · have e25 : u 25 = _ := (show LV _ (u 25) wx from hd.out 25 (by kernel_rfl))
            (have hBx := Blk.below hbx hB2; have hrr := Rat.of hBx; unfold Rat at hrr; rw [HI.out, HU.out] at hrr; unfold selfS at hrr)
            go_simp
            refine hK.out _ _ (by simp only [PT, e25]; rfl) bl lvC
          refine LinStepsF.cons (fun u wx hbx hd K hK => ?_) ?_
          · have e26 : u 26 = _ := (show LV _ (u 26) wx from hd.out 26 (by kernel_rfl))
            (have hBx := Blk.below hbx hB2; have hrr := Rat.of hBx; unfold Rat at hrr; rw [HI.out, HU.out] at hrr; unfold selfS at hrr)
            go_simp
            refine hK.out _ _ (by simp only [PT, e26]; rfl) bl lvC
          refine LinStepsF.cons (fun u wx hbx hd K hK => ?_) ?_
          · have e27 : u 27 = _ := (show LV _ (u 27) wx from hd.out 27 (by kernel_rfl))
            (have hBx := Blk.below hbx hB2; have hrr := Rat.of hBx; unfold Rat at hrr; rw [HI.out, HU.out] at hrr; unfold selfS at hrr)
            go_simp
            refine hK.out _ _ (by simp only [PT, e27]; rfl) bl lbC
          refine LinStepsF.cons (fun u wx hbx hd K hK => ?_) ?_
          · obtain ⟨x28, e28, b28⟩ := (show LB _ _ _ (u 28) wx from hd.out 28 (by kernel_rfl))
            (have hBx := Blk.below hbx hB2; have hrr := Rat.of hBx; unfold Rat at hrr; rw [HI.out, HU.out] at hrr; unfold selfS at hrr)
            (have cv := conv_blk wx x28 1 [1] _ rfl rfl _ b28; go_simp)
            refine hK.out _ _ (by simp only [PT, e28]; rfl) bl lvC
          refine LinStepsF.cons (fun u wx hbx hd K hK => ?_) ?_
          · have e23 : u 23 = _ := (show LV _ (u 23) wx from hd.out 23 (by kernel_rfl))
            have e29 : u 29 = _ := (show LV _ (u 29) wx from hd.out 29 (by kernel_rfl))
            (have hBx := Blk.below hbx hB2; have hrr := Rat.of hBx; unfold Rat at hrr; rw [HI.out, HU.out] at hrr; unfold selfS at hrr)
            go_simp
            refine hK.out _ _ (by simp only [PT, e23, e29]; rfl) bl lvC
          refine LinStepsF.cons (fun u wx hbx hd K hK => ?_) ?_
          · (have hBx := Blk.below hbx hB2; have hrr := Rat.of hBx; unfold Rat at hrr; rw [HI.out, HU.out] at hrr; unfold selfS at hrr)
            go_simp
            refine hK.out _ _ (by simp only [PT]; rfl) bl lvC
          refine LinStepsF.cons (fun u wx hbx hd K hK => ?_) ?_
          · have e31 : u 31 = _ := (show LV _ (u 31) wx from hd.out 31 (by kernel_rfl))
            (have hBx := Blk.below hbx hB2; have hrr := Rat.of hBx; unfold Rat at hrr; rw [HI.out, HU.out] at hrr; unfold selfS at hrr)
            go_simp
            refine hK.out _ _ (by simp only [PT, e31]; rfl) bl lvC
          refine LinStepsF.cons (fun u wx hbx hd K hK => ?_) ?_
          · have e30 : u 30 = _ := (show LV _ (u 30) wx from hd.out 30 (by kernel_rfl))
            have e32 : u 32 = _ := (show LV _ (u 32) wx from hd.out 32 (by kernel_rfl))
            (have hBx := Blk.below hbx hB2; have hrr := Rat.of hBx; unfold Rat at hrr; rw [HI.out, HU.out] at hrr; unfold selfS at hrr)
            go_simp
            refine hK.out _ _ (by simp only [PT, e30, e32]; rfl) bl lvC
          refine LinStepsF.cons (fun u wx hbx hd K hK => ?_) ?_
          · have e0 : u 0 = _ := (show LV _ (u 0) wx from hd.out 0 (by kernel_rfl))
            have e1 : u 1 = _ := (show LV _ (u 1) wx from hd.out 1 (by kernel_rfl))
            obtain ⟨x2, e2, b2⟩ := (show LB _ _ _ (u 2) wx from hd.out 2 (by kernel_rfl))
            have e3 : u 3 = _ := (show LV _ (u 3) wx from hd.out 3 (by kernel_rfl))
            have e4 : u 4 = _ := (show LV _ (u 4) wx from hd.out 4 (by kernel_rfl))
            have e5 : u 5 = _ := (show LV _ (u 5) wx from hd.out 5 (by kernel_rfl))
            have e6 : u 6 = _ := (show LV _ (u 6) wx from hd.out 6 (by kernel_rfl))
            have e7 : u 7 = _ := (show LV _ (u 7) wx from hd.out 7 (by kernel_rfl))
            have e8 : u 8 = _ := (show LV _ (u 8) wx from hd.out 8 (by kernel_rfl))
            have e9 : u 9 = _ := (show LV _ (u 9) wx from hd.out 9 (by kernel_rfl))
            have e10 : u 10 = _ := (show LV _ (u 10) wx from hd.out 10 (by kernel_rfl))
            have e11 : u 11 = _ := (show LV _ (u 11) wx from hd.out 11 (by kernel_rfl))
            have e12 : u 12 = _ := (show LV _ (u 12) wx from hd.out 12 (by kernel_rfl))
            have e13 : u 13 = _ := (show LV _ (u 13) wx from hd.out 13 (by kernel_rfl))
            have e14 : u 14 = _ := (show LV _ (u 14) wx from hd.out 14 (by kernel_rfl))
            have e15 : u 15 = _ := (show LV _ (u 15) wx from hd.out 15 (by kernel_rfl))
            have e16 : u 16 = _ := (show LV _ (u 16) wx from hd.out 16 (by kernel_rfl))
            obtain ⟨x17, e17, b17⟩ := (show LB _ _ _ (u 17) wx from hd.out 17 (by kernel_rfl))
            have e18 : u 18 = _ := (show LV _ (u 18) wx from hd.out 18 (by kernel_rfl))
            have e19 : u 19 = _ := (show LV _ (u 19) wx from hd.out 19 (by kernel_rfl))
            have e20 : u 20 = _ := (show LV _ (u 20) wx from hd.out 20 (by kernel_rfl))
            have e21 : u 21 = _ := (show LV _ (u 21) wx from hd.out 21 (by kernel_rfl))
            have e22 : u 22 = _ := (show LV _ (u 22) wx from hd.out 22 (by kernel_rfl))
            have e23 : u 23 = _ := (show LV _ (u 23) wx from hd.out 23 (by kernel_rfl))
            have e24 : u 24 = _ := (show LV _ (u 24) wx from hd.out 24 (by kernel_rfl))
            have e25 : u 25 = _ := (show LV _ (u 25) wx from hd.out 25 (by kernel_rfl))
            have e26 : u 26 = _ := (show LV _ (u 26) wx from hd.out 26 (by kernel_rfl))
            have e27 : u 27 = _ := (show LV _ (u 27) wx from hd.out 27 (by kernel_rfl))
            obtain ⟨x28, e28, b28⟩ := (show LB _ _ _ (u 28) wx from hd.out 28 (by kernel_rfl))
            have e29 : u 29 = _ := (show LV _ (u 29) wx from hd.out 29 (by kernel_rfl))
            have e30 : u 30 = _ := (show LV _ (u 30) wx from hd.out 30 (by kernel_rfl))
            have e31 : u 31 = _ := (show LV _ (u 31) wx from hd.out 31 (by kernel_rfl))
            have e32 : u 32 = _ := (show LV _ (u 32) wx from hd.out 32 (by kernel_rfl))
            have e33 : u 33 = _ := (show LV _ (u 33) wx from hd.out 33 (by kernel_rfl))
            (have hBx := Blk.below hbx hB2; have hrr := Rat.of hBx; unfold Rat at hrr; rw [HI.out, HU.out] at hrr; unfold selfS at hrr)
            go_simp
            refine hK.out _ _ (by simp only [PT, e0, e1, e2, e3, e4, e5, e6, e7, e8, e9, e10, e11, e12, e13, e14, e15, e16, e17, e18, e19, e20, e21, e22, e23, e24, e25, e26, e27, e28, e29, e30, e31, e32, e33]; rfl) bl lvC
          exact LinStepsF.nil
        · intro u wx hbx hall
          have e34 : u 34 = _ := (show LV _ (u 34) wx from hall.out 34 (by decide))
          have hBx := Blk.below hbx hB2
          have hrr := Rat.of hBx
          unfold Rat at hrr
          rw [HI.out, HU.out] at hrr
          unfold selfS at hrr
          have hbx2 : Below w.heap.size w wx := hbel2.trans (hbx.mono hbel2.size)
          go_wp2_with fail
          go_ret2
          exact ⟨ret2_sb (by rw [hER.out, ← hBy.out]) hEE.out.symm, hbx2⟩
end Go.Proofs.YtjbhokmkmapkoaaGreatDoor
