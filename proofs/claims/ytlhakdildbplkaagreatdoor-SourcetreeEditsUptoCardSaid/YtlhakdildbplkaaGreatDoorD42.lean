/- Contracts and plain words for the laws of this chapter, part 42: Ed6, Ed7. No condition. -/
import Derived.Test.YtlhakdildbplkaaGreatDoorD40
import Derived.Test.YtlhakdildbplkaaGreatDoorD6
import Derived.Test.YtlhakdildbplkaaGreatDoorD35
import Derived.Test.YtlhakdildbplkaaGreatDoorD41
namespace Go.Proofs.YtlhakdildbplkaaGreatDoor
set_option linter.unusedSimpArgs false
set_option linter.unusedVariables false
open Go.RowKit
theorem getT_ok {t x : Tr} {p : ByteArray} (h : getT t p = (x, 0)) : validB t = true ∧ findT t (partsP p) = some x := by
  cases hv : validB t with
  | false => rw [getT_no hv] at h; injection h with _ h; cases h
  | true =>
    cases hf : findT t (partsP p) with
    | none => rw [(getT_yes hv).2 hf] at h; injection h with _ h; cases h
    | some y => rw [(getT_yes hv).1 y hf] at h; injection h with h _; exact ⟨rfl, by rw [h]⟩
theorem SlC.empty (w : World) (B g : Nat) : SlC w B (.slice (some ⟨g, 0, none⟩) 0 0) [] := ⟨_, _, rfl, Nat.le_refl _, fun h => absurd h (Nat.lt_irrefl _)⟩
set_option maxRecDepth 100000 in
set_option maxHeartbeats 16000000 in
theorem rPut_any (t k : Tr) (d : ByteArray) (hsz : t.sz ≤ 30000) (hks : k.sz ≤ 30000) (hd : d.size ≤ 2000000) (v vk : Value) (w : World) (hv : TreeR w w.heap.size v t) (hvk : TreeR w w.heap.size vk k) :
    Calls Tryz.prog 31 #[v, .string d, vk] w fun e w' => ∃ r, e = .returned (.tuple #[r, .int .i64 (putT t d k).2]) ∧ TreeR w' w'.heap.size r (putT t d k).1 ∧ Below w.heap.size w w' := by
  obtain ⟨cn, rfl, hzn, -⟩ := hv.cells
  obtain ⟨ck, rfl, hzk, -⟩ := hvk.cells
  have HV := hide hv
  have HVK := hide hvk
  have HZ := hide (And.intro hzn hzk)
  have BZ := hide built_zero
  clear hv hvk hzn hzk
  have HL : Live w [] := trivial
  go_enter Tryz.func31, Tryz.ntmps31
  go_upto_region 1 with fail
  have hbel3 : Below w.heap.size w (((w.alloc (.cells cn 25)).alloc (.cells ck 25)).alloc (.cells zeroN 25)) := by (exact bl)
  have HBn := hide (show Blk (((w.alloc (.cells cn 25)).alloc (.cells ck 25)).alloc (.cells zeroN 25)) w.heap.size cn 25 from ((Blk.newAt rfl).alloc _).alloc _)
  have HBk := hide (show Blk (((w.alloc (.cells cn 25)).alloc (.cells ck 25)).alloc (.cells zeroN 25)) (w.heap.size + 1) ck 25 from (Blk.newAt (by simp only [World.size_alloc])).alloc _)
  have HBr := hide (show Blk (((w.alloc (.cells cn 25)).alloc (.cells ck 25)).alloc (.cells zeroN 25)) (w.heap.size + 1 + 1) zeroN 25 from Blk.newAt (by simp only [World.size_alloc]))
  unfold zeroN at hbel3 HBn HBk
  generalize hW : ((w.alloc (.cells cn 25)).alloc (.cells ck 25)).alloc (.cells #[.string ⟨#[]⟩, .int .i64 0, .string ⟨#[]⟩, .string ⟨#[]⟩, .int .i64 0, .int .i64 0, .int .i64 0, .int .i64 0, .int .i64 0, .int .i64 0, .slice none 0 0, .slice none 0 0] 25) = W3 at *
  (try rw [show ((w.alloc (.cells cn 25)).alloc (.cells ck 25)).alloc (.cells zeroN 25) = W3 from hW] at HBr)
  clear hW
  obtain ⟨br, hbr⟩ : ∃ b, b = w.heap.size + 1 + 1 := ⟨_, rfl⟩
  rw [← hbr] at HBr ⊢
  have hrw : w.heap.size ≤ br := by omega
  clear hbr
  have GT := hide (rget_any t d (by omega) hd (.agg cn) W3 (HV.out.later hbel3))
  obtain ⟨x, er, hxe⟩ : ∃ x er, getT t d = (x, er) := ⟨_, _, rfl⟩
  rw [hxe] at GT
  have HXE := hide hxe
  clear hxe
  go_upto_region 2 with (first | ((with_reducible show wpList _ _ _ (Oper.mk (some 15) _ _ _ _ _ :: _) _ _); refine wpList_load_row rfl 25 (.tmp 3) rfl w.heap.size rfl 25 cn (0, 0) _ HBn.out Tryz.underlying25 rfl (infN HZ.out.1) ?_) | (go_at_call 22; refine GT.out.mono ?_; rintro e w4 ⟨v4, rfl, hv4, hb4⟩; have HV4 := hide hv4; have HB4 := hide hb4; clear hv4 hb4) | ((with_reducible show wpList _ _ _ (Oper.mk none _ _ _ _ _ :: _) _ _); refine store_tree rfl (.tmp 8) (.tmp 18) rfl v4 _ rfl rfl rfl HV4.out ?_; rintro cd rfl hzcd h1cd))
  have hb5 : Below W3.heap.size W3 (w4.alloc (.cells cd 25)) := HB4.out.alloc HB4.out.size _
  have HD := hide (Nd.new HV4.out hzcd)
  have HNp0 := hide (Blk.below hb5 HBn.out)
  have HKp0 := hide (Blk.below hb5 HBk.out)
  have HRp0 := hide (Blk.below hb5 HBr.out)
  have hbel5 := hbel3.trans (hb5.mono hbel3.size)
  clear HV4 HB4 hzcd h1cd HBn HBk HBr hb5 hbel3 GT
  generalize w4.alloc (.cells cd 25) = W5 at *
  obtain ⟨bd, hbd⟩ : ∃ b, b = w4.heap.size := ⟨_, rfl⟩
  rw [← hbd] at HD ⊢
  clear hbd
  by_cases he0 : er = 0
  case neg =>
    have q1 : (er == 0) = false := by simp [he0]
    have HZR := hide (show putT t d k = (Tr.zero, er) by unfold putT; rw [HXE.out]; dsimp only; rw [if_pos he0])
    clear he0
    go_wp2_with (first | ((with_reducible show wpList _ _ _ (Oper.mk (some 22) _ _ _ _ _ :: _) _ _); refine wpList_build_is rfl 25 #[] rfl [] (by simp) _ BZ.out ?_) | ((with_reducible show wpList _ _ _ (Oper.mk none _ _ _ _ _ :: _) _ _); refine wpList_store_row rfl 25 (.tmp 6) (.tmp 22) rfl br zeroN rfl rfl 25 zeroN HRp0.out (infN rfl) rfl (by kernel_rfl) ?_))
    refine bodyPost_ret (results_cell2 Tryz.results31 _ _ br 25 zeroN (0, 0) _ rfl (setRow_heap _ _ _ _ _ _ HRp0.out) (.int .i64 er) rfl Tryz.underlying25 rfl (infN rfl)) rfl ?_
    exact ⟨_, by rw [HZR.out], by rw [HZR.out]; exact zero_reads _ _, hbel5.trans ((FrO.setRow (O := fun j => j = br) rfl).below hbel5.size fun j hj => by subst hj; exact hrw)⟩
  case pos =>
  subst he0
  have HOK := hide (getT_ok HXE.out)
  have d1 : W5.cell? ⟨bd, 1, none⟩ = some (.int .i64 x.h.kind) := by
    obtain ⟨hB, ⟨kv, sv, e, _⟩, _⟩ := HD.out
    injection e with e
    rw [hB.cells, e]
    rfl
  by_cases hkd : x.h.kind = 0
  case neg =>
    have q2 : (x.h.kind == 0) = false := by simp [hkd]
    have HZR := hide (show putT t d k = (Tr.zero, 8) by unfold putT; rw [HXE.out]; dsimp only; rw [if_neg (by simp), if_pos hkd])
    clear hkd
    go_wp2_with (first | ((with_reducible show wpList _ _ _ (Oper.mk (some 27) _ _ _ _ _ :: _) _ _); refine wpList_build_is rfl 25 #[] rfl [] (by simp) _ BZ.out ?_) | ((with_reducible show wpList _ _ _ (Oper.mk none _ _ _ _ _ :: _) _ _); refine wpList_store_row rfl 25 (.tmp 6) (.tmp 27) rfl br zeroN rfl rfl 25 zeroN HRp0.out (infN rfl) rfl (by kernel_rfl) ?_))
    refine bodyPost_ret (results_cell2 Tryz.results31 _ _ br 25 zeroN (0, 0) _ rfl (setRow_heap _ _ _ _ _ _ HRp0.out) (.int .i64 8) rfl Tryz.underlying25 rfl (infN rfl)) rfl ?_
    exact ⟨_, by rw [HZR.out], by rw [HZR.out]; exact zero_reads _ _, hbel5.trans ((FrO.setRow (O := fun j => j = br) rfl).below hbel5.size fun j hj => by subst hj; exact hrw)⟩
  case pos =>
  have HKD := hide hkd
  have HFD := hide HOK.out.2
  have hpz : (putP t (partsP d) k).sz ≤ 60000 := by
    obtain ⟨_, m1, m2⟩ := valid_chk HOK.out.1
    rw [putP_is m1 (okF_of m2) HFD.out, ← putK_is]
    have h1 := updT_sz (f := putK x.ks k) HFD.out
    have h2 := putK_sz x.ks k
    omega
  have q3 : (x.h.kind == 0) = true := by simp [hkd]
  by_cases hde : d = eS
  case pos =>
    have q1 : (d.toList == []) = true := by rw [hde, ByteArray.toList_eq]; rfl
    have hpp : partsP d = [] := by unfold partsP; rw [if_pos hde]
    clear hde
    go_upto_region 9 with fail
    clear q1 q3 hkd d1
    have hbA : Below W5.heap.size W5 (W5.alloc (.cells #[] 9)) := (Below.refl _ _).alloc (Nat.le_refl _) _
    have HNp := hide (Blk.below hbA HNp0.out)
    have HKp := hide (Blk.below hbA HKp0.out)
    have HRp := hide (Blk.below hbA HRp0.out)
    have hbp' := hbel5.trans (hbA.mono hbel5.size)
    have hl6 : SlC (W5.alloc (.cells #[] 9)) (W5.alloc (.cells #[] 9)).heap.size (.slice (some ⟨W5.heap.size, 0, none⟩) 0 0) (partsP d) := by rw [hpp]; exact SlC.empty _ _ _
    have hpl : (partsP d).length ≤ 2000001 := by rw [hpp]; exact Nat.zero_le _
    clear HNp0 HKp0 HRp0 hpp HD
    generalize W5.alloc (.cells #[] 9) = wp at *
    generalize W5.heap.size = gp at *
    have hbp := hbp'
    have HVp := hide (HV.out.below hbp')
    have HVKp := hide (HVK.out.below hbp')
    have HL6 := hide hl6
    clear hl6
    have PT := hide (rput_any k (partsP d) (fun j => j = br) t x HFD.out (by omega) hpl (.agg cn) _ (.agg ck) wp (fun j hj => by subst hj; exact HRp.out.lt) (TreeX.of HVp.out hbp.size fun j hj => by subst hj; exact hrw) HL6.out (TreeX.of HVKp.out hbp.size fun j hj => by subst hj; exact hrw))
    go_upto_region 10 with (first | ((with_reducible show wpList _ _ _ (Oper.mk (some 33) _ _ _ _ _ :: _) _ _); refine wpList_load_row rfl 25 (.tmp 3) rfl w.heap.size rfl 25 cn (0, 0) _ HNp.out Tryz.underlying25 rfl (infN HZ.out.1) ?_) | ((with_reducible show wpList _ _ _ (Oper.mk (some 35) _ _ _ _ _ :: _) _ _); refine wpList_load_row rfl 25 (.tmp 5) rfl (w.heap.size + 1) rfl 25 ck (0, 0) _ HKp.out Tryz.underlying25 rfl (infN HZ.out.2) ?_) | (go_at_call 75; refine PT.out.mono ?_; rintro e w7 ⟨r7, rfl, hr7, hb7⟩; have HR7 := hide hr7; have HB7 := hide hb7; clear hr7 hb7) | ((with_reducible show wpList _ _ _ (Oper.mk none _ _ _ _ _ :: _) _ _); refine store_tree rfl (.tmp 11) (.tmp 36) rfl r7 _ rfl rfl rfl HR7.out.here ?_; rintro co rfl hzco h1co))
    have hb8 : Below wp.heap.size wp (w7.alloc (.cells co 25)) := HB7.out.alloc HB7.out.size _
    have HRX := hide (HR7.out.later ((Below.refl w7.heap.size w7).alloc (Nat.le_refl _) (.cells co 25)) (fun j hj => by subst hj; exact Nat.lt_of_lt_of_le HRp.out.lt HB7.out.size))
    have HBo := hide (show Blk (w7.alloc (.cells co 25)) w7.heap.size co 25 from Blk.newAt rfl)
    have HR8 := hide (Blk.below hb8 HRp.out)
    have hbel8 := hbp'.trans (hb8.mono hbp'.size)
    generalize w7.alloc (.cells co 25) = W8 at *
    obtain ⟨bo, hbo⟩ : ∃ b, b = w7.heap.size := ⟨_, rfl⟩
    rw [← hbo] at HBo ⊢
    have HZC := hide (And.intro hzco h1co)
    clear hbo hzco h1co HR7 HB7 hb8 PT
    have CK := hide (rcheckT_any (putP t (partsP d) k) (Or.inl hpz) (.agg co) W8 HRX.out.here)
    obtain ⟨cx, ce, hce⟩ : ∃ cx ce, checkT (putP t (partsP d) k) = (cx, ce) := ⟨_, _, rfl⟩
    rw [hce] at CK
    have HCE := hide hce
    clear hce
    go_upto_region 11 with (first | ((with_reducible show wpList _ _ _ (Oper.mk (some 38) _ _ _ _ _ :: _) _ _); refine wpList_load_row rfl 25 (.tmp 11) rfl bo rfl 25 co (0, 0) _ HBo.out Tryz.underlying25 rfl (infN HZC.out.1) ?_) | (go_at_call 15; refine CK.out.mono ?_; rintro e w9 ⟨rfl, hb9⟩))
    have HR9 := hide (Blk.below hb9 HR8.out)
    have HBo9 := hide (Blk.below hb9 HBo.out)
    have hbel9 := hbel8.trans (hb9.mono hbel8.size)
    have HRX9 := hide (HRX.out.later hb9 (fun j hj => by subst hj; exact HR8.out.lt))
    clear HR8 HBo HRX CK hb9 hbel8
    by_cases hc0 : ce = 0
    case neg =>
      have q7 : (ce == 0) = false := by simp [hc0]
      have HZR := hide (show putT t d k = (Tr.zero, ce) by
        unfold putT
        rw [HXE.out]
        dsimp only
        rw [if_neg (by simp), if_neg (fun h => h HKD.out), HCE.out]
        dsimp only
        rw [if_pos hc0])
      clear hc0
      go_wp2_with (first | ((with_reducible show wpList _ _ _ (Oper.mk (some 44) _ _ _ _ _ :: _) _ _); refine wpList_build_is rfl 25 #[] rfl [] (by simp) _ BZ.out ?_) | ((with_reducible show wpList _ _ _ (Oper.mk none _ _ _ _ _ :: _) _ _); refine wpList_store_row rfl 25 (.tmp 6) (.tmp 44) rfl br zeroN rfl rfl 25 zeroN HR9.out (infN rfl) rfl (by kernel_rfl) ?_))
      refine bodyPost_ret (results_cell2 Tryz.results31 _ _ br 25 zeroN (0, 0) _ rfl (setRow_heap _ _ _ _ _ _ HR9.out) (.int .i64 ce) rfl Tryz.underlying25 rfl (infN rfl)) rfl ?_
      exact ⟨_, by rw [HZR.out], by rw [HZR.out]; exact zero_reads _ _, hbel9.trans ((FrO.setRow (O := fun j => j = br) rfl).below hbel9.size fun j hj => by subst hj; exact hrw)⟩
    case pos =>
      subst hc0
      have HZR := hide (show putT t d k = (putP t (partsP d) k, 0) by
        unfold putT
        rw [HXE.out]
        dsimp only
        rw [if_neg (by simp), if_neg (fun h => h HKD.out), HCE.out]
        dsimp only
        rw [if_neg (by simp)])
      go_wp2_with (first | ((with_reducible show wpList _ _ _ (Oper.mk (some 46) _ _ _ _ _ :: _) _ _); refine wpList_load_row rfl 25 (.tmp 11) rfl bo rfl 25 co (0, 0) _ HBo9.out Tryz.underlying25 rfl (infN HZC.out.1) ?_) | ((with_reducible show wpList _ _ _ (Oper.mk none _ _ _ _ _ :: _) _ _); refine wpList_store_row rfl 25 (.tmp 6) (.tmp 46) rfl br co rfl rfl 25 zeroN HR9.out (infN HZC.out.1) (by rw [HZC.out.1]; rfl) HZC.out.2 ?_))
      refine bodyPost_ret (results_cell2 Tryz.results31 _ _ br 25 co (0, 0) _ rfl (setRow_heap _ _ _ _ _ _ HR9.out) (.int .i64 0) rfl Tryz.underlying25 rfl (infN HZC.out.1)) rfl ?_
      exact ⟨_, by rw [HZR.out], by rw [HZR.out]; exact HRX9.out _ (FrO.setRow rfl), hbel9.trans ((FrO.setRow (O := fun j => j = br) rfl).below hbel9.size fun j hj => by subst hj; exact hrw)⟩

  case neg =>
    have q1 : (d.toList == []) = false := by
      rw [beq_eq_false_iff_ne]
      exact fun e => hde (nil_list e)
    have hpp : partsP d = words d := by unfold partsP; rw [if_neg hde]
    have SP := hide (fun W => rsplitS d hd W)
    clear hde
    go_upto_region 9 with (go_at_call 62; refine (SP.out _).mono ?_; rintro e wp ⟨v6, rfl, hr6, hb6⟩)
    clear q1 q3 hkd d1
    have hbA : Below W5.heap.size W5 wp := ((Below.refl W5.heap.size W5).alloc (Nat.le_refl _) (.cells #[] 9)).trans (hb6.mono (by rw [World.size_alloc]; omega))
    have HNp := hide (Blk.below hbA HNp0.out)
    have HKp := hide (Blk.below hbA HKp0.out)
    have HRp := hide (Blk.below hbA HRp0.out)
    have hbp' := hbel5.trans (hbA.mono hbel5.size)
    have hl6 : SlC wp wp.heap.size v6 (partsP d) := by rw [hpp]; exact SlC.of hr6
    have hpl : (partsP d).length ≤ 2000001 := by rw [hpp, words_len]; have := Lib.countB_le slash (by decide) d.size d (Nat.le_refl _); omega
    clear HNp0 HKp0 HRp0 hpp HD hr6 hb6 SP
    have hbp := hbp'
    have HVp := hide (HV.out.below hbp')
    have HVKp := hide (HVK.out.below hbp')
    have HL6 := hide hl6
    clear hl6
    have PT := hide (rput_any k (partsP d) (fun j => j = br) t x HFD.out (by omega) hpl (.agg cn) _ (.agg ck) wp (fun j hj => by subst hj; exact HRp.out.lt) (TreeX.of HVp.out hbp.size fun j hj => by subst hj; exact hrw) HL6.out (TreeX.of HVKp.out hbp.size fun j hj => by subst hj; exact hrw))
    go_upto_region 10 with (first | ((with_reducible show wpList _ _ _ (Oper.mk (some 33) _ _ _ _ _ :: _) _ _); refine wpList_load_row rfl 25 (.tmp 3) rfl w.heap.size rfl 25 cn (0, 0) _ HNp.out Tryz.underlying25 rfl (infN HZ.out.1) ?_) | ((with_reducible show wpList _ _ _ (Oper.mk (some 35) _ _ _ _ _ :: _) _ _); refine wpList_load_row rfl 25 (.tmp 5) rfl (w.heap.size + 1) rfl 25 ck (0, 0) _ HKp.out Tryz.underlying25 rfl (infN HZ.out.2) ?_) | (go_at_call 75; refine PT.out.mono ?_; rintro e w7 ⟨r7, rfl, hr7, hb7⟩; have HR7 := hide hr7; have HB7 := hide hb7; clear hr7 hb7) | ((with_reducible show wpList _ _ _ (Oper.mk none _ _ _ _ _ :: _) _ _); refine store_tree rfl (.tmp 11) (.tmp 36) rfl r7 _ rfl rfl rfl HR7.out.here ?_; rintro co rfl hzco h1co))
    have hb8 : Below wp.heap.size wp (w7.alloc (.cells co 25)) := HB7.out.alloc HB7.out.size _
    have HRX := hide (HR7.out.later ((Below.refl w7.heap.size w7).alloc (Nat.le_refl _) (.cells co 25)) (fun j hj => by subst hj; exact Nat.lt_of_lt_of_le HRp.out.lt HB7.out.size))
    have HBo := hide (show Blk (w7.alloc (.cells co 25)) w7.heap.size co 25 from Blk.newAt rfl)
    have HR8 := hide (Blk.below hb8 HRp.out)
    have hbel8 := hbp'.trans (hb8.mono hbp'.size)
    generalize w7.alloc (.cells co 25) = W8 at *
    obtain ⟨bo, hbo⟩ : ∃ b, b = w7.heap.size := ⟨_, rfl⟩
    rw [← hbo] at HBo ⊢
    have HZC := hide (And.intro hzco h1co)
    clear hbo hzco h1co HR7 HB7 hb8 PT
    have CK := hide (rcheckT_any (putP t (partsP d) k) (Or.inl hpz) (.agg co) W8 HRX.out.here)
    obtain ⟨cx, ce, hce⟩ : ∃ cx ce, checkT (putP t (partsP d) k) = (cx, ce) := ⟨_, _, rfl⟩
    rw [hce] at CK
    have HCE := hide hce
    clear hce
    go_upto_region 11 with (first | ((with_reducible show wpList _ _ _ (Oper.mk (some 38) _ _ _ _ _ :: _) _ _); refine wpList_load_row rfl 25 (.tmp 11) rfl bo rfl 25 co (0, 0) _ HBo.out Tryz.underlying25 rfl (infN HZC.out.1) ?_) | (go_at_call 15; refine CK.out.mono ?_; rintro e w9 ⟨rfl, hb9⟩))
    have HR9 := hide (Blk.below hb9 HR8.out)
    have HBo9 := hide (Blk.below hb9 HBo.out)
    have hbel9 := hbel8.trans (hb9.mono hbel8.size)
    have HRX9 := hide (HRX.out.later hb9 (fun j hj => by subst hj; exact HR8.out.lt))
    clear HR8 HBo HRX CK hb9 hbel8
    by_cases hc0 : ce = 0
    case neg =>
      have q7 : (ce == 0) = false := by simp [hc0]
      have HZR := hide (show putT t d k = (Tr.zero, ce) by
        unfold putT
        rw [HXE.out]
        dsimp only
        rw [if_neg (by simp), if_neg (fun h => h HKD.out), HCE.out]
        dsimp only
        rw [if_pos hc0])
      clear hc0
      go_wp2_with (first | ((with_reducible show wpList _ _ _ (Oper.mk (some 44) _ _ _ _ _ :: _) _ _); refine wpList_build_is rfl 25 #[] rfl [] (by simp) _ BZ.out ?_) | ((with_reducible show wpList _ _ _ (Oper.mk none _ _ _ _ _ :: _) _ _); refine wpList_store_row rfl 25 (.tmp 6) (.tmp 44) rfl br zeroN rfl rfl 25 zeroN HR9.out (infN rfl) rfl (by kernel_rfl) ?_))
      refine bodyPost_ret (results_cell2 Tryz.results31 _ _ br 25 zeroN (0, 0) _ rfl (setRow_heap _ _ _ _ _ _ HR9.out) (.int .i64 ce) rfl Tryz.underlying25 rfl (infN rfl)) rfl ?_
      exact ⟨_, by rw [HZR.out], by rw [HZR.out]; exact zero_reads _ _, hbel9.trans ((FrO.setRow (O := fun j => j = br) rfl).below hbel9.size fun j hj => by subst hj; exact hrw)⟩
    case pos =>
      subst hc0
      have HZR := hide (show putT t d k = (putP t (partsP d) k, 0) by
        unfold putT
        rw [HXE.out]
        dsimp only
        rw [if_neg (by simp), if_neg (fun h => h HKD.out), HCE.out]
        dsimp only
        rw [if_neg (by simp)])
      go_wp2_with (first | ((with_reducible show wpList _ _ _ (Oper.mk (some 46) _ _ _ _ _ :: _) _ _); refine wpList_load_row rfl 25 (.tmp 11) rfl bo rfl 25 co (0, 0) _ HBo9.out Tryz.underlying25 rfl (infN HZC.out.1) ?_) | ((with_reducible show wpList _ _ _ (Oper.mk none _ _ _ _ _ :: _) _ _); refine wpList_store_row rfl 25 (.tmp 6) (.tmp 46) rfl br co rfl rfl 25 zeroN HR9.out (infN HZC.out.1) (by rw [HZC.out.1]; rfl) HZC.out.2 ?_))
      refine bodyPost_ret (results_cell2 Tryz.results31 _ _ br 25 co (0, 0) _ rfl (setRow_heap _ _ _ _ _ _ HR9.out) (.int .i64 0) rfl Tryz.underlying25 rfl (infN HZC.out.1)) rfl ?_
      exact ⟨_, by rw [HZR.out], by rw [HZR.out]; exact HRX9.out _ (FrO.setRow rfl), hbel9.trans ((FrO.setRow (O := fun j => j = br) rfl).below hbel9.size fun j hj => by subst hj; exact hrw)⟩
set_option maxRecDepth 100000 in
set_option maxHeartbeats 16000000 in
theorem rRemove_any (t : Tr) (p : ByteArray) (hsz : t.sz ≤ 60000) (hp : p.size ≤ 2000000) (v : Value) (w : World) (hv : TreeR w w.heap.size v t) (hcap : CapT w v t) :
    Calls Tryz.prog 33 #[v, .string p] w fun e w' => ∃ r, e = .returned (.tuple #[r, .int .i64 (remT t p).2]) ∧ TreeR w' w'.heap.size r (remT t p).1 ∧ Below w.heap.size w w' := by
  obtain ⟨cn, rfl, hzn, -⟩ := hv.cells
  have HV := hide hv
  have HC := hide hcap
  have HZ := hide hzn
  have BZ := hide built_zero
  clear hv hzn hcap
  have HL : Live w [] := trivial
  go_enter Tryz.func33, Tryz.ntmps33
  go_upto_region 1 with fail
  have hbel3 : Below w.heap.size w ((w.alloc (.cells cn 25)).alloc (.cells zeroN 25)) := by (exact bl)
  have HBn := hide (show Blk ((w.alloc (.cells cn 25)).alloc (.cells zeroN 25)) w.heap.size cn 25 from (Blk.newAt rfl).alloc _)
  have HBr := hide (show Blk ((w.alloc (.cells cn 25)).alloc (.cells zeroN 25)) (w.heap.size + 1) zeroN 25 from Blk.newAt (by simp only [World.size_alloc]))
  unfold zeroN at hbel3 HBn
  generalize hW : (w.alloc (.cells cn 25)).alloc (.cells #[.string ⟨#[]⟩, .int .i64 0, .string ⟨#[]⟩, .string ⟨#[]⟩, .int .i64 0, .int .i64 0, .int .i64 0, .int .i64 0, .int .i64 0, .int .i64 0, .slice none 0 0, .slice none 0 0] 25) = W3 at *
  (try rw [show (w.alloc (.cells cn 25)).alloc (.cells zeroN 25) = W3 from hW] at HBr)
  clear hW
  obtain ⟨br, hbr⟩ : ∃ b, b = w.heap.size + 1 := ⟨_, rfl⟩
  rw [← hbr] at HBr ⊢
  obtain ⟨bn, hbn⟩ : ∃ b, b = w.heap.size := ⟨_, rfl⟩
  rw [← hbn] at HBn ⊢
  have hrw : w.heap.size ≤ br ∧ bn ≠ br := by omega
  clear hbr hbn
  have VN := hide (rvalid_any t (Or.inl hsz) (.agg cn) W3 (HV.out.later hbel3))
  cases hvd : validB t with
  | false =>
    rw [hvd] at VN
    have HZR := hide (show remT t p = (Tr.zero, 1) by unfold remT; rw [if_pos hvd])
    clear hvd
    go_wp2_with (first | ((with_reducible show wpList _ _ _ (Oper.mk (some 8) _ _ _ _ _ :: _) _ _); refine wpList_load_row rfl 25 (.tmp 2) rfl bn rfl 25 cn (0, 0) _ HBn.out Tryz.underlying25 rfl (infN HZ.out) ?_) | (go_at_call 65; refine VN.out.mono ?_; rintro e w4 ⟨rfl, hb4⟩; have HR4 := hide (Blk.below hb4 HBr.out); have hbel4 := hbel3.trans (hb4.mono hbel3.size)) | ((with_reducible show wpList _ _ _ (Oper.mk (some 11) _ _ _ _ _ :: _) _ _); refine wpList_build_is rfl 25 #[] rfl [] (by simp) _ BZ.out ?_) | ((with_reducible show wpList _ _ _ (Oper.mk none _ _ _ _ _ :: _) _ _); refine wpList_store_row rfl 25 (.tmp 4) (.tmp 11) rfl br zeroN rfl rfl 25 zeroN HR4.out (infN rfl) rfl (by kernel_rfl) ?_))
    refine bodyPost_ret (results_cell2 Tryz.results33 _ _ br 25 zeroN (0, 0) _ rfl (setRow_heap _ _ _ _ _ _ HR4.out) (.int .i64 1) rfl Tryz.underlying25 rfl (infN rfl)) rfl ?_
    exact ⟨_, by rw [HZR.out], by rw [HZR.out]; exact zero_reads _ _, hbel4.trans ((FrO.setRow (O := fun j => j = br) rfl).below hbel4.size fun j hj => by subst hj; exact hrw.1)⟩
  | true =>
    rw [hvd] at VN
    have HVD := hide hvd
    clear hvd
    by_cases hpe : p = eS
    case pos =>
      have q1 : (p.toList == []) = true := by rw [hpe, ByteArray.toList_eq]; rfl
      have HZR := hide (show remT t p = (Tr.zero, 8) by unfold remT; rw [if_neg (by rw [HVD.out]; decide), if_pos hpe])
      clear hpe
      go_wp2_with (first | ((with_reducible show wpList _ _ _ (Oper.mk (some 8) _ _ _ _ _ :: _) _ _); refine wpList_load_row rfl 25 (.tmp 2) rfl bn rfl 25 cn (0, 0) _ HBn.out Tryz.underlying25 rfl (infN HZ.out) ?_) | (go_at_call 65; refine VN.out.mono ?_; rintro e w4 ⟨rfl, hb4⟩; have HR4 := hide (Blk.below hb4 HBr.out); have hbel4 := hbel3.trans (hb4.mono hbel3.size)) | ((with_reducible show wpList _ _ _ (Oper.mk (some 14) _ _ _ _ _ :: _) _ _); refine wpList_build_is rfl 25 #[] rfl [] (by simp) _ BZ.out ?_) | ((with_reducible show wpList _ _ _ (Oper.mk none _ _ _ _ _ :: _) _ _); refine wpList_store_row rfl 25 (.tmp 4) (.tmp 14) rfl br zeroN rfl rfl 25 zeroN HR4.out (infN rfl) rfl (by kernel_rfl) ?_))
      refine bodyPost_ret (results_cell2 Tryz.results33 _ _ br 25 zeroN (0, 0) _ rfl (setRow_heap _ _ _ _ _ _ HR4.out) (.int .i64 8) rfl Tryz.underlying25 rfl (infN rfl)) rfl ?_
      exact ⟨_, by rw [HZR.out], by rw [HZR.out]; exact zero_reads _ _, hbel4.trans ((FrO.setRow (O := fun j => j = br) rfl).below hbel4.size fun j hj => by subst hj; exact hrw.1)⟩
    case neg =>
    have q1 : (p.toList == []) = false := by
      rw [beq_eq_false_iff_ne]
      exact fun e => hpe (nil_list e)
    have HRM := hide (show remT t p = if (getT t p).2 ≠ 0 then (Tr.zero, (getT t p).2) else (remP t (words p), 0) by unfold remT; rw [if_neg (by rw [HVD.out]; decide), if_neg hpe])
    have hpp : partsP p = words p := by unfold partsP; rw [if_neg hpe]
    have SP := hide (fun W => rsplitS p hp W)
    clear hpe
    go_upto_region 5 with (first | ((with_reducible show wpList _ _ _ (Oper.mk (some 8) _ _ _ _ _ :: _) _ _); refine wpList_load_row rfl 25 (.tmp 2) rfl bn rfl 25 cn (0, 0) _ HBn.out Tryz.underlying25 rfl (infN HZ.out) ?_) | (go_at_call 65; refine VN.out.mono ?_; rintro e w4 ⟨rfl, hb4⟩))
    have HBn4 := hide (Blk.below hb4 HBn.out)
    have HBr4 := hide (Blk.below hb4 HBr.out)
    have hbel4 := hbel3.trans (hb4.mono hbel3.size)
    clear HBn HBr hb4 hbel3 VN q1
    have GT := hide (rget_any t p hsz hp (.agg cn) w4 (HV.out.later hbel4))
    obtain ⟨x, er, hxe⟩ : ∃ x er, getT t p = (x, er) := ⟨_, _, rfl⟩
    rw [hxe] at GT HRM
    have HXE := hide hxe
    clear hxe
    go_upto_region 6 with (first | ((with_reducible show wpList _ _ _ (Oper.mk (some 16) _ _ _ _ _ :: _) _ _); refine wpList_load_row rfl 25 (.tmp 2) rfl bn rfl 25 cn (0, 0) _ HBn4.out Tryz.underlying25 rfl (infN HZ.out) ?_) | (go_at_call 22; refine GT.out.mono ?_; rintro e w5 ⟨v5, rfl, hv5, hb5⟩; have HV5 := hide hv5; have HB5 := hide hb5; clear hv5 hb5) | ((with_reducible show wpList _ _ _ (Oper.mk none _ _ _ _ _ :: _) _ _); refine store_tree rfl (.tmp 6) (.tmp 19) rfl v5 _ rfl rfl rfl HV5.out ?_; rintro cd rfl hzcd h1cd))
    have hb6 : Below w4.heap.size w4 (w5.alloc (.cells cd 25)) := HB5.out.alloc HB5.out.size _
    have HNp := hide (Blk.below hb6 HBn4.out)
    have HRp := hide (Blk.below hb6 HBr4.out)
    have hbel5 := hbel4.trans (hb6.mono hbel4.size)
    clear HV5 HB5 hzcd h1cd HBn4 HBr4 hb6 hbel4 GT
    generalize w5.alloc (.cells cd 25) = W5 at *
    by_cases he0 : er = 0
    case neg =>
      have q1 : (er == 0) = false := by simp [he0]
      have HZR := hide (show remT t p = (Tr.zero, er) by rw [HRM.out]; rw [if_pos he0])
      clear he0
      go_wp2_with (first | ((with_reducible show wpList _ _ _ (Oper.mk (some 23) _ _ _ _ _ :: _) _ _); refine wpList_build_is rfl 25 #[] rfl [] (by simp) _ BZ.out ?_) | ((with_reducible show wpList _ _ _ (Oper.mk none _ _ _ _ _ :: _) _ _); refine wpList_store_row rfl 25 (.tmp 4) (.tmp 23) rfl br zeroN rfl rfl 25 zeroN HRp.out (infN rfl) rfl (by kernel_rfl) ?_))
      refine bodyPost_ret (results_cell2 Tryz.results33 _ _ br 25 zeroN (0, 0) _ rfl (setRow_heap _ _ _ _ _ _ HRp.out) (.int .i64 er) rfl Tryz.underlying25 rfl (infN rfl)) rfl ?_
      exact ⟨_, by rw [HZR.out], by rw [HZR.out]; exact zero_reads _ _, hbel5.trans ((FrO.setRow (O := fun j => j = br) rfl).below hbel5.size fun j hj => by subst hj; exact hrw.1)⟩
    case pos =>
    subst he0
    have HZR := hide (show remT t p = (remP t (words p), 0) by rw [HRM.out]; rw [if_neg (by simp)])
    have hok := (getT_ok HXE.out).2
    rw [hpp, words_last] at hok
    have hpl : (dirs p).length ≤ 2000001 := by
      have h1 := words_len p
      rw [words_last, List.length_append] at h1
      have := Lib.countB_le slash (by decide) p.size p (Nat.le_refl _)
      simp at h1
      omega
    have RM := hide (show ∀ W pv, Below W5.heap.size W5 W → SlC W W.heap.size pv (words p) → Calls Tryz.prog 80 #[.agg cn, pv] W fun e w' => ∃ r, e = .returned r ∧ TreeX (fun j => j = br) w' r (remP t (words p)) ∧ Below W.heap.size W w' from fun W pv h hs => by
      have hbW : Below w.heap.size w W := hbel5.trans (h.mono hbel5.size)
      rw [words_last] at hs ⊢
      exact rremove_any (dirs p) (fun j => j = br) t x (base p) hok (by omega) hpl (.agg cn) pv W (fun j hj => by subst hj; exact Nat.lt_of_lt_of_le HRp.out.lt h.size) (TreeX.of (HV.out.below hbW) hbW.size fun j hj => by subst hj; exact hrw.1) (HC.out.below hbW) hs)
    have hkeep5 : Blk W5 bn cn 25 ∧ True := ⟨HNp.out, trivial⟩
    have hkeepd : Blk W5.drew bn cn 25 ∧ True := ⟨HNp.out, trivial⟩
    clear hok hpp
    go_upto_region 8 with fail
    refine wp_region_noPanic ?_
    refine wp_region_held_drew (S := (fun z => Blk z bn cn 25 ∧ True)) (by kernel_rfl) kp (fun hHeld => ?_)
    refine tkY 0 ⟨some 25, .load 25 (.tmp 2), 25, "ref.go:288", #[], none⟩ ?_ ?_ ?_
    rotate_left
    · intro w hSw; (try dsimp only at hSw); refine (exec_load_row 25 (.tmp 2) (by rfl) bn (by rfl) 25 cn (0, 0) _ hSw.1 Tryz.underlying25 (by rfl) (infN HZ.out)).trans ?_; with_reducible rfl
    try simp only [PT]
    refine tkY 1 ⟨some 26, .move (.tmp 1), 9, "ref.go:288", #[], none⟩ ?_ ?_ ?_
    rotate_left
    · intro w hSw; (try dsimp only at hSw); go_simp; (try with_reducible rfl)
    try simp only [PT]
    refine wpAnyH_ready (rs := [2]) (by kernel_rfl) (by simp) ?_
    refine AllReadyH.cons (o := ⟨some 27, .call ⟨.value (.func 62), #[.tmp 26, .const (.int .u8 47)], #[9, 5]⟩, 38, "ref.go:288", #[⟨1, .data⟩], none⟩) rfl (fun K hK => ?_) AllReadyH.nil
    go_simp
    (go_at_call 62; (with_reducible refine (SP.out _).mono ?_); rintro e w8 ⟨v8, rfl, hr8, hb8⟩; have hkeep8 : Blk w8 bn cn 25 ∧ True := ⟨Blk.below hb8 hkeepd.1, trivial⟩; have HB8 := hide ((Below.refl W5.heap.size W5).drew.trans hb8); have HS8 := hide (SlC.of hr8))
    go_wp2_with fail
    refine hK.out _ _ kp (fun hHeld => ?_)
    clear hK K
    try simp only [PT]
    refine wpAnyH_ready (rs := [3]) (by kernel_rfl) (by simp) ?_
    refine AllReadyH.cons (o := ⟨some 28, .call ⟨.value (.func 80), #[.tmp 25, .tmp 27], #[25, 38]⟩, 25, "ref.go:288", #[⟨0, .data⟩, ⟨2, .data⟩, ⟨2, .chain⟩], none⟩) rfl (fun K hK => ?_) AllReadyH.nil
    go_simp
    (go_at_call 80; (with_reducible refine (RM.out _ v8 HB8.out HS8.out).mono ?_); rintro e w9 ⟨r9, rfl, hr9, hb9⟩; have HR9 := hide hr9; obtain ⟨c9, rfl, hz9, h19⟩ := HR9.out.here.cells; have HZ9 := hide (And.intro hz9 h19); have hkeep9 : Blk w9 bn cn 25 ∧ True := ⟨Blk.below hb9 hkeep8.1, trivial⟩; have HBr9 := hide (Blk.below hb9 (Blk.below HB8.out HRp.out)); have hkeep10 : Blk (w9.setRow br c9) bn cn 25 ∧ True := ⟨(FrO.setRow (O := fun j => j = br) rfl : FrO (fun j => j = br) w9 (w9.setRow br c9)).blk hkeep9.1 hrw.2, trivial⟩; have HB9 := hide (HB8.out.trans (hb9.mono HB8.out.size)))
    go_wp2_with fail
    refine hK.out _ _ kp (fun hHeld => ?_)
    clear hK K
    try simp only [PT]
    refine wpAnyH_ready (rs := [4]) (by kernel_rfl) (by simp) ?_
    refine AllReadyH.cons (o := ⟨none, .store 25 (.tmp 4) (.tmp 28), 0, "ref.go:288", #[⟨3, .data⟩, ⟨3, .chain⟩, ⟨0, .phase⟩, ⟨1, .phase⟩, ⟨2, .phase⟩, ⟨3, .phase⟩], none⟩) rfl (fun K hK => ?_) AllReadyH.nil
    refine step_store_row rfl 25 (.tmp 4) (.tmp 28) rfl br c9 rfl rfl 25 zeroN HBr9.out (infN HZ9.out.1) (by rw [HZ9.out.1]; rfl) HZ9.out.2 ?_
    refine hK.out _ _ kp (fun hHeld => ?_)
    clear hK K
    try simp only [PT]
    refine tkY 5 ⟨some 5, .assign (.const (.int .i64 0)), 29, "ref.go:288", #[⟨4, .chain⟩, ⟨0, .phase⟩, ⟨1, .phase⟩, ⟨2, .phase⟩, ⟨3, .phase⟩, ⟨4, .phase⟩], none⟩ ?_ ?_ ?_
    rotate_left
    · intro w hSw; (try dsimp only at hSw); go_simp; (try with_reducible rfl)
    try simp only [PT]
    refine wpAnyH_done (by kernel_rfl) ?_ _
    refine NoPanic.normal ?_
    go_wp2_with fail
    refine bodyPost_ret (results_cell2 Tryz.results33 _ _ br 25 c9 (0, 0) _ rfl (setRow_heap _ _ _ _ _ _ HBr9.out) (.int .i64 0) rfl Tryz.underlying25 rfl (infN HZ9.out.1)) rfl ?_
    have hb6 := hbel5.trans (HB9.out.mono hbel5.size)
    exact ⟨_, by rw [HZR.out], by rw [HZR.out]; exact HR9.out _ (FrO.setRow rfl), hb6.trans ((FrO.setRow (O := fun j => j = br) rfl).below hb6.size fun j hj => by subst hj; exact hrw.1)⟩
end Go.Proofs.YtlhakdildbplkaaGreatDoor
