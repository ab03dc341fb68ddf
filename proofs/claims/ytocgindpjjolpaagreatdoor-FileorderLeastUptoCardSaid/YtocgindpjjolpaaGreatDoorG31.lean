/- Contracts and plain words for the laws of this chapter, part 31: K9, K10. No condition. -/
import Derived.Test.YtocgindpjjolpaaGreatDoorG29
import Derived.Test.YtocgindpjjolpaaGreatDoorG6
import Derived.Test.YtocgindpjjolpaaGreatDoorG30
import Derived.Test.YtocgindpjjolpaaGreatDoorG18
import Derived.Test.YtocgindpjjolpaaGreatDoorG14
import Derived.Test.YtocgindpjjolpaaGreatDoorG19
namespace Go.Proofs.YtocgindpjjolpaaGreatDoor
set_option linter.unusedSimpArgs false
set_option linter.unusedVariables false
open Go.RowKit
theorem findR_some {t x : Tr} {p : ByteArray} (h : findT t (partsP p) = some x) : findR t p = (x, true) := by unfold findR; rw [h]
theorem findR_none {t : Tr} {p : ByteArray} (h : findT t (partsP p) = none) : findR t p = (Tr.zero, false) := by unfold findR; rw [h]
set_option maxRecDepth 100000 in
set_option maxHeartbeats 4000000 in
theorem rWeight_any (t : Tr) (p : ByteArray) (hsz : t.sz ≤ 120000) (hp : p.size ≤ 2000000) (v : Value) (w : World) (hv : TreeR w w.heap.size v t) : Calls Tryz.prog 14 #[v, .string p] w fun e w' => e = .returned (.tuple #[.int .i64 (weightT t p).1, .int .i64 (weightT t p).2]) ∧ Below w.heap.size w w' := by
  have VN := hide (fun W hW => rvalid_any t (Or.inl hsz) v W hW)
  have FD := hide (fun W hW => rfind_any t p hsz hp v W hW)
  obtain ⟨cn, rfl, hzc⟩ := Nd.cells hv
  have HV := hide hv
  clear hv
  have HL : Live w [] := trivial
  go_enter Tryz.func14, Tryz.ntmps14
  go_upto_region 1 with fail
  have HN1 := hide (Nd.new HV.out hzc)
  have hbel1 : Below w.heap.size w (w.alloc (.cells cn 25)) := (Below.refl _ _).alloc (Nat.le_refl _) _
  generalize w.alloc (.cells cn 25) = W1 at *
  obtain ⟨b, hb⟩ : ∃ b, b = w.heap.size := ⟨_, rfl⟩
  rw [← hb] at HN1 ⊢
  clear hb HV hzc
  have VA := hide (VN.out _ HN1.out.2.1)
  clear VN
  cases hvd : validB t with
  | false =>
    have HZ := hide (weightT_no (p := p) hvd)
    rw [hvd] at VA
    clear hvd
    go_wp2_with (first | ((with_reducible show wpList _ _ _ (Oper.mk (some 8) _ _ _ _ _ :: _) _ _); refine wpList_load_row rfl 25 (.tmp 2) rfl b rfl 25 cn (0, 0) _ HN1.out.1 Tryz.underlying25 rfl (infN HN1.out.2.2) ?_) | (go_at_call 31; refine VA.out.mono ?_; rintro e w3 ⟨rfl, hb3⟩))
    go_ret2
    exact ⟨ret_w HZ.out, hbel1.trans (hb3.mono hbel1.size)⟩
  | true =>
  rw [hvd] at VA
  go_upto_region 3 with (first | ((with_reducible show wpList _ _ _ (Oper.mk (some 8) _ _ _ _ _ :: _) _ _); refine wpList_load_row rfl 25 (.tmp 2) rfl b rfl 25 cn (0, 0) _ HN1.out.1 Tryz.underlying25 rfl (infN HN1.out.2.2) ?_) | (go_at_call 31; refine VA.out.mono ?_; rintro e w3 ⟨rfl, hb3⟩))
  have HN3 := hide (HN1.out.below hb3)
  have hbel3 := hbel1.trans (hb3.mono hbel1.size)
  clear VA HN1 hb3
  cases hx : findT t (partsP p) with
  | none =>
    have HZ := hide (weightT_none (p := p) hvd hx)
    rw [findR_none hx] at FD
    clear hvd hx
    go_upto_region 4 with (first | ((with_reducible show wpList _ _ _ (Oper.mk (some 12) _ _ _ _ _ :: _) _ _); refine wpList_load_row rfl 25 (.tmp 2) rfl b rfl 25 cn (0, 0) _ HN3.out.1 Tryz.underlying25 rfl (infN HN3.out.2.2) ?_) | (go_at_call 49; refine (FD.out _ HN3.out.2.1).mono ?_; rintro e w4 ⟨v4, rfl, hv4, hb4⟩; have HV4 := hide hv4; have HB4 := hide hb4; clear hv4 hb4) | ((with_reducible show wpList _ _ _ (Oper.mk none _ _ _ _ _ :: _) _ _); refine store_tree rfl (.tmp 6) (.tmp 15) rfl v4 _ rfl rfl rfl HV4.out ?_; rintro ca rfl hzca h1ca))
    have hbel5 : Below w.heap.size w (w4.alloc (.cells ca 25)) := (hbel3.trans (HB4.out.mono hbel3.size)).alloc (Nat.le_trans hbel3.size HB4.out.size) _
    go_wp2_with fail
    go_ret2
    exact ⟨ret_w HZ.out, hbel5⟩
  | some x =>
    have HZ := hide (weightT_some hvd hx)
    have RW := hide (fun W hW => rweight_any t p hsz hp (by rw [hx]; rfl) (.agg cn) W hW)
    rw [findR_some hx] at FD
    clear hvd hx
    go_upto_region 4 with (first | ((with_reducible show wpList _ _ _ (Oper.mk (some 12) _ _ _ _ _ :: _) _ _); refine wpList_load_row rfl 25 (.tmp 2) rfl b rfl 25 cn (0, 0) _ HN3.out.1 Tryz.underlying25 rfl (infN HN3.out.2.2) ?_) | (go_at_call 49; refine (FD.out _ HN3.out.2.1).mono ?_; rintro e w4 ⟨v4, rfl, hv4, hb4⟩; have HV4 := hide hv4; have HB4 := hide hb4; clear hv4 hb4) | ((with_reducible show wpList _ _ _ (Oper.mk none _ _ _ _ _ :: _) _ _); refine store_tree rfl (.tmp 6) (.tmp 15) rfl v4 _ rfl rfl rfl HV4.out ?_; rintro ca rfl hzca h1ca))
    have hb5 : Below w3.heap.size w3 (w4.alloc (.cells ca 25)) := HB4.out.alloc HB4.out.size _
    clear FD HV4 HB4 hzca h1ca
    generalize w4.alloc (.cells ca 25) = W5 at *
    have HN5 := hide (HN3.out.below hb5)
    have hbel5 := hbel3.trans (hb5.mono hbel3.size)
    go_wp2_with (first | ((with_reducible show wpList _ _ _ (Oper.mk (some 19) _ _ _ _ _ :: _) _ _); refine wpList_load_row rfl 25 (.tmp 2) rfl b rfl 25 cn (0, 0) _ HN5.out.1 Tryz.underlying25 rfl (infN HN5.out.2.2) ?_) | (go_at_call 50; refine (RW.out _ HN5.out.2.1).mono ?_; rintro e w6 ⟨rfl, hb6⟩))
    go_ret2
    exact ⟨ret_w HZ.out, hbel5.trans (hb6.mono hbel5.size)⟩
set_option maxRecDepth 100000 in
set_option maxHeartbeats 8000000 in
theorem rbyWeight_any (t : Tr) (hsz : t.sz ≤ 120000) (v : Value) (w : World) (hv : TreeR w w.heap.size v t) : Calls Tryz.prog 19 #[v] w fun e w' => ∃ r, e = .returned r ∧ StrsR w' w.heap.size r (byW t) ∧ Below w.heap.size w w' := by
  have FN := hide (fun W hW => rfiles_any t hsz v W hW)
  have hfl : (filesT t).length ≤ 6000 := by have h1 := files_len t; have h2 := t.count_sz; omega
  have hbl : (byW t).length = (filesT t).length := byW_len t
  obtain ⟨cn, rfl, hzc⟩ := Nd.cells hv
  have HV := hide hv
  clear hv
  have HL : Live w [] := trivial
  go_enter Tryz.func19, Tryz.ntmps19
  go_upto_region 1 with fail
  have HN1 := hide (Nd.new HV.out hzc)
  have hbel1 : Below w.heap.size w (w.alloc (.cells cn 25)) := (Below.refl _ _).alloc (Nat.le_refl _) _
  generalize w.alloc (.cells cn 25) = W1 at *
  obtain ⟨b, hb⟩ : ∃ b, b = w.heap.size := ⟨_, rfl⟩
  rw [← hb] at HN1 ⊢
  clear hb HV hzc
  have FA := hide (FN.out _ HN1.out.2.1)
  clear FN
  have HBL := hide hbl
  go_wp2_with (first | ((with_reducible show wpList _ _ _ (Oper.mk (some 9) _ _ _ _ _ :: _) _ _); refine wpList_load_row rfl 25 (.tmp 1) rfl b rfl 25 cn (0, 0) _ HN1.out.1 Tryz.underlying25 rfl (infN HN1.out.2.2) ?_) | (go_at_call 17; refine FA.out.mono ?_; rintro e w3 ⟨r3, rfl, hr3, hb3⟩; have HR3 := hide (SlR.of hr3); have HB3 := hide hb3; obtain ⟨A3, c3, e3⟩ := own_slice hr3; subst e3; clear hr3 hb3))
  have HN3 := hide (HN1.out.below HB3.out)
  have hbel3 := hbel1.trans (HB3.out.mono hbel1.size)
  obtain ⟨Al, cl, evl, hls⟩ := HR3.out
  injection evl with evl1 evl2 evl3
  subst evl1; subst evl3
  have HLR := hide hls
  clear FA HN1 HB3 HR3 hls evl2 hbl
  go_loopw [3] (fun ov wr => ∃ k : Nat, k ≤ (byW t).length ∧ wr.ownsRow w3.heap.size 9 1 ov k (strV ((byW t).take k)) ∧ Below w3.heap.size w3 wr) (fun ov _ => match ov with | .slice _ m _ => (byW t).length - m | _ => 0)
  case atStart => exact ⟨0, Nat.zero_le _, World.ownsRow_nil _ _ _ _, Below.refl _ _⟩
  case round =>
    obtain ⟨k, hk, hown, hbr⟩ := hrel
    have HO := hide hown
    obtain ⟨ao, cap, rfl⟩ := own_slice hown
    have HBo := hide hbr
    have hno := HBL.out
    clear hown hbr
    by_cases hlt : k < (byW t).length
    · have hlt2 : k < (filesT t).length := by omega
      have HSO := hide (SlR.of (show StrsR wr w3.heap.size (.slice ao ((byW t).take k).length cap) ((byW t).take k) by unfold StrsR; rw [List.length_take, Nat.min_eq_left hk]; exact HO.out))
      have hkt : ((byW t).take k).length = k := by rw [List.length_take]; omega
      rw [hkt] at HSO
      clear hkt hno
      obtain ⟨wo, hwo⟩ : ∃ wo, wo = wr := ⟨_, rfl⟩
      rw [← hwo] at HO HBo HSO ⊢
      clear hwo
      go_wp2_with fail
      go_loopw [5, 6, 7] (fun bv mv iv wr => ∃ (i : Nat) (bi mi : Int), iv = .int .i64 (i : Int) ∧ bv = .int .i64 bi ∧ mv = .int .i64 mi ∧ i ≤ (filesT t).length ∧ PickI (weightP t) ((byW t).take k) (filesT t) i bi mi ∧ Below wo.heap.size wo wr) (fun _ _ iv _ => (filesT t).length - (intOf iv).toNat)
      case atStart => exact ⟨0, -1, 0, rfl, rfl, rfl, Nat.zero_le _, pick_zero _ _ _, Below.refl _ _⟩
      case round =>
        obtain ⟨i, bi, mi, rfl, rfl, rfl, hi, hpk, hbi⟩ := hrel
        have HPK := hide hpk
        have HBi := hide hbi
        have hszi := hbi.size
        have hbw := HBo.out.trans (hbi.mono HBo.out.size)
        have HNr := hide (HN3.out.below hbw)
        clear hpk
        by_cases hil : i < (filesT t).length
        · obtain ⟨q, hq⟩ : ∃ q, (filesT t)[i]? = some q := ⟨_, List.getElem?_eq_getElem hil⟩
          have hqf := List.mem_of_getElem? hq
          obtain ⟨-, hqs, -, x, hx, -⟩ := files_mem hqf
          obtain ⟨g, o, rfl, hg, hcl⟩ := HLR.out (by omega)
          have c0 : wr.cell? ⟨g, o + i, none⟩ = some (.string q) := (hbw.cell (p := ⟨g, o + i, none⟩) hg).trans (hcl i q hq)
          have hgr : g < wr.heap.size := Nat.lt_of_lt_of_le hg hbw.size
          have HC0 := hide c0
          have HQ := hide hq
          have BWW := hide (fun W (hW : Below wr.heap.size wr W) => rweight_any t q hsz (by omega) (by rw [hx]; rfl) (.agg cn) W (HNr.out.2.1.later hW))
          have HA := hide (fun W (hW : Below wr.heap.size wr W) => (by have h := has_any ((byW t).take k) q (.slice ao k cap) W.heap.size (by rw [List.length_take]; omega) W ((HSO.out.later2 HBi.out).later2 hW); exact h))
          have hk0 : Below wr.heap.size wr wr ∧ True := ⟨Below.refl _ _, trivial⟩
          have hk0d : Below wr.heap.size wr wr.drew ∧ True := ⟨(Below.refl wr.heap.size wr).drew, trivial⟩
          clear hcl hq hqf hx hqs hbi
          go_upto_region 8 with fail
          refine wp_region_noPanic ?_
          refine wp_region_held_drew (S := (fun z => Below wr.heap.size wr z ∧ True)) (by kernel_rfl) kp (fun hHeld => ?_)
          refine tkZ 0 ⟨some 22, .load 25 (.tmp 1), 25, "ref.go:83", #[], none⟩ ?_ (by intro w hSw; (try dsimp only at hSw); refine (exec_load_row 25 (.tmp 1) (by rfl) b (by rfl) 25 cn (0, 0) _ (Blk.below hSw.1 HNr.out.1) Tryz.underlying25 (by rfl) (infN HNr.out.2.2)).trans ?_; with_reducible rfl)
          refine tkZ 1 ⟨some 23, .move (.tmp 4), 26, "ref.go:83", #[], none⟩ ?_
          refine tkZ 2 ⟨some 24, .move (.tmp 7), 3, "ref.go:83", #[], none⟩ ?_
          refine tkZ 3 ⟨some 25, .indexAddr 26 (.tmp 23) (.tmp 24), 0, "ref.go:83", #[⟨1, .data⟩, ⟨2, .data⟩], none⟩ ?_
          refine tkZ 4 ⟨some 26, .load 9 (.tmp 25), 9, "ref.go:83", #[⟨3, .data⟩], none⟩ ?_ (by intro w hSw; (try dsimp only at hSw); have c1 := (hSw.1.cell (p := ⟨g, o + i, none⟩) hgr).trans HC0.out; go_simp; (try with_reducible rfl))
          refine rqS [5] (rqC ⟨some 27, .call ⟨.value (.func 50), #[.tmp 22, .tmp 26], #[25, 9]⟩, 3, "ref.go:83", #[⟨0, .data⟩, ⟨4, .data⟩], none⟩ (fun K hK => ?_) rq0)
          go_simp
          (go_at_call 50; (with_reducible refine (BWW.out _ hHeld.1).mono ?_); rintro e w8 ⟨rfl, hb8⟩; have hk8 : Below wr.heap.size wr w8 ∧ True := ⟨hHeld.1.trans (hb8.mono hHeld.1.size), trivial⟩)
          go_wp2_with fail
          refine hK.out _ _ kp (fun hHeld => ?_)
          clear hK K
          try simp only [PT]
          refine tkZ 6 ⟨some 8, .assign (.tmp 27), 3, "ref.go:83", #[⟨5, .data⟩, ⟨5, .chain⟩, ⟨0, .phase⟩, ⟨1, .phase⟩, ⟨2, .phase⟩, ⟨3, .phase⟩, ⟨4, .phase⟩, ⟨5, .phase⟩], none⟩ ?_
          refine wpAnyH_done (by kernel_rfl) ?_ _
          refine NoPanic.normal ?_
          have hb89 := HBi.out.trans (hk8.1.mono hszi)
          have c8 : w8.cell? ⟨g, o + i, none⟩ = some (.string q) := (hk8.1.cell (p := ⟨g, o + i, none⟩) hgr).trans c0
          have HA8 := hide (HA.out w8 hk8.1)
          clear BWW HA hk0 hk0d c0 HNr
          cases hh : hasS ((byW t).take k) q with
          | true =>
            rw [hh] at HA8
            have HP := hide (pick_has HPK.out HQ.out hh)
            clear hh
            go_wp2_with (go_at_call 55; refine HA8.out.mono ?_; rintro e w9 ⟨rfl, rfl⟩)
            go_roundw
            case rel => exact ⟨i + 1, bi, mi, by go_num, rfl, rfl, by omega, HP.out, hb89⟩
            case measure => simp [intOf]; omega
          | false =>
            rw [hh] at HA8
            by_cases hb0 : bi < 0
            · have HP := hide (pick_new HPK.out HQ.out hh (Or.inl hb0))
              clear hh
              go_wp2_with (go_at_call 55; refine HA8.out.mono ?_; rintro e w9 ⟨rfl, rfl⟩)
              go_roundw
              case rel => exact ⟨i + 1, _, _, by go_num, rfl, rfl, by omega, HP.out, hb89⟩
              case measure => simp [intOf]; omega
            · by_cases hm0 : mi < weightP t q
              · have HP := hide (pick_new HPK.out HQ.out hh (Or.inr hm0))
                clear hh
                go_wp2_with (go_at_call 55; refine HA8.out.mono ?_; rintro e w9 ⟨rfl, rfl⟩)
                go_roundw
                case rel => exact ⟨i + 1, _, _, by go_num, rfl, rfl, by omega, HP.out, hb89⟩
                case measure => simp [intOf]; omega
              · have HP := hide (pick_old HPK.out HQ.out (fun h => h.elim hb0 hm0))
                clear hh
                go_wp2_with (go_at_call 55; refine HA8.out.mono ?_; rintro e w9 ⟨rfl, rfl⟩)
                go_roundw
                case rel => exact ⟨i + 1, bi, mi, by go_num, rfl, rfl, by omega, HP.out, hb89⟩
                case measure => simp [intOf]; omega
        · obtain rfl : i = (filesT t).length := by omega
          obtain ⟨j, y, rfl, hj, hy⟩ := pick_end hlt HPK.out
          have hjl := (List.getElem?_eq_some_iff.1 hj).1
          obtain ⟨g, o, rfl, hg, hcl⟩ := HLR.out (by omega)
          have c0 : wr.cell? ⟨g, o + j, none⟩ = some (.string y) := (hbw.cell (p := ⟨g, o + j, none⟩) hg).trans (hcl j y hj)
          have HOi := hide (own_frO HO.out (FrO.of (O := fun _ => False) hbi) (fun _ _ h => h))
          have HTK := hide (show (byW t).take (k + 1) = (byW t).take k ++ [y] by rw [List.take_add_one, hy]; rfl)
          have hw3z := hbw.size
          clear hcl hj hy HPK HO
          go_wp2_with (at_builtin; refine wpList_append_blk _ rfl _ _ 26 rfl w3.heap.size 9 strInfo Tryz.underlying26 rfl (by decide) (.slice ao k cap) _ _ (HOi.out.alloc _) wr.heap.size #[.string y] (Blk.newAt rfl) rfl rfl rfl (by simp [Value.oneCell']) (by unfold maxLen; omega) (by omega) (by rw [World.size_alloc]; omega) ?_; intro v6 w6 hown6 hnb6 hg6)
          have hbel6 : Below w3.heap.size w3 w6 := (hbw.alloc hw3z _).grown hg6 (by rw [World.size_alloc]; omega) (fun q hq => (HOi.out.lt q hq).1)
          obtain ⟨A6, c6, e6⟩ := own_slice hown6
          subst e6
          go_roundw
          case rel => exact ⟨k + 1, by omega, by rw [HTK.out, ← strV_snoc]; exact hown6, hbel6⟩
          case measure => (show (byW t).length - (k + 1) < (byW t).length - k); omega
    · obtain rfl : k = (byW t).length := by omega
      have HO2 := HO.out
      rw [List.take_length] at HO2
      have hno2 : ¬ (byW t).length < (filesT t).length := by omega
      go_wp2_with fail
      go_ret
      exact ⟨_, rfl, own_base HO2 hbel3.size, hbel3.trans (HBo.out.mono hbel3.size)⟩
theorem fold_next2 {all ls i0 : List ByteArray} {k : Nat} {p : ByteArray} (h : ls[k]? = some p) : (ls.take (k + 1)).foldl (addA all) i0 = addA all ((ls.take k).foldl (addA all) i0) p := by
  rw [List.take_add_one, h, List.foldl_append]
  rfl
set_option maxRecDepth 100000 in
set_option maxHeartbeats 8000000 in
theorem rbyAccess_any (t : Tr) (acc : List ByteArray) (hsz : t.sz ≤ 120000) (hac : acc.length ≤ 70) (v va : Value) (w : World) (hv : TreeR w w.heap.size v t) (ha : SlR w w.heap.size va acc) : Calls Tryz.prog 21 #[v, va] w fun e w' => ∃ r, e = .returned r ∧ StrsR w' w.heap.size r (byA t acc) ∧ Below w.heap.size w w' := by
  have FN := hide (fun W hW => rbyWeight_any t hsz v W hW)
  have hfl : (byW t).length ≤ 6000 := by rw [byW_len]; have h1 := files_len t; have h2 := t.count_sz; omega
  have HBA := hide (show byA t acc = (byW t).foldl (addA (byW t)) (acc.foldl (addA (byW t)) []) from List.foldl_append)
  obtain ⟨cn, rfl, hzc⟩ := Nd.cells hv
  have HV := hide hv
  have HA := hide ha
  obtain ⟨aA, aC, rfl, -⟩ := ha
  clear hv
  have HL : Live w [] := trivial
  go_enter Tryz.func21, Tryz.ntmps21
  go_upto_region 1 with fail
  have HN1 := hide (Nd.new HV.out hzc)
  have hbel1 : Below w.heap.size w (w.alloc (.cells cn 25)) := (Below.refl _ _).alloc (Nat.le_refl _) _
  generalize w.alloc (.cells cn 25) = W1 at *
  obtain ⟨b, hb⟩ : ∃ b, b = w.heap.size := ⟨_, rfl⟩
  rw [← hb] at HN1 ⊢
  clear hb HV hzc
  have HA1 := hide (HA.out.later2 hbel1)
  have FA := hide (FN.out _ HN1.out.2.1)
  clear FN HA
  generalize byW t = fs at *
  go_upto_region 3 with (first | ((with_reducible show wpList _ _ _ (Oper.mk (some 9) _ _ _ _ _ :: _) _ _); refine wpList_load_row rfl 25 (.tmp 2) rfl b rfl 25 cn (0, 0) _ HN1.out.1 Tryz.underlying25 rfl (infN HN1.out.2.2) ?_) | (go_at_call 19; refine FA.out.mono ?_; rintro e w3 ⟨r3, rfl, hr3, hb3⟩; have HFS := hide (SlR.of hr3); have HB3 := hide hb3; obtain ⟨A, cp, e3⟩ := own_slice hr3; subst e3; clear hr3 hb3))
  have HA3 := hide (HA1.out.later2 HB3.out)
  have hbel3 := hbel1.trans (HB3.out.mono hbel1.size)
  obtain ⟨A', c', ev, hps⟩ := HA3.out
  injection ev with ev1 ev2 ev3
  subst ev1; subst ev3
  have HRA := hide hps
  obtain ⟨A'', c'', ev', hps'⟩ := HFS.out
  injection ev' with ev1' ev2' ev3'
  subst ev1'; subst ev3'
  have HRF := hide hps'
  clear FA HN1 HA1 HB3 hps hps' ev2 ev2'
  go_wp2_with fail
  go_loopw [5, 7] (fun ov i wr => ∃ (k : Nat), i = .int .i64 (k : Int) ∧ k ≤ acc.length ∧ wr.ownsRow w3.heap.size 9 1 ov ((acc.take k).foldl (addA fs) []).length (strV ((acc.take k).foldl (addA fs) [])) ∧ Below w3.heap.size w3 wr) (fun _ i _ => acc.length - (intOf i).toNat)
  case atStart => exact ⟨0, rfl, Nat.zero_le _, World.ownsRow_nil _ _ _ _, Below.refl _ _⟩
  case round =>
    obtain ⟨k, rfl, hk, hown, hbelr⟩ := hrel
    have HO := hide hown
    have HB := hide hbelr
    have hszr := hbelr.size
    obtain ⟨ao, cap, rfl⟩ := own_slice hown
    clear hown hbelr
    by_cases hlt : k < acc.length
    · obtain ⟨p, hp⟩ : ∃ p, acc[k]? = some p := ⟨_, List.getElem?_eq_getElem hlt⟩
      obtain ⟨g, o, rfl, hg, hcl⟩ := HRA.out (by omega)
      have c0 : wr.cell? ⟨g, o + k, none⟩ = some (.string p) := (HB.out.cell (p := ⟨g, o + k, none⟩) hg).trans (hcl k p hp)
      have HNX := hide (fold_next (all := fs) hp)
      have hlo : ((acc.take k).foldl (addA fs) []).length ≤ 6100 := by
        have := foldA_len fs (acc.take k) []
        rw [List.length_take] at this
        (try simp only [List.length_nil, Nat.zero_add] at this)
        omega
      have CF := hide (has_any fs p (.slice A fs.length cp) wr.heap.size (by omega) wr (HFS.out.later2 HB.out))
      have CO := hide (has_any ((acc.take k).foldl (addA fs) []) p (.slice ao ((acc.take k).foldl (addA fs) []).length cap) wr.heap.size (by omega) wr (SlR.of (show StrsR wr w3.heap.size (.slice ao ((acc.take k).foldl (addA fs) []).length cap) ((acc.take k).foldl (addA fs) []) from HO.out)))
      clear hcl hp
      cases hF : hasS fs p with
      | false =>
        rw [hF] at CF
        have HNX2 := hide (show (acc.take (k + 1)).foldl (addA fs) [] = ((acc.take k).foldl (addA fs) []) by rw [HNX.out]; exact addA_no hF)
        clear hF HNX
        generalize ((acc.take k).foldl (addA fs) []) = out at *
        go_wp2_with (go_at_call 55; (with_reducible refine CF.out.mono ?_); rintro e w' ⟨rfl, rfl⟩)
        go_roundw
        case rel => exact ⟨k + 1, by go_num, by omega, by rw [HNX2.out]; exact HO.out, HB.out⟩
        case measure => simp [intOf]; omega
      | true =>
      rw [hF] at CF
      cases hO2 : hasS ((acc.take k).foldl (addA fs) []) p with
      | true =>
        rw [hO2] at CO
        have HNX2 := hide (show (acc.take (k + 1)).foldl (addA fs) [] = ((acc.take k).foldl (addA fs) []) by rw [HNX.out]; exact addA_in hO2)
        clear hF HNX hO2
        generalize ((acc.take k).foldl (addA fs) []) = out at *
        go_wp2_with (first | (go_at_call 55; (with_reducible refine CF.out.mono ?_); rintro e w' ⟨rfl, rfl⟩) | (go_at_call 55; (with_reducible refine CO.out.mono ?_); rintro e w' ⟨rfl, rfl⟩))
        go_roundw
        case rel => exact ⟨k + 1, by go_num, by omega, by rw [HNX2.out]; exact HO.out, HB.out⟩
        case measure => simp [intOf]; omega
      | false =>
        rw [hO2] at CO
        have HNX2 := hide (show (acc.take (k + 1)).foldl (addA fs) [] = ((acc.take k).foldl (addA fs) []) ++ [p] by rw [HNX.out]; exact addA_add hF hO2)
        clear hF HNX hO2
        generalize ((acc.take k).foldl (addA fs) []) = out at *
        go_wp2_with (first | (go_at_call 55; (with_reducible refine CF.out.mono ?_); rintro e w' ⟨rfl, rfl⟩) | (go_at_call 55; (with_reducible refine CO.out.mono ?_); rintro e w' ⟨rfl, rfl⟩) | (at_builtin; refine wpList_append_blk _ rfl _ _ 26 rfl w3.heap.size 9 strInfo Tryz.underlying26 rfl (by decide) (.slice ao out.length cap) _ _ (HO.out.alloc _) wr.heap.size #[.string p] (Blk.newAt rfl) rfl rfl rfl (by simp [Value.oneCell']) (by unfold maxLen; omega) (by omega) (by rw [World.size_alloc]; omega) ?_; intro v6 w6 hown6 hnb6 hg6))
        have hbel6 : Below w3.heap.size w3 w6 := (HB.out.alloc hszr _).grown hg6 (by rw [World.size_alloc]; omega) (fun q hq => (HO.out.lt q hq).1)
        go_roundw
        case rel => exact ⟨k + 1, by go_num, by omega, by rw [HNX2.out, List.length_append, ← strV_snoc]; exact hown6, hbel6⟩
        case measure => simp [intOf]; omega
    · obtain rfl : k = acc.length := by omega
      have HO2 := HO.out
      rw [List.take_length] at HO2 ⊢
      have ho1 : (acc.foldl (addA fs) []).length ≤ 70 := by
        have := foldA_len fs acc []
        (try simp only [List.length_nil, Nat.zero_add] at this)
        omega
      generalize acc.foldl (addA fs) [] = o1 at *
      have HO3 := hide HO2
      clear HO HO2 HRA HA3
      go_wp2_with fail
      have hat : 0 ≤ fs.length := Nat.zero_le _
      go_loopw [5, 8] (fun ov i wr => ∃ (k : Nat), i = .int .i64 (k : Int) ∧ k ≤ fs.length ∧ wr.ownsRow w3.heap.size 9 1 ov ((fs.take k).foldl (addA fs) o1).length (strV ((fs.take k).foldl (addA fs) o1)) ∧ Below w3.heap.size w3 wr) (fun _ i _ => fs.length - (intOf i).toNat)
      case atStart => exact ⟨0, rfl, Nat.zero_le _, HO3.out, HB.out⟩
      case round =>
        clear HO3 HB hszr
        obtain ⟨k, rfl, hk, hown, hbelr⟩ := hrel
        have HO := hide hown
        have HB := hide hbelr
        have hszr := hbelr.size
        obtain ⟨ao, cap, rfl⟩ := own_slice hown
        clear hown hbelr
        by_cases hlt : k < fs.length
        · obtain ⟨p, hp⟩ : ∃ p, fs[k]? = some p := ⟨_, List.getElem?_eq_getElem hlt⟩
          obtain ⟨g, o, rfl, hg, hcl⟩ := HRF.out (by omega)
          have c0 : wr.cell? ⟨g, o + k, none⟩ = some (.string p) := (HB.out.cell (p := ⟨g, o + k, none⟩) hg).trans (hcl k p hp)
          have HNX := hide (fold_next2 (all := fs) (i0 := o1) hp)
          have hlo : ((fs.take k).foldl (addA fs) o1).length ≤ 6100 := by
            have := foldA_len fs (fs.take k) o1
            rw [List.length_take] at this
            (try simp only [List.length_nil, Nat.zero_add] at this)
            omega
          have hF : hasS fs p = true := hasS_iff.2 (List.mem_of_getElem? hp)
          have CO := hide (has_any ((fs.take k).foldl (addA fs) o1) p (.slice ao ((fs.take k).foldl (addA fs) o1).length cap) wr.heap.size (by omega) wr (SlR.of (show StrsR wr w3.heap.size (.slice ao ((fs.take k).foldl (addA fs) o1).length cap) ((fs.take k).foldl (addA fs) o1) from HO.out)))
          clear hcl hp
          cases hO2 : hasS ((fs.take k).foldl (addA fs) o1) p with
          | true =>
            rw [hO2] at CO
            have HNX2 := hide (show (fs.take (k + 1)).foldl (addA fs) o1 = ((fs.take k).foldl (addA fs) o1) by rw [HNX.out]; exact addA_in hO2)
            clear hF HNX hO2
            generalize ((fs.take k).foldl (addA fs) o1) = out at *
            go_wp2_with (go_at_call 55; (with_reducible refine CO.out.mono ?_); rintro e w' ⟨rfl, rfl⟩)
            go_roundw
            case rel => exact ⟨k + 1, by go_num, by omega, by rw [HNX2.out]; exact HO.out, HB.out⟩
            case measure => simp [intOf]; omega
          | false =>
            rw [hO2] at CO
            have HNX2 := hide (show (fs.take (k + 1)).foldl (addA fs) o1 = ((fs.take k).foldl (addA fs) o1) ++ [p] by rw [HNX.out]; exact addA_add hF hO2)
            clear hF HNX hO2
            generalize ((fs.take k).foldl (addA fs) o1) = out at *
            go_wp2_with (first | (go_at_call 55; (with_reducible refine CO.out.mono ?_); rintro e w' ⟨rfl, rfl⟩) | (at_builtin; refine wpList_append_blk _ rfl _ _ 26 rfl w3.heap.size 9 strInfo Tryz.underlying26 rfl (by decide) (.slice ao out.length cap) _ _ (HO.out.alloc _) wr.heap.size #[.string p] (Blk.newAt rfl) rfl rfl rfl (by simp [Value.oneCell']) (by unfold maxLen; omega) (by omega) (by rw [World.size_alloc]; omega) ?_; intro v6 w6 hown6 hnb6 hg6))
            have hbel6 : Below w3.heap.size w3 w6 := (HB.out.alloc hszr _).grown hg6 (by rw [World.size_alloc]; omega) (fun q hq => (HO.out.lt q hq).1)
            go_roundw
            case rel => exact ⟨k + 1, by go_num, by omega, by rw [HNX2.out, List.length_append, ← strV_snoc]; exact hown6, hbel6⟩
            case measure => simp [intOf]; omega
        · obtain rfl : k = fs.length := by omega
          have HO2 := HO.out
          rw [List.take_length] at HO2 ⊢
          have HO5 := hide HO2
          clear HO2 HO
          go_wp2_with fail
          go_ret
          refine ⟨_, rfl, ?_, hbel3.trans (HB.out.mono hbel3.size)⟩
          rw [HBA.out]
          exact own_base HO5.out hbel3.size
end Go.Proofs.YtocgindpjjolpaaGreatDoor
