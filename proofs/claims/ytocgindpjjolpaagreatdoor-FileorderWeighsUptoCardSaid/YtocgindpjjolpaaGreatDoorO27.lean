/- Contracts and plain words for the laws of this chapter, part 27: Le. No condition. -/
import Derived.Test.YtocgindpjjolpaaGreatDoorO26
import Derived.Test.YtocgindpjjolpaaGreatDoorO22
namespace Go.Proofs.YtocgindpjjolpaaGreatDoor
set_option linter.unusedSimpArgs false
set_option linter.unusedVariables false
open Go.RowKit Go.Shelf Go.Sort
theorem sidx_any (L : List ByteArray) (s : ByteArray) (hL : L.length ≤ 100000) (hm : s ∈ L) (v : Value) (B : Nat) (w : World) (hv : SlR w B v L) : Calls Tryz.prog 33 #[v, .string s] w fun e w' => e = .returned (.int .i64 ((idxN L s : Nat) : Int)) ∧ w = w' := by
  obtain ⟨A, c, rfl, h⟩ := hv
  have h0 : 0 < L.length := List.length_pos_of_mem hm
  obtain ⟨h1, h2⟩ := idxN_mem hm
  obtain ⟨g, o, rfl, -, hc⟩ := h h0
  have e := Lib.idxOfS_hit L L.length (idxN L s) s h1 (Nat.le_refl _) (by rw [List.getD_eq_getElem?_getD, h2]; rfl) (fun j hj => by
    have hj2 : j < L.length := by omega
    rw [List.getD_eq_getElem?_getD, List.getElem?_eq_getElem hj2]
    have h3 := List.not_of_lt_findIdx (p := fun q => decide (q = s)) hj
    exact fun e => absurd (h3.symm.trans (decide_eq_true (show L[j] = s from e))) (by decide))
  refine (Any.slices_Index_string Tryz.lays109 g o L.length c L s w (Nat.le_refl _) (by omega) (SlR.cellsD (B := 0) hc)).mono fun e' w' ⟨h3, h4⟩ => ⟨?_, h4.symm⟩
  rw [h3, e]
def lastW (t : Tr) : Nat → Int
  | 0 => 0
  | k + 1 => weightP t ((byW t)[k]?.getD eS)
theorem lastW_succ {t : Tr} {k : Nat} {p : ByteArray} (h : (byW t)[k]? = some p) : lastW t (k + 1) = weightP t p := by rw [lastW, h]; rfl
set_option maxRecDepth 100000 in
set_option maxHeartbeats 8000000 in
theorem law_weighs (v : Value) (t : Tr) (w : World) (hT : TabV w) (hv : TreeR w w.heap.size v t) (hz : t.sz ≤ 20971520) :
    Calls Tryz.prog 8 #[v] w fun e w' => e = .returned (.bool true) ∧ Below w.heap.size w w' := by
  have AW := hide (fun W (h : Below w.heap.size w W) => awake_any W (hT.below h))
  have HTV := hide hT
  obtain ⟨cn, rfl, hzc⟩ := Nd.cells hv
  have HV := hide hv
  clear hv hT
  have HL : Live w [] := trivial
  go_enter Tryz.func8, Tryz.ntmps8
  go_upto_region 1 with fail
  have HN1 := hide (Nd.new HV.out hzc)
  have hbel1 : Below w.heap.size w (w.alloc (.cells cn 25)) := (Below.refl _ _).alloc (Nat.le_refl _) _
  generalize w.alloc (.cells cn 25) = W1 at *
  obtain ⟨b, hb⟩ : ∃ b, b = w.heap.size := ⟨_, rfl⟩
  rw [← hb] at HN1 ⊢
  clear hb HV hzc
  have A1 := hide (AW.out W1 hbel1)
  clear AW
  go_upto_region 3 with (go_at_call 11; refine A1.out.mono ?_; rintro e w2 ⟨rfl, hb2⟩)
  have HN2 := hide (HN1.out.below hb2)
  have hbel2 := hbel1.trans (hb2.mono hbel1.size)
  clear HN1 A1 hb2
  have FF := hide (few47_any t 0 (by omega) (.agg cn) (.slice none 0 0) w2 HN2.out.2.1 ⟨_, _, rfl⟩)
  cases hf : few47 t 0 with
  | false =>
    rw [hf] at FF
    clear hf
    go_wp2_with (first | ((with_reducible show wpList _ _ _ (Oper.mk (some 21) _ _ _ _ _ :: _) _ _); refine wpList_load_row rfl 25 (.tmp 1) rfl b rfl 25 cn (0, 0) _ HN2.out.1 Tryz.underlying25 rfl (infN HN2.out.2.2) ?_) | (go_at_call 12; refine FF.out.mono ?_; rintro e w3 ⟨rfl, hb3⟩))
    go_ret
    exact ⟨rfl, hbel2.trans (hb3.mono hbel2.size)⟩
  | true =>
  obtain ⟨hs1, hs2⟩ := few47_sz hf
  have hct : t.count ≤ 40 := few47_ct hf
  rw [hf] at FF
  clear hf
  have RV := hide (fun W hW => rvalid_any t (Or.inl (by omega)) (.agg cn) W hW)
  cases hvd : validB t with
  | false =>
    rw [hvd] at RV
    clear hvd
    go_wp2_with (first | ((with_reducible show wpList _ _ _ (Oper.mk (some 21) _ _ _ _ _ :: _) _ _); refine wpList_load_row rfl 25 (.tmp 1) rfl b rfl 25 cn (0, 0) _ HN2.out.1 Tryz.underlying25 rfl (infN HN2.out.2.2) ?_) | (go_at_call 12; refine FF.out.mono ?_; rintro e w3 ⟨rfl, hb3⟩; have HN3 := hide (HN2.out.below hb3)) | ((with_reducible show wpList _ _ _ (Oper.mk (some 25) _ _ _ _ _ :: _) _ _); refine wpList_load_rowG 25 (.tmp 1) rfl rfl b rfl 25 cn (0, 0) _ HN3.out.1 Tryz.underlying25 rfl (infN HN3.out.2.2) ?_) | (go_at_call 31; refine (RV.out _ HN3.out.2.1).mono ?_; rintro e w4 ⟨rfl, hb4⟩))
    go_ret
    exact ⟨rfl, hbel2.trans ((hb3.trans (hb4.mono hb3.size)).mono hbel2.size)⟩
  | true =>
  rw [hvd] at RV
  go_upto_region 5 with (first | ((with_reducible show wpList _ _ _ (Oper.mk (some 21) _ _ _ _ _ :: _) _ _); refine wpList_load_row rfl 25 (.tmp 1) rfl b rfl 25 cn (0, 0) _ HN2.out.1 Tryz.underlying25 rfl (infN HN2.out.2.2) ?_) | (go_at_call 12; refine FF.out.mono ?_; rintro e w3 ⟨rfl, hb3⟩; have HN3 := hide (HN2.out.below hb3)) | ((with_reducible show wpList _ _ _ (Oper.mk (some 25) _ _ _ _ _ :: _) _ _); refine wpList_load_rowG 25 (.tmp 1) rfl rfl b rfl 25 cn (0, 0) _ HN3.out.1 Tryz.underlying25 rfl (infN HN3.out.2.2) ?_) | (go_at_call 31; refine (RV.out _ HN3.out.2.1).mono ?_; rintro e w4 ⟨rfl, hb4⟩))
  have HN4 := hide (HN3.out.below hb4)
  have hbel4 := hbel2.trans ((hb3.trans (hb4.mono hb3.size)).mono hbel2.size)
  have HT4 := hide (HTV.out.below hbel4)
  clear HN2 FF hb3 HN3 hb4 RV HTV hbel1 hbel2
  have HVD := hide hvd
  have BWN := hide (byWeight_any t (by omega) (.agg cn) w4 HT4.out HN4.out.2.1)
  have FN := hide (fun W (hW : Below w4.heap.size w4 W) => files_any t (by omega) (.agg cn) W (HT4.out.below hW) (HN4.out.2.1.later hW))
  have hfl : (filesT t).length ≤ 40 := by have h1 := files_len t; omega
  have hbl : (byW t).length ≤ 40 := by rw [byW_len]; exact hfl
  go_upto_region 7 with (first | ((with_reducible show wpList _ _ _ (Oper.mk (some 29) _ _ _ _ _ :: _) _ _); refine wpList_load_row rfl 25 (.tmp 1) rfl b rfl 25 cn (0, 0) _ HN4.out.1 Tryz.underlying25 rfl (infN HN4.out.2.2) ?_) | (go_at_call 18; (with_reducible refine BWN.out.mono ?_); rintro e w5 ⟨r5, rfl, hr5, hb5⟩; have HR5 := hide (SlR.of hr5); have HB5 := hide hb5; have HN5 := hide (HN4.out.below hb5); obtain ⟨A5, c5, hv5⟩ := own_slice hr5; subst hv5; clear hr5 hb5) | ((with_reducible show wpList _ _ _ (Oper.mk (some 31) _ _ _ _ _ :: _) _ _); refine wpList_load_row rfl 25 (.tmp 1) rfl b rfl 25 cn (0, 0) _ HN5.out.1 Tryz.underlying25 rfl (infN HN5.out.2.2) ?_) | (go_at_call 16; (with_reducible refine (FN.out w5 HB5.out).mono ?_); rintro e w6 ⟨r6, rfl, hr6, hb6⟩; have HR6 := hide (SlR.of hr6); have HB6 := hide hb6; obtain ⟨A6, c6, hv6⟩ := own_slice hr6; subst hv6; clear hr6 hb6))
  have hb6 : Below w4.heap.size w4 w6 := HB5.out.trans (HB6.out.mono HB5.out.size)
  have HL5 := hide (HR5.out.later2 HB6.out)
  have HN6 := hide (HN4.out.below hb6)
  have HT6 := hide (HT4.out.below hb6)
  have hbel6 := hbel4.trans (hb6.mono hbel4.size)
  obtain ⟨Al, cl, evl, hls⟩ := HL5.out
  injection evl with evl1 evl2 evl3
  subst evl1; subst evl3
  have HLR := hide hls
  clear BWN FN HR5 HB5 HN5 HN4 HT4 hb6 hbel4 HB6 hls evl2 hvd
  go_wp2_with fail
  go_loopw [5, 35] (fun la i wr => ∃ k : Nat, i = .int .i64 (k : Int) ∧ k ≤ (byW t).length ∧ la = .int .i64 (lastW t k) ∧ Below w6.heap.size w6 wr) (fun _ i _ => (byW t).length - (intOf i).toNat)
  case atStart => exact ⟨0, rfl, Nat.zero_le _, rfl, Below.refl _ _⟩
  case round =>
    obtain ⟨k, rfl, hk, rfl, hbr⟩ := hrel
    have HBr := hide hbr
    have hszr := hbr.size
    have HNr := hide (HN6.out.below hbr)
    by_cases hlt : k < (byW t).length
    · obtain ⟨q, hq⟩ : ∃ q, (byW t)[k]? = some q := ⟨_, List.getElem?_eq_getElem hlt⟩
      have hqf : q ∈ filesT t := (byW_perm t).mem_iff.1 (List.mem_of_getElem? hq)
      obtain ⟨-, hqs, hqw, -⟩ := files_mem hqf
      obtain ⟨gl, ol, rfl, hgl, hcl⟩ := HLR.out (by omega)
      have c0 : wr.cell? ⟨gl, ol + k, none⟩ = some (.string q) := (hbr.cell (p := ⟨gl, ol + k, none⟩) hgl).trans (hcl k q hq)
      have WG := hide (weight_any t q (by omega) (by omega) (.agg cn) wr (HT6.out.below hbr) HNr.out.2.1)
      rw [hqw] at WG
      have HLW := hide (lastW_succ hq)
      have HRA := hide (HR6.out.later2 hbr)
      have HQF := hide hqf
      have IX := hide (fun p (hp : p ∈ filesT t) W (hW : Below wr.heap.size wr W) => sidx_any (filesT t) p (by omega) hp (.slice A6 (filesT t).length c6) W.heap.size W (HRA.out.later2 hW))
      clear hqf hqw hqs hbr
      go_upto_region 12 with (first | ((with_reducible show wpList _ _ _ (Oper.mk (some 41) _ _ _ _ _ :: _) _ _); refine wpList_load_row rfl 25 (.tmp 1) rfl b rfl 25 cn (0, 0) _ HNr.out.1 Tryz.underlying25 rfl (infN HNr.out.2.2) ?_) | (go_at_call 13; refine WG.out.mono ?_; rintro e w7 ⟨rfl, hb7⟩))
      have hb67 : Below w6.heap.size w6 w7 := HBr.out.trans (hb7.mono hszr)
      have hk0 : Below wr.heap.size wr w7 ∧ True := ⟨hb7, trivial⟩
      have hk0d : Below wr.heap.size wr w7.drew ∧ True := ⟨hb7.drew, trivial⟩
      rcases (show k = 0 ∨ ∃ k', k = k' + 1 by cases k with | zero => exact Or.inl rfl | succ n => exact Or.inr ⟨n, rfl⟩) with rfl | ⟨k, rfl⟩
      · have e0 : lastW t 0 = 0 := rfl
        rw [e0]
        refine wp_region_noPanic ?_
        refine wp_region_held_drew (S := (fun z => Below wr.heap.size wr z ∧ True)) (by kernel_rfl) kp (fun hHeld => ?_)
        refine tkZ 0 ⟨some 46, .move (.tmp 9), 29, "law.go:186", #[], none⟩ ?_
        refine tkZ 1 ⟨some 47, .binOp .neq 29 (.tmp 46) (.const (.int .i64 0)) 29, 4, "law.go:186", #[⟨0, .data⟩], none⟩ ?_
        refine tkZ 2 ⟨some 48, .move (.tmp 47), 4, "law.go:186", #[⟨1, .data⟩], none⟩ ?_
        refine tkZ 3 ⟨some 49, .move (.tmp 6), 3, "law.go:186", #[⟨2, .guard⟩], some (2, false)⟩ ?_
        refine tkZ 4 ⟨some 50, .binOp .gtr 3 (.tmp 49) (.const (.int .i64 0)) 3, 4, "law.go:186", #[⟨3, .data⟩, ⟨2, .guard⟩], some (2, false)⟩ ?_
        refine tkZ 5 ⟨some 51, .move (.tmp 50), 4, "law.go:186", #[⟨4, .data⟩, ⟨2, .chain⟩, ⟨2, .guard⟩], some (2, false)⟩ ?_
        refine tkM 6 ⟨some 52, .move (.tmp 8), 3, "law.go:186", #[⟨5, .guard⟩], some (5, true)⟩ ?_
        refine tkM 7 ⟨some 53, .move (.tmp 5), 3, "law.go:186", #[⟨5, .guard⟩], some (5, true)⟩ ?_
        refine tkM 8 ⟨some 54, .binOp .gtr 3 (.tmp 52) (.tmp 53) 3, 4, "law.go:186", #[⟨6, .data⟩, ⟨7, .data⟩, ⟨5, .guard⟩], some (5, true)⟩ ?_
        refine tkM 9 ⟨some 55, .move (.tmp 54), 4, "law.go:186", #[⟨8, .data⟩, ⟨5, .chain⟩, ⟨5, .guard⟩], some (5, true)⟩ ?_
        refine tkM 10 ⟨some 56, .move (.tmp 8), 3, "law.go:186", #[⟨9, .guard⟩], some (9, false)⟩ ?_
        refine tkM 11 ⟨some 57, .move (.tmp 5), 3, "law.go:186", #[⟨9, .guard⟩], some (9, false)⟩ ?_
        refine tkM 12 ⟨some 58, .binOp .eql 3 (.tmp 56) (.tmp 57) 3, 4, "law.go:186", #[⟨10, .data⟩, ⟨11, .data⟩, ⟨9, .guard⟩], some (9, false)⟩ ?_
        refine tkM 13 ⟨some 59, .move (.tmp 58), 4, "law.go:186", #[⟨12, .data⟩, ⟨9, .chain⟩, ⟨9, .guard⟩], some (9, false)⟩ ?_
        refine tkM 14 ⟨some 60, .move (.tmp 4), 26, "law.go:186", #[⟨13, .guard⟩], some (13, true)⟩ ?_
        refine tkM 15 ⟨some 61, .move (.tmp 7), 9, "law.go:186", #[⟨13, .guard⟩], some (13, true)⟩ ?_
        refine tkM 16 ⟨some 62, .call ⟨.value (.func 33), #[.tmp 60, .tmp 61], #[26, 9]⟩, 3, "law.go:186", #[⟨14, .data⟩, ⟨15, .data⟩, ⟨13, .chain⟩, ⟨13, .guard⟩], some (13, true)⟩ ?_
        refine tkM 17 ⟨some 63, .move (.tmp 4), 26, "law.go:186", #[⟨13, .guard⟩], some (13, true)⟩ ?_
        refine tkM 18 ⟨some 64, .move (.tmp 3), 26, "law.go:186", #[⟨13, .guard⟩], some (13, true)⟩ ?_
        refine tkM 19 ⟨some 65, .move (.tmp 6), 3, "law.go:186", #[⟨13, .guard⟩], some (13, true)⟩ ?_
        refine tkM 20 ⟨some 66, .binOp .sub 3 (.tmp 65) (.const (.int .i64 1)) 3, 3, "law.go:186", #[⟨19, .data⟩, ⟨13, .guard⟩], some (13, true)⟩ ?_
        refine tkM 21 ⟨some 67, .indexAddr 26 (.tmp 64) (.tmp 66), 0, "law.go:186", #[⟨18, .data⟩, ⟨20, .data⟩, ⟨13, .guard⟩], some (13, true)⟩ ?_
        refine tkM 22 ⟨some 68, .load 9 (.tmp 67), 9, "law.go:186", #[⟨21, .data⟩, ⟨13, .guard⟩], some (13, true)⟩ ?_
        refine tkM 23 ⟨some 69, .call ⟨.value (.func 33), #[.tmp 63, .tmp 68], #[26, 9]⟩, 3, "law.go:186", #[⟨17, .data⟩, ⟨22, .data⟩, ⟨16, .chain⟩, ⟨13, .guard⟩], some (13, true)⟩ ?_
        refine tkM 24 ⟨some 70, .binOp .lss 3 (.tmp 62) (.tmp 69) 3, 4, "law.go:186", #[⟨16, .data⟩, ⟨23, .data⟩, ⟨13, .guard⟩], some (13, true)⟩ ?_
        refine tkM 25 ⟨some 71, .pick (.tmp 59) (.tmp 70) (.const (.bool false)), 4, "law.go:186", #[⟨13, .data⟩, ⟨24, .data⟩, ⟨9, .guard⟩], some (9, false)⟩ ?_
        refine tkM 26 ⟨some 72, .pick (.tmp 55) (.const (.bool true)) (.tmp 71), 4, "law.go:186", #[⟨9, .data⟩, ⟨25, .data⟩, ⟨5, .guard⟩], some (5, true)⟩ ?_
        refine tkZ 27 ⟨some 73, .pick (.tmp 51) (.tmp 72) (.const (.bool false)), 4, "law.go:186", #[⟨5, .data⟩, ⟨26, .data⟩, ⟨2, .guard⟩], some (2, false)⟩ ?_
        refine tkZ 28 ⟨some 74, .pick (.tmp 48) (.const (.bool true)) (.tmp 73), 4, "law.go:186", #[⟨2, .data⟩, ⟨27, .data⟩], none⟩ ?_
        refine wpAnyH_done (by kernel_rfl) ?_ _
        refine NoPanic.normal ?_
        go_wp2_with fail
        go_roundw
        case rel => exact ⟨1, by go_num, by omega, by rw [HLW.out], hb67.drew⟩
        case measure => simp [intOf]; omega
      · obtain ⟨p, hp⟩ : ∃ p, (byW t)[k]? = some p := ⟨_, List.getElem?_eq_getElem (by omega)⟩
        have e0 := lastW_succ hp
        have hpf : p ∈ filesT t := (byW_perm t).mem_iff.1 (List.mem_of_getElem? hp)
        obtain ⟨hw1, hw2⟩ := byW_next hp hq
        have HCP := hide ((HBr.out.cell (p := ⟨gl, ol + k, none⟩) hgl).trans (hcl k p hp))
        have hglr : gl < wr.heap.size := by omega
        have IX1 := hide (IX.out q HQF.out)
        have IX2 := hide (IX.out p hpf)
        rw [e0]
        have hk1 : k < (byW t).length := by omega
        have hwk : IntKind.i64.wrap (k : Int) = (k : Int) := IntWalk.i64_in _ (by omega)
        have hgt : decide (weightP t p < weightP t q) = false := decide_eq_false (by omega)
        by_cases hwe : weightP t q = weightP t p
        · have hi := hw2 hwe
          have hii : decide (((idxN (filesT t) q : Nat) : Int) < ((idxN (filesT t) p : Nat) : Int)) = false := decide_eq_false (by omega)
          have hwb : (weightP t q == weightP t p) = true := by rw [hwe]; simp
          clear hw2 hw1 hcl hpf IX
          refine wp_region_noPanic ?_
          refine wp_region_held_drew (S := (fun z => Below wr.heap.size wr z ∧ True)) (by kernel_rfl) kp (fun hHeld => ?_)
          refine tkZ 0 ⟨some 46, .move (.tmp 9), 29, "law.go:186", #[], none⟩ ?_
          refine tkZ 1 ⟨some 47, .binOp .neq 29 (.tmp 46) (.const (.int .i64 0)) 29, 4, "law.go:186", #[⟨0, .data⟩], none⟩ ?_
          refine tkZ 2 ⟨some 48, .move (.tmp 47), 4, "law.go:186", #[⟨1, .data⟩], none⟩ ?_
          refine tkZ 3 ⟨some 49, .move (.tmp 6), 3, "law.go:186", #[⟨2, .guard⟩], some (2, false)⟩ ?_
          refine tkZ 4 ⟨some 50, .binOp .gtr 3 (.tmp 49) (.const (.int .i64 0)) 3, 4, "law.go:186", #[⟨3, .data⟩, ⟨2, .guard⟩], some (2, false)⟩ ?_
          refine tkZ 5 ⟨some 51, .move (.tmp 50), 4, "law.go:186", #[⟨4, .data⟩, ⟨2, .chain⟩, ⟨2, .guard⟩], some (2, false)⟩ ?_
          refine tkZ 6 ⟨some 52, .move (.tmp 8), 3, "law.go:186", #[⟨5, .guard⟩], some (5, true)⟩ ?_
          refine tkZ 7 ⟨some 53, .move (.tmp 5), 3, "law.go:186", #[⟨5, .guard⟩], some (5, true)⟩ ?_
          refine tkZ 8 ⟨some 54, .binOp .gtr 3 (.tmp 52) (.tmp 53) 3, 4, "law.go:186", #[⟨6, .data⟩, ⟨7, .data⟩, ⟨5, .guard⟩], some (5, true)⟩ ?_
          refine tkZ 9 ⟨some 55, .move (.tmp 54), 4, "law.go:186", #[⟨8, .data⟩, ⟨5, .chain⟩, ⟨5, .guard⟩], some (5, true)⟩ ?_
          refine tkZ 10 ⟨some 56, .move (.tmp 8), 3, "law.go:186", #[⟨9, .guard⟩], some (9, false)⟩ ?_
          refine tkZ 11 ⟨some 57, .move (.tmp 5), 3, "law.go:186", #[⟨9, .guard⟩], some (9, false)⟩ ?_
          refine tkZ 12 ⟨some 58, .binOp .eql 3 (.tmp 56) (.tmp 57) 3, 4, "law.go:186", #[⟨10, .data⟩, ⟨11, .data⟩, ⟨9, .guard⟩], some (9, false)⟩ ?_
          refine tkZ 13 ⟨some 59, .move (.tmp 58), 4, "law.go:186", #[⟨12, .data⟩, ⟨9, .chain⟩, ⟨9, .guard⟩], some (9, false)⟩ ?_
          refine tkZ 14 ⟨some 60, .move (.tmp 4), 26, "law.go:186", #[⟨13, .guard⟩], some (13, true)⟩ ?_
          refine tkZ 15 ⟨some 61, .move (.tmp 7), 9, "law.go:186", #[⟨13, .guard⟩], some (13, true)⟩ ?_
          refine tkZ 17 ⟨some 63, .move (.tmp 4), 26, "law.go:186", #[⟨13, .guard⟩], some (13, true)⟩ ?_
          refine tkZ 18 ⟨some 64, .move (.tmp 3), 26, "law.go:186", #[⟨13, .guard⟩], some (13, true)⟩ ?_
          refine tkZ 19 ⟨some 65, .move (.tmp 6), 3, "law.go:186", #[⟨13, .guard⟩], some (13, true)⟩ ?_
          refine tkZ 20 ⟨some 66, .binOp .sub 3 (.tmp 65) (.const (.int .i64 1)) 3, 3, "law.go:186", #[⟨19, .data⟩, ⟨13, .guard⟩], some (13, true)⟩ ?_
          refine tkZ 21 ⟨some 67, .indexAddr 26 (.tmp 64) (.tmp 66), 0, "law.go:186", #[⟨18, .data⟩, ⟨20, .data⟩, ⟨13, .guard⟩], some (13, true)⟩ ?_
          refine tkZ 22 ⟨some 68, .load 9 (.tmp 67), 9, "law.go:186", #[⟨21, .data⟩, ⟨13, .guard⟩], some (13, true)⟩ ?_ (by intro w hSw; (try dsimp only at hSw); have c1 := (hSw.1.cell (p := ⟨gl, ol + k, none⟩) hglr).trans HCP.out; go_simp; (try with_reducible rfl))
          refine rqS [16] (rqC ⟨some 62, .call ⟨.value (.func 33), #[.tmp 60, .tmp 61], #[26, 9]⟩, 3, "law.go:186", #[⟨14, .data⟩, ⟨15, .data⟩, ⟨13, .chain⟩, ⟨13, .guard⟩], some (13, true)⟩ (fun K hK => ?_) rq0)
          go_simp
          (first | (go_at_call 33; (with_reducible refine (IX1.out _ hHeld.1).mono ?_); rintro e w8 ⟨rfl, rfl⟩) | (go_at_call 33; (with_reducible refine (IX2.out _ hHeld.1).mono ?_); rintro e w9 ⟨rfl, rfl⟩))
          go_wp2_with fail
          refine hK.out _ _ kp (fun hHeld => ?_)
          clear hK K
          try simp only [PT]
          refine rqS [23] (rqC ⟨some 69, .call ⟨.value (.func 33), #[.tmp 63, .tmp 68], #[26, 9]⟩, 3, "law.go:186", #[⟨17, .data⟩, ⟨22, .data⟩, ⟨16, .chain⟩, ⟨13, .guard⟩], some (13, true)⟩ (fun K hK => ?_) rq0)
          go_simp
          (first | (go_at_call 33; (with_reducible refine (IX1.out _ hHeld.1).mono ?_); rintro e w8 ⟨rfl, rfl⟩) | (go_at_call 33; (with_reducible refine (IX2.out _ hHeld.1).mono ?_); rintro e w9 ⟨rfl, rfl⟩))
          go_wp2_with fail
          refine hK.out _ _ kp (fun hHeld => ?_)
          clear hK K
          try simp only [PT]
          refine tkZ 24 ⟨some 70, .binOp .lss 3 (.tmp 62) (.tmp 69) 3, 4, "law.go:186", #[⟨16, .data⟩, ⟨23, .data⟩, ⟨13, .guard⟩], some (13, true)⟩ ?_
          refine tkZ 25 ⟨some 71, .pick (.tmp 59) (.tmp 70) (.const (.bool false)), 4, "law.go:186", #[⟨13, .data⟩, ⟨24, .data⟩, ⟨9, .guard⟩], some (9, false)⟩ ?_
          refine tkZ 26 ⟨some 72, .pick (.tmp 55) (.const (.bool true)) (.tmp 71), 4, "law.go:186", #[⟨9, .data⟩, ⟨25, .data⟩, ⟨5, .guard⟩], some (5, true)⟩ ?_
          refine tkZ 27 ⟨some 73, .pick (.tmp 51) (.tmp 72) (.const (.bool false)), 4, "law.go:186", #[⟨5, .data⟩, ⟨26, .data⟩, ⟨2, .guard⟩], some (2, false)⟩ ?_
          refine tkZ 28 ⟨some 74, .pick (.tmp 48) (.const (.bool true)) (.tmp 73), 4, "law.go:186", #[⟨2, .data⟩, ⟨27, .data⟩], none⟩ ?_
          refine wpAnyH_done (by kernel_rfl) ?_ _
          refine NoPanic.normal ?_
          go_wp2_with fail
          go_roundw
          case rel => exact ⟨k + 2, by go_num, by omega, by rw [HLW.out, hwe], hb67.drew⟩
          case measure => simp [intOf]; omega
        · have hwb : (weightP t q == weightP t p) = false := by rw [beq_eq_false_iff_ne]; exact hwe
          clear hw2 hw1 hcl hpf IX
          refine wp_region_noPanic ?_
          refine wp_region_held_drew (S := (fun z => Below wr.heap.size wr z ∧ True)) (by kernel_rfl) kp (fun hHeld => ?_)
          refine tkZ 0 ⟨some 46, .move (.tmp 9), 29, "law.go:186", #[], none⟩ ?_
          refine tkZ 1 ⟨some 47, .binOp .neq 29 (.tmp 46) (.const (.int .i64 0)) 29, 4, "law.go:186", #[⟨0, .data⟩], none⟩ ?_
          refine tkZ 2 ⟨some 48, .move (.tmp 47), 4, "law.go:186", #[⟨1, .data⟩], none⟩ ?_
          refine tkZ 3 ⟨some 49, .move (.tmp 6), 3, "law.go:186", #[⟨2, .guard⟩], some (2, false)⟩ ?_
          refine tkZ 4 ⟨some 50, .binOp .gtr 3 (.tmp 49) (.const (.int .i64 0)) 3, 4, "law.go:186", #[⟨3, .data⟩, ⟨2, .guard⟩], some (2, false)⟩ ?_
          refine tkZ 5 ⟨some 51, .move (.tmp 50), 4, "law.go:186", #[⟨4, .data⟩, ⟨2, .chain⟩, ⟨2, .guard⟩], some (2, false)⟩ ?_
          refine tkZ 6 ⟨some 52, .move (.tmp 8), 3, "law.go:186", #[⟨5, .guard⟩], some (5, true)⟩ ?_
          refine tkZ 7 ⟨some 53, .move (.tmp 5), 3, "law.go:186", #[⟨5, .guard⟩], some (5, true)⟩ ?_
          refine tkZ 8 ⟨some 54, .binOp .gtr 3 (.tmp 52) (.tmp 53) 3, 4, "law.go:186", #[⟨6, .data⟩, ⟨7, .data⟩, ⟨5, .guard⟩], some (5, true)⟩ ?_
          refine tkZ 9 ⟨some 55, .move (.tmp 54), 4, "law.go:186", #[⟨8, .data⟩, ⟨5, .chain⟩, ⟨5, .guard⟩], some (5, true)⟩ ?_
          refine tkZ 10 ⟨some 56, .move (.tmp 8), 3, "law.go:186", #[⟨9, .guard⟩], some (9, false)⟩ ?_
          refine tkZ 11 ⟨some 57, .move (.tmp 5), 3, "law.go:186", #[⟨9, .guard⟩], some (9, false)⟩ ?_
          refine tkZ 12 ⟨some 58, .binOp .eql 3 (.tmp 56) (.tmp 57) 3, 4, "law.go:186", #[⟨10, .data⟩, ⟨11, .data⟩, ⟨9, .guard⟩], some (9, false)⟩ ?_
          refine tkZ 13 ⟨some 59, .move (.tmp 58), 4, "law.go:186", #[⟨12, .data⟩, ⟨9, .chain⟩, ⟨9, .guard⟩], some (9, false)⟩ ?_
          refine tkM 14 ⟨some 60, .move (.tmp 4), 26, "law.go:186", #[⟨13, .guard⟩], some (13, true)⟩ ?_
          refine tkM 15 ⟨some 61, .move (.tmp 7), 9, "law.go:186", #[⟨13, .guard⟩], some (13, true)⟩ ?_
          refine tkM 16 ⟨some 62, .call ⟨.value (.func 33), #[.tmp 60, .tmp 61], #[26, 9]⟩, 3, "law.go:186", #[⟨14, .data⟩, ⟨15, .data⟩, ⟨13, .chain⟩, ⟨13, .guard⟩], some (13, true)⟩ ?_
          refine tkM 17 ⟨some 63, .move (.tmp 4), 26, "law.go:186", #[⟨13, .guard⟩], some (13, true)⟩ ?_
          refine tkM 18 ⟨some 64, .move (.tmp 3), 26, "law.go:186", #[⟨13, .guard⟩], some (13, true)⟩ ?_
          refine tkM 19 ⟨some 65, .move (.tmp 6), 3, "law.go:186", #[⟨13, .guard⟩], some (13, true)⟩ ?_
          refine tkM 20 ⟨some 66, .binOp .sub 3 (.tmp 65) (.const (.int .i64 1)) 3, 3, "law.go:186", #[⟨19, .data⟩, ⟨13, .guard⟩], some (13, true)⟩ ?_
          refine tkM 21 ⟨some 67, .indexAddr 26 (.tmp 64) (.tmp 66), 0, "law.go:186", #[⟨18, .data⟩, ⟨20, .data⟩, ⟨13, .guard⟩], some (13, true)⟩ ?_
          refine tkM 22 ⟨some 68, .load 9 (.tmp 67), 9, "law.go:186", #[⟨21, .data⟩, ⟨13, .guard⟩], some (13, true)⟩ ?_
          refine tkM 23 ⟨some 69, .call ⟨.value (.func 33), #[.tmp 63, .tmp 68], #[26, 9]⟩, 3, "law.go:186", #[⟨17, .data⟩, ⟨22, .data⟩, ⟨16, .chain⟩, ⟨13, .guard⟩], some (13, true)⟩ ?_
          refine tkM 24 ⟨some 70, .binOp .lss 3 (.tmp 62) (.tmp 69) 3, 4, "law.go:186", #[⟨16, .data⟩, ⟨23, .data⟩, ⟨13, .guard⟩], some (13, true)⟩ ?_
          refine tkZ 25 ⟨some 71, .pick (.tmp 59) (.tmp 70) (.const (.bool false)), 4, "law.go:186", #[⟨13, .data⟩, ⟨24, .data⟩, ⟨9, .guard⟩], some (9, false)⟩ ?_
          refine tkZ 26 ⟨some 72, .pick (.tmp 55) (.const (.bool true)) (.tmp 71), 4, "law.go:186", #[⟨9, .data⟩, ⟨25, .data⟩, ⟨5, .guard⟩], some (5, true)⟩ ?_
          refine tkZ 27 ⟨some 73, .pick (.tmp 51) (.tmp 72) (.const (.bool false)), 4, "law.go:186", #[⟨5, .data⟩, ⟨26, .data⟩, ⟨2, .guard⟩], some (2, false)⟩ ?_
          refine tkZ 28 ⟨some 74, .pick (.tmp 48) (.const (.bool true)) (.tmp 73), 4, "law.go:186", #[⟨2, .data⟩, ⟨27, .data⟩], none⟩ ?_
          refine wpAnyH_done (by kernel_rfl) ?_ _
          refine NoPanic.normal ?_
          go_wp2_with fail
          go_roundw
          case rel => exact ⟨k + 2, by go_num, by omega, by rw [HLW.out], hb67.drew⟩
          case measure => simp [intOf]; omega
    · obtain rfl : k = (byW t).length := by omega
      have PN := hide (rpathsT_any t (by omega) (.agg cn) wr HNr.out.2.1)
      have HTr := hide (HT6.out.below hbr)
      have hbelr := hbel6.trans (hbr.mono hbel6.size)
      have hpc : (pathsT t).length ≤ 40 := by have := paths_count t; omega
      clear HLR HR6 HL5 HN6 HT6 HBr hbel6 hbr
      go_wp2_with (first | ((with_reducible show wpList _ _ _ (Oper.mk (some 77) _ _ _ _ _ :: _) _ _); refine wpList_load_row rfl 25 (.tmp 1) rfl b rfl 25 cn (0, 0) _ HNr.out.1 Tryz.underlying25 rfl (infN HNr.out.2.2) ?_) | (go_at_call 34; (with_reducible refine PN.out.mono ?_); rintro e w8 ⟨r8, rfl, hr8, hb8⟩; have HR8 := hide (SlR.of hr8); have HB8 := hide hb8; obtain ⟨A8, c8, hv8⟩ := own_slice hr8; subst hv8; clear hr8 hb8))
      have HN8 := hide (HNr.out.below HB8.out)
      have HT8 := hide (HTr.out.below HB8.out)
      have hbel8 := hbelr.trans (HB8.out.mono hbelr.size)
      obtain ⟨Al, cl, evl, hls⟩ := HR8.out
      injection evl with evl1 evl2 evl3
      subst evl1; subst evl3
      have HPR := hide hls
      clear PN HTr HNr HB8 hls evl2 HR8 hbelr
      go_loopw [80] (fun i wr => ∃ k : Nat, i = .int .i64 (k : Int) ∧ k ≤ (pathsT t).length ∧ Below w8.heap.size w8 wr) (fun i _ => (pathsT t).length - (intOf i).toNat)
      case atStart => exact ⟨0, rfl, Nat.zero_le _, Below.refl _ _⟩
      case round =>
        obtain ⟨k, rfl, hk, hbr⟩ := hrel
        have hszr := hbr.size
        by_cases hlt : k < (pathsT t).length
        · obtain ⟨q, hq⟩ : ∃ q, (pathsT t)[k]? = some q := ⟨_, List.getElem?_eq_getElem hlt⟩
          have hqm := List.mem_of_getElem? hq
          have hqs := pathsT_size hqm
          obtain ⟨x, hx⟩ := paths_find hqm
          obtain ⟨gl, ol, rfl, hgl, hcl⟩ := HPR.out (by omega)
          have c0 : wr.cell? ⟨gl, ol + k, none⟩ = some (.string q) := (hbr.cell (p := ⟨gl, ol + k, none⟩) hgl).trans (hcl k q hq)
          have HNr := hide (HN8.out.below hbr)
          have HTr := hide (HT8.out.below hbr)
          have HBr := hide hbr
          have RG := hide (rget_any t q (by omega) (by omega) (.agg cn) wr HNr.out.2.1)
          rw [(getT_yes HVD.out).1 x hx] at RG
          have WG := hide (fun W (hW : Below wr.heap.size wr W) => weight_any t q (by omega) (by omega) (.agg cn) W (HTr.out.below hW) (HNr.out.2.1.later hW))
          rw [weightT_some HVD.out hx] at WG
          have LI := hide (fun W => lastIndex_any q (by omega) W)
          have HX := hide hx
          clear hbr hcl hq hqm hx
          go_upto_region 20 with (first | ((with_reducible show wpList _ _ _ (Oper.mk (some 85) _ _ _ _ _ :: _) _ _); refine wpList_load_row rfl 25 (.tmp 1) rfl b rfl 25 cn (0, 0) _ HNr.out.1 Tryz.underlying25 rfl (infN HNr.out.2.2) ?_) | (go_at_call 35; refine (RG.out).mono ?_; rintro e w9 ⟨v4, rfl, hv4, hb9⟩; have HV4 := hide hv4; have HB9 := hide hb9; clear hv4 hb9) | ((with_reducible show wpList _ _ _ (Oper.mk none _ _ _ _ _ :: _) _ _); refine store_tree rfl (.tmp 12) (.tmp 88) rfl v4 _ rfl rfl rfl HV4.out ?_; rintro ca rfl hzca h1ca))
          obtain ⟨A4, c4, A2, c2, e4, -, -⟩ := HV4.out.open
          injection e4 with e4
          subst e4
          have HNB := hide (NodeB.new w9 x.h (.slice A4 x.ks.len c4) (.slice A2 x.ss.length c2))
          have hb10 : Below wr.heap.size wr (w9.alloc (.cells (x.h.cells (.slice A4 x.ks.len c4) (.slice A2 x.ss.length c2)) 25)) := HB9.out.alloc HB9.out.size _
          clear RG HV4 HB9 hzca h1ca
          generalize w9.alloc (.cells (x.h.cells (.slice A4 x.ks.len c4) (.slice A2 x.ss.length c2)) 25) = W10 at *
          generalize w9.heap.size = nb at *
          have HN10 := hide (HNr.out.below hb10)
          have HB10 := hide hb10
          clear hb10
          go_upto_region 21 with (first | ((with_reducible show wpList _ _ _ (Oper.mk (some 91) _ _ _ _ _ :: _) _ _); refine wpList_load_row rfl 25 (.tmp 1) rfl b rfl 25 cn (0, 0) _ HN10.out.1 Tryz.underlying25 rfl (infN HN10.out.2.2) ?_) | (go_at_call 13; refine (WG.out W10 HB10.out).mono ?_; rintro e w11 ⟨rfl, hb11⟩))
          have d8 := (NodeB.below hb11 HNB.out).c8
          have hbr11 := HB10.out.trans (hb11.mono HB10.out.size)
          have hb8 := HBr.out.trans (hbr11.mono hszr)
          have HN11 := hide (HNr.out.below hbr11)
          clear HNB HN10 HB10 hb11 HBr
          by_cases hw : x.h.weight = 0
          case neg =>
            have n1 : (x.h.weight != 0) = true := by simp; exact hw
            have n2 : (x.h.weight == 0) = false := by simp; exact hw
            have e1 : weightP t q = x.h.weight := by
              have h1 := weightT_here HVD.out HX.out (Or.inl hw)
              rw [weightT_some HVD.out HX.out] at h1
              exact congrArg Prod.fst h1
            rw [e1]
            clear hw e1
            go_wp2_with (go_at_call 36; refine (LI.out _).mono ?_; rintro e w' ⟨ri, rfl, hri, rfl⟩; have HRI := hide hri; clear hri)
            go_roundw
            case rel => exact ⟨k + 1, by go_num, by omega, hb8⟩
            case measure => simp [intOf]; omega
          case pos =>
            by_cases hqe : q = eS
            case pos =>
              have n1 := bne_nil_y hqe
              have n2 := beq_nil_y hqe
              rw [hw] at d8
              clear hqe
              go_wp2_with (go_at_call 36; refine (LI.out _).mono ?_; rintro e w' ⟨ri, rfl, hri, rfl⟩; have HRI := hide hri; clear hri)
              go_roundw
              case rel => exact ⟨k + 1, by go_num, by omega, hb8⟩
              case measure => simp [intOf]; omega
            case neg =>
              have n1 := bne_nil_n hqe
              have n2 := beq_nil_n hqe
              have HUP := hide (fun ri (hri : LastAt q ri) => last_path HVD.out HX.out hw hqe hri)
              rw [hw] at d8
              clear hqe hw
              go_upto_region 25 with (go_at_call 36; refine (LI.out _).mono ?_; rintro e w' ⟨ri, rfl, hri, rfl⟩; have HRI := hide hri; clear hri)
              have hup := (HUP.out ri HRI.out).1
              have hle := last_le HRI.out
              rw [Int.max_comm] at hup hle
              have hm1 : 0 ≤ max ri 0 := Int.le_max_right _ _
              have WG2 := hide (fun W (hW : Below wr.heap.size wr W) => weight_any t (q.extract 0 (max ri 0).toNat) (by omega) (by simp only [ByteArray.size_extract]; omega) (.agg cn) W (HTr.out.below hW) (HNr.out.2.1.later hW))
              rw [hup, weightT_some HVD.out HX.out] at WG2
              have hk0 : Below w11.heap.size w11 w11 ∧ True := ⟨Below.refl _ _, trivial⟩
              have hk0d : Below w11.heap.size w11 w11.drew ∧ True := ⟨(Below.refl w11.heap.size w11).drew, trivial⟩
              have HBR := hide hbr11
              clear hup HRI HUP hbr11
              refine wp_region_noPanic ?_
              refine wp_region_held_drew (S := (fun z => Below w11.heap.size w11 z ∧ True)) (by kernel_rfl) kp (fun hHeld => ?_)
              refine tkZ 0 ⟨some 119, .load 25 (.tmp 1), 25, "law.go:198", #[], none⟩ ?_ (by intro w hSw; (try dsimp only at hSw); refine (exec_load_row 25 (.tmp 1) (by rfl) b (by rfl) 25 cn (0, 0) _ (Blk.below hSw.1 HN11.out.1) Tryz.underlying25 (by rfl) (infN HN11.out.2.2)).trans ?_; with_reducible rfl)
              refine tkZ 1 ⟨some 120, .move (.tmp 11), 9, "law.go:198", #[], none⟩ ?_
              refine tkZ 2 ⟨some 121, .move (.tmp 16), 3, "law.go:198", #[], none⟩ ?_
              refine rqS [3] (rqC ⟨some 122, .call ⟨.builtin .max, #[.tmp 121, .const (.int .i64 0)], #[3, 3]⟩, 3, "law.go:198", #[⟨2, .data⟩], none⟩ (fun K hK => ?_) rq0)
              go_simp
              refine hK.out _ _ kp (fun hHeld => ?_)
              clear hK K
              try simp only [PT]
              refine tkZ 4 ⟨some 123, .slice 9 (.tmp 120) none (some (.tmp 122)) none, 9, "law.go:198", #[⟨1, .data⟩, ⟨3, .data⟩], none⟩ ?_
              refine rqS [5] (rqC ⟨some 124, .call ⟨.value (.func 13), #[.tmp 119, .tmp 123], #[25, 9]⟩, 30, "law.go:198", #[⟨0, .data⟩, ⟨4, .data⟩], none⟩ (fun K hK => ?_) rq0)
              go_simp
              (go_at_call 13; (with_reducible refine (WG2.out _ (HBR.out.trans (hHeld.1.mono HBR.out.size))).mono ?_); rintro e w12 ⟨rfl, hb12⟩; have hk12 : Below w11.heap.size w11 w12 ∧ True := ⟨hHeld.1.trans (hb12.mono hHeld.1.size), trivial⟩)
              go_wp2_with fail
              refine hK.out _ _ kp (fun hHeld => ?_)
              clear hK K
              try simp only [PT]
              refine tkZ 6 ⟨some 118, .move (.tmp 124), 30, "law.go:198", #[⟨5, .data⟩], none⟩ ?_
              refine tkZ 7 ⟨some 125, .extract (.tmp 118) 0, 3, "law.go:198", #[⟨6, .data⟩], none⟩ ?_
              refine tkZ 8 ⟨some 126, .extract (.tmp 118) 1, 29, "law.go:198", #[⟨6, .data⟩, ⟨9, .gcOnly .lateStores⟩], none⟩ ?_
              refine tkZ 9 ⟨some 17, .assign (.tmp 125), 3, "law.go:198", #[⟨7, .data⟩, ⟨5, .chain⟩, ⟨0, .phase⟩, ⟨1, .phase⟩, ⟨2, .phase⟩, ⟨3, .phase⟩, ⟨4, .phase⟩, ⟨5, .phase⟩, ⟨6, .phase⟩, ⟨7, .phase⟩, ⟨8, .textOnly .lateStores⟩], none⟩ ?_
              refine tkZ 10 ⟨some 18, .assign (.tmp 126), 29, "law.go:198", #[⟨8, .data⟩, ⟨9, .chain⟩, ⟨0, .phase⟩, ⟨1, .phase⟩, ⟨2, .phase⟩, ⟨3, .phase⟩, ⟨4, .phase⟩, ⟨5, .phase⟩, ⟨6, .phase⟩, ⟨7, .phase⟩, ⟨8, .phase⟩, ⟨9, .phase⟩], none⟩ ?_
              refine wpAnyH_done (by kernel_rfl) ?_ _
              refine NoPanic.normal ?_
              go_wp2_with fail
              go_roundw
              case rel => exact ⟨k + 1, by go_num, by omega, hb8.trans (hk12.1.mono hb8.size)⟩
              case measure => simp [intOf]; omega
        · obtain rfl : k = (pathsT t).length := by omega
          go_wp2_with fail
          go_ret
          exact ⟨rfl, hbel8.trans (hbr.mono hbel8.size)⟩
end Go.Proofs.YtocgindpjjolpaaGreatDoor
