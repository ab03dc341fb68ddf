/- Contracts and plain words for the laws of this chapter, part 32: Lf. No condition. -/
import Derived.Test.YtocgindpjjolpaaGreatDoorG26
import Derived.Test.YtocgindpjjolpaaGreatDoorG31
namespace Go.Proofs.YtocgindpjjolpaaGreatDoor
set_option linter.unusedSimpArgs false
set_option linter.unusedVariables false
open Go.RowKit
set_option maxRecDepth 100000 in
set_option maxHeartbeats 8000000 in
theorem law_orders (v : Value) (t : Tr) (p : ByteArray) (va : Value) (acc : List ByteArray) (w : World) (hT : TabV w) (hv : TreeR w w.heap.size v t) (hz : t.sz ≤ 20971520) (ha : SlR w w.heap.size va acc) (hps : p.size ≤ 2000000) :
    Calls Tryz.prog 3 #[v, .string p, va] w fun e w' => e = .returned (.bool true) ∧ Below w.heap.size w w' := by
  have AW := hide (fun W (h : Below w.heap.size w W) => awake_any W (hT.below h))
  have HTV := hide hT
  obtain ⟨cn, rfl, hzc⟩ := Nd.cells hv
  have HV := hide hv
  have HA := hide ha
  obtain ⟨aA, cA, rfl, -⟩ := ha
  clear hv hT
  have HL : Live w [] := trivial
  go_enter Tryz.func3, Tryz.ntmps3
  go_upto_region 1 with fail
  have HN1 := hide (Nd.new HV.out hzc)
  have hbel1 : Below w.heap.size w (w.alloc (.cells cn 25)) := (Below.refl _ _).alloc (Nat.le_refl _) _
  generalize w.alloc (.cells cn 25) = W1 at *
  obtain ⟨b, hb⟩ : ∃ b, b = w.heap.size := ⟨_, rfl⟩
  rw [← hb] at HN1 ⊢
  clear hb HV hzc
  have HA1 := hide (HA.out.later2 hbel1)
  have A1 := hide (AW.out W1 hbel1)
  clear AW HA
  go_upto_region 3 with (go_at_call 11; refine A1.out.mono ?_; rintro e w2 ⟨rfl, hb2⟩)
  have HN2 := hide (HN1.out.below hb2)
  have HA2 := hide (HA1.out.later2 hb2)
  have hbel2 := hbel1.trans (hb2.mono hbel1.size)
  clear HN1 HA1 A1 hb2
  have FF := hide (few47_any t acc.length (by omega) (.agg cn) (.slice aA acc.length cA) w2 HN2.out.2.1 ⟨_, _, rfl⟩)
  cases hf : few47 t acc.length with
  | false =>
    rw [hf] at FF
    clear hf
    go_wp2_with (first | ((with_reducible show wpList _ _ _ (Oper.mk (some 13) _ _ _ _ _ :: _) _ _); refine wpList_load_row rfl 25 (.tmp 3) rfl b rfl 25 cn (0, 0) _ HN2.out.1 Tryz.underlying25 rfl (infN HN2.out.2.2) ?_) | (go_at_call 12; refine FF.out.mono ?_; rintro e w3 ⟨rfl, hb3⟩))
    go_ret
    exact ⟨rfl, hbel2.trans (hb3.mono hbel2.size)⟩
  | true =>
  obtain ⟨hs1, hs2⟩ := few47_sz hf
  have hct : t.count ≤ 40 := few47_ct hf
  rw [hf] at FF
  clear hf
  have WN := hide (fun W (hW : Below w2.heap.size w2 W) => weight_any t p (by omega) hps (.agg cn) W ((HTV.out.below hbel2).below hW) (HN2.out.2.1.later hW))
  have RN := hide (fun W (hW : Below w2.heap.size w2 W) => rWeight_any t p (by omega) hps (.agg cn) W (HN2.out.2.1.later hW))
  generalize weightT t p = wt at *
  have q1 : (wt.1 == wt.1) = true := by simp
  have q2 : (wt.2 == wt.2) = true := by simp
  go_upto_region 7 with (first | ((with_reducible show wpList _ _ _ (Oper.mk (some 13) _ _ _ _ _ :: _) _ _); refine wpList_load_row rfl 25 (.tmp 3) rfl b rfl 25 cn (0, 0) _ HN2.out.1 Tryz.underlying25 rfl (infN HN2.out.2.2) ?_) | (go_at_call 12; refine FF.out.mono ?_; rintro e w3 ⟨rfl, hb3⟩; have HB3 := hide hb3; have HN3 := hide (HN2.out.below hb3)) | ((with_reducible show wpList _ _ _ (Oper.mk (some 18) _ _ _ _ _ :: _) _ _); refine wpList_load_row rfl 25 (.tmp 3) rfl b rfl 25 cn (0, 0) _ HN3.out.1 Tryz.underlying25 rfl (infN HN3.out.2.2) ?_) | (go_at_call 13; refine (WN.out w3 HB3.out).mono ?_; rintro e w4 ⟨rfl, hb4⟩; have HB4 := hide (HB3.out.trans (hb4.mono HB3.out.size)); have HN4 := hide (HN2.out.below HB4.out); clear hb4) | ((with_reducible show wpList _ _ _ (Oper.mk (some 24) _ _ _ _ _ :: _) _ _); refine wpList_load_row rfl 25 (.tmp 3) rfl b rfl 25 cn (0, 0) _ HN4.out.1 Tryz.underlying25 rfl (infN HN4.out.2.2) ?_) | (go_at_call 14; refine (RN.out w4 HB4.out).mono ?_; rintro e w5 ⟨rfl, hb5⟩))
  have hb25 := HB4.out.trans (hb5.mono HB4.out.size)
  have HN5 := hide (HN2.out.below hb25)
  have HA5 := hide (HA2.out.later2 hb25)
  have hbel5 := hbel2.trans (hb25.mono hbel2.size)
  have HT5 := hide (HTV.out.below hbel5)
  clear WN RN HN2 HN3 HN4 HB3 HB4 hb3 hb5 hb25 HA2 FF HTV hbel2 hbel1
  have hfl : (filesT t).length ≤ 6000 := by have h1 := files_len t; have h2 := t.count_sz; omega
  have hbl : (byW t).length ≤ 6000 := by rw [byW_len]; exact hfl
  have hal : (byA t acc).length ≤ 6000 := by rw [(byA_perm t acc).length_eq]; exact hfl
  have OF1 := hide (show ∀ W, Below w5.heap.size w5 W → Calls Tryz.prog 16 #[.agg cn] W fun e w' => ∃ r, e = .returned r ∧ StrsR w' W.heap.size r (filesT t) ∧ Below W.heap.size W w' from fun W hW => files_any t (by omega) _ W (HT5.out.below hW) (HN5.out.2.1.later hW))
  have OF2 := hide (show ∀ W, Below w5.heap.size w5 W → Calls Tryz.prog 17 #[.agg cn] W fun e w' => ∃ r, e = .returned r ∧ StrsR w' W.heap.size r (filesT t) ∧ Below W.heap.size W w' from fun W hW => rfiles_any t (by omega) _ W (HN5.out.2.1.later hW))
  have OW1 := hide (show ∀ W, Below w5.heap.size w5 W → Calls Tryz.prog 18 #[.agg cn] W fun e w' => ∃ r, e = .returned r ∧ StrsR w' W.heap.size r (byW t) ∧ Below W.heap.size W w' from fun W hW => byWeight_any t (by omega) _ W (HT5.out.below hW) (HN5.out.2.1.later hW))
  have OW2 := hide (show ∀ W, Below w5.heap.size w5 W → Calls Tryz.prog 19 #[.agg cn] W fun e w' => ∃ r, e = .returned r ∧ StrsR w' W.heap.size r (byW t) ∧ Below W.heap.size W w' from fun W hW => rbyWeight_any t (by omega) _ W (HN5.out.2.1.later hW))
  have OA1 := hide (show ∀ W, Below w5.heap.size w5 W → Calls Tryz.prog 20 #[.agg cn, .slice aA acc.length cA] W fun e w' => ∃ r, e = .returned r ∧ StrsR w' W.heap.size r (byA t acc) ∧ Below W.heap.size W w' from fun W hW => byAccess_any t acc (by omega) (by omega) _ _ W (HT5.out.below hW) (HN5.out.2.1.later hW) (HA5.out.later2 hW))
  have OA2 := hide (show ∀ W, Below w5.heap.size w5 W → Calls Tryz.prog 21 #[.agg cn, .slice aA acc.length cA] W fun e w' => ∃ r, e = .returned r ∧ StrsR w' W.heap.size r (byA t acc) ∧ Below W.heap.size W w' from fun W hW => rbyAccess_any t acc (by omega) (by omega) _ _ W (HN5.out.2.1.later hW) (HA5.out.later2 hW))
  have OE0 := fun (L : List ByteArray) (hL : L.length ≤ 100000) W a b (ha : SlR W W.heap.size a L) (hb : SlR W W.heap.size b L) => (by have h := sequal_any L L a b W.heap.size hL hL W ha hb; rw [decide_eq_true rfl] at h; exact h : Calls Tryz.prog 15 #[a, b] W fun e w' => e = .returned (.bool true) ∧ Below W.heap.size W w')
  have OE1 := hide (OE0 (filesT t) (by omega))
  have OE2 := hide (OE0 (byW t) (by omega))
  have OE3 := hide (OE0 (byA t acc) (by omega))
  clear OE0
  generalize filesT t = l1 at *
  generalize byW t = l2 at *
  generalize byA t acc = l3 at *
  have hk0 : Below w5.heap.size w5 w5 ∧ True := ⟨Below.refl _ _, trivial⟩
  have hk0d : Below w5.heap.size w5 w5.drew ∧ True := ⟨(Below.refl w5.heap.size w5).drew, trivial⟩
  refine wp_region_noPanic ?_
  refine wp_region_held_drew (S := (fun z => Below w5.heap.size w5 z ∧ True)) (by kernel_rfl) kp (fun hHeld => ?_)
  refine tkZ 0 ⟨some 29, .move (.tmp 7), 3, "law.go:41", #[], none⟩ ?_
  refine tkZ 1 ⟨some 30, .move (.tmp 9), 3, "law.go:41", #[], none⟩ ?_
  refine tkZ 2 ⟨some 31, .binOp .eql 3 (.tmp 29) (.tmp 30) 3, 4, "law.go:41", #[⟨0, .data⟩, ⟨1, .data⟩], none⟩ ?_
  refine tkZ 3 ⟨some 32, .move (.tmp 31), 4, "law.go:41", #[⟨2, .data⟩], none⟩ ?_
  refine tkZ 4 ⟨some 33, .move (.tmp 8), 29, "law.go:41", #[⟨3, .guard⟩], some (3, true)⟩ ?_
  refine tkZ 5 ⟨some 34, .move (.tmp 10), 29, "law.go:41", #[⟨3, .guard⟩], some (3, true)⟩ ?_
  refine tkZ 6 ⟨some 35, .binOp .eql 29 (.tmp 33) (.tmp 34) 29, 4, "law.go:41", #[⟨4, .data⟩, ⟨5, .data⟩, ⟨3, .guard⟩], some (3, true)⟩ ?_
  refine tkZ 7 ⟨some 36, .pick (.tmp 32) (.tmp 35) (.const (.bool false)), 4, "law.go:41", #[⟨3, .data⟩, ⟨6, .data⟩], none⟩ ?_
  refine tkZ 8 ⟨some 37, .move (.tmp 36), 4, "law.go:41", #[⟨7, .data⟩, ⟨3, .chain⟩], none⟩ ?_
  refine tkZ 9 ⟨some 38, .load 25 (.tmp 3), 25, "law.go:41", #[⟨8, .guard⟩], some (8, true)⟩ ?_ (by intro w hSw; (try dsimp only at hSw); refine (exec_load_row 25 (.tmp 3) (by rfl) b (by rfl) 25 cn (0, 0) _ (Blk.below hSw.1 HN5.out.1) Tryz.underlying25 (by rfl) (infN HN5.out.2.2)).trans ?_; with_reducible rfl)
  refine tkZ 11 ⟨some 40, .load 25 (.tmp 3), 25, "law.go:41", #[⟨8, .guard⟩], some (8, true)⟩ ?_ (by intro w hSw; (try dsimp only at hSw); refine (exec_load_row 25 (.tmp 3) (by rfl) b (by rfl) 25 cn (0, 0) _ (Blk.below hSw.1 HN5.out.1) Tryz.underlying25 (by rfl) (infN HN5.out.2.2)).trans ?_; with_reducible rfl)
  refine rqS [10] (rqC ⟨some 39, .call ⟨.value (.func 16), #[.tmp 38], #[25]⟩, 26, "law.go:41", #[⟨9, .data⟩, ⟨8, .chain⟩, ⟨8, .guard⟩], some (8, true)⟩ (fun K hK => ?_) rq0)
  go_simp
  (go_at_call 16; (with_reducible refine (OF1.out _ hHeld.1).mono ?_); rintro e w8 ⟨r8, rfl, hr8, hb8⟩; have hk8 : Below w5.heap.size w5 w8 ∧ True := ⟨hHeld.1.trans (hb8.mono hHeld.1.size), trivial⟩; have HR8 := hide (SlR.of hr8))
  go_wp2_with fail
  refine hK.out _ _ kp (fun hHeld => ?_)
  clear hK K
  try simp only [PT]
  refine rqS [12] (rqC ⟨some 41, .call ⟨.value (.func 17), #[.tmp 40], #[25]⟩, 26, "law.go:41", #[⟨11, .data⟩, ⟨10, .chain⟩, ⟨8, .guard⟩], some (8, true)⟩ (fun K hK => ?_) rq0)
  go_simp
  (go_at_call 17; (with_reducible refine (OF2.out _ hHeld.1).mono ?_); rintro e w9 ⟨r9, rfl, hr9, hb9⟩; have hk9 : Below w5.heap.size w5 w9 ∧ True := ⟨hHeld.1.trans (hb9.mono hHeld.1.size), trivial⟩; have HR9 := hide (SlR.of hr9); have HX9 := hide (HR8.out.later2 hb9))
  go_wp2_with fail
  refine hK.out _ _ kp (fun hHeld => ?_)
  clear hK K
  try simp only [PT]
  refine rqS [13] (rqC ⟨some 42, .call ⟨.value (.func 15), #[.tmp 39, .tmp 41], #[26, 26]⟩, 4, "law.go:41", #[⟨10, .data⟩, ⟨12, .data⟩, ⟨12, .chain⟩, ⟨8, .guard⟩], some (8, true)⟩ (fun K hK => ?_) rq0)
  go_simp
  (first | (go_at_call 15; (with_reducible refine (OE1.out _ _ _ HX9.out HR9.out).mono ?_); rintro e w10 ⟨rfl, hb10⟩; have hk10 : Below w5.heap.size w5 w10 ∧ True := ⟨hHeld.1.trans (hb10.mono hHeld.1.size), trivial⟩) | (go_at_call 15; (with_reducible refine (OE2.out _ _ _ HX12.out HR12.out).mono ?_); rintro e w13 ⟨rfl, hb13⟩; have hk13 : Below w5.heap.size w5 w13 ∧ True := ⟨hHeld.1.trans (hb13.mono hHeld.1.size), trivial⟩) | (go_at_call 15; (with_reducible refine (OE3.out _ _ _ HX15.out HR15.out).mono ?_); rintro e w16 ⟨rfl, hb16⟩; have hk16 : Below w5.heap.size w5 w16 ∧ True := ⟨hHeld.1.trans (hb16.mono hHeld.1.size), trivial⟩))
  go_wp2_with fail
  refine hK.out _ _ kp (fun hHeld => ?_)
  clear hK K
  try simp only [PT]
  refine tkZ 14 ⟨some 43, .pick (.tmp 37) (.tmp 42) (.const (.bool false)), 4, "law.go:41", #[⟨8, .data⟩, ⟨13, .data⟩], none⟩ ?_
  refine tkZ 15 ⟨some 44, .move (.tmp 43), 4, "law.go:41", #[⟨14, .data⟩, ⟨13, .chain⟩], none⟩ ?_
  refine tkZ 16 ⟨some 45, .load 25 (.tmp 3), 25, "law.go:41", #[⟨15, .guard⟩], some (15, true)⟩ ?_ (by intro w hSw; (try dsimp only at hSw); refine (exec_load_row 25 (.tmp 3) (by rfl) b (by rfl) 25 cn (0, 0) _ (Blk.below hSw.1 HN5.out.1) Tryz.underlying25 (by rfl) (infN HN5.out.2.2)).trans ?_; with_reducible rfl)
  refine tkZ 18 ⟨some 47, .load 25 (.tmp 3), 25, "law.go:41", #[⟨15, .guard⟩], some (15, true)⟩ ?_ (by intro w hSw; (try dsimp only at hSw); refine (exec_load_row 25 (.tmp 3) (by rfl) b (by rfl) 25 cn (0, 0) _ (Blk.below hSw.1 HN5.out.1) Tryz.underlying25 (by rfl) (infN HN5.out.2.2)).trans ?_; with_reducible rfl)
  refine rqS [17] (rqC ⟨some 46, .call ⟨.value (.func 18), #[.tmp 45], #[25]⟩, 26, "law.go:41", #[⟨16, .data⟩, ⟨15, .chain⟩, ⟨15, .guard⟩], some (15, true)⟩ (fun K hK => ?_) rq0)
  go_simp
  (go_at_call 18; (with_reducible refine (OW1.out _ hHeld.1).mono ?_); rintro e w11 ⟨r11, rfl, hr11, hb11⟩; have hk11 : Below w5.heap.size w5 w11 ∧ True := ⟨hHeld.1.trans (hb11.mono hHeld.1.size), trivial⟩; have HR11 := hide (SlR.of hr11))
  go_wp2_with fail
  refine hK.out _ _ kp (fun hHeld => ?_)
  clear hK K
  try simp only [PT]
  refine rqS [19] (rqC ⟨some 48, .call ⟨.value (.func 19), #[.tmp 47], #[25]⟩, 26, "law.go:41", #[⟨18, .data⟩, ⟨17, .chain⟩, ⟨15, .guard⟩], some (15, true)⟩ (fun K hK => ?_) rq0)
  go_simp
  (go_at_call 19; (with_reducible refine (OW2.out _ hHeld.1).mono ?_); rintro e w12 ⟨r12, rfl, hr12, hb12⟩; have hk12 : Below w5.heap.size w5 w12 ∧ True := ⟨hHeld.1.trans (hb12.mono hHeld.1.size), trivial⟩; have HR12 := hide (SlR.of hr12); have HX12 := hide (HR11.out.later2 hb12))
  go_wp2_with fail
  refine hK.out _ _ kp (fun hHeld => ?_)
  clear hK K
  try simp only [PT]
  refine rqS [20] (rqC ⟨some 49, .call ⟨.value (.func 15), #[.tmp 46, .tmp 48], #[26, 26]⟩, 4, "law.go:41", #[⟨17, .data⟩, ⟨19, .data⟩, ⟨19, .chain⟩, ⟨15, .guard⟩], some (15, true)⟩ (fun K hK => ?_) rq0)
  go_simp
  (first | (go_at_call 15; (with_reducible refine (OE1.out _ _ _ HX9.out HR9.out).mono ?_); rintro e w10 ⟨rfl, hb10⟩; have hk10 : Below w5.heap.size w5 w10 ∧ True := ⟨hHeld.1.trans (hb10.mono hHeld.1.size), trivial⟩) | (go_at_call 15; (with_reducible refine (OE2.out _ _ _ HX12.out HR12.out).mono ?_); rintro e w13 ⟨rfl, hb13⟩; have hk13 : Below w5.heap.size w5 w13 ∧ True := ⟨hHeld.1.trans (hb13.mono hHeld.1.size), trivial⟩) | (go_at_call 15; (with_reducible refine (OE3.out _ _ _ HX15.out HR15.out).mono ?_); rintro e w16 ⟨rfl, hb16⟩; have hk16 : Below w5.heap.size w5 w16 ∧ True := ⟨hHeld.1.trans (hb16.mono hHeld.1.size), trivial⟩))
  go_wp2_with fail
  refine hK.out _ _ kp (fun hHeld => ?_)
  clear hK K
  try simp only [PT]
  refine tkZ 21 ⟨some 50, .pick (.tmp 44) (.tmp 49) (.const (.bool false)), 4, "law.go:41", #[⟨15, .data⟩, ⟨20, .data⟩], none⟩ ?_
  refine tkZ 22 ⟨some 51, .move (.tmp 50), 4, "law.go:41", #[⟨21, .data⟩, ⟨20, .chain⟩], none⟩ ?_
  refine tkZ 23 ⟨some 52, .load 25 (.tmp 3), 25, "law.go:41", #[⟨22, .guard⟩], some (22, true)⟩ ?_ (by intro w hSw; (try dsimp only at hSw); refine (exec_load_row 25 (.tmp 3) (by rfl) b (by rfl) 25 cn (0, 0) _ (Blk.below hSw.1 HN5.out.1) Tryz.underlying25 (by rfl) (infN HN5.out.2.2)).trans ?_; with_reducible rfl)
  refine tkZ 24 ⟨some 53, .move (.tmp 2), 26, "law.go:41", #[⟨22, .guard⟩], some (22, true)⟩ ?_
  refine tkZ 26 ⟨some 55, .load 25 (.tmp 3), 25, "law.go:41", #[⟨22, .guard⟩], some (22, true)⟩ ?_ (by intro w hSw; (try dsimp only at hSw); refine (exec_load_row 25 (.tmp 3) (by rfl) b (by rfl) 25 cn (0, 0) _ (Blk.below hSw.1 HN5.out.1) Tryz.underlying25 (by rfl) (infN HN5.out.2.2)).trans ?_; with_reducible rfl)
  refine tkZ 27 ⟨some 56, .move (.tmp 2), 26, "law.go:41", #[⟨22, .guard⟩], some (22, true)⟩ ?_
  refine rqS [25] (rqC ⟨some 54, .call ⟨.value (.func 20), #[.tmp 52, .tmp 53], #[25, 26]⟩, 26, "law.go:41", #[⟨23, .data⟩, ⟨24, .data⟩, ⟨22, .chain⟩, ⟨22, .guard⟩], some (22, true)⟩ (fun K hK => ?_) rq0)
  go_simp
  (go_at_call 20; (with_reducible refine (OA1.out _ hHeld.1).mono ?_); rintro e w14 ⟨r14, rfl, hr14, hb14⟩; have hk14 : Below w5.heap.size w5 w14 ∧ True := ⟨hHeld.1.trans (hb14.mono hHeld.1.size), trivial⟩; have HR14 := hide (SlR.of hr14))
  go_wp2_with fail
  refine hK.out _ _ kp (fun hHeld => ?_)
  clear hK K
  try simp only [PT]
  refine rqS [28] (rqC ⟨some 57, .call ⟨.value (.func 21), #[.tmp 55, .tmp 56], #[25, 26]⟩, 26, "law.go:41", #[⟨26, .data⟩, ⟨27, .data⟩, ⟨25, .chain⟩, ⟨22, .guard⟩], some (22, true)⟩ (fun K hK => ?_) rq0)
  go_simp
  (go_at_call 21; (with_reducible refine (OA2.out _ hHeld.1).mono ?_); rintro e w15 ⟨r15, rfl, hr15, hb15⟩; have hk15 : Below w5.heap.size w5 w15 ∧ True := ⟨hHeld.1.trans (hb15.mono hHeld.1.size), trivial⟩; have HR15 := hide (SlR.of hr15); have HX15 := hide (HR14.out.later2 hb15))
  go_wp2_with fail
  refine hK.out _ _ kp (fun hHeld => ?_)
  clear hK K
  try simp only [PT]
  refine rqS [29] (rqC ⟨some 58, .call ⟨.value (.func 15), #[.tmp 54, .tmp 57], #[26, 26]⟩, 4, "law.go:41", #[⟨25, .data⟩, ⟨28, .data⟩, ⟨28, .chain⟩, ⟨22, .guard⟩], some (22, true)⟩ (fun K hK => ?_) rq0)
  go_simp
  (first | (go_at_call 15; (with_reducible refine (OE1.out _ _ _ HX9.out HR9.out).mono ?_); rintro e w10 ⟨rfl, hb10⟩; have hk10 : Below w5.heap.size w5 w10 ∧ True := ⟨hHeld.1.trans (hb10.mono hHeld.1.size), trivial⟩) | (go_at_call 15; (with_reducible refine (OE2.out _ _ _ HX12.out HR12.out).mono ?_); rintro e w13 ⟨rfl, hb13⟩; have hk13 : Below w5.heap.size w5 w13 ∧ True := ⟨hHeld.1.trans (hb13.mono hHeld.1.size), trivial⟩) | (go_at_call 15; (with_reducible refine (OE3.out _ _ _ HX15.out HR15.out).mono ?_); rintro e w16 ⟨rfl, hb16⟩; have hk16 : Below w5.heap.size w5 w16 ∧ True := ⟨hHeld.1.trans (hb16.mono hHeld.1.size), trivial⟩))
  go_wp2_with fail
  refine hK.out _ _ kp (fun hHeld => ?_)
  clear hK K
  try simp only [PT]
  refine tkZ 30 ⟨some 59, .pick (.tmp 51) (.tmp 58) (.const (.bool false)), 4, "law.go:41", #[⟨22, .data⟩, ⟨29, .data⟩], none⟩ ?_
  refine tkZ 31 ⟨some 6, .assign (.tmp 59), 4, "law.go:41", #[⟨30, .data⟩, ⟨29, .chain⟩, ⟨0, .phase⟩, ⟨1, .phase⟩, ⟨2, .phase⟩, ⟨3, .phase⟩, ⟨4, .phase⟩, ⟨5, .phase⟩, ⟨6, .phase⟩, ⟨7, .phase⟩, ⟨8, .phase⟩, ⟨9, .phase⟩, ⟨10, .phase⟩, ⟨11, .phase⟩, ⟨12, .phase⟩, ⟨13, .phase⟩, ⟨14, .phase⟩, ⟨15, .phase⟩, ⟨16, .phase⟩, ⟨17, .phase⟩, ⟨18, .phase⟩, ⟨19, .phase⟩, ⟨20, .phase⟩, ⟨21, .phase⟩, ⟨22, .phase⟩, ⟨23, .phase⟩, ⟨24, .phase⟩, ⟨25, .phase⟩, ⟨26, .phase⟩, ⟨27, .phase⟩, ⟨28, .phase⟩, ⟨29, .phase⟩, ⟨30, .phase⟩], none⟩ ?_
  refine wpAnyH_done (by kernel_rfl) ?_ _
  refine NoPanic.normal ?_
  go_wp2_with fail
  go_ret
  exact ⟨rfl, hbel5.trans (hk16.1.mono hbel5.size)⟩
end Go.Proofs.YtocgindpjjolpaaGreatDoor
