/- Contracts and plain words for the laws of this chapter, part 37: K2, K12. No condition. -/
import Derived.Test.YtocgindpjjolpaaGreatDoorG27
import Derived.Test.YtocgindpjjolpaaGreatDoorG35
import Derived.Test.YtocgindpjjolpaaGreatDoorG31
import Derived.Test.YtocgindpjjolpaaGreatDoorG36
import Derived.Test.YtocgindpjjolpaaGreatDoorG22
namespace Go.Proofs.YtocgindpjjolpaaGreatDoor
set_option linter.unusedSimpArgs false
set_option linter.unusedVariables false
open Go.RowKit
def twoFA (f : Ext) (p : ByteArray) (g o g2 o2 : Nat) (z : World) : Prop := (z.cell? ⟨g, o, none⟩ = some (.string f.path) ∧ z.cell? ⟨g, o + 1, none⟩ = some (.int .i64 f.start) ∧ z.cell? ⟨g, o + 2, none⟩ = some (.int .i64 f.len)) ∧ z.cell? ⟨g2, o2, none⟩ = some (.string p)
theorem at47_take {fs : List Ext} {k : Nat} {f : Ext} (h : fs[k]? = some f) (p : ByteArray) : at47 (fs.take (k + 1)) p = if f.path = p then at47 (fs.take k) p ++ [f] else at47 (fs.take k) p := by
  rw [all_snoc h, at47_snoc]
set_option maxRecDepth 100000 in
set_option maxHeartbeats 8000000 in
theorem rcost_any (files : List Ext) (acc : List ByteArray) (hfo : ∀ f ∈ files, extOK f) (hfl : files.length ≤ 100000000) (hal : acc.length ≤ 100000000) (vf va : Value) (w : World) (hf : SlF w w.heap.size vf files) (ha : SlR w w.heap.size va acc) :
    Calls Tryz.prog 28 #[vf, va] w fun e w' => e = .returned (.tuple #[.int .i64 (costT files acc).1, .int .i64 (costT files acc).2]) ∧ Below w.heap.size w w' := by
  have HFO := hide hfo
  obtain ⟨aF, cF, rfl, hF⟩ := hf
  obtain ⟨aA, cA, rfl, hA⟩ := ha
  have HF := hide hF
  have HA := hide hA
  clear hF hA hfo
  by_cases hbig : 1024 < files.length ∨ 1024 < acc.length
  · have HZ := hide (costT_big hbig)
    by_cases hb1 : 1024 < files.length
    · have HL : Live w [] := trivial
      go_enter Tryz.func28, Tryz.ntmps28
      go_wp2_with fail
      go_ret2
      exact ⟨ret_w HZ.out, Below.refl _ _⟩
    · have hb2 : 1024 < acc.length := by omega
      have HL : Live w [] := trivial
      go_enter Tryz.func28, Tryz.ntmps28
      go_wp2_with fail
      go_ret2
      exact ⟨ret_w HZ.out, Below.refl _ _⟩
  have HBAD := hide (costT_bad hbig)
  have HGO := hide (costT_go hbig)
  have hb1 : files.length ≤ 1024 := by omega
  have hb2 : acc.length ≤ 1024 := by omega
  clear hbig
  have HL : Live w [] := trivial
  go_enter Tryz.func28, Tryz.ntmps28
  go_wp2_with fail
  go_loopw [6] (fun i wr => ∃ k : Nat, i = .int .i64 (k : Int) ∧ k ≤ files.length ∧ (files.take k).all extB = true ∧ Below w.heap.size w wr) (fun i _ => files.length - (intOf i).toNat)
  case atStart => exact ⟨0, rfl, Nat.zero_le _, rfl, Below.refl _ _⟩
  case round =>
    obtain ⟨k, rfl, hk, hall, hbelr⟩ := hrel
    have HALL := hide hall
    have HB := hide hbelr
    have hszr := hbelr.size
    clear hall hbelr
    by_cases hlt : k < files.length
    · obtain ⟨f, hp⟩ : ∃ f, files[k]? = some f := ⟨files[k], List.getElem?_eq_getElem hlt⟩
      obtain ⟨g, o, rfl, hg, hcl⟩ := HF.out (by omega)
      have R1 := hide (show wr.rangeAt g (o + k * 3) (extA f).toList from range_below HB.out (by omega) (hcl k f hp))
      have hmem := List.mem_of_getElem? hp
      have VF := hide (vfile_any f (HFO.out f hmem) wr)
      have HMEM := hide hmem
      have HTK := hide (all_snoc hp)
      clear hcl hp hmem
      cases hx : extB f with
      | false =>
        rw [hx] at VF
        have HZ := hide (HBAD.out (fun h => by have := List.all_eq_true.1 h f HMEM.out; rw [hx] at this; exact absurd this (by decide)))
        clear hx
        go_wp2_with (first | ((with_reducible show wpList _ _ _ (Oper.mk (some 29) _ _ _ _ _ :: _) _ _); refine wpList_load_midA rfl 69 (.tmp 28) rfl g (o + k * 3) rfl (extA f) _ R1.out Tryz.underlying69 rfl (by rw [Array.length_toList]; exact infF rfl) ?_) | (go_at_call 59; refine VF.out.mono ?_; rintro e w4 ⟨rfl, hb4⟩))
        go_ret2
        exact ⟨ret_w HZ.out, HB.out.trans (hb4.mono hszr)⟩
      | true =>
        rw [hx] at VF
        have HA2 := hide (show (files.take (k + 1)).all extB = true by rw [HTK.out, List.all_append, HALL.out]; simp [hx])
        clear hx
        go_wp2_with (first | ((with_reducible show wpList _ _ _ (Oper.mk (some 29) _ _ _ _ _ :: _) _ _); refine wpList_load_midA rfl 69 (.tmp 28) rfl g (o + k * 3) rfl (extA f) _ R1.out Tryz.underlying69 rfl (by rw [Array.length_toList]; exact infF rfl) ?_) | (go_at_call 59; refine VF.out.mono ?_; rintro e w4 ⟨rfl, hb4⟩))
        go_roundw
        case rel => exact ⟨k + 1, by go_num, by omega, HA2.out, HB.out.trans (hb4.mono hszr)⟩
        case measure => simp [intOf]; omega
    · obtain rfl : k = files.length := by omega
      have HAF := hide (by have h := HALL.out; rwa [List.take_length] at h : files.all extB = true)
      have HZ := hide (HGO.out HAF.out)
      clear HALL HBAD HGO
      go_wp2_with fail
      generalize hW9 : wr = W9 at *
      clear hW9
      go_loopw [7, 8, 9, 10, 11] (fun cv av i _ _ w2 => ∃ (k : Nat) (c a : Int), cv = .int .i64 c ∧ av = .int .i64 a ∧ i = .int .i64 (k : Int) ∧ k ≤ acc.length ∧ 0 ≤ a ∧ a ≤ 4096 ∧ 0 ≤ c ∧ c ≤ (k : Int) * 4194304 ∧ costL files (acc.drop k) (c, a) = costL files acc (0, 0) ∧ Below W9.heap.size W9 w2) (fun _ _ i _ _ _ => acc.length - (intOf i).toNat)
      case atStart => exact ⟨0, 0, 0, rfl, rfl, rfl, Nat.zero_le _, by omega, by omega, by omega, by omega, rfl, Below.refl _ _⟩
      case round =>
        obtain ⟨k, c, a, rfl, rfl, rfl, hk2, ha0, ha1, hc0, hc1, hcl, hb2'⟩ := hrel
        have HCL := hide hcl
        have HB2 := hide hb2'
        have hsz2 := hb2'.size
        clear hcl hb2'
        by_cases hlt2 : k < acc.length
        · obtain ⟨p, hp⟩ : ∃ p, acc[k]? = some p := ⟨acc[k], List.getElem?_eq_getElem hlt2⟩
          obtain ⟨g2, o2, rfl, hg2, hcp⟩ := HA.out (by omega)
          have HP := hide (show ∀ W, Below W9.heap.size W9 W → W.cell? ⟨g2, o2 + k, none⟩ = some (.string p) from fun W h => ((HB.out.trans (h.mono hszr)).cell (p := ⟨g2, o2 + k, none⟩) hg2).trans (hcp k p hp))
          have HST := hide (costL_step (fs := files) hp (c, a))
          clear hcp hp
          go_wp2_with fail
          go_loopw [7, 8, 10, 11] (fun cv av fd i w3 => ∃ (j : Nat) (c' a' : Int), cv = .int .i64 c' ∧ av = .int .i64 a' ∧ fd = .bool (decide (at47 (files.take j) p ≠ [])) ∧ i = .int .i64 (j : Int) ∧ j ≤ files.length ∧ 0 ≤ a' ∧ a' ≤ 4096 ∧ 0 ≤ c' ∧ c' ≤ c + (j : Int) * 4096 ∧ (at47 (files.take j) p).foldl seek (c, a) = (c', a') ∧ Below W9.heap.size W9 w3) (fun _ _ _ i _ => files.length - (intOf i).toNat)
          case atStart => exact ⟨0, c, a, rfl, rfl, rfl, rfl, Nat.zero_le _, ha0, ha1, hc0, by omega, rfl, HB2.out⟩
          case round =>
            obtain ⟨j, c', a', rfl, rfl, rfl, rfl, hj, hp0, hp1, hq0, hq1, hsk, hb3⟩ := hrel
            have HSK := hide hsk
            have HB3 := hide hb3
            have hsz3 := hb3.size
            clear hsk hb3
            by_cases hltj : j < files.length
            · obtain ⟨f, hf⟩ : ∃ f, files[j]? = some f := ⟨files[j], List.getElem?_eq_getElem hltj⟩
              obtain ⟨g, o, rfl, hg, hcl⟩ := HF.out (by omega)
              have R2 := range_below (HB.out.trans (HB3.out.mono hszr)) hg (hcl j f hf)
              have hT : ∀ z, (∀ a : Addr, z.cell? a = wr.cell? a) → twoFA f p g (o + j * 3) g2 (o2 + k) z := fun z hz => ⟨⟨(hz _).trans (R2 0 _ rfl), (hz _).trans (R2 1 _ rfl), (hz _).trans (R2 2 _ rfl)⟩, (hz _).trans (HP.out _ HB3.out)⟩
              have hk0 : twoFA f p g (o + j * 3) g2 (o2 + k) wr ∧ True := ⟨hT _ (fun _ => rfl), trivial⟩
              have hk0d : twoFA f p g (o + j * 3) g2 (o2 + k) wr.drew ∧ True := ⟨hT _ (fun _ => rfl), trivial⟩
              have hk0dd : twoFA f p g (o + j * 3) g2 (o2 + k) wr.drew.drew ∧ True := ⟨hT _ (fun _ => rfl), trivial⟩
              have hk0ddd : twoFA f p g (o + j * 3) g2 (o2 + k) wr.drew.drew.drew ∧ True := ⟨hT _ (fun _ => rfl), trivial⟩
              have hmem := List.mem_of_getElem? hf
              obtain ⟨hx1, hx2, hx3, hx4⟩ := extB_all HAF.out hmem
              obtain ⟨hy1, hy2, -⟩ := HFO.out f hmem
              have HTK := hide (at47_take hf p)
              have c1 : wr.cell? ⟨g, o + j * 3 + 2, none⟩ = some (.int .i64 f.len) := R2 2 _ rfl
              clear hT hcl hf hmem R2
              by_cases q : f.path = p
              · have q1 : (f.path.toList != p.toList) = false := sne_n q
                have q2 : (f.path.toList == p.toList) = true := seq_y q
                have HTK2 := hide (show at47 (files.take (j + 1)) p = at47 (files.take j) p ++ [f] by rw [HTK.out, if_pos q])
                have HFD := hide (show decide (at47 (files.take (j + 1)) p ≠ []) = true from decide_eq_true (by rw [HTK2.out]; simp))
                by_cases hpos : 0 < f.len
                · have w1 : IntKind.i64.wrap (f.start - a') = f.start - a' := IntWalk.i64_in _ (by omega)
                  have w2 : IntKind.i64.wrap (a' - f.start) = a' - f.start := IntWalk.i64_in _ (by omega)
                  have w3 : IntKind.i64.wrap (c' + max (a' - f.start) (f.start - a')) = c' + max (a' - f.start) (f.start - a') := IntWalk.i64_in _ (by omega)
                  have RBL := hide (fun W => rblocks_any f.len (by omega) W)
                  have hbr := blocks_rng hx2
                  have HSS2 := hide (show (at47 (files.take (j + 1)) p).foldl seek (c, a) = (c' + max (a' - f.start) (f.start - a'), f.start + blocksI f.len) by rw [HTK2.out, List.foldl_append, HSK.out]; show seek (c', a') f = _; unfold seek; rw [if_pos hpos, Int.max_comm])
                  generalize blocksI f.len = bl at *
                  have w4 : IntKind.i64.wrap (f.start + bl) = f.start + bl := IntWalk.i64_in _ (by omega)
                  clear q
                  go_upto_region 16 with fail
                  refine wp_region_noPanic ?_
                  refine wp_region_held_drew (S := (fun z => twoFA f p g (o + j * 3) g2 (o2 + k) z ∧ True)) (by kernel_rfl) kp (fun hHeld => ?_)
                  refine tkZ 0 ⟨some 44, .move (.tmp 0), 37, "ref.go:166", #[], none⟩ ?_
                  refine tkZ 1 ⟨some 45, .move (.tmp 11), 3, "ref.go:166", #[], none⟩ ?_
                  refine tkZ 2 ⟨some 46, .indexAddr 37 (.tmp 44) (.tmp 45), 0, "ref.go:166", #[⟨0, .data⟩, ⟨1, .data⟩], none⟩ ?_
                  refine tkZ 3 ⟨some 47, .fieldAddr 69 (.tmp 46) 0, 0, "ref.go:166", #[⟨2, .data⟩], none⟩ ?_
                  refine tkZ 4 ⟨some 48, .load 9 (.tmp 47), 9, "ref.go:166", #[⟨3, .data⟩], none⟩ ?_ (by intro w hSw; (try dsimp only at hSw); have c1 := hSw.1.1.1; go_simp; (try with_reducible rfl))
                  refine tkZ 5 ⟨some 49, .move (.tmp 1), 26, "ref.go:166", #[], none⟩ ?_
                  refine tkZ 6 ⟨some 50, .move (.tmp 9), 3, "ref.go:166", #[], none⟩ ?_
                  refine tkZ 7 ⟨some 51, .indexAddr 26 (.tmp 49) (.tmp 50), 0, "ref.go:166", #[⟨5, .data⟩, ⟨6, .data⟩], none⟩ ?_
                  refine tkZ 8 ⟨some 52, .load 9 (.tmp 51), 9, "ref.go:166", #[⟨7, .data⟩], none⟩ ?_ (by intro w hSw; (try dsimp only at hSw); have c1 := hSw.1.2; go_simp; (try with_reducible rfl))
                  refine tkZ 9 ⟨some 53, .binOp .neq 9 (.tmp 48) (.tmp 52) 9, 4, "ref.go:166", #[⟨4, .data⟩, ⟨8, .data⟩], none⟩ ?_
                  refine wpAnyH_done (by kernel_rfl) ?_ _
                  refine NoPanic.normal ?_
                  go_upto_region 19 with fail
                  refine wp_region_noPanic ?_
                  refine wp_region_held_drew (S := (fun z => twoFA f p g (o + j * 3) g2 (o2 + k) z ∧ True)) (by kernel_rfl) kp (fun hHeld => ?_)
                  refine tkZ 0 ⟨some 60, .move (.tmp 7), 3, "ref.go:171", #[], none⟩ ?_
                  refine tkZ 1 ⟨some 61, .move (.tmp 8), 3, "ref.go:171", #[], none⟩ ?_
                  refine tkZ 2 ⟨some 62, .move (.tmp 0), 37, "ref.go:171", #[], none⟩ ?_
                  refine tkZ 3 ⟨some 63, .move (.tmp 11), 3, "ref.go:171", #[], none⟩ ?_
                  refine tkZ 4 ⟨some 64, .indexAddr 37 (.tmp 62) (.tmp 63), 0, "ref.go:171", #[⟨2, .data⟩, ⟨3, .data⟩], none⟩ ?_
                  refine tkZ 5 ⟨some 65, .fieldAddr 69 (.tmp 64) 1, 0, "ref.go:171", #[⟨4, .data⟩], none⟩ ?_
                  refine tkZ 6 ⟨some 66, .load 3 (.tmp 65), 3, "ref.go:171", #[⟨5, .data⟩], none⟩ ?_ (by intro w hSw; (try dsimp only at hSw); have c1 := hSw.1.1.2.1; go_simp; (try with_reducible rfl))
                  refine tkZ 7 ⟨some 67, .binOp .sub 3 (.tmp 61) (.tmp 66) 3, 3, "ref.go:171", #[⟨1, .data⟩, ⟨6, .data⟩], none⟩ ?_
                  refine tkZ 8 ⟨some 68, .move (.tmp 0), 37, "ref.go:171", #[], none⟩ ?_
                  refine tkZ 9 ⟨some 69, .move (.tmp 11), 3, "ref.go:171", #[], none⟩ ?_
                  refine tkZ 10 ⟨some 70, .indexAddr 37 (.tmp 68) (.tmp 69), 0, "ref.go:171", #[⟨8, .data⟩, ⟨9, .data⟩], none⟩ ?_
                  refine tkZ 11 ⟨some 71, .fieldAddr 69 (.tmp 70) 1, 0, "ref.go:171", #[⟨10, .data⟩], none⟩ ?_
                  refine tkZ 12 ⟨some 72, .load 3 (.tmp 71), 3, "ref.go:171", #[⟨11, .data⟩], none⟩ ?_ (by intro w hSw; (try dsimp only at hSw); have c1 := hSw.1.1.2.1; go_simp; (try with_reducible rfl))
                  refine tkZ 13 ⟨some 73, .move (.tmp 8), 3, "ref.go:171", #[], none⟩ ?_
                  refine tkZ 14 ⟨some 74, .binOp .sub 3 (.tmp 72) (.tmp 73) 3, 3, "ref.go:171", #[⟨12, .data⟩, ⟨13, .data⟩], none⟩ ?_
                  refine rqS [15] (rqC ⟨some 75, .call ⟨.builtin .max, #[.tmp 67, .tmp 74], #[3, 3]⟩, 3, "ref.go:171", #[⟨7, .data⟩, ⟨14, .data⟩], none⟩ (fun K hK => ?_) rq0)
                  go_simp
                  refine hK.out _ _ kp (fun hHeld => ?_)
                  clear hK K
                  try simp only [PT]
                  refine tkZ 16 ⟨some 76, .binOp .add 3 (.tmp 60) (.tmp 75) 3, 3, "ref.go:171", #[⟨0, .data⟩, ⟨15, .data⟩], none⟩ ?_
                  refine tkZ 17 ⟨some 7, .assign (.tmp 76), 3, "ref.go:171", #[⟨16, .data⟩, ⟨0, .phase⟩, ⟨1, .phase⟩, ⟨2, .phase⟩, ⟨3, .phase⟩, ⟨4, .phase⟩, ⟨5, .phase⟩, ⟨6, .phase⟩, ⟨7, .phase⟩, ⟨8, .phase⟩, ⟨9, .phase⟩, ⟨10, .phase⟩, ⟨11, .phase⟩, ⟨12, .phase⟩, ⟨13, .phase⟩, ⟨14, .phase⟩, ⟨15, .phase⟩, ⟨16, .phase⟩], none⟩ ?_
                  refine wpAnyH_done (by kernel_rfl) ?_ _
                  refine NoPanic.normal ?_
                  go_upto_region 20 with fail
                  refine wp_region_noPanic ?_
                  refine wp_region_held_drew (S := (fun z => twoFA f p g (o + j * 3) g2 (o2 + k) z ∧ True)) (by kernel_rfl) kp (fun hHeld => ?_)
                  refine tkZ 0 ⟨some 77, .move (.tmp 0), 37, "ref.go:172", #[], none⟩ ?_
                  refine tkZ 1 ⟨some 78, .move (.tmp 11), 3, "ref.go:172", #[], none⟩ ?_
                  refine tkZ 2 ⟨some 79, .indexAddr 37 (.tmp 77) (.tmp 78), 0, "ref.go:172", #[⟨0, .data⟩, ⟨1, .data⟩], none⟩ ?_
                  refine tkZ 3 ⟨some 80, .fieldAddr 69 (.tmp 79) 1, 0, "ref.go:172", #[⟨2, .data⟩], none⟩ ?_
                  refine tkZ 4 ⟨some 81, .load 3 (.tmp 80), 3, "ref.go:172", #[⟨3, .data⟩], none⟩ ?_ (by intro w hSw; (try dsimp only at hSw); have c1 := hSw.1.1.2.1; go_simp; (try with_reducible rfl))
                  refine tkZ 5 ⟨some 82, .move (.tmp 0), 37, "ref.go:172", #[], none⟩ ?_
                  refine tkZ 6 ⟨some 83, .move (.tmp 11), 3, "ref.go:172", #[], none⟩ ?_
                  refine tkZ 7 ⟨some 84, .indexAddr 37 (.tmp 82) (.tmp 83), 0, "ref.go:172", #[⟨5, .data⟩, ⟨6, .data⟩], none⟩ ?_
                  refine tkZ 8 ⟨some 85, .fieldAddr 69 (.tmp 84) 2, 0, "ref.go:172", #[⟨7, .data⟩], none⟩ ?_
                  refine tkZ 9 ⟨some 86, .load 3 (.tmp 85), 3, "ref.go:172", #[⟨8, .data⟩], none⟩ ?_ (by intro w hSw; (try dsimp only at hSw); have c1 := hSw.1.1.2.2; go_simp; (try with_reducible rfl))
                  refine rqS [10] (rqC ⟨some 87, .call ⟨.value (.func 25), #[.tmp 86], #[3]⟩, 3, "ref.go:172", #[⟨9, .data⟩], none⟩ (fun K hK => ?_) rq0)
                  go_simp
                  (go_at_call 25; (with_reducible refine (RBL.out _).mono ?_); rintro e w8 ⟨rfl, hw8⟩; have hk8 : twoFA f p g (o + j * 3) g2 (o2 + k) w8 ∧ True := ⟨by rw [← hw8]; exact hHeld.1, trivial⟩)
                  go_wp2_with fail
                  refine hK.out _ _ kp (fun hHeld => ?_)
                  clear hK K
                  try simp only [PT]
                  refine tkZ 11 ⟨some 88, .binOp .add 3 (.tmp 81) (.tmp 87) 3, 3, "ref.go:172", #[⟨4, .data⟩, ⟨10, .data⟩], none⟩ ?_
                  refine tkZ 12 ⟨some 8, .assign (.tmp 88), 3, "ref.go:172", #[⟨11, .data⟩, ⟨10, .chain⟩, ⟨0, .phase⟩, ⟨1, .phase⟩, ⟨2, .phase⟩, ⟨3, .phase⟩, ⟨4, .phase⟩, ⟨5, .phase⟩, ⟨6, .phase⟩, ⟨7, .phase⟩, ⟨8, .phase⟩, ⟨9, .phase⟩, ⟨10, .phase⟩, ⟨11, .phase⟩], none⟩ ?_
                  refine wpAnyH_done (by kernel_rfl) ?_ _
                  refine NoPanic.normal ?_
                  subst hw8
                  go_wp2_with fail
                  go_roundw
                  case rel => exact ⟨j + 1, _, _, rfl, rfl, by rw [HFD.out], by go_num, by omega, by omega, by omega, by omega, by omega, HSS2.out, HB3.out.drew.drew.drew⟩
                  case measure => simp [intOf]; omega
                · have HSS2 := hide (show (at47 (files.take (j + 1)) p).foldl seek (c, a) = (c', a') by rw [HTK2.out, List.foldl_append, HSK.out]; show seek (c', a') f = _; unfold seek; rw [if_neg hpos])
                  clear q
                  go_upto_region 16 with fail
                  refine wp_region_noPanic ?_
                  refine wp_region_held_drew (S := (fun z => twoFA f p g (o + j * 3) g2 (o2 + k) z ∧ True)) (by kernel_rfl) kp (fun hHeld => ?_)
                  refine tkZ 0 ⟨some 44, .move (.tmp 0), 37, "ref.go:166", #[], none⟩ ?_
                  refine tkZ 1 ⟨some 45, .move (.tmp 11), 3, "ref.go:166", #[], none⟩ ?_
                  refine tkZ 2 ⟨some 46, .indexAddr 37 (.tmp 44) (.tmp 45), 0, "ref.go:166", #[⟨0, .data⟩, ⟨1, .data⟩], none⟩ ?_
                  refine tkZ 3 ⟨some 47, .fieldAddr 69 (.tmp 46) 0, 0, "ref.go:166", #[⟨2, .data⟩], none⟩ ?_
                  refine tkZ 4 ⟨some 48, .load 9 (.tmp 47), 9, "ref.go:166", #[⟨3, .data⟩], none⟩ ?_ (by intro w hSw; (try dsimp only at hSw); have c1 := hSw.1.1.1; go_simp; (try with_reducible rfl))
                  refine tkZ 5 ⟨some 49, .move (.tmp 1), 26, "ref.go:166", #[], none⟩ ?_
                  refine tkZ 6 ⟨some 50, .move (.tmp 9), 3, "ref.go:166", #[], none⟩ ?_
                  refine tkZ 7 ⟨some 51, .indexAddr 26 (.tmp 49) (.tmp 50), 0, "ref.go:166", #[⟨5, .data⟩, ⟨6, .data⟩], none⟩ ?_
                  refine tkZ 8 ⟨some 52, .load 9 (.tmp 51), 9, "ref.go:166", #[⟨7, .data⟩], none⟩ ?_ (by intro w hSw; (try dsimp only at hSw); have c1 := hSw.1.2; go_simp; (try with_reducible rfl))
                  refine tkZ 9 ⟨some 53, .binOp .neq 9 (.tmp 48) (.tmp 52) 9, 4, "ref.go:166", #[⟨4, .data⟩, ⟨8, .data⟩], none⟩ ?_
                  refine wpAnyH_done (by kernel_rfl) ?_ _
                  refine NoPanic.normal ?_
                  go_wp2_with fail
                  go_roundw
                  case rel => exact ⟨j + 1, c', a', rfl, rfl, by rw [HFD.out], by go_num, by omega, hp0, hp1, hq0, by omega, HSS2.out, HB3.out.drew⟩
                  case measure => simp [intOf]; omega
              · have q1 : (f.path.toList != p.toList) = true := sne_y q
                have q2 : (f.path.toList == p.toList) = false := seq_n q
                have HTK2 := hide (show at47 (files.take (j + 1)) p = at47 (files.take j) p by rw [HTK.out, if_neg q])
                clear q
                go_upto_region 16 with fail
                refine wp_region_noPanic ?_
                refine wp_region_held_drew (S := (fun z => twoFA f p g (o + j * 3) g2 (o2 + k) z ∧ True)) (by kernel_rfl) kp (fun hHeld => ?_)
                refine tkZ 0 ⟨some 44, .move (.tmp 0), 37, "ref.go:166", #[], none⟩ ?_
                refine tkZ 1 ⟨some 45, .move (.tmp 11), 3, "ref.go:166", #[], none⟩ ?_
                refine tkZ 2 ⟨some 46, .indexAddr 37 (.tmp 44) (.tmp 45), 0, "ref.go:166", #[⟨0, .data⟩, ⟨1, .data⟩], none⟩ ?_
                refine tkZ 3 ⟨some 47, .fieldAddr 69 (.tmp 46) 0, 0, "ref.go:166", #[⟨2, .data⟩], none⟩ ?_
                refine tkZ 4 ⟨some 48, .load 9 (.tmp 47), 9, "ref.go:166", #[⟨3, .data⟩], none⟩ ?_ (by intro w hSw; (try dsimp only at hSw); have c1 := hSw.1.1.1; go_simp; (try with_reducible rfl))
                refine tkZ 5 ⟨some 49, .move (.tmp 1), 26, "ref.go:166", #[], none⟩ ?_
                refine tkZ 6 ⟨some 50, .move (.tmp 9), 3, "ref.go:166", #[], none⟩ ?_
                refine tkZ 7 ⟨some 51, .indexAddr 26 (.tmp 49) (.tmp 50), 0, "ref.go:166", #[⟨5, .data⟩, ⟨6, .data⟩], none⟩ ?_
                refine tkZ 8 ⟨some 52, .load 9 (.tmp 51), 9, "ref.go:166", #[⟨7, .data⟩], none⟩ ?_ (by intro w hSw; (try dsimp only at hSw); have c1 := hSw.1.2; go_simp; (try with_reducible rfl))
                refine tkZ 9 ⟨some 53, .binOp .neq 9 (.tmp 48) (.tmp 52) 9, 4, "ref.go:166", #[⟨4, .data⟩, ⟨8, .data⟩], none⟩ ?_
                refine wpAnyH_done (by kernel_rfl) ?_ _
                refine NoPanic.normal ?_
                go_wp2_with fail
                go_roundw
                case rel => exact ⟨j + 1, c', a', rfl, rfl, by rw [HTK2.out], by go_num, by omega, hp0, hp1, hq0, by omega, by rw [HTK2.out]; exact HSK.out, HB3.out.drew⟩
                case measure => simp [intOf]; omega
            · obtain rfl : j = files.length := by omega
              have hsk2 := HSK.out
              rw [List.take_length] at hsk2
              have HFD := hide (show decide (at47 (files.take files.length) p ≠ []) = decide (at47 files p ≠ []) by rw [List.take_length])
              by_cases hn0 : at47 files p = []
              · have HZ2 := hide (show costT files acc = (0, 6) by rw [HZ.out, ← HCL.out, HST.out, if_pos hn0])
                have hbf := HB.out.trans (HB3.out.mono (by omega))
                have hfd : decide (at47 (files.take files.length) p ≠ []) = false := by rw [HFD.out]; simp [hn0]
                rw [hfd]
                clear hn0 hfd hsk2 HST
                go_wp2_with fail
                go_ret2
                exact ⟨ret_w HZ2.out, hbf⟩
              · have HSK2 := hide (show costL files (acc.drop (k + 1)) (c', a') = costL files acc (0, 0) by rw [← HCL.out, HST.out, if_neg hn0, hsk2])
                have hfd : decide (at47 (files.take files.length) p ≠ []) = true := by rw [HFD.out]; simp [hn0]
                rw [hfd]
                clear hn0 hfd hsk2 HST
                go_wp2_with fail
                go_roundw
                case rel => exact ⟨k + 1, c', a', rfl, rfl, by go_num, by omega, hp0, hp1, hq0, by omega, HSK2.out, HB3.out⟩
                case measure => simp [intOf]; omega
        · obtain rfl : k = acc.length := by omega
          have HZ2 := hide (show costT files acc = (c, 0) by rw [HZ.out, ← HCL.out, List.drop_length, costL])
          have hbf := HB.out.trans (HB2.out.mono (by omega))
          go_wp2_with fail
          go_ret2
          exact ⟨ret_w HZ2.out, hbf⟩
theorem ret_bs {a : Value} {b : Int} {x : List ByteArray × Int} {l : List ByteArray} (h : x = (l, b)) : Ending.returned (.tuple #[a, .int .i64 b]) = .returned (.tuple #[a, .int .i64 x.2]) := by rw [h]
theorem SlR.nil0 (w : World) (B : Nat) : SlR w B (.slice none 0 0) [] := ⟨none, 0, rfl, fun h => absurd h (by simp)⟩
theorem own_newsG {w : World} {B n c : Nat} {T : TypeId} {A : Option Addr} {xs : List Value} (h : w.ownsRow B T 1 (.slice A n c) n xs) : 0 < n → ∃ g, A = some ⟨g, 0, none⟩ ∧ g < w.heap.size ∧ ∀ (j : Nat) (u : Value), xs[j]? = some u → w.cell? ⟨g, j, none⟩ = some u := fun hn => by
  rcases h.2 with ⟨e, h0⟩ | ⟨g, cap, cur, e, -, hcur, -, -, -, htk⟩
  · omega
  · injection e with e1 e2 e3
    refine ⟨g, e1, (Array.getElem?_eq_some_iff.1 hcur).1, fun j u hu => ?_⟩
    rw [← htk, List.getElem?_take, Array.getElem?_toList] at hu
    split at hu
    · exact (Blk.cells (show Blk w g cur T from hcur) j).trans hu
    · cases hu
set_option maxRecDepth 100000 in
set_option maxHeartbeats 8000000 in
theorem rbest_any (t : Tr) (acc : List ByteArray) (hsz : t.sz ≤ 100000) (hct : t.count ≤ 40) (hac : acc.length ≤ 70) (v va : Value) (w : World) (hv : TreeR w w.heap.size v t) (ha : SlR w w.heap.size va acc) :
    Calls Tryz.prog 30 #[v, va] w fun e w' => ∃ r, e = .returned (.tuple #[r, .int .i64 (bestT t acc).2]) ∧ SlR w' w'.heap.size r (bestT t acc).1 ∧ Below w.heap.size w w' := by
  have VN := hide (fun W hW => rvalid_any t (Or.inl (show t.sz ≤ 120000 by omega)) v W hW)
  have FN := hide (fun W hW => rfiles_any t (by omega) v W hW)
  have hfl : (filesT t).length ≤ 40 := by have h1 := files_len t; omega
  obtain ⟨cn, rfl, hzc⟩ := Nd.cells hv
  have HV := hide hv
  have HA := hide ha
  obtain ⟨aA, cA, rfl, -⟩ := ha
  clear hv
  have HL : Live w [] := trivial
  go_enter Tryz.func30, Tryz.ntmps30
  go_upto_region 1 with fail
  have HN1 := hide (Nd.new HV.out hzc)
  have hbel1 : Below w.heap.size w (w.alloc (.cells cn 25)) := (Below.refl _ _).alloc (Nat.le_refl _) _
  generalize w.alloc (.cells cn 25) = W1 at *
  obtain ⟨b, hb⟩ : ∃ b, b = w.heap.size := ⟨_, rfl⟩
  rw [← hb] at HN1 ⊢
  clear hb HV hzc
  have HA1 := hide (HA.out.later2 hbel1)
  have VA := hide (VN.out _ HN1.out.2.1)
  clear VN HA
  cases hvd : validB t with
  | false =>
    have HZ := hide (bestT_no (acc := acc) hvd)
    rw [hvd] at VA
    clear hvd
    go_wp2_with (first | ((with_reducible show wpList _ _ _ (Oper.mk (some 18) _ _ _ _ _ :: _) _ _); refine wpList_load_row rfl 25 (.tmp 2) rfl b rfl 25 cn (0, 0) _ HN1.out.1 Tryz.underlying25 rfl (infN HN1.out.2.2) ?_) | (go_at_call 31; refine VA.out.mono ?_; rintro e w3 ⟨rfl, hb3⟩))
    go_ret2
    exact ⟨_, ret_bs HZ.out, by rw [HZ.out]; exact SlR.nil0 _ _, hbel1.trans (hb3.mono hbel1.size)⟩
  | true =>
  rw [hvd] at VA
  have FA := hide (fun W (hW : Below W1.heap.size W1 W) => FN.out W (HN1.out.2.1.later hW))
  go_upto_region 4 with (first | ((with_reducible show wpList _ _ _ (Oper.mk (some 18) _ _ _ _ _ :: _) _ _); refine wpList_load_row rfl 25 (.tmp 2) rfl b rfl 25 cn (0, 0) _ HN1.out.1 Tryz.underlying25 rfl (infN HN1.out.2.2) ?_) | (go_at_call 31; refine VA.out.mono ?_; rintro e w3 ⟨rfl, hb3⟩; have HB3 := hide hb3; have HN3 := hide (HN1.out.below hb3)) | ((with_reducible show wpList _ _ _ (Oper.mk (some 21) _ _ _ _ _ :: _) _ _); refine wpList_load_row rfl 25 (.tmp 2) rfl b rfl 25 cn (0, 0) _ HN3.out.1 Tryz.underlying25 rfl (infN HN3.out.2.2) ?_) | (go_at_call 17; refine (FA.out w3 HB3.out).mono ?_; rintro e w4 ⟨r4, rfl, hr4, hb4⟩))
  have hb14 := HB3.out.trans (hb4.mono HB3.out.size)
  have HN4 := hide (HN1.out.below hb14)
  have HA4 := hide (HA1.out.later2 hb14)
  have HF4 := hide (SlR.of hr4)
  have hbel4 := hbel1.trans (hb14.mono hbel1.size)
  obtain ⟨A4, c4, e4⟩ := own_slice hr4
  subst e4
  have HCP := hide (show CapS (.slice A4 (filesT t).length c4) (filesT t) from ⟨A4, c4, rfl, own_cap hr4 A4 c4 rfl⟩)
  have HFS := hide (fun p (hp : p ∈ filesT t) => Nat.le_trans (files_mem hp).2.1 (show t.sz ≤ 2000000 by omega))
  clear VA FA FN HN1 HN3 HA1 HB3 hb3 hb4 hr4 hb14 hbel1
  by_cases hbig : 6 < (filesT t).length ∨ 64 < acc.length
  · have HZ := hide (bestT_big hvd hbig)
    clear hvd
    by_cases h6 : 6 < (filesT t).length
    · clear hbig
      go_wp2_with fail
      go_ret2
      exact ⟨_, ret_bs HZ.out, by rw [HZ.out]; exact SlR.nil0 _ _, hbel4⟩
    · have h64 : 64 < acc.length := hbig.elim (fun h => absurd h h6) id
      clear hbig
      go_wp2_with fail
      go_ret2
      exact ⟨_, ret_bs HZ.out, by rw [HZ.out]; exact SlR.nil0 _ _, hbel4⟩
  have HBG := hide hbig
  have h6 : ¬ 6 < (filesT t).length := fun h => hbig (Or.inl h)
  have h64 : ¬ 64 < acc.length := fun h => hbig (Or.inr h)
  have HVD := hide hvd
  clear hbig hvd
  obtain ⟨A', c', ev, hps⟩ := HA4.out
  injection ev with ev1 ev2 ev3
  subst ev1; subst ev3
  have HRA := hide hps
  have HH := hide (fun p => has_any (filesT t) p (.slice A4 (filesT t).length c4) w4.heap.size (by omega) w4 HF4.out)
  clear hps ev2
  go_wp2_with fail
  go_loopw [7] (fun iv wr => ∃ k : Nat, iv = .int .i64 (k : Int) ∧ k ≤ acc.length ∧ (acc.take k).all (hasS (filesT t)) = true ∧ wr = w4) (fun iv _ => acc.length - (intOf iv).toNat)
  case atStart => exact ⟨0, rfl, Nat.zero_le _, rfl, rfl⟩
  case round =>
    obtain ⟨k, rfl, hk, hall, hwr⟩ := hrel
    subst hwr
    have HAL := hide hall
    clear hall
    by_cases hlt : k < acc.length
    · obtain ⟨p, hp⟩ : ∃ p, acc[k]? = some p := ⟨_, List.getElem?_eq_getElem hlt⟩
      obtain ⟨g, o, rfl, hg, hcl⟩ := HRA.out (by omega)
      have c0 := hcl k p hp
      have HP := hide (HH.out p)
      have HPK := hide hp
      clear hcl hp
      cases hh : hasS (filesT t) p with
      | false =>
        rw [hh] at HP
        have HZ := hide (bestT_nf HVD.out HBG.out (show acc.all (hasS (filesT t)) = false by rw [List.all_eq_false]; exact ⟨p, List.mem_of_getElem? HPK.out, by rw [hh]; decide⟩))
        clear hh
        go_wp2_with (go_at_call 55; refine HP.out.mono ?_; rintro e w5 ⟨rfl, rfl⟩)
        go_ret2
        exact ⟨_, ret_bs HZ.out, by rw [HZ.out]; exact SlR.nil0 _ _, hbel4⟩
      | true =>
        rw [hh] at HP
        have HNX := hide (show (acc.take (k + 1)).all (hasS (filesT t)) = true by rw [List.take_add_one, HPK.out, List.all_append, HAL.out]; simp [hh])
        clear hh
        go_wp2_with (go_at_call 55; refine HP.out.mono ?_; rintro e w5 ⟨rfl, rfl⟩)
        go_roundw
        case rel => exact ⟨k + 1, by go_num, by omega, HNX.out, (by first | trivial | rfl)⟩
        case measure => simp [intOf]; omega
    · obtain rfl : k = acc.length := by omega
      have hall := HAL.out
      rw [List.take_length] at hall
      have hpl : ∀ o : List ByteArray, o.Perm (filesT t) → placeT t o 0 = (extsL t o 0, 0) := fun o ho => gaps_place HVD.out (fun p => lenP_le hsz (by omega) p) hfl ho (Int.le_refl _) (by decide)
      have HZ := hide (bestT_few HVD.out HBG.out hall (fun o ho => by rw [hpl o ho]))
      have HPL := hide hpl
      have RP := hide (rPlace_any t (filesT t) 0 (by omega) (by omega) HFS.out (by decide) (.agg cn) (.slice A4 (filesT t).length c4) wr HN4.out.2.1 HF4.out HCP.out)
      rw [hpl _ (List.Perm.refl _)] at RP
      clear HAL hall HRA HH hpl HCP
      have hno : ¬ ((acc.length : Int) < (acc.length : Int)) := by omega
      go_upto_region 14 with (first | ((with_reducible show wpList _ _ _ (Oper.mk (some 45) _ _ _ _ _ :: _) _ _); refine wpList_load_row rfl 25 (.tmp 2) rfl b rfl 25 cn (0, 0) _ HN4.out.1 Tryz.underlying25 rfl (infN HN4.out.2.2) ?_) | (go_at_call 23; refine RP.out.mono ?_; rintro e w5 ⟨r5, rfl, hr5, hb5⟩))
      have HN5 := hide (HN4.out.below hb5)
      have HA5 := hide (HA4.out.later2 hb5)
      have HF5 := hide (HF4.out.later2 hb5)
      have hbel5 := hbel4.trans (hb5.mono hbel4.size)
      clear RP HN4 HA4 HF4 hr5 hb5 hbel4
      rcases Nat.eq_zero_or_pos (filesT t).length with h0 | h0
      · have e0 : filesT t = [] := List.length_eq_zero_iff.1 h0
        have HZ2 := hide (show bestT t acc = ([], 0) by rw [HZ.out, e0]; rfl)
        have h00 : (((filesT t).length : Int) == 0) = true := by rw [h0]; rfl
        clear e0 h0
        go_wp2_with fail
        go_ret2
        exact ⟨_, ret_bs HZ2.out, by rw [HZ2.out]; exact SlR.nil0 _ _, hbel5⟩
      · have h00 : (((filesT t).length : Int) == 0) = false := by rw [beq_eq_false_iff_ne]; omega
        have RO := hide (rorders_any (filesT t) h0 (by omega) (filesT t).length [] (.slice A4 (filesT t).length c4) (.slice none 0 0) w5 (by simp) HF5.out (World.ownsRow_nil _ _ _ _))
        have HPM := hide (fun o (ho : o ∈ ordersS (filesT t) (filesT t).length []) => ordersS_perm (files_nodup t) ho)
        have hlen0 : 0 < (ordersS (filesT t) (filesT t).length []).length := by
          obtain ⟨l, hl, -⟩ := orders_has (List.Perm.refl (filesT t)) (files_nodup t)
          rw [ordersS_top (files_nodup t), List.length_map]
          exact List.length_pos_of_mem hl
        have hlen1 : (ordersS (filesT t) (filesT t).length []).length ≤ 46656 := Nat.le_trans (ordersS_len (filesT t) h0 _ _) (Nat.le_trans (Nat.pow_le_pow_left (by omega) _) (Nat.pow_le_pow_right (show 0 < 6 by decide) (show (filesT t).length ≤ 6 by omega)))
        generalize ordersS (filesT t) (filesT t).length [] = LL at *
        go_wp2_with (go_at_call 63; refine RO.out.mono ?_; rintro e w6 ⟨r6, rfl, hr6, hb6⟩; have HR6 := hide hr6; have HB6 := hide hb6; obtain ⟨A6, c6, e6⟩ := RowSS.slice hr6; subst e6; clear hr6 hb6)
        have HN6 := hide (HN5.out.below HB6.out)
        have HA6 := hide (HA5.out.later2 HB6.out)
        have hbel6 := hbel5.trans (HB6.out.mono hbel5.size)
        obtain ⟨vs, hv1, hv2⟩ := HR6.out
        have hvl : vs.length = LL.length := by have := hv1.1; omega
        have HNW := hide (own_newsG hv1)
        have HV2 := hide hv2
        clear RO HN5 HA5 HF5 HB6 HR6 hv1 hv2
        go_loopw [11, 12, 13] (fun ov mv iv wr => ∃ (i : Nat) (o : List ByteArray) (m : Int), iv = .int .i64 (i : Int) ∧ mv = .int .i64 m ∧ i ≤ LL.length ∧ SlR wr wr.heap.size ov o ∧ StF (costO t acc) LL [] i o m ∧ Below w6.heap.size w6 wr) (fun _ _ iv _ => LL.length - (intOf iv).toNat)
        case atStart => exact ⟨0, [], 0, rfl, rfl, Nat.zero_le _, SlR.nil0 _ _, Or.inl ⟨rfl, rfl, rfl⟩, Below.refl _ _⟩
        case round =>
          obtain ⟨i, o, m, rfl, rfl, hi, hov, hst, hbr⟩ := hrel
          have HOV := hide hov
          have HST := hide hst
          have HBr := hide hbr
          have hszr := hbr.size
          clear hst
          by_cases hil : i < LL.length
          · obtain ⟨x, hx⟩ : ∃ x, LL[i]? = some x := ⟨_, List.getElem?_eq_getElem hil⟩
            obtain ⟨xv, hxv⟩ : ∃ xv, vs[i]? = some xv := ⟨_, List.getElem?_eq_getElem (by omega)⟩
            have hxr := SlR.of (HV2.out i xv x hxv hx)
            obtain ⟨AX, cX, rfl, -⟩ := hxr
            have HXR := hide ((SlR.of (HV2.out i _ x hxv hx)).later2 hbr)
            obtain ⟨g6, had, hg6, hcd⟩ := HNW.out (by omega)
            subst had
            have cx : wr.cell? ⟨g6, i, none⟩ = some (.slice AX x.length cX) := (hbr.cell (p := ⟨g6, i, none⟩) hg6).trans (hcd i _ hxv)
            have hgr : g6 < wr.heap.size := Nat.lt_of_lt_of_le hg6 hszr
            have HCX := hide cx
            have HNr := hide (HN6.out.below hbr)
            have hpx := HPM.out x (List.mem_of_getElem? hx)
            have HXS := hide (fun p (hp : p ∈ x) => HFS.out p (hpx.mem_iff.1 hp))
            have hxl : x.length ≤ 6 := by rw [hpx.length_eq]; omega
            have hpl := HPL.out x hpx
            have HEX := hide (show (∀ f ∈ extsL t x 0, extOK f) ∧ (extsL t x 0).length ≤ x.length by have h1 := placeT_ok (t := t) (by omega) (s := 0) HXS.out; rw [hpl] at h1; exact h1)
            have hpr : placeR t x 0 = (extsL t x 0, 0) := by rw [← placeT_R HVD.out (Int.le_refl _) ((sameB_iff (files_nodup t)).2 hpx), hpl]
            have RPL := hide (show ∀ W, Below wr.heap.size wr W → Calls Tryz.prog 58 #[.agg cn, .slice AX x.length cX, .int .i64 0] W fun e w' => ∃ A c, e = .returned (.tuple #[.slice A (extsL t x 0).length c, .int .i64 0]) ∧ SlF w' w'.heap.size (.slice A (extsL t x 0).length c) (extsL t x 0) ∧ Below W.heap.size W w' from fun W hW =>
              (rplace_any t HVD.out x 0 (by omega) (by omega) HXS.out ⟨Int.le_refl _, by decide⟩ (.agg cn) (.slice AX x.length cX) W (HNr.out.2.1.later hW) (HXR.out.later2 hW)).mono fun e w' ⟨r, h1, h2, h3⟩ => by
                rw [hpr] at h1 h2
                obtain ⟨A, c, e1⟩ := own_slice h2
                subst e1
                exact ⟨A, c, h1, SlF.of (own_base h2 (Nat.le_refl _)), h3⟩)
            have HCC := hide (show costO t acc x = (costT (extsL t x 0) acc).1 by unfold costO; rw [hpl])
            have HLX := hide hx
            have hk0 : Below wr.heap.size wr wr ∧ True := ⟨Below.refl _ _, trivial⟩
            have hk0d : Below wr.heap.size wr wr.drew ∧ True := ⟨(Below.refl wr.heap.size wr).drew, trivial⟩
            clear hpx hpl hpr hx hxv hcd cx hbr
            generalize extsL t x 0 = ex at *
            go_upto_region 22 with fail
            refine wp_region_noPanic ?_
            refine wp_region_held_drew (S := (fun z => Below wr.heap.size wr z ∧ True)) (by kernel_rfl) kp (fun hHeld => ?_)
            refine tkZ 0 ⟨some 65, .load 25 (.tmp 2), 25, "ref.go:220", #[], none⟩ ?_ (by intro w hSw; (try dsimp only at hSw); refine (exec_load_row 25 (.tmp 2) (by rfl) b (by rfl) 25 cn (0, 0) _ (Blk.below hSw.1 HNr.out.1) Tryz.underlying25 (by rfl) (infN HNr.out.2.2)).trans ?_; with_reducible rfl)
            refine tkZ 1 ⟨some 66, .move (.tmp 10), 63, "ref.go:220", #[], none⟩ ?_
            refine tkZ 2 ⟨some 67, .move (.tmp 13), 3, "ref.go:220", #[], none⟩ ?_
            refine tkZ 3 ⟨some 68, .indexAddr 63 (.tmp 66) (.tmp 67), 0, "ref.go:220", #[⟨1, .data⟩, ⟨2, .data⟩], none⟩ ?_
            refine tkZ 4 ⟨some 69, .load 26 (.tmp 68), 26, "ref.go:220", #[⟨3, .data⟩], none⟩ ?_ (by intro w hSw; (try dsimp only at hSw); have c1 := (hSw.1.cell (p := ⟨g6, i, none⟩) hgr).trans HCX.out; go_simp; (try with_reducible rfl))
            refine rqS [5] (rqC ⟨some 70, .call ⟨.value (.func 58), #[.tmp 65, .tmp 69, .const (.int .i64 0)], #[25, 26, 3]⟩, 38, "ref.go:220", #[⟨0, .data⟩, ⟨4, .data⟩], none⟩ (fun K hK => ?_) rq0)
            go_simp
            (go_at_call 58; (with_reducible refine (RPL.out _ hHeld.1).mono ?_); rintro e w8 ⟨A8, c8, rfl, hf8, hb8⟩; have HF8 := hide hf8; have hk8 : Below wr.heap.size wr w8 ∧ True := ⟨hHeld.1.trans (hb8.mono hHeld.1.size), trivial⟩)
            go_wp2_with fail
            refine hK.out _ _ kp (fun hHeld => ?_)
            clear hK K
            try simp only [PT]
            refine tkZ 6 ⟨some 64, .move (.tmp 70), 38, "ref.go:220", #[⟨5, .data⟩], none⟩ ?_
            refine tkZ 7 ⟨some 71, .extract (.tmp 64) 0, 37, "ref.go:220", #[⟨6, .data⟩], none⟩ ?_
            refine tkZ 8 ⟨some 72, .extract (.tmp 64) 1, 29, "ref.go:220", #[⟨6, .data⟩, ⟨9, .gcOnly .lateStores⟩], none⟩ ?_
            refine tkZ 9 ⟨some 14, .assign (.tmp 71), 37, "ref.go:220", #[⟨7, .data⟩, ⟨5, .chain⟩, ⟨0, .phase⟩, ⟨1, .phase⟩, ⟨2, .phase⟩, ⟨3, .phase⟩, ⟨4, .phase⟩, ⟨5, .phase⟩, ⟨6, .phase⟩, ⟨7, .phase⟩, ⟨8, .textOnly .lateStores⟩], none⟩ ?_
            refine tkZ 10 ⟨some 15, .assign (.tmp 72), 29, "ref.go:220", #[⟨8, .data⟩, ⟨9, .chain⟩, ⟨0, .phase⟩, ⟨1, .phase⟩, ⟨2, .phase⟩, ⟨3, .phase⟩, ⟨4, .phase⟩, ⟨5, .phase⟩, ⟨6, .phase⟩, ⟨7, .phase⟩, ⟨8, .phase⟩, ⟨9, .phase⟩], none⟩ ?_
            refine wpAnyH_done (by kernel_rfl) ?_ _
            refine NoPanic.normal ?_
            have HEL := HEX.out.2
            have CO := hide (rcost_any ex acc HEX.out.1 (by omega) (by omega) (.slice A8 ex.length c8) (.slice aA acc.length cA) w8 HF8.out ((HA6.out.later2 HBr.out).later2 hk8.1))
            have hb8 := HBr.out.trans (hk8.1.mono hszr)
            have HX8 := hide (HXR.out.later2 hk8.1)
            have HO8 := hide (HOV.out.later2 hk8.1)
            have c8x : w8.cell? ⟨g6, i, none⟩ = some (.slice AX x.length cX) := (hk8.1.cell (p := ⟨g6, i, none⟩) hgr).trans HCX.out
            clear RPL hk0 hk0d HCX HXR HNr HF8 hov
            rw [← HCC.out] at CO
            have hgw8 : g6 < w8.heap.size := Nat.lt_of_lt_of_le hgr hk8.1.size
            have hnn : ∀ y, 0 ≤ costO t acc y := fun y => costT_nn _ _
            rcases Nat.eq_zero_or_pos i with hi0 | hi0
            · have HS2 := hide (stF_new hnn HST.out HLX.out (Or.inl hi0))
              have hie : ((i : Int) == 0) = true := by rw [hi0]; rfl
              clear hi0 hnn
              go_wp2_with (go_at_call 28; refine CO.out.mono ?_; rintro e w9 ⟨rfl, hb9⟩; have c9x := (hb9.cell (p := ⟨g6, i, none⟩) hgw8).trans c8x)
              go_roundw
              case rel => exact ⟨i + 1, x, _, by go_num, rfl, by omega, HX8.out.later2 hb9, HS2.out, hb8.trans (hb9.mono hb8.size)⟩
              case measure => simp [intOf]; omega
            · have hie : ((i : Int) == 0) = false := by rw [beq_eq_false_iff_ne]; omega
              by_cases hm : costO t acc x < m
              · have HS2 := hide (stF_new hnn HST.out HLX.out (Or.inr hm))
                clear hnn
                go_wp2_with (go_at_call 28; refine CO.out.mono ?_; rintro e w9 ⟨rfl, hb9⟩; have c9x := (hb9.cell (p := ⟨g6, i, none⟩) hgw8).trans c8x)
                go_roundw
                case rel => exact ⟨i + 1, x, _, by go_num, rfl, by omega, HX8.out.later2 hb9, HS2.out, hb8.trans (hb9.mono hb8.size)⟩
                case measure => simp [intOf]; omega
              · have HS2 := hide (stF_old HST.out HLX.out (fun h => h.elim (fun h => by omega) hm))
                clear hnn
                go_wp2_with (go_at_call 28; refine CO.out.mono ?_; rintro e w9 ⟨rfl, hb9⟩; have c9x := (hb9.cell (p := ⟨g6, i, none⟩) hgw8).trans c8x)
                go_roundw
                case rel => exact ⟨i + 1, o, m, by go_num, rfl, by omega, HO8.out.later2 hb9, HS2.out, hb8.trans (hb9.mono hb8.size)⟩
                case measure => simp [intOf]; omega
          · obtain rfl : i = LL.length := by omega
            have HZ3 := hide (show bestT t acc = (o, 0) by rw [HZ.out, stF_end HST.out hlen0])
            clear hov
            go_wp2_with fail
            go_ret2
            exact ⟨_, ret_bs HZ3.out, by rw [HZ3.out]; exact HOV.out, hbel6.trans (HBr.out.mono hbel6.size)⟩
end Go.Proofs.YtocgindpjjolpaaGreatDoor
