/- Contracts and plain words for the laws of this chapter, part 21: Fw9. No condition. -/
import Derived.Test.YtocgindpjjolpaaGreatDoorG20
namespace Go.Proofs.YtocgindpjjolpaaGreatDoor
set_option linter.unusedSimpArgs false
set_option linter.unusedVariables false
open Go.RowKit Go.Sort
def extOK (f : Ext) : Prop := (-9223372036854775808 ≤ f.start ∧ f.start ≤ 9223372036854775807) ∧ (-9223372036854775808 ≤ f.len ∧ f.len ≤ 9223372036854775807) ∧ f.path.size ≤ 2000000
theorem all_snoc {fs : List Ext} {k : Nat} {f : Ext} (h : fs[k]? = some f) : fs.take (k + 1) = fs.take k ++ [f] := by rw [List.take_add_one, h]; rfl
theorem seek_step {l : List Ext} {k : Nat} {f : Ext} (h : l[k]? = some f) (s : Int × Int) : (l.take (k + 1)).foldl seek s = seek ((l.take k).foldl seek s) f := by rw [all_snoc h, List.foldl_append]; rfl
theorem extB_all {fs : List Ext} {f : Ext} (h : fs.all extB = true) (hf : f ∈ fs) : 0 ≤ f.start ∧ 0 ≤ f.len ∧ f.start ≤ 4096 ∧ blocksI f.len ≤ 4096 - f.start := of_decide_eq_true (List.all_eq_true.1 h f hf)
theorem at47_mem {fs : List Ext} {f : Ext} {p : ByteArray} (h : f ∈ at47 fs p) : f ∈ fs := (List.mem_filter.1 h).1
theorem at47_len (fs : List Ext) (p : ByteArray) : (at47 fs p).length ≤ fs.length := List.length_filter_le _ _
theorem costL_step {fs : List Ext} {l : List ByteArray} {k : Nat} {p : ByteArray} (h : l[k]? = some p) (s : Int × Int) : costL fs (l.drop k) s = if at47 fs p = [] then none else costL fs (l.drop (k + 1)) ((at47 fs p).foldl seek s) := by
  obtain ⟨hk, e⟩ := List.getElem?_eq_some_iff.1 h
  rw [List.drop_eq_getElem_cons hk, e, costL]
set_option maxRecDepth 100000 in
set_option maxHeartbeats 8000000 in
theorem cost_any (files : List Ext) (acc : List ByteArray) (hfo : ∀ f ∈ files, extOK f) (hao : ∀ p ∈ acc, p.size ≤ 2000000) (hfl : files.length ≤ 100000000) (hal : acc.length ≤ 100000000) (vf va : Value) (w : World) (hf : SlF w w.heap.size vf files) (ha : SlR w w.heap.size va acc) :
    Calls Tryz.prog 27 #[vf, va] w fun e w' => e = .returned (.tuple #[.int .i64 (costT files acc).1, .int .i64 (costT files acc).2]) ∧ Below w.heap.size w w' := by
  have HFO := hide hfo
  have HAO := hide hao
  obtain ⟨aF, cF, rfl, hF⟩ := hf
  obtain ⟨aA, cA, rfl, hA⟩ := ha
  have HF := hide hF
  have HA := hide hA
  clear hF hA hfo hao
  have hmm := @run_makeMap Tryz.prog
  by_cases hbig : 1024 < files.length ∨ 1024 < acc.length
  · have HZ := hide (costT_big hbig)
    by_cases hb1 : 1024 < files.length
    · have hb2 : (1024 : Int) < (files.length : Int) := by omega
      clear hbig
      have HL : Live w [] := trivial
      go_enter Tryz.func27, Tryz.ntmps27
      go_wp2_with fail
      go_ret2
      exact ⟨ret_w HZ.out, Below.refl _ _⟩
    · have hb2 : ¬ ((1024 : Int) < (files.length : Int)) := by omega
      have hb3 : (1024 : Int) < (acc.length : Int) := by omega
      clear hbig
      have HL : Live w [] := trivial
      go_enter Tryz.func27, Tryz.ntmps27
      go_wp2_with fail
      go_ret2
      exact ⟨ret_w HZ.out, Below.refl _ _⟩
  have hb2 : ¬ ((1024 : Int) < (files.length : Int)) := by omega
  have hb3 : ¬ ((1024 : Int) < (acc.length : Int)) := by omega
  have hfl2 : files.length ≤ 1024 := by omega
  have hal2 : acc.length ≤ 1024 := by omega
  have HBAD := hide (fun h => costT_bad (fs := files) (acc := acc) hbig h)
  have HGO := hide (fun h => costT_go (fs := files) (acc := acc) hbig h)
  clear hbig hfl hal
  have HL : Live w [] := trivial
  go_enter Tryz.func27, Tryz.ntmps27
  go_upto_region 4 with fail
  have HE1 := hide (EMap.made w)
  have hbel1 : Below w.heap.size w (w.alloc (.map #[] 0)) := (Below.refl _ _).alloc (Nat.le_refl _) _
  generalize w.alloc (.map #[] 0) = W1 at *
  obtain ⟨mb, hmb⟩ : ∃ mb, w.heap.size = mb := ⟨_, rfl⟩
  rw [hmb] at HE1 hbel1 ⊢
  go_wp2_with fail
  go_loopw [26] (fun i wr => ∃ (k : Nat) (M : ByteArray → Value), i = .int .i64 (k : Int) ∧ k ≤ files.length ∧ EMap mb k M (files.take k) wr ∧ (files.take k).all extB = true ∧ Below mb w wr) (fun i _ => files.length - (intOf i).toNat)
  case atStart => exact ⟨0, fun _ => .slice none 0 0, rfl, Nat.zero_le _, HE1.out, rfl, hbel1⟩
  case round =>
    clear HE1 hbel1
    obtain ⟨k, M, rfl, hk, hem, hall, hbelr⟩ := hrel
    have HE := hide hem
    have HALL := hide hall
    have HB := hide hbelr
    have hszr := hbelr.size
    clear hem hall hbelr
    by_cases hlt : k < files.length
    · obtain ⟨f, hp⟩ : ∃ f, files[k]? = some f := ⟨files[k], List.getElem?_eq_getElem hlt⟩
      obtain ⟨g, o, rfl, hg, hcl⟩ := HF.out (by omega)
      have R1 := hide (show wr.rangeAt g (o + k * 3) (extA f).toList from range_below HB.out (by omega) (hcl k f hp))
      have hmem := List.mem_of_getElem? hp
      obtain ⟨hs1, hs2, hs3⟩ := HFO.out f hmem
      have HMEM := hide hmem
      have HTK := hide (all_snoc hp)
      clear hcl hp hmem
      go_upto_region 7 with (first | ((with_reducible show wpList _ _ _ (Oper.mk (some 29) _ _ _ _ _ :: _) _ _); refine wpList_load_midA rfl 69 (.tmp 28) rfl g (o + k * 3) rfl (extA f) _ R1.out Tryz.underlying69 rfl (by rw [Array.length_toList]; exact infF rfl) ?_) | ((with_reducible show wpList _ _ _ (Oper.mk none _ _ _ _ _ :: _) _ _); refine wpList_store_new rfl 69 (.tmp 8) (.tmp 29) rfl (extA f) rfl rfl 69 _ (infF rfl) rfl (by kernel_rfl) ?_))
      have HFB := hide (show Blk (wr.alloc (.cells (extA f) 69)) wr.heap.size (extA f) 69 from Blk.newAt rfl)
      have hb5 : Below wr.heap.size wr (wr.alloc (.cells (extA f) 69)) := (Below.refl _ _).alloc (Nat.le_refl _) _
      have HE5 := hide (HE.out.below hb5)
      have hbel5 : Below mb w (wr.alloc (.cells (extA f) 69)) := HB.out.trans (hb5.mono (by omega))
      have hfbm : mb < wr.heap.size := HE.out.1.lt
      have hfo : ∀ j, (M f.path).ownBlock = some j → j < wr.heap.size := fun j hj => ((HE.out.2.1 f.path).lt j hj).2
      generalize wr.alloc (.cells (extA f) 69) = W5 at *
      obtain ⟨fb, hfb⟩ : ∃ fb, fb = wr.heap.size := ⟨_, rfl⟩
      have hfbm2 : mb < fb ∧ wr.heap.size ≤ fb := by omega
      rw [← hfb] at HFB ⊢
      clear hfb hfbm HE HB hb5
      have hk0 : Blk W5 fb (extA f) 69 ∧ True := ⟨HFB.out, trivial⟩
      have hk0d : Blk W5.drew fb (extA f) 69 ∧ True := ⟨HFB.out, trivial⟩
      by_cases c1 : f.start < 0
      · have HZ := hide (HBAD.out (fun h => by have := extB_all h HMEM.out; omega))
        refine wp_region_noPanic ?_
        refine wp_region_held_drew (S := (fun z => Blk z fb (extA f) 69 ∧ True)) (by kernel_rfl) kp (fun hHeld => ?_)
        refine tkZ 0 ⟨some 30, .fieldAddr 69 (.tmp 8) 1, 0, "fileorder.go:105", #[], none⟩ ?_
        refine tkZ 1 ⟨some 31, .load 3 (.tmp 30), 3, "fileorder.go:105", #[⟨0, .data⟩], none⟩ ?_ (by intro w hSw; (try dsimp only at hSw); have c1 := hSw.1.cells 1; go_simp; (try with_reducible rfl))
        refine tkZ 2 ⟨some 32, .binOp .lss 3 (.tmp 31) (.const (.int .i64 0)) 3, 4, "fileorder.go:105", #[⟨1, .data⟩], none⟩ ?_
        refine tkZ 3 ⟨some 33, .move (.tmp 32), 4, "fileorder.go:105", #[⟨2, .data⟩], none⟩ ?_
        refine tkM 4 ⟨some 34, .fieldAddr 69 (.tmp 8) 2, 0, "fileorder.go:105", #[⟨3, .guard⟩], some (3, false)⟩ ?_
        refine tkM 5 ⟨some 35, .load 3 (.tmp 34), 3, "fileorder.go:105", #[⟨4, .data⟩, ⟨3, .guard⟩], some (3, false)⟩ ?_
        refine tkM 6 ⟨some 36, .binOp .lss 3 (.tmp 35) (.const (.int .i64 0)) 3, 4, "fileorder.go:105", #[⟨5, .data⟩, ⟨3, .guard⟩], some (3, false)⟩ ?_
        refine tkZ 7 ⟨some 37, .pick (.tmp 33) (.const (.bool true)) (.tmp 36), 4, "fileorder.go:105", #[⟨3, .data⟩, ⟨6, .data⟩], none⟩ ?_
        refine tkZ 8 ⟨some 38, .move (.tmp 37), 4, "fileorder.go:105", #[⟨7, .data⟩, ⟨3, .chain⟩], none⟩ ?_
        refine tkM 9 ⟨some 39, .fieldAddr 69 (.tmp 8) 1, 0, "fileorder.go:105", #[⟨8, .guard⟩], some (8, false)⟩ ?_
        refine tkM 10 ⟨some 40, .load 3 (.tmp 39), 3, "fileorder.go:105", #[⟨9, .data⟩, ⟨8, .guard⟩], some (8, false)⟩ ?_
        refine tkM 11 ⟨some 41, .binOp .gtr 3 (.tmp 40) (.const (.int .i64 4096)) 3, 4, "fileorder.go:105", #[⟨10, .data⟩, ⟨8, .guard⟩], some (8, false)⟩ ?_
        refine tkZ 12 ⟨some 42, .pick (.tmp 38) (.const (.bool true)) (.tmp 41), 4, "fileorder.go:105", #[⟨8, .data⟩, ⟨11, .data⟩], none⟩ ?_
        refine tkZ 13 ⟨some 43, .move (.tmp 42), 4, "fileorder.go:105", #[⟨12, .data⟩, ⟨8, .chain⟩], none⟩ ?_
        refine tkM 14 ⟨some 44, .fieldAddr 69 (.tmp 8) 2, 0, "fileorder.go:105", #[⟨13, .guard⟩], some (13, false)⟩ ?_
        refine tkM 15 ⟨some 45, .load 3 (.tmp 44), 3, "fileorder.go:105", #[⟨14, .data⟩, ⟨13, .guard⟩], some (13, false)⟩ ?_
        refine tkM 16 ⟨some 46, .call ⟨.value (.func 24), #[.tmp 45], #[3]⟩, 3, "fileorder.go:105", #[⟨15, .data⟩, ⟨13, .chain⟩, ⟨13, .guard⟩], some (13, false)⟩ ?_
        refine tkM 17 ⟨some 47, .fieldAddr 69 (.tmp 8) 1, 0, "fileorder.go:105", #[⟨13, .guard⟩], some (13, false)⟩ ?_
        refine tkM 18 ⟨some 48, .load 3 (.tmp 47), 3, "fileorder.go:105", #[⟨17, .data⟩, ⟨13, .guard⟩], some (13, false)⟩ ?_
        refine tkM 19 ⟨some 49, .binOp .sub 3 (.const (.int .i64 4096)) (.tmp 48) 3, 3, "fileorder.go:105", #[⟨18, .data⟩, ⟨13, .guard⟩], some (13, false)⟩ ?_
        refine tkM 20 ⟨some 50, .binOp .gtr 3 (.tmp 46) (.tmp 49) 3, 4, "fileorder.go:105", #[⟨16, .data⟩, ⟨19, .data⟩, ⟨13, .guard⟩], some (13, false)⟩ ?_
        refine tkZ 21 ⟨some 51, .pick (.tmp 43) (.const (.bool true)) (.tmp 50), 4, "fileorder.go:105", #[⟨13, .data⟩, ⟨20, .data⟩], none⟩ ?_
        refine wpAnyH_done (by kernel_rfl) ?_ _
        refine NoPanic.normal ?_
        have hbel5 := hbel5.drew
        go_wp2_with fail
        go_ret2
        exact ⟨ret_w HZ.out, by first | exact hbel5 | (rw [hmb]; exact hbel5)⟩
      have n1 : decide (f.start < 0) = false := decide_eq_false c1
      by_cases c2 : f.len < 0
      · have HZ := hide (HBAD.out (fun h => by have := extB_all h HMEM.out; omega))
        refine wp_region_noPanic ?_
        refine wp_region_held_drew (S := (fun z => Blk z fb (extA f) 69 ∧ True)) (by kernel_rfl) kp (fun hHeld => ?_)
        refine tkZ 0 ⟨some 30, .fieldAddr 69 (.tmp 8) 1, 0, "fileorder.go:105", #[], none⟩ ?_
        refine tkZ 1 ⟨some 31, .load 3 (.tmp 30), 3, "fileorder.go:105", #[⟨0, .data⟩], none⟩ ?_ (by intro w hSw; (try dsimp only at hSw); have c1 := hSw.1.cells 1; go_simp; (try with_reducible rfl))
        refine tkZ 2 ⟨some 32, .binOp .lss 3 (.tmp 31) (.const (.int .i64 0)) 3, 4, "fileorder.go:105", #[⟨1, .data⟩], none⟩ ?_
        refine tkZ 3 ⟨some 33, .move (.tmp 32), 4, "fileorder.go:105", #[⟨2, .data⟩], none⟩ ?_
        refine tkZ 4 ⟨some 34, .fieldAddr 69 (.tmp 8) 2, 0, "fileorder.go:105", #[⟨3, .guard⟩], some (3, false)⟩ ?_
        refine tkZ 5 ⟨some 35, .load 3 (.tmp 34), 3, "fileorder.go:105", #[⟨4, .data⟩, ⟨3, .guard⟩], some (3, false)⟩ ?_ (by intro w hSw; (try dsimp only at hSw); have c1 := hSw.1.cells 2; go_simp; (try with_reducible rfl))
        refine tkZ 6 ⟨some 36, .binOp .lss 3 (.tmp 35) (.const (.int .i64 0)) 3, 4, "fileorder.go:105", #[⟨5, .data⟩, ⟨3, .guard⟩], some (3, false)⟩ ?_
        refine tkZ 7 ⟨some 37, .pick (.tmp 33) (.const (.bool true)) (.tmp 36), 4, "fileorder.go:105", #[⟨3, .data⟩, ⟨6, .data⟩], none⟩ ?_
        refine tkZ 8 ⟨some 38, .move (.tmp 37), 4, "fileorder.go:105", #[⟨7, .data⟩, ⟨3, .chain⟩], none⟩ ?_
        refine tkM 9 ⟨some 39, .fieldAddr 69 (.tmp 8) 1, 0, "fileorder.go:105", #[⟨8, .guard⟩], some (8, false)⟩ ?_
        refine tkM 10 ⟨some 40, .load 3 (.tmp 39), 3, "fileorder.go:105", #[⟨9, .data⟩, ⟨8, .guard⟩], some (8, false)⟩ ?_
        refine tkM 11 ⟨some 41, .binOp .gtr 3 (.tmp 40) (.const (.int .i64 4096)) 3, 4, "fileorder.go:105", #[⟨10, .data⟩, ⟨8, .guard⟩], some (8, false)⟩ ?_
        refine tkZ 12 ⟨some 42, .pick (.tmp 38) (.const (.bool true)) (.tmp 41), 4, "fileorder.go:105", #[⟨8, .data⟩, ⟨11, .data⟩], none⟩ ?_
        refine tkZ 13 ⟨some 43, .move (.tmp 42), 4, "fileorder.go:105", #[⟨12, .data⟩, ⟨8, .chain⟩], none⟩ ?_
        refine tkM 14 ⟨some 44, .fieldAddr 69 (.tmp 8) 2, 0, "fileorder.go:105", #[⟨13, .guard⟩], some (13, false)⟩ ?_
        refine tkM 15 ⟨some 45, .load 3 (.tmp 44), 3, "fileorder.go:105", #[⟨14, .data⟩, ⟨13, .guard⟩], some (13, false)⟩ ?_
        refine tkM 16 ⟨some 46, .call ⟨.value (.func 24), #[.tmp 45], #[3]⟩, 3, "fileorder.go:105", #[⟨15, .data⟩, ⟨13, .chain⟩, ⟨13, .guard⟩], some (13, false)⟩ ?_
        refine tkM 17 ⟨some 47, .fieldAddr 69 (.tmp 8) 1, 0, "fileorder.go:105", #[⟨13, .guard⟩], some (13, false)⟩ ?_
        refine tkM 18 ⟨some 48, .load 3 (.tmp 47), 3, "fileorder.go:105", #[⟨17, .data⟩, ⟨13, .guard⟩], some (13, false)⟩ ?_
        refine tkM 19 ⟨some 49, .binOp .sub 3 (.const (.int .i64 4096)) (.tmp 48) 3, 3, "fileorder.go:105", #[⟨18, .data⟩, ⟨13, .guard⟩], some (13, false)⟩ ?_
        refine tkM 20 ⟨some 50, .binOp .gtr 3 (.tmp 46) (.tmp 49) 3, 4, "fileorder.go:105", #[⟨16, .data⟩, ⟨19, .data⟩, ⟨13, .guard⟩], some (13, false)⟩ ?_
        refine tkZ 21 ⟨some 51, .pick (.tmp 43) (.const (.bool true)) (.tmp 50), 4, "fileorder.go:105", #[⟨13, .data⟩, ⟨20, .data⟩], none⟩ ?_
        refine wpAnyH_done (by kernel_rfl) ?_ _
        refine NoPanic.normal ?_
        have hbel5 := hbel5.drew
        go_wp2_with fail
        go_ret2
        exact ⟨ret_w HZ.out, by first | exact hbel5 | (rw [hmb]; exact hbel5)⟩
      have n2 : decide (f.len < 0) = false := decide_eq_false c2
      by_cases c3 : 4096 < f.start
      · have HZ := hide (HBAD.out (fun h => by have := extB_all h HMEM.out; omega))
        refine wp_region_noPanic ?_
        refine wp_region_held_drew (S := (fun z => Blk z fb (extA f) 69 ∧ True)) (by kernel_rfl) kp (fun hHeld => ?_)
        refine tkZ 0 ⟨some 30, .fieldAddr 69 (.tmp 8) 1, 0, "fileorder.go:105", #[], none⟩ ?_
        refine tkZ 1 ⟨some 31, .load 3 (.tmp 30), 3, "fileorder.go:105", #[⟨0, .data⟩], none⟩ ?_ (by intro w hSw; (try dsimp only at hSw); have c1 := hSw.1.cells 1; go_simp; (try with_reducible rfl))
        refine tkZ 2 ⟨some 32, .binOp .lss 3 (.tmp 31) (.const (.int .i64 0)) 3, 4, "fileorder.go:105", #[⟨1, .data⟩], none⟩ ?_
        refine tkZ 3 ⟨some 33, .move (.tmp 32), 4, "fileorder.go:105", #[⟨2, .data⟩], none⟩ ?_
        refine tkZ 4 ⟨some 34, .fieldAddr 69 (.tmp 8) 2, 0, "fileorder.go:105", #[⟨3, .guard⟩], some (3, false)⟩ ?_
        refine tkZ 5 ⟨some 35, .load 3 (.tmp 34), 3, "fileorder.go:105", #[⟨4, .data⟩, ⟨3, .guard⟩], some (3, false)⟩ ?_ (by intro w hSw; (try dsimp only at hSw); have c1 := hSw.1.cells 2; go_simp; (try with_reducible rfl))
        refine tkZ 6 ⟨some 36, .binOp .lss 3 (.tmp 35) (.const (.int .i64 0)) 3, 4, "fileorder.go:105", #[⟨5, .data⟩, ⟨3, .guard⟩], some (3, false)⟩ ?_
        refine tkZ 7 ⟨some 37, .pick (.tmp 33) (.const (.bool true)) (.tmp 36), 4, "fileorder.go:105", #[⟨3, .data⟩, ⟨6, .data⟩], none⟩ ?_
        refine tkZ 8 ⟨some 38, .move (.tmp 37), 4, "fileorder.go:105", #[⟨7, .data⟩, ⟨3, .chain⟩], none⟩ ?_
        refine tkZ 9 ⟨some 39, .fieldAddr 69 (.tmp 8) 1, 0, "fileorder.go:105", #[⟨8, .guard⟩], some (8, false)⟩ ?_
        refine tkZ 10 ⟨some 40, .load 3 (.tmp 39), 3, "fileorder.go:105", #[⟨9, .data⟩, ⟨8, .guard⟩], some (8, false)⟩ ?_ (by intro w hSw; (try dsimp only at hSw); have c1 := hSw.1.cells 1; go_simp; (try with_reducible rfl))
        refine tkZ 11 ⟨some 41, .binOp .gtr 3 (.tmp 40) (.const (.int .i64 4096)) 3, 4, "fileorder.go:105", #[⟨10, .data⟩, ⟨8, .guard⟩], some (8, false)⟩ ?_
        refine tkZ 12 ⟨some 42, .pick (.tmp 38) (.const (.bool true)) (.tmp 41), 4, "fileorder.go:105", #[⟨8, .data⟩, ⟨11, .data⟩], none⟩ ?_
        refine tkZ 13 ⟨some 43, .move (.tmp 42), 4, "fileorder.go:105", #[⟨12, .data⟩, ⟨8, .chain⟩], none⟩ ?_
        refine tkM 14 ⟨some 44, .fieldAddr 69 (.tmp 8) 2, 0, "fileorder.go:105", #[⟨13, .guard⟩], some (13, false)⟩ ?_
        refine tkM 15 ⟨some 45, .load 3 (.tmp 44), 3, "fileorder.go:105", #[⟨14, .data⟩, ⟨13, .guard⟩], some (13, false)⟩ ?_
        refine tkM 16 ⟨some 46, .call ⟨.value (.func 24), #[.tmp 45], #[3]⟩, 3, "fileorder.go:105", #[⟨15, .data⟩, ⟨13, .chain⟩, ⟨13, .guard⟩], some (13, false)⟩ ?_
        refine tkM 17 ⟨some 47, .fieldAddr 69 (.tmp 8) 1, 0, "fileorder.go:105", #[⟨13, .guard⟩], some (13, false)⟩ ?_
        refine tkM 18 ⟨some 48, .load 3 (.tmp 47), 3, "fileorder.go:105", #[⟨17, .data⟩, ⟨13, .guard⟩], some (13, false)⟩ ?_
        refine tkM 19 ⟨some 49, .binOp .sub 3 (.const (.int .i64 4096)) (.tmp 48) 3, 3, "fileorder.go:105", #[⟨18, .data⟩, ⟨13, .guard⟩], some (13, false)⟩ ?_
        refine tkM 20 ⟨some 50, .binOp .gtr 3 (.tmp 46) (.tmp 49) 3, 4, "fileorder.go:105", #[⟨16, .data⟩, ⟨19, .data⟩, ⟨13, .guard⟩], some (13, false)⟩ ?_
        refine tkZ 21 ⟨some 51, .pick (.tmp 43) (.const (.bool true)) (.tmp 50), 4, "fileorder.go:105", #[⟨13, .data⟩, ⟨20, .data⟩], none⟩ ?_
        refine wpAnyH_done (by kernel_rfl) ?_ _
        refine NoPanic.normal ?_
        have hbel5 := hbel5.drew
        go_wp2_with fail
        go_ret2
        exact ⟨ret_w HZ.out, by first | exact hbel5 | (rw [hmb]; exact hbel5)⟩
      have n3 : decide (4096 < f.start) = false := decide_eq_false c3
      have CBF := hide (fun W => blocks_any f.len hs2 W)
      have hw1 : IntKind.i64.wrap (4096 - f.start) = 4096 - f.start := IntWalk.i64_in _ (by omega)
      obtain ⟨bl, hbl⟩ : ∃ bl, blocksI f.len = bl := ⟨_, rfl⟩
      rw [hbl] at CBF
      have HBL := hide hbl
      clear hbl
      by_cases c4 : 4096 - f.start < bl
      · have HZ := hide (HBAD.out (fun h => by have := extB_all h HMEM.out; rw [HBL.out] at this; omega))
        refine wp_region_noPanic ?_
        refine wp_region_held_drew (S := (fun z => Blk z fb (extA f) 69 ∧ True)) (by kernel_rfl) kp (fun hHeld => ?_)
        refine tkZ 0 ⟨some 30, .fieldAddr 69 (.tmp 8) 1, 0, "fileorder.go:105", #[], none⟩ ?_
        refine tkZ 1 ⟨some 31, .load 3 (.tmp 30), 3, "fileorder.go:105", #[⟨0, .data⟩], none⟩ ?_ (by intro w hSw; (try dsimp only at hSw); have c1 := hSw.1.cells 1; go_simp; (try with_reducible rfl))
        refine tkZ 2 ⟨some 32, .binOp .lss 3 (.tmp 31) (.const (.int .i64 0)) 3, 4, "fileorder.go:105", #[⟨1, .data⟩], none⟩ ?_
        refine tkZ 3 ⟨some 33, .move (.tmp 32), 4, "fileorder.go:105", #[⟨2, .data⟩], none⟩ ?_
        refine tkZ 4 ⟨some 34, .fieldAddr 69 (.tmp 8) 2, 0, "fileorder.go:105", #[⟨3, .guard⟩], some (3, false)⟩ ?_
        refine tkZ 5 ⟨some 35, .load 3 (.tmp 34), 3, "fileorder.go:105", #[⟨4, .data⟩, ⟨3, .guard⟩], some (3, false)⟩ ?_ (by intro w hSw; (try dsimp only at hSw); have c1 := hSw.1.cells 2; go_simp; (try with_reducible rfl))
        refine tkZ 6 ⟨some 36, .binOp .lss 3 (.tmp 35) (.const (.int .i64 0)) 3, 4, "fileorder.go:105", #[⟨5, .data⟩, ⟨3, .guard⟩], some (3, false)⟩ ?_
        refine tkZ 7 ⟨some 37, .pick (.tmp 33) (.const (.bool true)) (.tmp 36), 4, "fileorder.go:105", #[⟨3, .data⟩, ⟨6, .data⟩], none⟩ ?_
        refine tkZ 8 ⟨some 38, .move (.tmp 37), 4, "fileorder.go:105", #[⟨7, .data⟩, ⟨3, .chain⟩], none⟩ ?_
        refine tkZ 9 ⟨some 39, .fieldAddr 69 (.tmp 8) 1, 0, "fileorder.go:105", #[⟨8, .guard⟩], some (8, false)⟩ ?_
        refine tkZ 10 ⟨some 40, .load 3 (.tmp 39), 3, "fileorder.go:105", #[⟨9, .data⟩, ⟨8, .guard⟩], some (8, false)⟩ ?_ (by intro w hSw; (try dsimp only at hSw); have c1 := hSw.1.cells 1; go_simp; (try with_reducible rfl))
        refine tkZ 11 ⟨some 41, .binOp .gtr 3 (.tmp 40) (.const (.int .i64 4096)) 3, 4, "fileorder.go:105", #[⟨10, .data⟩, ⟨8, .guard⟩], some (8, false)⟩ ?_
        refine tkZ 12 ⟨some 42, .pick (.tmp 38) (.const (.bool true)) (.tmp 41), 4, "fileorder.go:105", #[⟨8, .data⟩, ⟨11, .data⟩], none⟩ ?_
        refine tkZ 13 ⟨some 43, .move (.tmp 42), 4, "fileorder.go:105", #[⟨12, .data⟩, ⟨8, .chain⟩], none⟩ ?_
        refine tkZ 14 ⟨some 44, .fieldAddr 69 (.tmp 8) 2, 0, "fileorder.go:105", #[⟨13, .guard⟩], some (13, false)⟩ ?_
        refine tkZ 15 ⟨some 45, .load 3 (.tmp 44), 3, "fileorder.go:105", #[⟨14, .data⟩, ⟨13, .guard⟩], some (13, false)⟩ ?_ (by intro w hSw; (try dsimp only at hSw); have c1 := hSw.1.cells 2; go_simp; (try with_reducible rfl))
        refine tkZ 17 ⟨some 47, .fieldAddr 69 (.tmp 8) 1, 0, "fileorder.go:105", #[⟨13, .guard⟩], some (13, false)⟩ ?_
        refine tkZ 18 ⟨some 48, .load 3 (.tmp 47), 3, "fileorder.go:105", #[⟨17, .data⟩, ⟨13, .guard⟩], some (13, false)⟩ ?_ (by intro w hSw; (try dsimp only at hSw); have c1 := hSw.1.cells 1; go_simp; (try with_reducible rfl))
        refine tkZ 19 ⟨some 49, .binOp .sub 3 (.const (.int .i64 4096)) (.tmp 48) 3, 3, "fileorder.go:105", #[⟨18, .data⟩, ⟨13, .guard⟩], some (13, false)⟩ ?_
        refine rqS [16] (rqC ⟨some 46, .call ⟨.value (.func 24), #[.tmp 45], #[3]⟩, 3, "fileorder.go:105", #[⟨15, .data⟩, ⟨13, .chain⟩, ⟨13, .guard⟩], some (13, false)⟩ (fun K hK => ?_) rq0)
        go_simp
        (go_at_call 24; (with_reducible refine (CBF.out _).mono ?_); rintro e w8 ⟨rfl, hw8⟩; have hk8 : Blk w8 fb (extA f) 69 ∧ True := ⟨by rw [← hw8]; exact hHeld.1, trivial⟩)
        go_wp2_with fail
        refine hK.out _ _ kp (fun hHeld => ?_)
        clear hK K
        try simp only [PT]
        refine tkZ 20 ⟨some 50, .binOp .gtr 3 (.tmp 46) (.tmp 49) 3, 4, "fileorder.go:105", #[⟨16, .data⟩, ⟨19, .data⟩, ⟨13, .guard⟩], some (13, false)⟩ ?_
        refine tkZ 21 ⟨some 51, .pick (.tmp 43) (.const (.bool true)) (.tmp 50), 4, "fileorder.go:105", #[⟨13, .data⟩, ⟨20, .data⟩], none⟩ ?_
        refine wpAnyH_done (by kernel_rfl) ?_ _
        refine NoPanic.normal ?_
        subst hw8
        have hbel5 := hbel5.drew
        go_wp2_with fail
        go_ret2
        exact ⟨ret_w HZ.out, by first | exact hbel5 | (rw [hmb]; exact hbel5)⟩
      have n4 : decide (4096 - f.start < bl) = false := decide_eq_false c4
      refine wp_region_noPanic ?_
      refine wp_region_held_drew (S := (fun z => Blk z fb (extA f) 69 ∧ True)) (by kernel_rfl) kp (fun hHeld => ?_)
      refine tkZ 0 ⟨some 30, .fieldAddr 69 (.tmp 8) 1, 0, "fileorder.go:105", #[], none⟩ ?_
      refine tkZ 1 ⟨some 31, .load 3 (.tmp 30), 3, "fileorder.go:105", #[⟨0, .data⟩], none⟩ ?_ (by intro w hSw; (try dsimp only at hSw); have c1 := hSw.1.cells 1; go_simp; (try with_reducible rfl))
      refine tkZ 2 ⟨some 32, .binOp .lss 3 (.tmp 31) (.const (.int .i64 0)) 3, 4, "fileorder.go:105", #[⟨1, .data⟩], none⟩ ?_
      refine tkZ 3 ⟨some 33, .move (.tmp 32), 4, "fileorder.go:105", #[⟨2, .data⟩], none⟩ ?_
      refine tkZ 4 ⟨some 34, .fieldAddr 69 (.tmp 8) 2, 0, "fileorder.go:105", #[⟨3, .guard⟩], some (3, false)⟩ ?_
      refine tkZ 5 ⟨some 35, .load 3 (.tmp 34), 3, "fileorder.go:105", #[⟨4, .data⟩, ⟨3, .guard⟩], some (3, false)⟩ ?_ (by intro w hSw; (try dsimp only at hSw); have c1 := hSw.1.cells 2; go_simp; (try with_reducible rfl))
      refine tkZ 6 ⟨some 36, .binOp .lss 3 (.tmp 35) (.const (.int .i64 0)) 3, 4, "fileorder.go:105", #[⟨5, .data⟩, ⟨3, .guard⟩], some (3, false)⟩ ?_
      refine tkZ 7 ⟨some 37, .pick (.tmp 33) (.const (.bool true)) (.tmp 36), 4, "fileorder.go:105", #[⟨3, .data⟩, ⟨6, .data⟩], none⟩ ?_
      refine tkZ 8 ⟨some 38, .move (.tmp 37), 4, "fileorder.go:105", #[⟨7, .data⟩, ⟨3, .chain⟩], none⟩ ?_
      refine tkZ 9 ⟨some 39, .fieldAddr 69 (.tmp 8) 1, 0, "fileorder.go:105", #[⟨8, .guard⟩], some (8, false)⟩ ?_
      refine tkZ 10 ⟨some 40, .load 3 (.tmp 39), 3, "fileorder.go:105", #[⟨9, .data⟩, ⟨8, .guard⟩], some (8, false)⟩ ?_ (by intro w hSw; (try dsimp only at hSw); have c1 := hSw.1.cells 1; go_simp; (try with_reducible rfl))
      refine tkZ 11 ⟨some 41, .binOp .gtr 3 (.tmp 40) (.const (.int .i64 4096)) 3, 4, "fileorder.go:105", #[⟨10, .data⟩, ⟨8, .guard⟩], some (8, false)⟩ ?_
      refine tkZ 12 ⟨some 42, .pick (.tmp 38) (.const (.bool true)) (.tmp 41), 4, "fileorder.go:105", #[⟨8, .data⟩, ⟨11, .data⟩], none⟩ ?_
      refine tkZ 13 ⟨some 43, .move (.tmp 42), 4, "fileorder.go:105", #[⟨12, .data⟩, ⟨8, .chain⟩], none⟩ ?_
      refine tkZ 14 ⟨some 44, .fieldAddr 69 (.tmp 8) 2, 0, "fileorder.go:105", #[⟨13, .guard⟩], some (13, false)⟩ ?_
      refine tkZ 15 ⟨some 45, .load 3 (.tmp 44), 3, "fileorder.go:105", #[⟨14, .data⟩, ⟨13, .guard⟩], some (13, false)⟩ ?_ (by intro w hSw; (try dsimp only at hSw); have c1 := hSw.1.cells 2; go_simp; (try with_reducible rfl))
      refine tkZ 17 ⟨some 47, .fieldAddr 69 (.tmp 8) 1, 0, "fileorder.go:105", #[⟨13, .guard⟩], some (13, false)⟩ ?_
      refine tkZ 18 ⟨some 48, .load 3 (.tmp 47), 3, "fileorder.go:105", #[⟨17, .data⟩, ⟨13, .guard⟩], some (13, false)⟩ ?_ (by intro w hSw; (try dsimp only at hSw); have c1 := hSw.1.cells 1; go_simp; (try with_reducible rfl))
      refine tkZ 19 ⟨some 49, .binOp .sub 3 (.const (.int .i64 4096)) (.tmp 48) 3, 3, "fileorder.go:105", #[⟨18, .data⟩, ⟨13, .guard⟩], some (13, false)⟩ ?_
      refine rqS [16] (rqC ⟨some 46, .call ⟨.value (.func 24), #[.tmp 45], #[3]⟩, 3, "fileorder.go:105", #[⟨15, .data⟩, ⟨13, .chain⟩, ⟨13, .guard⟩], some (13, false)⟩ (fun K hK => ?_) rq0)
      go_simp
      (go_at_call 24; (with_reducible refine (CBF.out _).mono ?_); rintro e w8 ⟨rfl, hw8⟩; have hk8 : Blk w8 fb (extA f) 69 ∧ True := ⟨by rw [← hw8]; exact hHeld.1, trivial⟩)
      go_wp2_with fail
      refine hK.out _ _ kp (fun hHeld => ?_)
      clear hK K
      try simp only [PT]
      refine tkZ 20 ⟨some 50, .binOp .gtr 3 (.tmp 46) (.tmp 49) 3, 4, "fileorder.go:105", #[⟨16, .data⟩, ⟨19, .data⟩, ⟨13, .guard⟩], some (13, false)⟩ ?_
      refine tkZ 21 ⟨some 51, .pick (.tmp 43) (.const (.bool true)) (.tmp 50), 4, "fileorder.go:105", #[⟨13, .data⟩, ⟨20, .data⟩], none⟩ ?_
      refine wpAnyH_done (by kernel_rfl) ?_ _
      refine NoPanic.normal ?_
      subst hw8
      have hbel8 := hbel5.drew
      have HE6 := hide (HE5.out.below (w' := W5.drew) ((Below.refl _ _).drew))
      have HFB6 := hide (show Blk W5.drew fb (extA f) 69 from HFB.out)
      clear HE5 HFB hk0 hk0d hk8 hbel5 CBF R1
      generalize W5.drew = W6 at *
      obtain ⟨ao, cap, hMp⟩ := own_slice (HE6.out.2.1 f.path)
      have hR0 := HE6.out.2.1 f.path
      rw [hMp] at hR0 hfo
      have HMP := hide hMp
      have HR0 := hide (show W6.drew.ownsRow (mb + 1) 69 3 (.slice ao (at47 (files.take k) f.path).length cap) (at47 (files.take k) f.path).length (extV (at47 (files.take k) f.path)) from hR0)
      have hmap0 : MapV Tryz.prog 9 (.slice none 0 0) mb k M W6.drew := HE6.out.1.block rfl
      have hfo2 : ∀ j, (Value.slice ao (at47 (files.take k) f.path).length cap).ownBlock = some j → j ≠ fb := fun j hj e => by have := hfo j hj; omega
      have hnmb : (Value.slice ao (at47 (files.take k) f.path).length cap).ownBlock ≠ some mb := fun e => by have := (hR0.lt mb e).1; omega
      have hal := at47_len (files.take k) f.path
      rw [List.length_take] at hal
      have hk0 : Blk W6.drew fb (extA f) 69 ∧ True := ⟨HFB6.out, trivial⟩
      have hka : Blk (W6.alloc (.cells #[.string f.path, .int .i64 f.start, .int .i64 f.len] 69)).drew fb (extA f) 69 ∧ True := ⟨Blk.alloc HFB6.out _, trivial⟩
      have hsz6 : mb + 1 ≤ W6.heap.size := HE6.out.1.lt
      clear hMp hR0
      go_upto_region 9 with fail
      refine wp_region_noPanic ?_
      refine wp_region_held_drew (S := (fun z => Blk z fb (extA f) 69 ∧ True)) (by kernel_rfl) kp (fun hHeld => ?_)
      refine tkZ 0 ⟨some 52, .move (.tmp 6), 79, "fileorder.go:108", #[], none⟩ ?_
      refine tkZ 1 ⟨some 53, .fieldAddr 69 (.tmp 8) 0, 0, "fileorder.go:108", #[], none⟩ ?_
      refine tkZ 2 ⟨some 54, .load 9 (.tmp 53), 9, "fileorder.go:108", #[⟨1, .data⟩], none⟩ ?_ (by intro w hSw; (try dsimp only at hSw); have c1 := hSw.1.cells 0; go_simp; (try with_reducible rfl))
      refine tkZ 3 ⟨some 55, .move (.tmp 6), 79, "fileorder.go:108", #[], none⟩ ?_
      refine tkZ 4 ⟨some 56, .fieldAddr 69 (.tmp 8) 0, 0, "fileorder.go:108", #[], none⟩ ?_
      refine tkZ 5 ⟨some 57, .load 9 (.tmp 56), 9, "fileorder.go:108", #[⟨4, .data⟩], none⟩ ?_ (by intro w hSw; (try dsimp only at hSw); have c1 := hSw.1.cells 0; go_simp; (try with_reducible rfl))
      refine tkZ 7 ⟨some 59, .load 69 (.tmp 8), 69, "fileorder.go:108", #[], none⟩ ?_ (by intro w hSw; (try dsimp only at hSw); refine (exec_load_row 69 (.tmp 8) (by rfl) fb (by rfl) 69 (extA f) (0, 0) _ hSw.1 Tryz.underlying69 (by rfl) (infF rfl)).trans ?_; with_reducible rfl)
      refine rqS [6, 8] (rqC ⟨some 58, .lookup 79 (.tmp 55) (.tmp 57) false, 37, "fileorder.go:108", #[⟨3, .data⟩, ⟨5, .data⟩], none⟩ (fun K hK => ?_) (rqC ⟨some 60, .buildSlice 37 1 #[(0, .tmp 59)], 37, "fileorder.go:108", #[⟨7, .data⟩], none⟩ (fun K hK => ?_) rq0))
      focus
        refine step_lookU rfl _ _ 79 9 37 rfl Tryz.underlying9 Tryz.underlying79 (.slice none 0 0) (by kernel_rfl) mb k M rfl (by first | exact hmap0 | exact hmap0.alloc _) f.path (.slice ao (at47 (files.take k) f.path).length cap) HMP.out rfl (by unfold maxLen; omega) ?_
        refine hK.out _ _ kp (fun hHeld => ?_)
        clear hK K
        try simp only [PT]
        refine rqS [8] (rqC ⟨some 60, .buildSlice 37 1 #[(0, .tmp 59)], 37, "fileorder.go:108", #[⟨7, .data⟩], none⟩ (fun K hK => ?_) rq0)
        go_simp
        refine hK.out _ _ kp (fun hHeld => ?_)
        clear hK K
        try simp only [PT]
        refine rqS [9] (rqC ⟨some 61, .call ⟨.builtin .append, #[.tmp 58, .tmp 60], #[37, 37]⟩, 37, "fileorder.go:108", #[⟨6, .data⟩, ⟨8, .data⟩], none⟩ (fun K hK => ?_) rq0)
        refine step_append_rows _ (by rfl) _ _ 37 (by rfl) (mb + 1) 69 fileInfo Tryz.underlying37 (by rfl) (by decide) (.slice ao (at47 (files.take k) f.path).length cap) _ _ (HR0.out.alloc _) ⟨W6.drew.heap.size, 0, none⟩ 1 1 (extC f) (by rfl) (by rfl) (by rfl) (by intro j u hu; rw [Addr.add_lit, Nat.zero_add]; exact (Blk.cells (show Blk (W6.drew.alloc (.cells (extA f) 69)) W6.drew.heap.size (extA f) 69 from Blk.newAt rfl) j).trans (by rw [← Array.getElem?_toList]; exact hu)) (by intro u hu; simp only [extC, List.mem_cons, List.not_mem_nil, or_false] at hu; rcases hu with rfl | rfl | rfl <;> rfl) (by unfold maxLen; omega) (by omega) (by simp only [World.size_drew, World.size_alloc]; omega) ?_; intro v9 w9 hown9 hnb9 hg9; have hkeep9 : Blk w9 fb (extA f) 69 ∧ True := ⟨(hg9.block fb (by have := HFB6.out.lt; show fb < (W6.drew.alloc _).heap.size; rw [World.size_alloc]; exact Nat.lt_succ_of_lt this) (fun e => hfo2 fb e.symm rfl)).trans (Blk.alloc (show Blk W6.drew fb (extA f) 69 from HFB6.out) _), trivial⟩
        refine hK.out _ _ kp (fun hHeld => ?_)
        clear hK K
        try simp only [PT]
        refine rqS [10] (rqC ⟨none, .mapUpdate 79 (.tmp 52) (.tmp 54) (.tmp 61), 0, "fileorder.go:108", #[⟨0, .data⟩, ⟨2, .data⟩, ⟨9, .data⟩, ⟨9, .chain⟩, ⟨0, .phase⟩, ⟨1, .phase⟩, ⟨2, .phase⟩, ⟨3, .phase⟩, ⟨4, .phase⟩, ⟨5, .phase⟩, ⟨6, .phase⟩, ⟨7, .phase⟩, ⟨8, .phase⟩, ⟨9, .phase⟩], none⟩ (fun K hK => ?_) rq0)
        refine step_map rfl _ _ _ 79 9 37 rfl Tryz.underlying9 Tryz.underlying79 (.slice none 0 0) mb k M rfl (MapV.grown (MapV.alloc hmap0 _) hg9 hnmb) (by unfold maxLen; omega) f.path rfl (by unfold maxLen; omega) v9 rfl ?_; intro w10 hmap10 hg10; have hkeep10 : Blk w10 fb (extA f) 69 ∧ True := ⟨(hg10.block fb hkeep9.1.lt (fun e => by injection e with e; omega)).trans hkeep9.1, trivial⟩
        refine hK.out _ _ kp (fun hHeld => ?_)
        clear hK K
        try simp only [PT]
        refine wpAnyH_done (by kernel_rfl) ?_ _
        refine NoPanic.normal ?_
        have HE10 := hide (HE6.out.next (f := f) (((Below.refl W6.heap.size W6).drew).alloc (Nat.le_refl _) (.cells (extA f) 69)) (by rw [HMP.out]; exact hg9) hown9 (by rw [HMP.out]; exact hnb9) hg10 hmap10)
        have hb9 : Below mb w w9 := ((hbel8.drew).alloc (by simp only [World.size_drew]; omega) (.cells (extA f) 69)).grown hg9 (by simp only [World.size_drew, World.size_alloc]; omega) (fun j hj => Nat.le_of_succ_le (HR0.out.lt j hj).1)
        have hb10 : Below mb w w10 := hb9.grown hg10 (by have := hg9.size; simp only [World.size_drew, World.size_alloc] at this; omega) (fun j hj => by injection hj with hj; omega)
        clear hown9 hnb9 hg9 hg10 hmap10 hmap0 hkeep9 hkeep10
        go_wp2_with fail
        go_roundw
        (case rel => exact ⟨k + 1, _, by go_num, by omega, by rw [HTK.out]; exact HE10.out, by rw [HTK.out, List.all_append, HALL.out, Bool.true_and]; simp only [List.all_cons, List.all_nil, Bool.and_true]; exact decide_eq_true (by rw [HBL.out]; omega), hb10⟩)
        (case measure => simp [intOf]; omega)
      focus
        go_simp
        refine hK.out _ _ kp (fun hHeld => ?_)
        clear hK K
        try simp only [PT]
        refine rqS [6] (rqC ⟨some 58, .lookup 79 (.tmp 55) (.tmp 57) false, 37, "fileorder.go:108", #[⟨3, .data⟩, ⟨5, .data⟩], none⟩ (fun K hK => ?_) rq0)
        refine step_lookU rfl _ _ 79 9 37 rfl Tryz.underlying9 Tryz.underlying79 (.slice none 0 0) (by kernel_rfl) mb k M rfl (by first | exact hmap0 | exact hmap0.alloc _) f.path (.slice ao (at47 (files.take k) f.path).length cap) HMP.out rfl (by unfold maxLen; omega) ?_
        refine hK.out _ _ kp (fun hHeld => ?_)
        clear hK K
        try simp only [PT]
        refine rqS [9] (rqC ⟨some 61, .call ⟨.builtin .append, #[.tmp 58, .tmp 60], #[37, 37]⟩, 37, "fileorder.go:108", #[⟨6, .data⟩, ⟨8, .data⟩], none⟩ (fun K hK => ?_) rq0)
        refine step_append_rows _ (by rfl) _ _ 37 (by rfl) (mb + 1) 69 fileInfo Tryz.underlying37 (by rfl) (by decide) (.slice ao (at47 (files.take k) f.path).length cap) _ _ (HR0.out.alloc _) ⟨W6.drew.heap.size, 0, none⟩ 1 1 (extC f) (by rfl) (by rfl) (by rfl) (by intro j u hu; rw [Addr.add_lit, Nat.zero_add]; exact (Blk.cells (show Blk (W6.drew.alloc (.cells (extA f) 69)) W6.drew.heap.size (extA f) 69 from Blk.newAt rfl) j).trans (by rw [← Array.getElem?_toList]; exact hu)) (by intro u hu; simp only [extC, List.mem_cons, List.not_mem_nil, or_false] at hu; rcases hu with rfl | rfl | rfl <;> rfl) (by unfold maxLen; omega) (by omega) (by simp only [World.size_drew, World.size_alloc]; omega) ?_; intro v9 w9 hown9 hnb9 hg9; have hkeep9 : Blk w9 fb (extA f) 69 ∧ True := ⟨(hg9.block fb (by have := HFB6.out.lt; show fb < (W6.drew.alloc _).heap.size; rw [World.size_alloc]; exact Nat.lt_succ_of_lt this) (fun e => hfo2 fb e.symm rfl)).trans (Blk.alloc (show Blk W6.drew fb (extA f) 69 from HFB6.out) _), trivial⟩
        refine hK.out _ _ kp (fun hHeld => ?_)
        clear hK K
        try simp only [PT]
        refine rqS [10] (rqC ⟨none, .mapUpdate 79 (.tmp 52) (.tmp 54) (.tmp 61), 0, "fileorder.go:108", #[⟨0, .data⟩, ⟨2, .data⟩, ⟨9, .data⟩, ⟨9, .chain⟩, ⟨0, .phase⟩, ⟨1, .phase⟩, ⟨2, .phase⟩, ⟨3, .phase⟩, ⟨4, .phase⟩, ⟨5, .phase⟩, ⟨6, .phase⟩, ⟨7, .phase⟩, ⟨8, .phase⟩, ⟨9, .phase⟩], none⟩ (fun K hK => ?_) rq0)
        refine step_map rfl _ _ _ 79 9 37 rfl Tryz.underlying9 Tryz.underlying79 (.slice none 0 0) mb k M rfl (MapV.grown (MapV.alloc hmap0 _) hg9 hnmb) (by unfold maxLen; omega) f.path rfl (by unfold maxLen; omega) v9 rfl ?_; intro w10 hmap10 hg10; have hkeep10 : Blk w10 fb (extA f) 69 ∧ True := ⟨(hg10.block fb hkeep9.1.lt (fun e => by injection e with e; omega)).trans hkeep9.1, trivial⟩
        refine hK.out _ _ kp (fun hHeld => ?_)
        clear hK K
        try simp only [PT]
        refine wpAnyH_done (by kernel_rfl) ?_ _
        refine NoPanic.normal ?_
        have HE10 := hide (HE6.out.next (f := f) (((Below.refl W6.heap.size W6).drew).alloc (Nat.le_refl _) (.cells (extA f) 69)) (by rw [HMP.out]; exact hg9) hown9 (by rw [HMP.out]; exact hnb9) hg10 hmap10)
        have hb9 : Below mb w w9 := ((hbel8.drew).alloc (by simp only [World.size_drew]; omega) (.cells (extA f) 69)).grown hg9 (by simp only [World.size_drew, World.size_alloc]; omega) (fun j hj => Nat.le_of_succ_le (HR0.out.lt j hj).1)
        have hb10 : Below mb w w10 := hb9.grown hg10 (by have := hg9.size; simp only [World.size_drew, World.size_alloc] at this; omega) (fun j hj => by injection hj with hj; omega)
        clear hown9 hnb9 hg9 hg10 hmap10 hmap0 hkeep9 hkeep10
        go_wp2_with fail
        go_roundw
        (case rel => exact ⟨k + 1, _, by go_num, by omega, by rw [HTK.out]; exact HE10.out, by rw [HTK.out, List.all_append, HALL.out, Bool.true_and]; simp only [List.all_cons, List.all_nil, Bool.and_true]; exact decide_eq_true (by rw [HBL.out]; omega), hb10⟩)
        (case measure => simp [intOf]; omega)
    · obtain rfl : k = files.length := by omega
      have hemF := HE.out
      rw [List.take_length] at hemF
      have hallF := HALL.out
      rw [List.take_length] at hallF
      have HEF := hide hemF
      have HAF := hide hallF
      have HZ := hide (HGO.out hallF)
      have hwm : mb < wr.heap.size := hemF.1.lt
      clear hemF hallF HE HALL
      go_wp2_with fail
      generalize hW9 : wr = W9 at *
      clear hW9
      go_loopw [9, 10, 65] (fun cv av i w2 => ∃ (k : Nat) (c a : Int), cv = .int .i64 c ∧ av = .int .i64 a ∧ i = .int .i64 (k : Int) ∧ k ≤ acc.length ∧ 0 ≤ a ∧ a ≤ 4096 ∧ 0 ≤ c ∧ c ≤ (k : Int) * 4194304 ∧ costL files (acc.drop k) (c, a) = costL files acc (0, 0) ∧ Below W9.heap.size W9 w2) (fun _ _ i _ => acc.length - (intOf i).toNat)
      case atStart => exact ⟨0, 0, 0, rfl, rfl, rfl, Nat.zero_le _, by omega, by omega, by omega, by omega, rfl, Below.refl _ _⟩
      case round =>
        obtain ⟨k, c, a, rfl, rfl, rfl, hk2, ha0, ha1, hc0, hc1, hcl, hb2⟩ := hrel
        have HCL := hide hcl
        have HB2 := hide hb2
        have hsz2 := hb2.size
        clear hcl hb2
        by_cases hlt2 : k < acc.length
        · obtain ⟨p, hp⟩ : ∃ p, acc[k]? = some p := ⟨acc[k], List.getElem?_eq_getElem hlt2⟩
          obtain ⟨g, o, rfl, hg, hcl⟩ := HA.out (by omega)
          have c0 : wr.cell? ⟨g, o + k, none⟩ = some (.string p) := ((HB.out.trans (HB2.out.mono (by omega))).cell (p := ⟨g, o + k, none⟩) (show g < mb by omega)).trans (hcl k p hp)
          have hps := HAO.out p (List.mem_of_getElem? hp)
          have HST := hide (costL_step (fs := files) hp (c, a))
          obtain ⟨ao, cap, hMp⟩ := own_slice (HEF.out.2.1 p)
          have HMP := hide hMp
          have HRF := hide (SlF.of (by have h := HEF.out.2.1 p; rw [hMp] at h; exact h : W9.ownsRow (mb + 1) 69 3 (.slice ao (at47 files p).length cap) (at47 files p).length (extV (at47 files p))))
          have hmapr : MapV Tryz.prog 9 (.slice none 0 0) mb files.length M wr := HEF.out.1.below HB2.out
          have hal := at47_len files p
          clear hcl hp hMp
          by_cases hn0 : (at47 files p).length = 0
          · have q0 : (((at47 files p).length : Int) == 0) = true := by rw [beq_iff_eq]; omega
            have HZ2 := hide (show costT files acc = (0, 6) by rw [HZ.out, ← HCL.out, HST.out, if_pos (List.length_eq_zero_iff.1 hn0)])
            have hbf := HB.out.trans (HB2.out.mono (by omega))
            go_wp2_with (at_lookup; refine wpList_lookU _ rfl _ _ 79 9 37 rfl Tryz.underlying9 Tryz.underlying79 (.slice none 0 0) (by kernel_rfl) mb files.length M rfl hmapr p (.slice ao (at47 files p).length cap) HMP.out rfl (by unfold maxLen; omega) ?_)
            go_ret2
            exact ⟨ret_w HZ2.out, by first | exact hbf | (rw [hmb]; exact hbf)⟩
          · have q0 : (((at47 files p).length : Int) == 0) = false := by rw [beq_eq_false_iff_ne]; omega
            have HST2 := hide (show costL files (acc.drop (k + 1)) ((at47 files p).foldl seek (c, a)) = costL files acc (0, 0) by rw [← HCL.out, HST.out, if_neg (fun e => hn0 (by rw [e]; rfl))])
            obtain ⟨ao', cap', ev, hrow⟩ := HRF.out
            injection ev with ev1 ev2 ev3
            subst ev1; subst ev3
            have HROW := hide hrow
            have HM47 := hide (fun f (h : f ∈ at47 files p) => And.intro (extB_all HAF.out (at47_mem h)) (HFO.out f (at47_mem h)))
            clear hrow HRF hn0 HST
            generalize at47 files p = es at *
            go_wp2_with (at_lookup; refine wpList_lookU _ rfl _ _ 79 9 37 rfl Tryz.underlying9 Tryz.underlying79 (.slice none 0 0) (by kernel_rfl) mb files.length M rfl hmapr p (.slice ao es.length cap) HMP.out rfl (by unfold maxLen; omega) ?_)
            clear HMP hmapr
            go_loopw [9, 10, 78] (fun cv av i w3 => ∃ (j : Nat) (c' a' : Int), cv = .int .i64 c' ∧ av = .int .i64 a' ∧ i = .int .i64 (j : Int) ∧ j ≤ es.length ∧ 0 ≤ a' ∧ a' ≤ 4096 ∧ 0 ≤ c' ∧ c' ≤ c + (j : Int) * 4096 ∧ (es.take j).foldl seek (c, a) = (c', a') ∧ Below W9.heap.size W9 w3) (fun _ _ i _ => es.length - (intOf i).toNat)
            case atStart => exact ⟨0, c, a, rfl, rfl, rfl, Nat.zero_le _, ha0, ha1, hc0, by omega, rfl, HB2.out⟩
            case round =>
              obtain ⟨j, c', a', rfl, rfl, rfl, hj, hp0, hp1, hq0, hq1, hsk, hb3⟩ := hrel
              have HSK := hide hsk
              have HB3 := hide hb3
              have hsz3 := hb3.size
              clear hsk hb3
              by_cases hltj : j < es.length
              · obtain ⟨f, hf⟩ : ∃ f, es[j]? = some f := ⟨es[j], List.getElem?_eq_getElem hltj⟩
                obtain ⟨g2, o2, rfl, hg2, hcl2⟩ := HROW.out (by omega)
                have R2 := hide (show wr.rangeAt g2 (o2 + j * 3) (extA f).toList from range_below HB3.out hg2 (hcl2 j f hf))
                obtain ⟨⟨hx1, hx2, hx3, hx4⟩, hx5, hx6, -⟩ := HM47.out f (List.mem_of_getElem? hf)
                have HSS := hide (seek_step hf (c, a))
                clear hcl2 hf
                go_upto_region 20 with (first | ((with_reducible show wpList _ _ _ (Oper.mk (some 81) _ _ _ _ _ :: _) _ _); refine wpList_load_midA rfl 69 (.tmp 80) rfl g2 (o2 + j * 3) rfl (extA f) _ R2.out Tryz.underlying69 rfl (by rw [Array.length_toList]; exact infF rfl) ?_) | ((with_reducible show wpList _ _ _ (Oper.mk none _ _ _ _ _ :: _) _ _); refine wpList_store_new rfl 69 (.tmp 14) (.tmp 81) rfl (extA f) rfl rfl 69 _ (infF rfl) rfl (by kernel_rfl) ?_))
                have HFB := hide (show Blk (wr.alloc (.cells (extA f) 69)) wr.heap.size (extA f) 69 from Blk.newAt rfl)
                have hb5 : Below W9.heap.size W9 (wr.alloc (.cells (extA f) 69)) := HB3.out.alloc hsz3 _
                generalize wr.alloc (.cells (extA f) 69) = W5 at *
                generalize wr.heap.size = fb at *
                have d1 := HFB.out.cells 1
                have d2 := HFB.out.cells 2
                have hk0 : Blk W5 fb (extA f) 69 ∧ True := ⟨HFB.out, trivial⟩
                have hk0d : Blk W5.drew fb (extA f) 69 ∧ True := ⟨HFB.out, trivial⟩
                by_cases hpos : 0 < f.len
                · have w1 : IntKind.i64.wrap (f.start - a') = f.start - a' := IntWalk.i64_in _ (by omega)
                  have w2 : IntKind.i64.wrap (a' - f.start) = a' - f.start := IntWalk.i64_in _ (by omega)
                  have w3 : IntKind.i64.wrap (c' + max (f.start - a') (a' - f.start)) = c' + max (f.start - a') (a' - f.start) := IntWalk.i64_in _ (by omega)
                  have CBF := hide (fun W => blocks_any f.len (by omega) W)
                  have hbr := blocks_rng hx2
                  have HSS2 := hide (show (es.take (j + 1)).foldl seek (c, a) = (c' + max (f.start - a') (a' - f.start), f.start + blocksI f.len) by rw [HSS.out, HSK.out]; unfold seek; rw [if_pos hpos])
                  generalize blocksI f.len = bl at *
                  have w4 : IntKind.i64.wrap (f.start + bl) = f.start + bl := IntWalk.i64_in _ (by omega)
                  go_upto_region 22 with fail
                  refine wp_region_noPanic ?_
                  refine wp_region_held_drew (S := (fun z => Blk z fb (extA f) 69 ∧ True)) (by kernel_rfl) kp (fun hHeld => ?_)
                  refine tkZ 0 ⟨some 96, .fieldAddr 69 (.tmp 14) 1, 0, "fileorder.go:118", #[], none⟩ ?_
                  refine tkZ 1 ⟨some 97, .load 3 (.tmp 96), 3, "fileorder.go:118", #[⟨0, .data⟩], none⟩ ?_ (by intro w hSw; (try dsimp only at hSw); have c1 := hSw.1.cells 1; go_simp; (try with_reducible rfl))
                  refine tkZ 2 ⟨some 98, .fieldAddr 69 (.tmp 14) 2, 0, "fileorder.go:118", #[], none⟩ ?_
                  refine tkZ 3 ⟨some 99, .load 3 (.tmp 98), 3, "fileorder.go:118", #[⟨2, .data⟩], none⟩ ?_ (by intro w hSw; (try dsimp only at hSw); have c1 := hSw.1.cells 2; go_simp; (try with_reducible rfl))
                  refine rqS [4] (rqC ⟨some 100, .call ⟨.value (.func 24), #[.tmp 99], #[3]⟩, 3, "fileorder.go:118", #[⟨3, .data⟩], none⟩ (fun K hK => ?_) rq0)
                  go_simp
                  (go_at_call 24; (with_reducible refine (CBF.out _).mono ?_); rintro e w8 ⟨rfl, hw8⟩; have hk8 : Blk w8 fb (extA f) 69 ∧ True := ⟨by rw [← hw8]; exact hHeld.1, trivial⟩)
                  go_wp2_with fail
                  refine hK.out _ _ kp (fun hHeld => ?_)
                  clear hK K
                  try simp only [PT]
                  refine tkZ 5 ⟨some 101, .binOp .add 3 (.tmp 97) (.tmp 100) 3, 3, "fileorder.go:118", #[⟨1, .data⟩, ⟨4, .data⟩], none⟩ ?_
                  refine tkZ 6 ⟨some 10, .assign (.tmp 101), 3, "fileorder.go:118", #[⟨5, .data⟩, ⟨4, .chain⟩, ⟨0, .phase⟩, ⟨1, .phase⟩, ⟨2, .phase⟩, ⟨3, .phase⟩, ⟨4, .phase⟩, ⟨5, .phase⟩], none⟩ ?_
                  refine wpAnyH_done (by kernel_rfl) ?_ _
                  refine NoPanic.normal ?_
                  subst hw8
                  go_wp2_with fail
                  go_roundw
                  (case rel => exact ⟨j + 1, _, _, rfl, rfl, by go_num, by omega, by omega, by omega, by omega, by omega, HSS2.out, hb5.drew⟩)
                  (case measure => simp [intOf]; omega)
                · have HSS2 := hide (show (es.take (j + 1)).foldl seek (c, a) = (c', a') by rw [HSS.out, HSK.out]; unfold seek; rw [if_neg hpos])
                  go_wp2_with fail
                  go_roundw
                  case rel => exact ⟨j + 1, c', a', rfl, rfl, by go_num, by omega, hp0, hp1, hq0, by omega, HSS2.out, hb5⟩
                  case measure => simp [intOf]; omega
              · obtain rfl : j = es.length := by omega
                have hsk2 := HSK.out
                rw [List.take_length] at hsk2
                have HSK2 := hide (show costL files (acc.drop (k + 1)) (c', a') = costL files acc (0, 0) by rw [← HST2.out, hsk2])
                clear hsk2
                go_wp2_with fail
                go_roundw
                case rel => exact ⟨k + 1, c', a', rfl, rfl, by go_num, by omega, hp0, hp1, hq0, by omega, HSK2.out, HB3.out⟩
                case measure => simp [intOf]; omega
        · obtain rfl : k = acc.length := by omega
          have HZ2 := hide (show costT files acc = (c, 0) by rw [HZ.out, ← HCL.out, List.drop_length, costL])
          have hbf := HB.out.trans (HB2.out.mono (by omega))
          go_wp2_with fail
          go_ret2
          exact ⟨ret_w HZ2.out, by first | exact hbf | (rw [hmb]; exact hbf)⟩
end Go.Proofs.YtocgindpjjolpaaGreatDoor
