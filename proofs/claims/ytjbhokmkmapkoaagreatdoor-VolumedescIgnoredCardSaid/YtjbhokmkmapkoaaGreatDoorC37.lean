/- Contracts and plain words for the laws of volume descriptors, part 37: A3. No condition. -/
import Derived.Test.YtjbhokmkmapkoaaGreatDoorC36
namespace Go.Proofs.YtjbhokmkmapkoaaGreatDoor
set_option linter.unusedSimpArgs false
set_option linter.unusedVariables false
open Go.RowKit
open Go.PlainAid (bt get_bt bt_nonneg bt_le bt_end)
theorem strInfo : (Tryz.prog.info? 9).map (fun i => (i.zero, i.size, i.bytes)) = some (some (.string ByteArray.empty), 1, 16) := by kernel_rfl
theorem make_img (n : Nat) (hn : n ≤ 1000) (W : World) : (Instr.makeSlice 41 (.int .i64 (n : Int)) (.int .i64 (n : Int))).run Tryz.prog W = .ok (.slice (some ⟨W.heap.size, 0, none⟩) n n) (W.alloc (.cells (madeCells #[.string ByteArray.empty] n) 9)) :=
  run_make_row' (P := Tryz.prog) 41 9 (.string ByteArray.empty) 16 Tryz.underlying41 strInfo rfl .i64 .i64 n (by omega) (by omega) W
theorem made_img (n : Nat) : (madeCells #[.string ByteArray.empty] n).toList = (List.replicate n (⟨#[]⟩ : ByteArray)).map Value.string := by
  apply List.ext_getElem
  · rw [Array.length_toList, size_madeCells]; simp
  · intro i h1 h2
    simp [madeCells, Nat.mod_one]
    rfl
theorem ReadsS.of {w : World} {B : Nat} {v : Value} {L : List ByteArray} (h : w.ownsRow B 9 1 v L.length (L.map Value.string)) : ReadsS w v L := by
  rcases Go.Joins.ownsRow_forms h with ⟨rfl, h0⟩ | ⟨g, cap, rfl⟩
  · exact ⟨none, 0, by rw [h0], fun h1 => by omega⟩
  · refine ⟨_, _, rfl, fun _ => ⟨g, 0, rfl, (h.lt g rfl).2, fun j n hn => ?_⟩⟩
    have hj := (List.getElem?_eq_some_iff.1 hn).1
    rw [Nat.zero_add, h.cellAt j (by omega), List.getElem?_map, hn]
    rfl
def two27 (P B : DR) : Array Value := P.cells ++ B.cells
theorem lit2a (P : DR) : Array.foldl (fun (cs : Array Value) (x : Value × Nat) => cs.setIfInBounds x.snd x.fst) #[.int .i64 0, .int .i64 0, .string ⟨#[]⟩, .string ⟨#[]⟩, .string ⟨#[]⟩, .string ⟨#[]⟩, .string ⟨#[]⟩, .int .i64 0, .int .i64 0, .int .i64 0, .int .i64 0, .int .i64 0, .int .i64 0, .int .i64 0, .int .i64 0, .string ⟨#[]⟩, .int .i64 0, .int .i64 0, .int .i64 0, .int .i64 0, .int .i64 0, .int .i64 0, .string ⟨#[]⟩, .int .i64 0, .int .i64 0, .string ⟨#[]⟩, .string ⟨#[]⟩, .string ⟨#[]⟩, .string ⟨#[]⟩, .string ⟨#[]⟩, .int .i64 0, .int .i64 0, .int .i64 0, .int .i64 0, .int .i64 0, .int .i64 0, .int .i64 0, .int .i64 0, .string ⟨#[]⟩, .int .i64 0, .int .i64 0, .int .i64 0, .int .i64 0, .int .i64 0, .int .i64 0, .string ⟨#[]⟩] P.cells.zipIdx 0 23 = two27 P DR.zero := by kernel_rfl
theorem lit2b (P B : DR) : Array.foldl (fun (cs : Array Value) (x : Value × Nat) => cs.setIfInBounds (23 + x.snd) x.fst) (two27 P DR.zero) B.cells.zipIdx 0 23 = two27 P B := by kernel_rfl
theorem two_sz (P B : DR) : (two27 P B).size = 46 := by kernel_rfl
theorem two_reads (w : World) (P B : DR) : ReadsD (w.alloc (.cells (two27 P B) 27)) (.slice (some ⟨w.heap.size, 0, none⟩) 2 2) [P, B] :=
  ⟨_, _, rfl, fun _ => ⟨w.heap.size, 0, rfl, by rw [World.size_alloc]; omega, fun j u hu => by
    rw [Nat.zero_add, World.cell?_alloc_new]
    unfold two27
    have e : descV [P, B] = (P.cells ++ B.cells).toList := by simp [descV]
    rw [e] at hu
    rw [← Array.getElem?_toList]
    exact hu⟩⟩
theorem shortB : ShortD exB := short_of (by decide +kernel)
theorem shortT : ShortD exT := short_of (by decide +kernel)
set_option maxRecDepth 100000 in
set_option maxHeartbeats 8000000 in
theorem awake_any (w : World) (hT : TabD w) : Calls Tryz.prog 11 #[] w fun e w' => e = .returned (.bool true) ∧ Below w.heap.size w w' := by
  obtain ⟨s, u, en, es, eu, ee, H⟩ := ex_all
  obtain ⟨zs, zu, ze, ds, hd, nm, cu, te, rd, df, dg⟩ := H
  rw [zs] at dg
  have EP : Hid (∀ W, TabD W → Calls Tryz.prog 13 #[.agg exP.cells] W fun e w' => e = .returned (.tuple #[.string s, .int .i64 0]) ∧ Below W.heap.size W w') := hide (fun W hW => by have h := enc_any exP shortP W hW; rw [es, chkP] at h; exact h)
  have EB : Hid (∀ W, TabD W → Calls Tryz.prog 13 #[.agg exB.cells] W fun e w' => e = .returned (.tuple #[.string u, .int .i64 0]) ∧ Below W.heap.size W w') := hide (fun W hW => by have h := enc_any exB shortB W hW; rw [eu, chkB] at h; exact h)
  have ET : Hid (∀ W, TabD W → Calls Tryz.prog 13 #[.agg exT.cells] W fun e w' => e = .returned (.tuple #[.string en, .int .i64 0]) ∧ Below W.heap.size W w') := hide (fun W hW => by have h := enc_any exT shortT W hW; rw [ee, chkT] at h; exact h)
  have DS' : Hid (∀ W, TabD W → Calls Tryz.prog 17 #[.string s] W fun e w' => e = .returned (.tuple #[.agg exP.cells, .int .i64 0]) ∧ Below W.heap.size W w') := hide (fun W hW => by have h := dec_any s (by omega) W hW; unfold DecDP at h; rw [ds] at h; exact h)
  have CK : Hid (∀ W, TabD W → Calls Tryz.prog 15 #[.agg exP.cells] W fun e w' => e = .returned (.int .i64 0) ∧ Below W.heap.size W w') := hide (fun W hW => by have h := check_any exP shortP W hW; rw [chkP] at h; exact h)
  have DF : Hid (∀ W, Calls Tryz.prog 20 #[.string s] W fun e w' => (∃ v, e = .returned v ∧ ReadsN w' v []) ∧ Below W.heap.size W w') := hide (fun W => (differ_any s (by omega) W).mono fun e w' h => by
    obtain ⟨v, h1, h2, h3⟩ := h
    rw [df] at h2
    exact ⟨⟨v, h1, ReadsN.of h2⟩, h3⟩)
  have DG : Hid (∀ W, Calls Tryz.prog 20 #[.string (s.extract 0 80 ++ ⟨#[0]⟩ ++ s.extract 81 2048)] W fun e w' => (∃ v, e = .returned v ∧ ReadsN w' v [80]) ∧ Below W.heap.size W w') := hide (fun W => (differ_any _ (by simp only [ByteArray.size_append, ByteArray.size_extract]; show _ + 1 + _ ≤ _; omega) W).mono fun e w' h => by
    obtain ⟨v, h1, h2, h3⟩ := h
    rw [dg] at h2
    exact ⟨⟨v, h1, ReadsN.of h2⟩, h3⟩)
  have RDX : Hid (∀ (a : Value) (W : World), ReadsS W a (List.replicate 16 ⟨#[]⟩ ++ [s, u, en]) → TabD W → Calls Tryz.prog 23 #[a, .int .i64 0] W fun e w' => (∃ v, e = .returned (.tuple #[v, .int .i64 0, .int .i64 0]) ∧ ReadsD w' v [exP, exB]) ∧ Below W.heap.size W w') := hide (fun a W ha hW => (read_any _ 0 a (by simp [maxLen]) (by omega) W ha hW).mono fun e w' h => by
    obtain ⟨v, h1, h2, h3⟩ := h
    rw [rd] at h1 h2
    exact ⟨⟨v, h1, OwnD.reads h2⟩, h3⟩)
  have HD := hide hd
  have HN := hide nm
  have HCU := hide cu
  have HTE := hide te
  have HZ := hide (And.intro zs (And.intro zu ze))
  clear es eu ee ds rd df dg hd nm cu te zs zu ze
  have HL : Live w [] := trivial
  go_enter Tryz.func11, Tryz.ntmps11
  go_upto_region 1 with fail
  go_upto_region 2 with (first | (go_at_call 26; refine (example_any _).mono ?_; rintro e w1 ⟨rfl, hb1⟩) | (refine wpList_store_row rfl 27 (.tmp 1) (.tmp 17) rfl w1.heap.size exP.cells rfl rfl 27 _ (show Blk _ w1.heap.size DR.zero.cells 27 from (Blk.newAt rfl).alloc _) (info27 _) (size27 _ _) (one27 _) ?_) | (refine wpList_store_row rfl 27 (.tmp 2) (.tmp 18) rfl (w1.heap.size + 1) exB.cells rfl rfl 27 _ (show Blk _ (w1.heap.size + 1) DR.zero.cells 27 from Blk.row (C := exP.cells) (by omega) (Blk.newAt (by simp only [World.size_alloc]))) (info27 _) (size27 _ _) (one27 _) ?_))
  have HP := hide (show Blk ((((w1.alloc (.cells #[.int .i64 0, .int .i64 0, .string ⟨#[]⟩, .string ⟨#[]⟩, .string ⟨#[]⟩, .string ⟨#[]⟩, .string ⟨#[]⟩, .int .i64 0, .int .i64 0, .int .i64 0, .int .i64 0, .int .i64 0, .int .i64 0, .int .i64 0, .int .i64 0, .string ⟨#[]⟩, .int .i64 0, .int .i64 0, .int .i64 0, .int .i64 0, .int .i64 0, .int .i64 0, .string ⟨#[]⟩] 27)).alloc (.cells #[.int .i64 0, .int .i64 0, .string ⟨#[]⟩, .string ⟨#[]⟩, .string ⟨#[]⟩, .string ⟨#[]⟩, .string ⟨#[]⟩, .int .i64 0, .int .i64 0, .int .i64 0, .int .i64 0, .int .i64 0, .int .i64 0, .int .i64 0, .int .i64 0, .string ⟨#[]⟩, .int .i64 0, .int .i64 0, .int .i64 0, .int .i64 0, .int .i64 0, .int .i64 0, .string ⟨#[]⟩] 27)).setRow w1.heap.size exP.cells).setRow (w1.heap.size + 1) exB.cells) w1.heap.size exP.cells 27 from Blk.row (by omega) (Blk.setRow (show Blk ((w1.alloc (.cells #[.int .i64 0, .int .i64 0, .string ⟨#[]⟩, .string ⟨#[]⟩, .string ⟨#[]⟩, .string ⟨#[]⟩, .string ⟨#[]⟩, .int .i64 0, .int .i64 0, .int .i64 0, .int .i64 0, .int .i64 0, .int .i64 0, .int .i64 0, .int .i64 0, .string ⟨#[]⟩, .int .i64 0, .int .i64 0, .int .i64 0, .int .i64 0, .int .i64 0, .int .i64 0, .string ⟨#[]⟩] 27)).alloc (.cells #[.int .i64 0, .int .i64 0, .string ⟨#[]⟩, .string ⟨#[]⟩, .string ⟨#[]⟩, .string ⟨#[]⟩, .string ⟨#[]⟩, .int .i64 0, .int .i64 0, .int .i64 0, .int .i64 0, .int .i64 0, .int .i64 0, .int .i64 0, .int .i64 0, .string ⟨#[]⟩, .int .i64 0, .int .i64 0, .int .i64 0, .int .i64 0, .int .i64 0, .int .i64 0, .string ⟨#[]⟩] 27)) w1.heap.size DR.zero.cells 27 from (Blk.newAt rfl).alloc _)))
  have HB := hide (show Blk ((((w1.alloc (.cells #[.int .i64 0, .int .i64 0, .string ⟨#[]⟩, .string ⟨#[]⟩, .string ⟨#[]⟩, .string ⟨#[]⟩, .string ⟨#[]⟩, .int .i64 0, .int .i64 0, .int .i64 0, .int .i64 0, .int .i64 0, .int .i64 0, .int .i64 0, .int .i64 0, .string ⟨#[]⟩, .int .i64 0, .int .i64 0, .int .i64 0, .int .i64 0, .int .i64 0, .int .i64 0, .string ⟨#[]⟩] 27)).alloc (.cells #[.int .i64 0, .int .i64 0, .string ⟨#[]⟩, .string ⟨#[]⟩, .string ⟨#[]⟩, .string ⟨#[]⟩, .string ⟨#[]⟩, .int .i64 0, .int .i64 0, .int .i64 0, .int .i64 0, .int .i64 0, .int .i64 0, .int .i64 0, .int .i64 0, .string ⟨#[]⟩, .int .i64 0, .int .i64 0, .int .i64 0, .int .i64 0, .int .i64 0, .int .i64 0, .string ⟨#[]⟩] 27)).setRow w1.heap.size exP.cells).setRow (w1.heap.size + 1) exB.cells) (w1.heap.size + 1) exB.cells 27 from Blk.setRow (Blk.row (C := exP.cells) (by omega) (show Blk ((w1.alloc (.cells #[.int .i64 0, .int .i64 0, .string ⟨#[]⟩, .string ⟨#[]⟩, .string ⟨#[]⟩, .string ⟨#[]⟩, .string ⟨#[]⟩, .int .i64 0, .int .i64 0, .int .i64 0, .int .i64 0, .int .i64 0, .int .i64 0, .int .i64 0, .int .i64 0, .string ⟨#[]⟩, .int .i64 0, .int .i64 0, .int .i64 0, .int .i64 0, .int .i64 0, .int .i64 0, .string ⟨#[]⟩] 27)).alloc (.cells #[.int .i64 0, .int .i64 0, .string ⟨#[]⟩, .string ⟨#[]⟩, .string ⟨#[]⟩, .string ⟨#[]⟩, .string ⟨#[]⟩, .int .i64 0, .int .i64 0, .int .i64 0, .int .i64 0, .int .i64 0, .int .i64 0, .int .i64 0, .int .i64 0, .string ⟨#[]⟩, .int .i64 0, .int .i64 0, .int .i64 0, .int .i64 0, .int .i64 0, .int .i64 0, .string ⟨#[]⟩] 27)) (w1.heap.size + 1) DR.zero.cells 27 from Blk.newAt (by simp only [World.size_alloc]))))
  have hbel : Below w.heap.size w ((((w1.alloc (.cells #[.int .i64 0, .int .i64 0, .string ⟨#[]⟩, .string ⟨#[]⟩, .string ⟨#[]⟩, .string ⟨#[]⟩, .string ⟨#[]⟩, .int .i64 0, .int .i64 0, .int .i64 0, .int .i64 0, .int .i64 0, .int .i64 0, .int .i64 0, .int .i64 0, .string ⟨#[]⟩, .int .i64 0, .int .i64 0, .int .i64 0, .int .i64 0, .int .i64 0, .int .i64 0, .string ⟨#[]⟩] 27)).alloc (.cells #[.int .i64 0, .int .i64 0, .string ⟨#[]⟩, .string ⟨#[]⟩, .string ⟨#[]⟩, .string ⟨#[]⟩, .string ⟨#[]⟩, .int .i64 0, .int .i64 0, .int .i64 0, .int .i64 0, .int .i64 0, .int .i64 0, .int .i64 0, .int .i64 0, .string ⟨#[]⟩, .int .i64 0, .int .i64 0, .int .i64 0, .int .i64 0, .int .i64 0, .int .i64 0, .string ⟨#[]⟩] 27)).setRow w1.heap.size exP.cells).setRow (w1.heap.size + 1) exB.cells) := below_setRow' (below_setRow' ((hb1.alloc hb1.size _).alloc (hb1.alloc hb1.size _).size _) hb1.size _) (by have := hb1.size; omega) _
  generalize (((w1.alloc (.cells #[.int .i64 0, .int .i64 0, .string ⟨#[]⟩, .string ⟨#[]⟩, .string ⟨#[]⟩, .string ⟨#[]⟩, .string ⟨#[]⟩, .int .i64 0, .int .i64 0, .int .i64 0, .int .i64 0, .int .i64 0, .int .i64 0, .int .i64 0, .int .i64 0, .string ⟨#[]⟩, .int .i64 0, .int .i64 0, .int .i64 0, .int .i64 0, .int .i64 0, .int .i64 0, .string ⟨#[]⟩] 27)).alloc (.cells #[.int .i64 0, .int .i64 0, .string ⟨#[]⟩, .string ⟨#[]⟩, .string ⟨#[]⟩, .string ⟨#[]⟩, .string ⟨#[]⟩, .int .i64 0, .int .i64 0, .int .i64 0, .int .i64 0, .int .i64 0, .int .i64 0, .int .i64 0, .int .i64 0, .string ⟨#[]⟩, .int .i64 0, .int .i64 0, .int .i64 0, .int .i64 0, .int .i64 0, .int .i64 0, .string ⟨#[]⟩] 27)).setRow w1.heap.size exP.cells).setRow (w1.heap.size + 1) exB.cells = W2 at *
  obtain ⟨q, hq⟩ : ∃ q, q = w1.heap.size + 1 := ⟨_, rfl⟩
  rw [← hq] at HB ⊢
  generalize w1.heap.size = p at *
  clear hb1 hq
  have hT2 := hT.below hbel
  go_upto_region 3 with (first | (refine wpList_load_row rfl 27 (.tmp 1) rfl p rfl 27 exP.cells (0, 0) _ HP.out Tryz.underlying27 rfl (info27 _) ?_) | (go_at_call 13; refine (EP.out _ hT2).mono ?_; rintro e w3 ⟨rfl, hb3⟩))
  have HP3 := hide (Blk.below hb3 HP.out)
  have HB3 := hide (Blk.below hb3 HB.out)
  have hbel3 := hbel.trans (hb3.mono hbel.size)
  have hT3 := hT.below hbel3
  clear hb3 HP HB hbel hT2 EP
  go_upto_region 4 with (first | (refine wpList_load_row rfl 27 (.tmp 2) rfl q rfl 27 exB.cells (0, 0) _ HB3.out Tryz.underlying27 rfl (info27 _) ?_) | (go_at_call 13; refine (EB.out _ hT3).mono ?_; rintro e w4 ⟨rfl, hb4⟩))
  have HP4 := hide (Blk.below hb4 HP3.out)
  have HB4 := hide (Blk.below hb4 HB3.out)
  have hbel4 := hbel3.trans (hb4.mono hbel3.size)
  have hT4 := hT.below hbel4
  clear hb4 HP3 HB3 hbel3 hT3 EB
  go_upto_region 5 with (go_at_call 13; refine (ET.out _ hT4).mono ?_; rintro e w5 ⟨rfl, hb5⟩)
  have HP5 := hide (Blk.below hb5 HP4.out)
  have HB5 := hide (Blk.below hb5 HB4.out)
  have hbel5 := hbel4.trans (hb5.mono hbel4.size)
  have hT5 := hT.below hbel5
  clear hb5 HP4 HB4 hbel4 hT4 ET
  go_upto_region 6 with (first | (go_at_call 17; refine (DS'.out _ hT5).mono ?_; rintro e w6 ⟨rfl, hb6⟩) | (refine wpList_store_new rfl 27 (.tmp 9) (.tmp 37) rfl exP.cells rfl rfl 27 _ (info27 _) (siz27 _) (one27 _) ?_))
  have HX6 := hide (show Blk (w6.alloc (.cells exP.cells 27)) w6.heap.size exP.cells 27 from Blk.newAt rfl)
  have HP6 := hide ((Blk.below hb6 HP5.out).alloc (.cells exP.cells 27))
  have HB6 := hide ((Blk.below hb6 HB5.out).alloc (.cells exP.cells 27))
  have hbel6 := (hbel5.trans (hb6.mono hbel5.size)).alloc (hbel5.trans (hb6.mono hbel5.size)).size (.cells exP.cells 27)
  have hT6 := hT.below hbel6
  generalize w6.alloc (.cells exP.cells 27) = W6 at *
  generalize w6.heap.size = x at *
  clear hb6 HP5 HB5 hbel5 hT5 DS'
  obtain ⟨i1, hi, hz0, hz1, hz2⟩ := info_parts strInfo
  have hmk : (Instr.makeSlice 41 (.int .i64 16) (.int .i64 16)).run Tryz.prog W6 = .ok (.slice (some ⟨W6.heap.size, 0, none⟩) 16 16) (W6.alloc (.cells (madeCells #[.string ByteArray.empty] 16) 9)) := make_img 16 (by omega) W6
  have HR := hide (show (W6.alloc (.cells (madeCells #[.string ByteArray.empty] 16) 9)).ownsRow w.heap.size 9 1 (.slice (some ⟨W6.heap.size, 0, none⟩) 16 16) 16 ((List.replicate 16 (⟨#[]⟩ : ByteArray)).map Value.string) from by
    rw [← made_img]
    exact World.ownsRow_lit W6 _ 16 hbel6.size (by decide) (by rw [size_madeCells]))
  have hbel7 := hbel6.alloc hbel6.size (.cells (madeCells #[.string ByteArray.empty] 16) 9)
  have HX7 := hide (HX6.out.alloc (.cells (madeCells #[.string ByteArray.empty] 16) 9))
  have HP7 := hide (HP6.out.alloc (.cells (madeCells #[.string ByteArray.empty] 16) 9))
  have HB7 := hide (HB6.out.alloc (.cells (madeCells #[.string ByteArray.empty] 16) 9))
  have lX := HX7.out.lt
  have lP := HP7.out.lt
  have lB := HB7.out.lt
  have eW : (W6.alloc (.cells (madeCells #[.string ByteArray.empty] 16) 9)) = (W6.alloc (.cells (madeCells #[.string ByteArray.empty] 16) 9)) := rfl
  have hn3 : ((W6.alloc (.cells (madeCells #[.string ByteArray.empty] 16) 9)).alloc (.cells #[.string s, .string u, .string en] 9)).heap[W6.heap.size + 1]? = some (.cells #[.string s, .string u, .string en] 9 (0, 0)) := by
    have h := heap_alloc_new (W6.alloc (.cells (madeCells #[.string ByteArray.empty] 16) 9)) (.cells #[.string s, .string u, .string en] 9)
    rwa [World.size_alloc] at h
  have hbel7' := hbel7.alloc hbel7.size (.cells #[.string s, .string u, .string en] 9)
  have HX7' := hide (HX7.out.alloc (.cells #[.string s, .string u, .string en] 9))
  have HP7' := hide (HP7.out.alloc (.cells #[.string s, .string u, .string en] 9))
  have HB7' := hide (HB7.out.alloc (.cells #[.string s, .string u, .string en] 9))
  have lX6 := HX6.out.lt
  have lP6 := HP6.out.lt
  have lB6 := HB6.out.lt
  have lX7 := HX7'.out.lt
  have lP7 := HP7'.out.lt
  have lB7 := HB7'.out.lt
  clear eW lX lP lB
  go_upto_region 7 with (at_builtin; refine wpList_append_own _ rfl _ _ 41 rfl w.heap.size 9 i1 (.string ByteArray.empty) 1 16 Tryz.underlying41 hi hz0 hz1 hz2 rfl (by decide) _ 16 _ rfl (World.ownsRow.alloc HR.out _) ⟨W6.heap.size + 1, 0, none⟩ 3 3 [.string s, .string u, .string en] rfl rfl (World.news_of_block (cs := #[.string s, .string u, .string en]) (t := 9) (fr := (0, 0)) hn3) (by simp [Value.oneCell']) (by decide) (by omega) hbel7'.size ?_; intro v8 W8 hown8 hgrow8 _)
  have hbel8 : Below w.heap.size w W8 := hbel7'.grown hgrow8 hbel7'.size (fun k hk => ((World.ownsRow.alloc HR.out (.cells #[.string s, .string u, .string en] 9)).lt k hk).1)
  have hx8 : Blk W8 x exP.cells 27 := by
    show W8.heap[x]? = _
    rw [hgrow8.block x lX7 (fun e => by first | (have e2 : W6.heap.size = x := Option.some.inj e; omega) | (have e2 : x = W6.heap.size := Option.some.inj e; omega))]
    exact HX7'.out
  have hp8 : Blk W8 p exP.cells 27 := by
    show W8.heap[p]? = _
    rw [hgrow8.block p lP7 (fun e => by first | (have e2 : W6.heap.size = p := Option.some.inj e; omega) | (have e2 : p = W6.heap.size := Option.some.inj e; omega))]
    exact HP7'.out
  have hq8 : Blk W8 q exB.cells 27 := by
    show W8.heap[q]? = _
    rw [hgrow8.block q lB7 (fun e => by first | (have e2 : W6.heap.size = q := Option.some.inj e; omega) | (have e2 : q = W6.heap.size := Option.some.inj e; omega))]
    exact HB7'.out
  have HS8 := hide (ReadsS.of (L := List.replicate 16 ⟨#[]⟩ ++ [s, u, en]) hown8)
  have HX8 := hide hx8
  have HP8 := hide hp8
  have HB8 := hide hq8
  have hT8 := hT.below hbel8
  clear hown8 hgrow8 hbel7' HX7' HP7' HB7' hn3 HR hmk HX7 HP7 HB7 HX6 HP6 HB6 hbel7 hbel6 hT6 lX6 lP6 lB6 lX7 lP7 lB7 hx8 hp8 hq8 hi hz0 hz1 hz2
  go_upto_region 8 with (go_at_call 23; refine (RDX.out v8 _ HS8.out hT8).mono ?_; rintro e w9 ⟨⟨v9, rfl, hv9⟩, hb9⟩)
  have HV9 := hide hv9
  have HX9 := hide (Blk.below hb9 HX8.out)
  have HP9 := hide (Blk.below hb9 HP8.out)
  have HB9 := hide (Blk.below hb9 HB8.out)
  have hbel9 := hbel8.trans (hb9.mono hbel8.size)
  have hT9 := hT.below hbel9
  clear hv9 hb9 HX8 HP8 HB8 HS8 hbel8 hT8 RDX
  obtain ⟨zs, zu, ze⟩ := HZ.out
  have zsI : (s.size : Int) = 2048 := by omega
  have zuI : (u.size : Int) = 2048 := by omega
  have zeI : (en.size : Int) = 2048 := by omega
  have z12 : 12 ≤ s.size := by omega
  have z48 : 48 ≤ s.size := by omega
  have z71 : 71 < u.size := by omega
  have z0 : 0 < en.size := by omega
  have hbu := get_bt u
  have hbe := get_bt en
  have hcu := HCU.out
  have hte := HTE.out
  have hh := HD.out
  have hn := HN.out
  have NE : ∀ W, (binOp .neq 27 (.agg exP.cells) (.agg exP.cells)).run Tryz.prog W = .ok (.bool false) W := fun W => by have h := neqD exP exP W; rwa [decide_eq_true rfl] at h
  go_upto_region 10 with (first | (refine wpList_load_rowG 27 (.tmp 9) rfl rfl x rfl 27 exP.cells (0, 0) _ HX9.out Tryz.underlying27 rfl (info27 _) ?_) | (refine wpList_load_rowG 27 (.tmp 1) rfl rfl p rfl 27 exP.cells (0, 0) _ HP9.out Tryz.underlying27 rfl (info27 _) ?_))
  clear hbu hbe hcu hte hh hn NE zsI zuI zeI z12 z71 z0
  have z80 : 80 ≤ s.size := by omega
  have z81 : 81 ≤ s.size := by omega
  have hsP := sz27 exP
  have hsB := sz27 exB
  have SM : Hid (∀ (b : Value) (W : World), ReadsD W v9 [exP, exB] → ReadsD W b [exP, exB] → Calls Tryz.prog 25 #[v9, b] W fun e w' => e = .returned (.bool true) ∧ Below W.heap.size W w') := hide (fun b W h1 h2 => (rsame_any [exP, exB] [exP, exB] v9 b (by simp) (by simp) W h1 h2))
  have EQ : Hid (∀ (a b : Value) (W : World), ReadsN W a [80] → ReadsN W b [80] → Calls Tryz.prog 19 #[a, b] W fun e w' => e = .returned (.bool true) ∧ Below W.heap.size W w') := hide (fun a b W h1 h2 => (equal_any [80] [80] a b (by simp) (by simp) W h1 h2))
  have e1 := lit2a exP
  have e2 := lit2b exP exB
  have e3 := two_sz exP DR.zero
  have hkeep9 : Blk w9 p exP.cells 27 ∧ Blk w9 q exB.cells 27 := ⟨HP9.out, HB9.out⟩
  have gA : Blk (w9.alloc (.cells (two27 exP exB) 27)).drew p exP.cells 27 ∧ Blk (w9.alloc (.cells (two27 exP exB) 27)).drew q exB.cells 27 := ⟨HP9.out.alloc _, HB9.out.alloc _⟩
  have rA : ReadsD (w9.alloc (.cells (two27 exP exB) 27)).drew v9 [exP, exB] := HV9.out.below ((Below.refl w9.heap.size w9).alloc (Nat.le_refl _) (.cells (two27 exP exB) 27)).drew
  have rB : ReadsD (w9.alloc (.cells (two27 exP exB) 27)).drew (.slice (some ⟨w9.heap.size, 0, none⟩) 2 2) [exP, exB] := two_reads w9 exP exB
  have hbelA : Below w.heap.size w (w9.alloc (.cells (two27 exP exB) 27)).drew := (hbel9.alloc hbel9.size (.cells (two27 exP exB) 27)).drew
  have hkeep9d : Blk w9.drew p exP.cells 27 ∧ Blk w9.drew q exB.cells 27 := ⟨HP9.out, HB9.out⟩
  refine wp_region_noPanic ?_
  refine wp_region_held_drew (S := (fun z => Blk z p exP.cells 27 ∧ Blk z q exB.cells 27)) (by kernel_rfl) kp (fun hHeld => ?_)
  refine tkY 0 ⟨some 105, .move (.tmp 14), 30, "law.go:29", #[], none⟩ ?_ ?_ ?_
  rotate_left
  · intro w hSw; (try dsimp only at hSw); go_simp; (try with_reducible rfl)
  try simp only [PT]
  refine tkY 1 ⟨some 106, .binOp .eql 30 (.tmp 105) (.const (.int .i64 0)) 30, 4, "law.go:29", #[⟨0, .data⟩], none⟩ ?_ ?_ ?_
  rotate_left
  · intro w hSw; (try dsimp only at hSw); go_simp; (try with_reducible rfl)
  try simp only [PT]
  refine tkY 2 ⟨some 107, .move (.tmp 106), 4, "law.go:29", #[⟨1, .data⟩], none⟩ ?_ ?_ ?_
  rotate_left
  · intro w hSw; (try dsimp only at hSw); go_simp; (try with_reducible rfl)
  try simp only [PT]
  refine tkY 3 ⟨some 108, .move (.tmp 13), 3, "law.go:29", #[⟨2, .guard⟩], some (2, true)⟩ ?_ ?_ ?_
  rotate_left
  · intro w hSw; (try dsimp only at hSw); go_simp; (try with_reducible rfl)
  try simp only [PT]
  refine tkY 4 ⟨some 109, .binOp .eql 3 (.tmp 108) (.const (.int .i64 0)) 3, 4, "law.go:29", #[⟨3, .data⟩, ⟨2, .guard⟩], some (2, true)⟩ ?_ ?_ ?_
  rotate_left
  · intro w hSw; (try dsimp only at hSw); go_simp; (try with_reducible rfl)
  try simp only [PT]
  refine tkY 5 ⟨some 110, .pick (.tmp 107) (.tmp 109) (.const (.bool false)), 4, "law.go:29", #[⟨2, .data⟩, ⟨4, .data⟩], none⟩ ?_ ?_ ?_
  rotate_left
  · intro w hSw; (try dsimp only at hSw); go_simp; (try with_reducible rfl)
  try simp only [PT]
  refine tkY 6 ⟨some 111, .move (.tmp 110), 4, "law.go:29", #[⟨5, .data⟩, ⟨2, .chain⟩], none⟩ ?_ ?_ ?_
  rotate_left
  · intro w hSw; (try dsimp only at hSw); go_simp; (try with_reducible rfl)
  try simp only [PT]
  refine tkY 7 ⟨some 112, .move (.tmp 12), 43, "law.go:29", #[⟨6, .guard⟩], some (6, true)⟩ ?_ ?_ ?_
  rotate_left
  · intro w hSw; (try dsimp only at hSw); go_simp; (try with_reducible rfl)
  try simp only [PT]
  refine tkY 8 ⟨some 113, .load 27 (.tmp 1), 27, "law.go:29", #[⟨6, .guard⟩], some (6, true)⟩ ?_ ?_ ?_
  rotate_left
  · intro w hSw; (try dsimp only at hSw); refine (exec_load_row 27 (.tmp 1) (by rfl) p (by rfl) 27 exP.cells (0, 0) _ hSw.1 Tryz.underlying27 (by rfl) (info27 _)).trans ?_; with_reducible rfl
  try simp only [PT]
  refine tkY 9 ⟨some 114, .load 27 (.tmp 2), 27, "law.go:29", #[⟨6, .guard⟩], some (6, true)⟩ ?_ ?_ ?_
  rotate_left
  · intro w hSw; (try dsimp only at hSw); refine (exec_load_row 27 (.tmp 2) (by rfl) q (by rfl) 27 exB.cells (0, 0) _ hSw.2 Tryz.underlying27 (by rfl) (info27 _)).trans ?_; with_reducible rfl
  try simp only [PT]
  refine wpAnyH_ready (rs := [10]) (by kernel_rfl) (by simp) ?_
  refine AllReadyH.cons (o := ⟨some 115, .buildSlice 43 2 #[(0, .tmp 113), (1, .tmp 114)], 43, "law.go:29", #[⟨8, .data⟩, ⟨9, .data⟩, ⟨6, .guard⟩], some (6, true)⟩) rfl (fun K hK => ?_) AllReadyH.nil
  go_simp
  refine hK.out _ _ kp (fun hHeld => ?_)
  clear hK K
  try simp only [PT]
  refine wpAnyH_ready (rs := [11]) (by kernel_rfl) (by simp) ?_
  refine AllReadyH.cons (o := ⟨some 116, .call ⟨.value (.func 25), #[.tmp 112, .tmp 115], #[43, 43]⟩, 4, "law.go:29", #[⟨7, .data⟩, ⟨10, .data⟩, ⟨6, .chain⟩, ⟨6, .guard⟩], some (6, true)⟩) rfl (fun K hK => ?_) AllReadyH.nil
  go_simp
  (go_at_call 25; (with_reducible refine Calls.mono (SM.out _ _ (by assumption) (by assumption)) ?_); rintro e w10 ⟨rfl, hb10⟩; have hkeep10 : Blk w10 p exP.cells 27 ∧ Blk w10 q exB.cells 27 := ⟨Blk.below hb10 gA.1, Blk.below hb10 gA.2⟩; have hbel10 := hbelA.trans (hb10.mono hbelA.size); have hT10 := hT.below hbel10)
  go_wp2_with fail
  refine hK.out _ _ kp (fun hHeld => ?_)
  clear hK K
  try simp only [PT]
  refine tkY 12 ⟨some 117, .pick (.tmp 111) (.tmp 116) (.const (.bool false)), 4, "law.go:29", #[⟨6, .data⟩, ⟨11, .data⟩], none⟩ ?_ ?_ ?_
  rotate_left
  · intro w hSw; (try dsimp only at hSw); go_simp; (try with_reducible rfl)
  try simp only [PT]
  refine tkY 13 ⟨some 118, .move (.tmp 117), 4, "law.go:29", #[⟨12, .data⟩, ⟨11, .chain⟩], none⟩ ?_ ?_ ?_
  rotate_left
  · intro w hSw; (try dsimp only at hSw); go_simp; (try with_reducible rfl)
  try simp only [PT]
  refine tkY 14 ⟨some 119, .load 27 (.tmp 1), 27, "law.go:29", #[⟨13, .guard⟩], some (13, true)⟩ ?_ ?_ ?_
  rotate_left
  · intro w hSw; (try dsimp only at hSw); refine (exec_load_row 27 (.tmp 1) (by rfl) p (by rfl) 27 exP.cells (0, 0) _ hSw.1 Tryz.underlying27 (by rfl) (info27 _)).trans ?_; with_reducible rfl
  try simp only [PT]
  refine wpAnyH_ready (rs := [15]) (by kernel_rfl) (by simp) ?_
  refine AllReadyH.cons (o := ⟨some 120, .call ⟨.value (.func 15), #[.tmp 119], #[27]⟩, 30, "law.go:29", #[⟨14, .data⟩, ⟨13, .chain⟩, ⟨13, .guard⟩], some (13, true)⟩) rfl (fun K hK => ?_) AllReadyH.nil
  go_simp
  (go_at_call 15; (with_reducible refine Calls.mono (CK.out _ (by assumption)) ?_); rintro e w11 ⟨rfl, hb11⟩; have hkeep11 : Blk w11 p exP.cells 27 ∧ Blk w11 q exB.cells 27 := ⟨Blk.below hb11 hkeep10.1, Blk.below hb11 hkeep10.2⟩; have hbel11 := hbel10.trans (hb11.mono hbel10.size))
  go_wp2_with fail
  refine hK.out _ _ kp (fun hHeld => ?_)
  clear hK K
  try simp only [PT]
  refine tkY 16 ⟨some 121, .binOp .eql 30 (.tmp 120) (.const (.int .i64 0)) 30, 4, "law.go:29", #[⟨15, .data⟩, ⟨13, .guard⟩], some (13, true)⟩ ?_ ?_ ?_
  rotate_left
  · intro w hSw; (try dsimp only at hSw); go_simp; (try with_reducible rfl)
  try simp only [PT]
  refine tkY 17 ⟨some 122, .pick (.tmp 118) (.tmp 121) (.const (.bool false)), 4, "law.go:29", #[⟨13, .data⟩, ⟨16, .data⟩], none⟩ ?_ ?_ ?_
  rotate_left
  · intro w hSw; (try dsimp only at hSw); go_simp; (try with_reducible rfl)
  try simp only [PT]
  refine tkY 18 ⟨some 123, .move (.tmp 122), 4, "law.go:29", #[⟨17, .data⟩, ⟨15, .chain⟩], none⟩ ?_ ?_ ?_
  rotate_left
  · intro w hSw; (try dsimp only at hSw); go_simp; (try with_reducible rfl)
  try simp only [PT]
  refine tkY 19 ⟨some 124, .move (.tmp 3), 9, "law.go:29", #[⟨18, .guard⟩], some (18, true)⟩ ?_ ?_ ?_
  rotate_left
  · intro w hSw; (try dsimp only at hSw); go_simp; (try with_reducible rfl)
  try simp only [PT]
  refine wpAnyH_ready (rs := [20]) (by kernel_rfl) (by simp) ?_
  refine AllReadyH.cons (o := ⟨some 125, .call ⟨.value (.func 20), #[.tmp 124], #[9]⟩, 37, "law.go:29", #[⟨19, .data⟩, ⟨18, .chain⟩, ⟨18, .guard⟩], some (18, true)⟩) rfl (fun K hK => ?_) AllReadyH.nil
  go_simp
  (first | (go_at_call 20; (with_reducible refine (DF.out _).mono ?_); rintro e w12 ⟨⟨v12, rfl, A12, c12, rfl, hx12⟩, hb12⟩; have hkeep12 : Blk w12 p exP.cells 27 ∧ Blk w12 q exB.cells 27 := ⟨Blk.below hb12 hkeep11.1, Blk.below hb12 hkeep11.2⟩; have hbel12 := hbel11.trans (hb12.mono hbel11.size); have gD : Blk (w12.alloc (.cells #[.int .i64 80] 3)) p exP.cells 27 ∧ Blk (w12.alloc (.cells #[.int .i64 80] 3)) q exB.cells 27 := ⟨hkeep12.1.alloc _, hkeep12.2.alloc _⟩; clear hx12) | (go_at_call 20; (with_reducible refine (DG.out _).mono ?_); rintro e w13 ⟨⟨v13, rfl, hv13⟩, hb13⟩; have hkeep13 : Blk w13 p exP.cells 27 ∧ Blk w13 q exB.cells 27 := (by first | exact ⟨Blk.below hb13 hkeep12.1, Blk.below hb13 hkeep12.2⟩ | exact ⟨Blk.below hb13 gD.1, Blk.below hb13 gD.2⟩); have hbel13 : Below w.heap.size w w13 := (by first | exact hbel12.trans (hb13.mono hbel12.size) | exact (hbel12.alloc hbel12.size _).trans (hb13.mono (hbel12.alloc hbel12.size _).size)); have gE : Blk (w13.alloc (.cells #[.int .i64 80] 3)) p exP.cells 27 ∧ Blk (w13.alloc (.cells #[.int .i64 80] 3)) q exB.cells 27 := ⟨hkeep13.1.alloc _, hkeep13.2.alloc _⟩; have rE1 : ReadsN (w13.alloc (.cells #[.int .i64 80] 3)) v13 [80] := hv13.below ((Below.refl w13.heap.size w13).alloc (Nat.le_refl _) _); have rE2 : ReadsN (w13.alloc (.cells #[.int .i64 80] 3)) (.slice (some ⟨w13.heap.size, 0, none⟩) 1 1) [80] := ReadsN.one w13 80; (try (have rE3 : ReadsN w13 (.slice (some ⟨w12.heap.size, 0, none⟩) 1 1) [80] := (ReadsN.one w12 80).below hb13))))
  go_wp2_with fail
  refine hK.out _ _ kp (fun hHeld => ?_)
  clear hK K
  try simp only [PT]
  refine wpAnyH_ready (rs := [21]) (by kernel_rfl) (by simp) ?_
  refine AllReadyH.cons (o := ⟨some 126, .call ⟨.builtin .len, #[.tmp 125], #[37]⟩, 3, "law.go:29", #[⟨20, .data⟩, ⟨18, .guard⟩], some (18, true)⟩) rfl (fun K hK => ?_) AllReadyH.nil
  go_simp
  refine hK.out _ _ kp (fun hHeld => ?_)
  clear hK K
  try simp only [PT]
  refine tkY 22 ⟨some 127, .binOp .eql 3 (.tmp 126) (.const (.int .i64 0)) 3, 4, "law.go:29", #[⟨21, .data⟩, ⟨18, .guard⟩], some (18, true)⟩ ?_ ?_ ?_
  rotate_left
  · intro w hSw; (try dsimp only at hSw); go_simp; (try with_reducible rfl)
  try simp only [PT]
  refine tkY 23 ⟨some 128, .pick (.tmp 123) (.tmp 127) (.const (.bool false)), 4, "law.go:29", #[⟨18, .data⟩, ⟨22, .data⟩], none⟩ ?_ ?_ ?_
  rotate_left
  · intro w hSw; (try dsimp only at hSw); go_simp; (try with_reducible rfl)
  try simp only [PT]
  refine tkY 24 ⟨some 129, .move (.tmp 128), 4, "law.go:29", #[⟨23, .data⟩, ⟨20, .chain⟩], none⟩ ?_ ?_ ?_
  rotate_left
  · intro w hSw; (try dsimp only at hSw); go_simp; (try with_reducible rfl)
  try simp only [PT]
  refine tkY 25 ⟨some 130, .move (.tmp 3), 9, "law.go:29", #[⟨24, .guard⟩], some (24, true)⟩ ?_ ?_ ?_
  rotate_left
  · intro w hSw; (try dsimp only at hSw); go_simp; (try with_reducible rfl)
  try simp only [PT]
  refine tkY 26 ⟨some 131, .slice 9 (.tmp 130) none (some (.const (.int .i64 80))) none, 9, "law.go:29", #[⟨25, .data⟩, ⟨24, .guard⟩], some (24, true)⟩ ?_ ?_ ?_
  rotate_left
  · intro w hSw; (try dsimp only at hSw); go_simp; (try with_reducible rfl)
  try simp only [PT]
  refine tkY 27 ⟨some 132, .binOp .add 9 (.tmp 131) (.const (.string { data := #[0] })) 9, 9, "law.go:29", #[⟨26, .data⟩, ⟨24, .guard⟩], some (24, true)⟩ ?_ ?_ ?_
  rotate_left
  · intro w hSw; (try dsimp only at hSw); go_simp; (try with_reducible rfl)
  try simp only [PT]
  refine tkY 28 ⟨some 133, .move (.tmp 3), 9, "law.go:29", #[⟨24, .guard⟩], some (24, true)⟩ ?_ ?_ ?_
  rotate_left
  · intro w hSw; (try dsimp only at hSw); go_simp; (try with_reducible rfl)
  try simp only [PT]
  refine tkY 29 ⟨some 134, .slice 9 (.tmp 133) (some (.const (.int .i64 81))) none none, 9, "law.go:29", #[⟨28, .data⟩, ⟨24, .guard⟩], some (24, true)⟩ ?_ ?_ ?_
  rotate_left
  · intro w hSw; (try dsimp only at hSw); go_simp; (try with_reducible rfl)
  try simp only [PT]
  refine tkY 30 ⟨some 135, .binOp .add 9 (.tmp 132) (.tmp 134) 9, 9, "law.go:29", #[⟨27, .data⟩, ⟨29, .data⟩, ⟨24, .guard⟩], some (24, true)⟩ ?_ ?_ ?_
  rotate_left
  · intro w hSw; (try dsimp only at hSw); go_simp; (try with_reducible rfl)
  try simp only [PT]
  refine wpAnyH_ready (rs := [31, 32]) (by kernel_rfl) (by simp) ?_
  refine AllReadyH.cons (o := ⟨some 136, .call ⟨.value (.func 20), #[.tmp 135], #[9]⟩, 37, "law.go:29", #[⟨30, .data⟩, ⟨24, .chain⟩, ⟨24, .guard⟩], some (24, true)⟩) rfl (fun K hK => ?_) (AllReadyH.cons (o := ⟨some 137, .buildSlice 37 1 #[(0, .const (.int .i64 80))], 37, "law.go:29", #[⟨24, .guard⟩], some (24, true)⟩) rfl (fun K hK => ?_) AllReadyH.nil)
  focus
    go_simp
    (first | (go_at_call 20; (with_reducible refine (DF.out _).mono ?_); rintro e w12 ⟨⟨v12, rfl, A12, c12, rfl, hx12⟩, hb12⟩; have hkeep12 : Blk w12 p exP.cells 27 ∧ Blk w12 q exB.cells 27 := ⟨Blk.below hb12 hkeep11.1, Blk.below hb12 hkeep11.2⟩; have hbel12 := hbel11.trans (hb12.mono hbel11.size); have gD : Blk (w12.alloc (.cells #[.int .i64 80] 3)) p exP.cells 27 ∧ Blk (w12.alloc (.cells #[.int .i64 80] 3)) q exB.cells 27 := ⟨hkeep12.1.alloc _, hkeep12.2.alloc _⟩; clear hx12) | (go_at_call 20; (with_reducible refine (DG.out _).mono ?_); rintro e w13 ⟨⟨v13, rfl, hv13⟩, hb13⟩; have hkeep13 : Blk w13 p exP.cells 27 ∧ Blk w13 q exB.cells 27 := (by first | exact ⟨Blk.below hb13 hkeep12.1, Blk.below hb13 hkeep12.2⟩ | exact ⟨Blk.below hb13 gD.1, Blk.below hb13 gD.2⟩); have hbel13 : Below w.heap.size w w13 := (by first | exact hbel12.trans (hb13.mono hbel12.size) | exact (hbel12.alloc hbel12.size _).trans (hb13.mono (hbel12.alloc hbel12.size _).size)); have gE : Blk (w13.alloc (.cells #[.int .i64 80] 3)) p exP.cells 27 ∧ Blk (w13.alloc (.cells #[.int .i64 80] 3)) q exB.cells 27 := ⟨hkeep13.1.alloc _, hkeep13.2.alloc _⟩; have rE1 : ReadsN (w13.alloc (.cells #[.int .i64 80] 3)) v13 [80] := hv13.below ((Below.refl w13.heap.size w13).alloc (Nat.le_refl _) _); have rE2 : ReadsN (w13.alloc (.cells #[.int .i64 80] 3)) (.slice (some ⟨w13.heap.size, 0, none⟩) 1 1) [80] := ReadsN.one w13 80; (try (have rE3 : ReadsN w13 (.slice (some ⟨w12.heap.size, 0, none⟩) 1 1) [80] := (ReadsN.one w12 80).below hb13))))
    go_wp2_with fail
    refine hK.out _ _ kp (fun hHeld => ?_)
    clear hK K
    try simp only [PT]
    refine wpAnyH_ready (rs := [32]) (by kernel_rfl) (by simp) ?_
    refine AllReadyH.cons (o := ⟨some 137, .buildSlice 37 1 #[(0, .const (.int .i64 80))], 37, "law.go:29", #[⟨24, .guard⟩], some (24, true)⟩) rfl (fun K hK => ?_) AllReadyH.nil
    go_simp
    refine hK.out _ _ kp (fun hHeld => ?_)
    clear hK K
    try simp only [PT]
    refine wpAnyH_ready (rs := [33]) (by kernel_rfl) (by simp) ?_
    refine AllReadyH.cons (o := ⟨some 138, .call ⟨.value (.func 19), #[.tmp 136, .tmp 137], #[37, 37]⟩, 4, "law.go:29", #[⟨31, .data⟩, ⟨32, .data⟩, ⟨31, .chain⟩, ⟨24, .guard⟩], some (24, true)⟩) rfl (fun K hK => ?_) AllReadyH.nil
    go_simp
    (go_at_call 19; (with_reducible refine Calls.mono (EQ.out _ _ _ (by assumption) (by assumption)) ?_); rintro e w14 ⟨rfl, hb14⟩; have hkeep14 : Blk w14 p exP.cells 27 ∧ Blk w14 q exB.cells 27 := (by first | exact ⟨Blk.below hb14 hkeep13.1, Blk.below hb14 hkeep13.2⟩ | exact ⟨Blk.below hb14 gE.1, Blk.below hb14 gE.2⟩); have hbel14 : Below w.heap.size w w14 := (by first | exact hbel13.trans (hb14.mono hbel13.size) | exact (hbel13.alloc hbel13.size _).trans (hb14.mono (hbel13.alloc hbel13.size _).size)))
    go_wp2_with fail
    refine hK.out _ _ kp (fun hHeld => ?_)
    clear hK K
    try simp only [PT]
    refine tkY 34 ⟨some 139, .pick (.tmp 129) (.tmp 138) (.const (.bool false)), 4, "law.go:29", #[⟨24, .data⟩, ⟨33, .data⟩], none⟩ ?_ ?_ ?_
    rotate_left
    · intro w hSw; (try dsimp only at hSw); go_simp; (try with_reducible rfl)
    try simp only [PT]
    refine tkY 35 ⟨some 0, .assign (.tmp 139), 4, "law.go:29", #[⟨34, .data⟩, ⟨33, .chain⟩, ⟨0, .phase⟩, ⟨1, .phase⟩, ⟨2, .phase⟩, ⟨3, .phase⟩, ⟨4, .phase⟩, ⟨5, .phase⟩, ⟨6, .phase⟩, ⟨7, .phase⟩, ⟨8, .phase⟩, ⟨9, .phase⟩, ⟨10, .phase⟩, ⟨11, .phase⟩, ⟨12, .phase⟩, ⟨13, .phase⟩, ⟨14, .phase⟩, ⟨15, .phase⟩, ⟨16, .phase⟩, ⟨17, .phase⟩, ⟨18, .phase⟩, ⟨19, .phase⟩, ⟨20, .phase⟩, ⟨21, .phase⟩, ⟨22, .phase⟩, ⟨23, .phase⟩, ⟨24, .phase⟩, ⟨25, .phase⟩, ⟨26, .phase⟩, ⟨27, .phase⟩, ⟨28, .phase⟩, ⟨29, .phase⟩, ⟨30, .phase⟩, ⟨31, .phase⟩, ⟨32, .phase⟩, ⟨33, .phase⟩, ⟨34, .phase⟩], none⟩ ?_ ?_ ?_
    rotate_left
    · intro w hSw; (try dsimp only at hSw); go_simp; (try with_reducible rfl)
    try simp only [PT]
    refine wpAnyH_done (by kernel_rfl) ?_ _
    refine NoPanic.normal ?_
  rotate_left 1
  focus
    go_simp
    refine hK.out _ _ kp (fun hHeld => ?_)
    clear hK K
    try simp only [PT]
    refine wpAnyH_ready (rs := [31]) (by kernel_rfl) (by simp) ?_
    refine AllReadyH.cons (o := ⟨some 136, .call ⟨.value (.func 20), #[.tmp 135], #[9]⟩, 37, "law.go:29", #[⟨30, .data⟩, ⟨24, .chain⟩, ⟨24, .guard⟩], some (24, true)⟩) rfl (fun K hK => ?_) AllReadyH.nil
    go_simp
    (first | (go_at_call 20; (with_reducible refine (DF.out _).mono ?_); rintro e w12 ⟨⟨v12, rfl, A12, c12, rfl, hx12⟩, hb12⟩; have hkeep12 : Blk w12 p exP.cells 27 ∧ Blk w12 q exB.cells 27 := ⟨Blk.below hb12 hkeep11.1, Blk.below hb12 hkeep11.2⟩; have hbel12 := hbel11.trans (hb12.mono hbel11.size); have gD : Blk (w12.alloc (.cells #[.int .i64 80] 3)) p exP.cells 27 ∧ Blk (w12.alloc (.cells #[.int .i64 80] 3)) q exB.cells 27 := ⟨hkeep12.1.alloc _, hkeep12.2.alloc _⟩; clear hx12) | (go_at_call 20; (with_reducible refine (DG.out _).mono ?_); rintro e w13 ⟨⟨v13, rfl, hv13⟩, hb13⟩; have hkeep13 : Blk w13 p exP.cells 27 ∧ Blk w13 q exB.cells 27 := (by first | exact ⟨Blk.below hb13 hkeep12.1, Blk.below hb13 hkeep12.2⟩ | exact ⟨Blk.below hb13 gD.1, Blk.below hb13 gD.2⟩); have hbel13 : Below w.heap.size w w13 := (by first | exact hbel12.trans (hb13.mono hbel12.size) | exact (hbel12.alloc hbel12.size _).trans (hb13.mono (hbel12.alloc hbel12.size _).size)); have gE : Blk (w13.alloc (.cells #[.int .i64 80] 3)) p exP.cells 27 ∧ Blk (w13.alloc (.cells #[.int .i64 80] 3)) q exB.cells 27 := ⟨hkeep13.1.alloc _, hkeep13.2.alloc _⟩; have rE1 : ReadsN (w13.alloc (.cells #[.int .i64 80] 3)) v13 [80] := hv13.below ((Below.refl w13.heap.size w13).alloc (Nat.le_refl _) _); have rE2 : ReadsN (w13.alloc (.cells #[.int .i64 80] 3)) (.slice (some ⟨w13.heap.size, 0, none⟩) 1 1) [80] := ReadsN.one w13 80; (try (have rE3 : ReadsN w13 (.slice (some ⟨w12.heap.size, 0, none⟩) 1 1) [80] := (ReadsN.one w12 80).below hb13))))
    go_wp2_with fail
    refine hK.out _ _ kp (fun hHeld => ?_)
    clear hK K
    try simp only [PT]
    refine wpAnyH_ready (rs := [33]) (by kernel_rfl) (by simp) ?_
    refine AllReadyH.cons (o := ⟨some 138, .call ⟨.value (.func 19), #[.tmp 136, .tmp 137], #[37, 37]⟩, 4, "law.go:29", #[⟨31, .data⟩, ⟨32, .data⟩, ⟨31, .chain⟩, ⟨24, .guard⟩], some (24, true)⟩) rfl (fun K hK => ?_) AllReadyH.nil
    go_simp
    (go_at_call 19; (with_reducible refine Calls.mono (EQ.out _ _ _ (by assumption) (by assumption)) ?_); rintro e w14 ⟨rfl, hb14⟩; have hkeep14 : Blk w14 p exP.cells 27 ∧ Blk w14 q exB.cells 27 := (by first | exact ⟨Blk.below hb14 hkeep13.1, Blk.below hb14 hkeep13.2⟩ | exact ⟨Blk.below hb14 gE.1, Blk.below hb14 gE.2⟩); have hbel14 : Below w.heap.size w w14 := (by first | exact hbel13.trans (hb14.mono hbel13.size) | exact (hbel13.alloc hbel13.size _).trans (hb14.mono (hbel13.alloc hbel13.size _).size)))
    go_wp2_with fail
    refine hK.out _ _ kp (fun hHeld => ?_)
    clear hK K
    try simp only [PT]
    refine tkY 34 ⟨some 139, .pick (.tmp 129) (.tmp 138) (.const (.bool false)), 4, "law.go:29", #[⟨24, .data⟩, ⟨33, .data⟩], none⟩ ?_ ?_ ?_
    rotate_left
    · intro w hSw; (try dsimp only at hSw); go_simp; (try with_reducible rfl)
    try simp only [PT]
    refine tkY 35 ⟨some 0, .assign (.tmp 139), 4, "law.go:29", #[⟨34, .data⟩, ⟨33, .chain⟩, ⟨0, .phase⟩, ⟨1, .phase⟩, ⟨2, .phase⟩, ⟨3, .phase⟩, ⟨4, .phase⟩, ⟨5, .phase⟩, ⟨6, .phase⟩, ⟨7, .phase⟩, ⟨8, .phase⟩, ⟨9, .phase⟩, ⟨10, .phase⟩, ⟨11, .phase⟩, ⟨12, .phase⟩, ⟨13, .phase⟩, ⟨14, .phase⟩, ⟨15, .phase⟩, ⟨16, .phase⟩, ⟨17, .phase⟩, ⟨18, .phase⟩, ⟨19, .phase⟩, ⟨20, .phase⟩, ⟨21, .phase⟩, ⟨22, .phase⟩, ⟨23, .phase⟩, ⟨24, .phase⟩, ⟨25, .phase⟩, ⟨26, .phase⟩, ⟨27, .phase⟩, ⟨28, .phase⟩, ⟨29, .phase⟩, ⟨30, .phase⟩, ⟨31, .phase⟩, ⟨32, .phase⟩, ⟨33, .phase⟩, ⟨34, .phase⟩], none⟩ ?_ ?_ ?_
    rotate_left
    · intro w hSw; (try dsimp only at hSw); go_simp; (try with_reducible rfl)
    try simp only [PT]
    refine wpAnyH_done (by kernel_rfl) ?_ _
    refine NoPanic.normal ?_
  rotate_left 1
  all_goals
    go_wp2_with fail
    go_ret
    exact ⟨rfl, hbel14⟩
end Go.Proofs.YtjbhokmkmapkoaaGreatDoor
