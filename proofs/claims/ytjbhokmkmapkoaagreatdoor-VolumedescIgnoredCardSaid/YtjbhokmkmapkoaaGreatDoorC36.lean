/- Contracts and plain words for the laws of volume descriptors, part 36: A1, A2. No condition. -/
import Derived.Test.YtjbhokmkmapkoaaGreatDoorC32
import Derived.Test.YtjbhokmkmapkoaaGreatDoorC34
import Derived.Test.YtjbhokmkmapkoaaGreatDoorC35
namespace Go.Proofs.YtjbhokmkmapkoaaGreatDoor
set_option linter.unusedSimpArgs false
set_option linter.unusedVariables false
open Go.RowKit
open Go.PlainAid (bt get_bt bt_nonneg bt_le bt_end)
def exP : DR := ⟨1, 0, ⟨#[68, 73, 83, 67]⟩, ⟨#[]⟩, ⟨#[]⟩, ⟨#[]⟩, ⟨#[77, 65, 83, 84, 69, 82, 68, 73, 83, 67]⟩, 1, 2, 315532800, 0, 300, 10, 19, 20, ⟨⟨#[0]⟩, 21, 2048, 315532800, 0, 2, 1, ⟨#[]⟩⟩⟩
def exB : DR := { DR.zero with cat := 33 }
def exT : DR := { DR.zero with typ := 255 }
theorem chkP : chkD exP = 0 := by decide +kernel
theorem chkB : chkD exB = 0 := by decide +kernel
theorem chkT : chkD exT = 0 := by decide +kernel
theorem shortP : ShortD exP := short_of (by decide +kernel)
theorem headP : (⟨(encD exP).toArray⟩ : ByteArray).extract 0 12 = ⟨#[1, 67, 68, 48, 48, 49, 1, 0, 32, 32, 32, 32]⟩ := by decide +kernel
theorem nameP : (⟨(encD exP).toArray⟩ : ByteArray).extract 40 48 = ⟨#[68, 73, 83, 67, 32, 32, 32, 32]⟩ := by decide +kernel
theorem catB : bt ⟨(encD exB).toArray⟩ 71 = 33 := by decide +kernel
theorem typT : bt ⟨(encD exT).toArray⟩ 0 = 255 := by decide +kernel
theorem chg_cat {s : ByteArray} {i : Nat} {x : UInt8} (h : i < s.size) : s.extract 0 i ++ ⟨#[x]⟩ ++ s.extract (i + 1) s.size = chg s i x := by
  apply ByteArray.ext
  apply Array.toList_inj.1
  have hl : s.data.toList.length = s.size := Array.length_toList
  rw [chg_list, List.set_eq_take_append_cons_drop, if_pos (by omega), ByteArray.data_append, ByteArray.data_append, Array.toList_append, Array.toList_append, ext_list, ext_list]
  have e : List.take (s.size - (i + 1)) (List.drop (i + 1) s.data.toList) = List.drop (i + 1) s.data.toList := List.take_of_length_le (by rw [List.length_drop]; omega)
  rw [e]
  simp
theorem nbP : bt ⟨(encD exP).toArray⟩ 80 = 44 ∧ bt ⟨(encD exP).toArray⟩ 81 = 1 ∧ bt ⟨(encD exP).toArray⟩ 82 = 0 ∧ bt ⟨(encD exP).toArray⟩ 83 = 0 ∧ bt ⟨(encD exP).toArray⟩ 84 = 0 ∧ bt ⟨(encD exP).toArray⟩ 85 = 0 ∧ bt ⟨(encD exP).toArray⟩ 86 = 1 ∧ bt ⟨(encD exP).toArray⟩ 87 = 44 := by decide +kernel
theorem dif_one {s : ByteArray} {i p : Nat} {x : UInt8} (hs : s.size = 2048) (h0 : bt s 0 = 1 ∨ bt s 0 = 2) (hi : 0 < i) (h : ∀ q ∈ pairsD, sameB s q = true) (hp : pairsD.filter (fun q => decide (q.1 ≤ i ∧ i < q.1 + 2 * q.2)) = [(p, 4)]) (hn : sameB (chg s i x) (p, 4) = false) : difD (chg s i x) = [p] := by
  have e : pairsD.filter (fun q => !sameB (chg s i x) q) = pairsD.filter (fun q => decide (q.1 ≤ i ∧ i < q.1 + 2 * q.2)) := by
    refine List.filter_congr fun q hq => ?_
    by_cases hin : q.1 ≤ i ∧ i < q.1 + 2 * q.2
    · have hm : q ∈ pairsD.filter (fun q => decide (q.1 ≤ i ∧ i < q.1 + 2 * q.2)) := List.mem_filter.2 ⟨hq, decide_eq_true hin⟩
      rw [hp] at hm
      obtain rfl := List.mem_singleton.1 hm
      rw [hn, decide_eq_true hin]
      rfl
    · have hq2 : q.2 = 4 ∨ q.2 = 2 := by
        have : ∀ q ∈ pairsD, q.2 = 4 ∨ q.2 = 2 := by decide
        exact this q hq
      rw [same_chg hq2 (by omega), h q hq, decide_eq_false hin]
      rfl
  unfold difD
  rw [chg_size, chg_ne (by omega), if_neg (by omega), e, hp]
  rfl
theorem sizeP : (⟨(encD exP).toArray⟩ : ByteArray).size = 2048 := by
  show (encD exP).toArray.size = 2048
  rw [List.size_toArray, encD_len chkP]
theorem difP : difD ((⟨(encD exP).toArray⟩ : ByteArray).extract 0 80 ++ ⟨#[0]⟩ ++ (⟨(encD exP).toArray⟩ : ByteArray).extract 81 (⟨(encD exP).toArray⟩ : ByteArray).size) = [80] := by
  obtain ⟨_, b1, b2, b3, b4, b5, b6, b7⟩ := nbP
  rw [chg_cat (by rw [sizeP]; omega)]
  refine dif_one sizeP (Or.inl (by rw [encD_head chkP]; rfl)) (by omega) (encD_same chkP (Or.inl rfl)) (by decide) ?_
  unfold sameB
  rw [if_pos rfl]
  refine decide_eq_false ?_
  unfold le4 be4
  rw [chg_at (by rw [sizeP]; omega), chg_ne (by omega), chg_ne (by omega), chg_ne (by omega), chg_ne (by omega), chg_ne (by omega), chg_ne (by omega), chg_ne (by omega), b1, b2, b3, b4, b5, b6, b7]
  decide
/-- What is encoded is read: the first three blocks behind the start. -/
theorem read_ex {s u e : ByteArray} (hs : s.size = 2048) (hu : u.size = 2048) (he : e.size = 2048) (ds : decD s = (exP, 0)) (du : decD u = (exB, 0)) (de : decD e = (exT, 0)) : readA (List.replicate 16 ⟨#[]⟩ ++ [s, u, e]) 0 = ([exP, exB], 0, 0) := by
  unfold readA
  rw [readL_step (k := 63) (m := 16) (x := s) (by decide) rfl hs ds, if_neg (by decide), if_neg (by decide), if_neg (by decide)]
  rw [readL_step (k := 62) (m := 17) (x := u) (by decide) rfl hu du, if_neg (by decide), if_neg (by decide), if_neg (by decide)]
  rw [readL_step (k := 61) (m := 18) (x := e) (by decide) rfl he de, if_neg (by decide), if_neg (by decide), if_pos (by decide)]
  rfl
theorem enc_size {d : DR} (h : chkD d = 0) : (encDS d).size = 2048 := by
  rw [encDS_ok h]
  show (encD d).toArray.size = 2048
  rw [List.size_toArray, encD_len h]
theorem dec_enc {d : DR} (h : chkD d = 0) : decD (encDS d) = (d, 0) := by rw [encDS_ok h]; exact dec_encD h
/-- What the laws' example says of the blocks of its descriptors. -/
def ExS (s u e : ByteArray) : Prop := s.size = 2048 ∧ u.size = 2048 ∧ e.size = 2048 ∧ decD s = (exP, 0) ∧ s.extract 0 12 = ⟨#[1, 67, 68, 48, 48, 49, 1, 0, 32, 32, 32, 32]⟩ ∧ s.extract 40 48 = ⟨#[68, 73, 83, 67, 32, 32, 32, 32]⟩ ∧ bt u 71 = 33 ∧ bt e 0 = 255 ∧ readA (List.replicate 16 ⟨#[]⟩ ++ [s, u, e]) 0 = ([exP, exB], 0, 0) ∧ difD s = [] ∧ difD (s.extract 0 80 ++ ⟨#[0]⟩ ++ s.extract 81 s.size) = [80]
theorem ex_all : ∃ s u e : ByteArray, encDS exP = s ∧ encDS exB = u ∧ encDS exT = e ∧ ExS s u e := by
  refine ⟨_, _, _, rfl, rfl, rfl, enc_size chkP, enc_size chkB, enc_size chkT, dec_enc chkP, ?_, ?_, ?_, ?_, read_ex (enc_size chkP) (enc_size chkB) (enc_size chkT) (dec_enc chkP) (dec_enc chkB) (dec_enc chkT), ?_, ?_⟩
  · rw [encDS_ok chkP]; exact headP
  · rw [encDS_ok chkP]; exact nameP
  · rw [encDS_ok chkB]; exact catB
  · rw [encDS_ok chkT]; exact typT
  · rw [encDS_ok chkP]; exact dif_encD chkP
  · rw [encDS_ok chkP]; exact difP
end Go.Proofs.YtjbhokmkmapkoaaGreatDoor
namespace Go.Proofs.YtjbhokmkmapkoaaGreatDoor
set_option linter.unusedSimpArgs false
set_option linter.unusedVariables false
open Go.RowKit
open Go.PlainAid (bt get_bt bt_nonneg bt_le bt_end)
theorem results_cells2 {P : Program} {fn : Func} {p q : Tmp} {ty : TypeId} (h : fn.results = #[.cell p ty, .cell q ty]) (tmps : Array Value) (w : World) (g g2 : Nat) (t : TypeId) (cs cs2 : Array Value) (d : TypeDesc)
    (hp : tmps.getD p undef = .pointer (some ⟨g, 0, none⟩)) (hq : tmps.getD q undef = .pointer (some ⟨g2, 0, none⟩)) (hg : Blk w g cs t) (hg2 : Blk w g2 cs2 t)
    (hu : P.underlying ty = some d) (hd : (match d with | .struct _ | .array _ _ => true | _ => false) = true) (hi : (P.info? ty).map (·.size) = some cs.size) (hi2 : (P.info? ty).map (·.size) = some cs2.size) :
    (results fn tmps).run P w = .ok (.tuple #[.agg cs, .agg cs2]) w := by
  have hp' : tmps[p]?.getD undef = .pointer (some ⟨g, 0, none⟩) := by simpa using hp
  have hq' : tmps[q]?.getD undef = .pointer (some ⟨g2, 0, none⟩) := by simpa using hq
  simp [results, h, hp', hq', asAddr, run_loadVar_row w g t ty cs (0, 0) d hg hu hd hi, run_loadVar_row w g2 t ty cs2 (0, 0) d hg2 hu hd hi2]
theorem ex_ret {w W : World} {b0 b1 : Nat} (a : Act) (hd : a.defers = []) (h0 : a.tmps.getD 0 undef = .pointer (some ⟨b0, 0, none⟩)) (h1 : a.tmps.getD 1 undef = .pointer (some ⟨b1, 0, none⟩)) (hB : Blk W b0 exP.cells 27) (hB2 : Blk W b1 exB.cells 27) (hbel : Below w.heap.size w W) :
    bodyPost Tryz.prog Tryz.f26 (fun e w' => e = .returned (.tuple #[.agg exP.cells, .agg exB.cells]) ∧ Below w.heap.size w w') .ret a W :=
  bodyPost_ret (results_cells2 Tryz.results26 a.tmps W b0 b1 27 exP.cells exB.cells _ h0 h1 hB hB2 Tryz.underlying27 rfl (info27 _) (info27 _)) hd ⟨rfl, hbel⟩
set_option maxRecDepth 100000 in
set_option maxHeartbeats 4000000 in
theorem example_any (w : World) : Calls Tryz.prog 26 #[] w fun e w' => e = .returned (.tuple #[.agg exP.cells, .agg exB.cells]) ∧ Below w.heap.size w w' := by
  have HL : Live w [] := trivial
  go_enter Tryz.func26, Tryz.ntmps26
  go_upto_region 1 with fail
  have hB0 : Blk ((w.alloc (.cells #[.int .i64 0, .int .i64 0, .string ⟨#[]⟩, .string ⟨#[]⟩, .string ⟨#[]⟩, .string ⟨#[]⟩, .string ⟨#[]⟩, .int .i64 0, .int .i64 0, .int .i64 0, .int .i64 0, .int .i64 0, .int .i64 0, .int .i64 0, .int .i64 0, .string ⟨#[]⟩, .int .i64 0, .int .i64 0, .int .i64 0, .int .i64 0, .int .i64 0, .int .i64 0, .string ⟨#[]⟩] 27)).alloc (.cells #[.int .i64 0, .int .i64 0, .string ⟨#[]⟩, .string ⟨#[]⟩, .string ⟨#[]⟩, .string ⟨#[]⟩, .string ⟨#[]⟩, .int .i64 0, .int .i64 0, .int .i64 0, .int .i64 0, .int .i64 0, .int .i64 0, .int .i64 0, .int .i64 0, .string ⟨#[]⟩, .int .i64 0, .int .i64 0, .int .i64 0, .int .i64 0, .int .i64 0, .int .i64 0, .string ⟨#[]⟩] 27)) w.heap.size DR.zero.cells 27 := (Blk.newAt rfl).alloc _
  have hB1 : Blk ((w.alloc (.cells #[.int .i64 0, .int .i64 0, .string ⟨#[]⟩, .string ⟨#[]⟩, .string ⟨#[]⟩, .string ⟨#[]⟩, .string ⟨#[]⟩, .int .i64 0, .int .i64 0, .int .i64 0, .int .i64 0, .int .i64 0, .int .i64 0, .int .i64 0, .int .i64 0, .string ⟨#[]⟩, .int .i64 0, .int .i64 0, .int .i64 0, .int .i64 0, .int .i64 0, .int .i64 0, .string ⟨#[]⟩] 27)).alloc (.cells #[.int .i64 0, .int .i64 0, .string ⟨#[]⟩, .string ⟨#[]⟩, .string ⟨#[]⟩, .string ⟨#[]⟩, .string ⟨#[]⟩, .int .i64 0, .int .i64 0, .int .i64 0, .int .i64 0, .int .i64 0, .int .i64 0, .int .i64 0, .int .i64 0, .string ⟨#[]⟩, .int .i64 0, .int .i64 0, .int .i64 0, .int .i64 0, .int .i64 0, .int .i64 0, .string ⟨#[]⟩] 27)) (w.heap.size + 1) DR.zero.cells 27 := Blk.newAt (by simp only [World.size_alloc])
  have hbel1 : Below w.heap.size w ((w.alloc (.cells #[.int .i64 0, .int .i64 0, .string ⟨#[]⟩, .string ⟨#[]⟩, .string ⟨#[]⟩, .string ⟨#[]⟩, .string ⟨#[]⟩, .int .i64 0, .int .i64 0, .int .i64 0, .int .i64 0, .int .i64 0, .int .i64 0, .int .i64 0, .int .i64 0, .string ⟨#[]⟩, .int .i64 0, .int .i64 0, .int .i64 0, .int .i64 0, .int .i64 0, .int .i64 0, .string ⟨#[]⟩] 27)).alloc (.cells #[.int .i64 0, .int .i64 0, .string ⟨#[]⟩, .string ⟨#[]⟩, .string ⟨#[]⟩, .string ⟨#[]⟩, .string ⟨#[]⟩, .int .i64 0, .int .i64 0, .int .i64 0, .int .i64 0, .int .i64 0, .int .i64 0, .int .i64 0, .int .i64 0, .string ⟨#[]⟩, .int .i64 0, .int .i64 0, .int .i64 0, .int .i64 0, .int .i64 0, .int .i64 0, .string ⟨#[]⟩] 27)) := by (exact bl)
  generalize (w.alloc (.cells #[.int .i64 0, .int .i64 0, .string ⟨#[]⟩, .string ⟨#[]⟩, .string ⟨#[]⟩, .string ⟨#[]⟩, .string ⟨#[]⟩, .int .i64 0, .int .i64 0, .int .i64 0, .int .i64 0, .int .i64 0, .int .i64 0, .int .i64 0, .int .i64 0, .string ⟨#[]⟩, .int .i64 0, .int .i64 0, .int .i64 0, .int .i64 0, .int .i64 0, .int .i64 0, .string ⟨#[]⟩] 27)).alloc (.cells #[.int .i64 0, .int .i64 0, .string ⟨#[]⟩, .string ⟨#[]⟩, .string ⟨#[]⟩, .string ⟨#[]⟩, .string ⟨#[]⟩, .int .i64 0, .int .i64 0, .int .i64 0, .int .i64 0, .int .i64 0, .int .i64 0, .int .i64 0, .int .i64 0, .string ⟨#[]⟩, .int .i64 0, .int .i64 0, .int .i64 0, .int .i64 0, .int .i64 0, .int .i64 0, .string ⟨#[]⟩] 27) = W1 at *
  obtain ⟨b1, eb1⟩ : ∃ b1, b1 = w.heap.size + 1 := ⟨_, rfl⟩
  obtain ⟨b0, eb0⟩ : ∃ b0, b0 = w.heap.size := ⟨_, rfl⟩
  rw [← eb1] at hB1 ⊢
  rw [← eb0] at hB0 ⊢
  have l0 : w.heap.size ≤ b0 := by omega
  have l1 : b0 < b1 := by omega
  clear eb0 eb1
  have hB0' := hide (show Blk ((W1.setRow b0 exP.cells).setRow b1 exB.cells) b0 exP.cells 27 from Blk.row (by omega) hB0.setRow)
  have hB1' := hide (show Blk ((W1.setRow b0 exP.cells).setRow b1 exB.cells) b1 exB.cells 27 from (Blk.row (C := exP.cells) (show b1 ≠ b0 by omega) hB1).setRow)
  have hbel' := below_setRow' (below_setRow' hbel1 l0 exP.cells) (show w.heap.size ≤ b1 by omega) exB.cells
  go_wp2_with (first | (refine wpList_store_row rfl 27 (.tmp 0) (.tmp 4) rfl b0 exP.cells rfl rfl 27 _ hB0 (info27 _) (size27 _ _) (one27 _) ?_) | (refine wpList_store_row rfl 27 (.tmp 1) (.tmp 5) rfl b1 exB.cells rfl rfl 27 _ (Blk.row (C := exP.cells) (show b1 ≠ b0 by omega) hB1) (info27 _) (size27 _ _) (one27 _) ?_))
  (try simp only [Exit.inBlock, Exit.then])
  exact ex_ret _ rfl rfl rfl hB0'.out hB1'.out hbel'
end Go.Proofs.YtjbhokmkmapkoaaGreatDoor
