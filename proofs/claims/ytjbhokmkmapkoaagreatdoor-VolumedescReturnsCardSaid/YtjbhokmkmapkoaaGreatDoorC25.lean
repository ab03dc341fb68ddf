/- Contracts and plain words for the laws of volume descriptors, part 25: Y2, A1, A2. No condition. -/
import Derived.Test.YtjbhokmkmapkoaaGreatDoorC22
import Derived.Test.YtjbhokmkmapkoaaGreatDoorC20
import Derived.Test.YtjbhokmkmapkoaaGreatDoorC23
import Derived.Test.YtjbhokmkmapkoaaGreatDoorC24
namespace Go.Proofs.YtjbhokmkmapkoaaGreatDoor
set_option linter.unusedSimpArgs false
set_option linter.unusedVariables false
open Go.RowKit
open Go.PlainAid (bt get_bt bt_nonneg bt_le bt_end)
set_option maxRecDepth 100000 in
set_option maxHeartbeats 4000000 in
theorem rsame_any (L M : List DR) (a b : Value) (hL : L.length ≤ 100000) (hM : M.length ≤ 100000) (w : World) (ha : ReadsD w a L) (hb : ReadsD w b M) : Calls Tryz.prog 25 #[a, b] w fun e w' => e = .returned (.bool (decide (L = M))) ∧ Below w.heap.size w w' := by
  obtain ⟨A, c, rfl, hA⟩ := ha
  obtain ⟨A2, c2, rfl, hA2⟩ := hb
  by_cases hlen : L.length = M.length
  case neg =>
    have HD := hide (show decide (L = M) = false from decide_eq_false fun h => hlen (by rw [h]))
    have q : ((L.length : Int) != (M.length : Int)) = true := by simp; omega
    have HL : Live w [] := trivial
    go_enter Tryz.func25, Tryz.ntmps25
    go_wp2_with fail
    go_ret
    exact ⟨ret_b HD.out.symm, by (repeat' (first | (with_reducible exact Below.refl _ _) | (with_reducible refine Below.alloc ?_ ?_ _) | (with_reducible refine Below.setCell ?_ ?_ _) | (with_reducible refine Below.drew ?_) | (with_reducible refine below_drewN' ?_) | (with_reducible refine below_bytesW ?_ ?_) | (with_reducible refine Below.trans ?_ (Below.mono (by assumption) ?_)) | omega | (simp only [World.size_alloc, World.size_setCell, World.size_drew]; omega) | (simp [size_bytesW]; omega) | (simp; omega)))⟩
  have q : ((L.length : Int) != (M.length : Int)) = false := by simp; omega
  have HA := hide hA
  have HA2 := hide hA2
  clear hA hA2
  have HL : Live w [] := trivial
  go_enter Tryz.func25, Tryz.ntmps25
  go_wp2_with fail
  go_loopw [5] (fun i wr => ∃ k : Nat, k ≤ L.length ∧ i = .int .i64 k ∧ L.take k = M.take k ∧ Below w.heap.size w wr) (fun i _ => L.length - (intOf i).toNat)
  case atStart => exact ⟨0, by omega, rfl, rfl, by (repeat' (first | (with_reducible exact Below.refl _ _) | (with_reducible refine Below.alloc ?_ ?_ _) | (with_reducible refine Below.setCell ?_ ?_ _) | (with_reducible refine Below.drew ?_) | (with_reducible refine below_drewN' ?_) | (with_reducible refine below_bytesW ?_ ?_) | (with_reducible refine Below.trans ?_ (Below.mono (by assumption) ?_)) | omega | (simp only [World.size_alloc, World.size_setCell, World.size_drew]; omega) | (simp [size_bytesW]; omega) | (simp; omega)))⟩
  case round =>
    obtain ⟨k, hk, rfl, htk, hbel⟩ := hrel
    have HTK := hide htk
    clear htk
    have hsz := hbel.size
    by_cases hlt : k < L.length
    · obtain ⟨x, hx⟩ : ∃ x, L[k]? = some x := ⟨_, List.getElem?_eq_getElem hlt⟩
      obtain ⟨y, hy⟩ : ∃ y, M[k]? = some y := ⟨_, List.getElem?_eq_getElem (by omega)⟩
      obtain ⟨g, o, rfl, hg, hc⟩ := HA.out (by omega)
      obtain ⟨g2, o2, rfl, hg2, hc2⟩ := HA2.out (by omega)
      have r1 : wr.rangeAt g (o + k * 23) x.cells.toList := fun j u hu => by
        rw [Nat.add_assoc]
        exact (hbel.cell (p := ⟨g, o + (k * 23 + j), none⟩) hg).trans (hc _ _ (descV_at L k x hx j u hu))
      have r2 : wr.rangeAt g2 (o2 + k * 23) y.cells.toList := fun j u hu => by
        rw [Nat.add_assoc]
        exact (hbel.cell (p := ⟨g2, o2 + (k * 23 + j), none⟩) hg2).trans (hc2 _ _ (descV_at M k y hy j u hu))
      have hkeep : wr.rangeAt g (o + k * 23) x.cells.toList ∧ wr.rangeAt g2 (o2 + k * 23) y.cells.toList := ⟨r1, r2⟩
      have hkeepd : wr.drew.rangeAt g (o + k * 23) x.cells.toList ∧ wr.drew.rangeAt g2 (o2 + k * 23) y.cells.toList := ⟨r1, r2⟩
      have HX := hide hx
      have HY := hide hy
      obtain ⟨b, hb⟩ : ∃ b, (!decide (x = y)) = b := ⟨_, rfl⟩
      have NE : ∀ W, (binOp .neq 27 (.agg x.cells) (.agg y.cells)).run Tryz.prog W = .ok (.bool b) W := fun W => hb ▸ neqD x y W
      have HB := hide hb
      clear hb
      clear hc hc2 hx hy r1 r2
      go_upto_region 6 with fail
      refine wp_region_noPanic ?_
      refine wp_region_held_drew (S := (fun z => z.rangeAt g (o + k * 23) x.cells.toList ∧ z.rangeAt g2 (o2 + k * 23) y.cells.toList)) (by kernel_rfl) (by (try dsimp only); first | with_reducible assumption | (simp [*, go_sem]; done) | (refine ⟨?_, ?_⟩ <;> simp [*, go_sem])) (fun hHeld => ?_)
      refine wpAnyH_take (i := 0) (oi := { dst := some 17, op := Go.Op.move (Go.Operand.tmp 0), type := 43, pos := "ref.go:235", after := #[], guard := none }) (v := ?_) rfl (by kernel_rfl) (by kernel_rfl) (by kernel_rfl) (fun _ _ _ h => h) (Or.inl ⟨by rfl, ?_⟩) (by assumption) ?_
      rotate_left
      · intro w hSw; (try dsimp only at hSw); go_simp; (try with_reducible rfl)
      try simp only [Act.put, List.setIfInBounds_toArray, List.set_cons_zero, List.set_cons_succ]
      refine wpAnyH_take (i := 1) (oi := { dst := some 18, op := Go.Op.move (Go.Operand.tmp 5), type := 3, pos := "ref.go:235", after := #[], guard := none }) (v := ?_) rfl (by kernel_rfl) (by kernel_rfl) (by kernel_rfl) (fun _ _ _ h => h) (Or.inl ⟨by rfl, ?_⟩) (by assumption) ?_
      rotate_left
      · intro w hSw; (try dsimp only at hSw); go_simp; (try with_reducible rfl)
      try simp only [Act.put, List.setIfInBounds_toArray, List.set_cons_zero, List.set_cons_succ]
      refine wpAnyH_take (i := 2) (oi := { dst := some 19, op := Go.Op.indexAddr 43 (Go.Operand.tmp 17) (Go.Operand.tmp 18), type := 0, pos := "ref.go:235", after := #[{ on := 0, ground := Go.Ground.data }, { on := 1, ground := Go.Ground.data }], guard := none }) (v := ?_) rfl (by kernel_rfl) (by kernel_rfl) (by kernel_rfl) (fun _ _ _ h => h) (Or.inl ⟨by rfl, ?_⟩) (by assumption) ?_
      rotate_left
      · intro w hSw; (try dsimp only at hSw); go_simp; (try with_reducible rfl)
      try simp only [Act.put, List.setIfInBounds_toArray, List.set_cons_zero, List.set_cons_succ]
      refine wpAnyH_take (i := 3) (oi := { dst := some 20, op := Go.Op.load 27 (Go.Operand.tmp 19), type := 27, pos := "ref.go:235", after := #[{ on := 2, ground := Go.Ground.data }], guard := none }) (v := ?_) rfl (by kernel_rfl) (by kernel_rfl) (by kernel_rfl) (fun _ _ _ h => h) (Or.inl ⟨by rfl, ?_⟩) (by assumption) ?_
      rotate_left
      · intro w hSw; (try dsimp only at hSw); refine (exec_load_mid 27 (.tmp 19) (by rfl) g (o + k * 23) (by rfl) x.cells _ hSw.1 Tryz.underlying27 (by rfl) (info27 _)).trans ?_; with_reducible rfl
      try simp only [Act.put, List.setIfInBounds_toArray, List.set_cons_zero, List.set_cons_succ]
      refine wpAnyH_take (i := 4) (oi := { dst := some 21, op := Go.Op.move (Go.Operand.tmp 1), type := 43, pos := "ref.go:235", after := #[], guard := none }) (v := ?_) rfl (by kernel_rfl) (by kernel_rfl) (by kernel_rfl) (fun _ _ _ h => h) (Or.inl ⟨by rfl, ?_⟩) (by assumption) ?_
      rotate_left
      · intro w hSw; (try dsimp only at hSw); go_simp; (try with_reducible rfl)
      try simp only [Act.put, List.setIfInBounds_toArray, List.set_cons_zero, List.set_cons_succ]
      refine wpAnyH_take (i := 5) (oi := { dst := some 22, op := Go.Op.move (Go.Operand.tmp 5), type := 3, pos := "ref.go:235", after := #[], guard := none }) (v := ?_) rfl (by kernel_rfl) (by kernel_rfl) (by kernel_rfl) (fun _ _ _ h => h) (Or.inl ⟨by rfl, ?_⟩) (by assumption) ?_
      rotate_left
      · intro w hSw; (try dsimp only at hSw); go_simp; (try with_reducible rfl)
      try simp only [Act.put, List.setIfInBounds_toArray, List.set_cons_zero, List.set_cons_succ]
      refine wpAnyH_take (i := 6) (oi := { dst := some 23, op := Go.Op.indexAddr 43 (Go.Operand.tmp 21) (Go.Operand.tmp 22), type := 0, pos := "ref.go:235", after := #[{ on := 4, ground := Go.Ground.data }, { on := 5, ground := Go.Ground.data }], guard := none }) (v := ?_) rfl (by kernel_rfl) (by kernel_rfl) (by kernel_rfl) (fun _ _ _ h => h) (Or.inl ⟨by rfl, ?_⟩) (by assumption) ?_
      rotate_left
      · intro w hSw; (try dsimp only at hSw); go_simp; (try with_reducible rfl)
      try simp only [Act.put, List.setIfInBounds_toArray, List.set_cons_zero, List.set_cons_succ]
      refine wpAnyH_take (i := 7) (oi := { dst := some 24, op := Go.Op.load 27 (Go.Operand.tmp 23), type := 27, pos := "ref.go:235", after := #[{ on := 6, ground := Go.Ground.data }], guard := none }) (v := ?_) rfl (by kernel_rfl) (by kernel_rfl) (by kernel_rfl) (fun _ _ _ h => h) (Or.inl ⟨by rfl, ?_⟩) (by assumption) ?_
      rotate_left
      · intro w hSw; (try dsimp only at hSw); refine (exec_load_mid 27 (.tmp 23) (by rfl) g2 (o2 + k * 23) (by rfl) y.cells _ hSw.2 Tryz.underlying27 (by rfl) (info27 _)).trans ?_; with_reducible rfl
      try simp only [Act.put, List.setIfInBounds_toArray, List.set_cons_zero, List.set_cons_succ]
      refine wpAnyH_take (i := 8) (oi := { dst := some 25, op := Go.Op.binOp Go.BinOp.neq 27 (Go.Operand.tmp 20) (Go.Operand.tmp 24) 27, type := 4, pos := "ref.go:235", after := #[{ on := 3, ground := Go.Ground.data }, { on := 7, ground := Go.Ground.data }], guard := none }) (v := ?_) rfl (by kernel_rfl) (by kernel_rfl) (by kernel_rfl) (fun _ _ _ h => h) (Or.inl ⟨by rfl, ?_⟩) (by assumption) ?_
      rotate_left
      · intro w hSw; (try dsimp only at hSw); go_simp; (try with_reducible rfl)
      try simp only [Act.put, List.setIfInBounds_toArray, List.set_cons_zero, List.set_cons_succ]
      refine wpAnyH_done (by kernel_rfl) ?_ _
      refine NoPanic.normal ?_
      clear hkeep hkeepd hHeld NE
      cases b
      · have hxy : x = y := by simpa using HB.out
        have HT := hide (show L.take (k + 1) = M.take (k + 1) from by rw [List.take_add_one, List.take_add_one, HTK.out, HX.out, HY.out, hxy])
        clear hxy
        go_wp2_with fail
        go_roundw
        case rel => exact ⟨k + 1, by omega, by go_num, HT.out, hbel.drew⟩
        case measure => simp [intOf]; omega
      · have hxy : x ≠ y := by simpa using HB.out
        have HD := hide (show decide (L = M) = false from decide_eq_false fun h => hxy (by
          subst h
          exact Option.some.inj (HX.out.symm.trans HY.out)))
        clear hxy
        go_wp2_with fail
        go_ret
        exact ⟨ret_b HD.out.symm, hbel.drew⟩
    · obtain rfl : k = L.length := by omega
      have HD := hide (show decide (L = M) = true from decide_eq_true (by
        have h := HTK.out
        rw [List.take_length, hlen, List.take_length] at h
        exact h))
      go_wp2_with fail
      go_ret
      exact ⟨ret_b HD.out.symm, hbel⟩
/-- Short, as a Bool. -/
def shortDB (d : DR) : Bool := decide (d.name.size ≤ 400) && decide (d.set.size ≤ 400) && decide (d.pub.size ≤ 400) && decide (d.prep.size ≤ 400) && decide (d.app.size ≤ 400) && decide (d.root.id.size ≤ 400) && decide (d.root.use.size ≤ 400)
theorem short_of {d : DR} (h : shortDB d = true) : ShortD d := by
  unfold shortDB at h
  simp only [Bool.and_eq_true, decide_eq_true_eq] at h
  obtain ⟨⟨⟨⟨⟨⟨h0, h1⟩, h2⟩, h3⟩, h4⟩, h5⟩, h6⟩ := h
  refine ⟨fun k hk => ?_, by omega, by omega⟩
  rcases five hk with rfl | rfl | rfl | rfl | rfl
  · show d.name.size ≤ 1000; omega
  · show d.set.size ≤ 1000; omega
  · show d.pub.size ≤ 1000; omega
  · show d.prep.size ≤ 1000; omega
  · show d.app.size ≤ 1000; omega
set_option maxRecDepth 100000 in
set_option maxHeartbeats 8000000 in
theorem rshort_any (d : DR) (w : World) : Calls Tryz.prog 12 #[.agg d.cells] w fun e w' => e = .returned (.bool (shortDB d)) ∧ Below w.heap.size w w' := by
  have HL : Live w [] := trivial
  go_enter Tryz.func12, Tryz.ntmps12
  go_upto_region 1 with fail
  have hB1 : Blk (w.alloc (.cells d.cells 27)) w.heap.size d.cells 27 := Blk.newAt rfl
  have hbel1 : Below w.heap.size w (w.alloc (.cells d.cells 27)) := by (repeat' (first | (with_reducible exact Below.refl _ _) | (with_reducible refine Below.alloc ?_ ?_ _) | (with_reducible refine Below.setCell ?_ ?_ _) | (with_reducible refine Below.drew ?_) | (with_reducible refine below_drewN' ?_) | (with_reducible refine below_bytesW ?_ ?_) | (with_reducible refine Below.trans ?_ (Below.mono (by assumption) ?_)) | omega | (simp only [World.size_alloc, World.size_setCell, World.size_drew]; omega) | (simp [size_bytesW]; omega) | (simp; omega)))
  generalize w.alloc (.cells d.cells 27) = W1 at *
  have hdd := Dat.of hB1
  unfold Dat at hdd
  by_cases h0 : d.name.size ≤ 400
  case neg => go_wp2; go_ret; exact ⟨ret_b (by unfold shortDB; rw [decide_eq_false h0]; rfl), hbel1⟩
  by_cases h1 : d.set.size ≤ 400
  case neg => go_wp2; go_ret; exact ⟨ret_b (by unfold shortDB; rw [decide_eq_false h1]; simp), hbel1⟩
  by_cases h2 : d.pub.size ≤ 400
  case neg => go_wp2; go_ret; exact ⟨ret_b (by unfold shortDB; rw [decide_eq_false h2]; simp), hbel1⟩
  by_cases h3 : d.prep.size ≤ 400
  case neg => go_wp2; go_ret; exact ⟨ret_b (by unfold shortDB; rw [decide_eq_false h3]; simp), hbel1⟩
  by_cases h4 : d.app.size ≤ 400
  case neg => go_wp2; go_ret; exact ⟨ret_b (by unfold shortDB; rw [decide_eq_false h4]; simp), hbel1⟩
  by_cases h5 : d.root.id.size ≤ 400
  case neg => go_wp2; go_ret; exact ⟨ret_b (by unfold shortDB; rw [decide_eq_false h5]; simp), hbel1⟩
  by_cases h6 : d.root.use.size ≤ 400
  case neg => go_wp2; go_ret; exact ⟨ret_b (by unfold shortDB; rw [decide_eq_false h6]; simp; omega), hbel1⟩
  go_wp2
  go_ret
  exact ⟨ret_b (by unfold shortDB; rw [decide_eq_true h0, decide_eq_true h1, decide_eq_true h2, decide_eq_true h3, decide_eq_true h4, decide_eq_true h5, decide_eq_true h6]; simp; omega), hbel1⟩
end Go.Proofs.YtjbhokmkmapkoaaGreatDoor
namespace Go.Proofs.YtjbhokmkmapkoaaGreatDoor
set_option linter.unusedSimpArgs false
set_option linter.unusedVariables false
open Go.RowKit
open Go.PlainAid (bt get_bt bt_nonneg bt_le bt_end)
def exP : DR := ⟨1, 0, ⟨#[68, 73, 83, 67]⟩, ⟨#[]⟩, ⟨#[]⟩, ⟨#[]⟩, ⟨#[77, 65, 83, 84, 69, 82, 68, 73, 83, 67]⟩, 1, 2, 315532800, 0, 300, 10, 19, 20, ⟨⟨#[0]⟩, 21, 2048, 315532800, 0, 2, 1, ⟨#[]⟩⟩⟩
def exB : DR := { DR.zero with cat := 33 }
def exT : DR := { DR.zero with typ := 255 }
theorem chkP : chkD exP = 0 := by decide +kernel
theorem chkB : chkD exB = 0 := by decide +kernel
theorem chkT : chkD exT = 0 := by decide +kernel
theorem shortP : ShortD exP := short_of (by decide +kernel)
theorem headP : (⟨(encD exP).toArray⟩ : ByteArray).extract 0 12 = ⟨#[1, 67, 68, 48, 48, 49, 1, 0, 32, 32, 32, 32]⟩ := by decide +kernel
theorem nameP : (⟨(encD exP).toArray⟩ : ByteArray).extract 40 48 = ⟨#[68, 73, 83, 67, 32, 32, 32, 32]⟩ := by decide +kernel
theorem catB : bt ⟨(encD exB).toArray⟩ 71 = 33 := by decide +kernel
theorem typT : bt ⟨(encD exT).toArray⟩ 0 = 255 := by decide +kernel
theorem chg_cat {s : ByteArray} {i : Nat} {x : UInt8} (h : i < s.size) : s.extract 0 i ++ ⟨#[x]⟩ ++ s.extract (i + 1) s.size = chg s i x := by
  apply ByteArray.ext
  apply Array.toList_inj.1
  have hl : s.data.toList.length = s.size := Array.length_toList
  rw [chg_list, List.set_eq_take_append_cons_drop, if_pos (by omega), ByteArray.data_append, ByteArray.data_append, Array.toList_append, Array.toList_append, ext_list, ext_list]
  have e : List.take (s.size - (i + 1)) (List.drop (i + 1) s.data.toList) = List.drop (i + 1) s.data.toList := List.take_of_length_le (by rw [List.length_drop]; omega)
  rw [e]
  simp
theorem nbP : bt ⟨(encD exP).toArray⟩ 80 = 44 ∧ bt ⟨(encD exP).toArray⟩ 81 = 1 ∧ bt ⟨(encD exP).toArray⟩ 82 = 0 ∧ bt ⟨(encD exP).toArray⟩ 83 = 0 ∧ bt ⟨(encD exP).toArray⟩ 84 = 0 ∧ bt ⟨(encD exP).toArray⟩ 85 = 0 ∧ bt ⟨(encD exP).toArray⟩ 86 = 1 ∧ bt ⟨(encD exP).toArray⟩ 87 = 44 := by decide +kernel
theorem dif_one {s : ByteArray} {i p : Nat} {x : UInt8} (hs : s.size = 2048) (h0 : bt s 0 = 1 ∨ bt s 0 = 2) (hi : 0 < i) (h : ∀ q ∈ pairsD, sameB s q = true) (hp : pairsD.filter (fun q => decide (q.1 ≤ i ∧ i < q.1 + 2 * q.2)) = [(p, 4)]) (hn : sameB (chg s i x) (p, 4) = false) : difD (chg s i x) = [p] := by
  have e : pairsD.filter (fun q => !sameB (chg s i x) q) = pairsD.filter (fun q => decide (q.1 ≤ i ∧ i < q.1 + 2 * q.2)) := by
    refine List.filter_congr fun q hq => ?_
    by_cases hin : q.1 ≤ i ∧ i < q.1 + 2 * q.2
    · have hm : q ∈ pairsD.filter (fun q => decide (q.1 ≤ i ∧ i < q.1 + 2 * q.2)) := List.mem_filter.2 ⟨hq, decide_eq_true hin⟩
      rw [hp] at hm
      obtain rfl := List.mem_singleton.1 hm
      rw [hn, decide_eq_true hin]
      rfl
    · have hq2 : q.2 = 4 ∨ q.2 = 2 := by
        have : ∀ q ∈ pairsD, q.2 = 4 ∨ q.2 = 2 := by decide
        exact this q hq
      rw [same_chg hq2 (by omega), h q hq, decide_eq_false hin]
      rfl
  unfold difD
  rw [chg_size, chg_ne (by omega), if_neg (by omega), e, hp]
  rfl
theorem sizeP : (⟨(encD exP).toArray⟩ : ByteArray).size = 2048 := by
  show (encD exP).toArray.size = 2048
  rw [List.size_toArray, encD_len chkP]
theorem difP : difD ((⟨(encD exP).toArray⟩ : ByteArray).extract 0 80 ++ ⟨#[0]⟩ ++ (⟨(encD exP).toArray⟩ : ByteArray).extract 81 (⟨(encD exP).toArray⟩ : ByteArray).size) = [80] := by
  obtain ⟨_, b1, b2, b3, b4, b5, b6, b7⟩ := nbP
  rw [chg_cat (by rw [sizeP]; omega)]
  refine dif_one sizeP (Or.inl (by rw [encD_head chkP]; rfl)) (by omega) (encD_same chkP (Or.inl rfl)) (by decide) ?_
  unfold sameB
  rw [if_pos rfl]
  refine decide_eq_false ?_
  unfold le4 be4
  rw [chg_at (by rw [sizeP]; omega), chg_ne (by omega), chg_ne (by omega), chg_ne (by omega), chg_ne (by omega), chg_ne (by omega), chg_ne (by omega), chg_ne (by omega), b1, b2, b3, b4, b5, b6, b7]
  decide
/-- What is encoded is read: the first three blocks behind the start. -/
theorem read_ex {s u e : ByteArray} (hs : s.size = 2048) (hu : u.size = 2048) (he : e.size = 2048) (ds : decD s = (exP, 0)) (du : decD u = (exB, 0)) (de : decD e = (exT, 0)) : readA (List.replicate 16 ⟨#[]⟩ ++ [s, u, e]) 0 = ([exP, exB], 0, 0) := by
  unfold readA
  rw [readL_step (k := 63) (m := 16) (x := s) (by decide) rfl hs ds, if_neg (by decide), if_neg (by decide), if_neg (by decide)]
  rw [readL_step (k := 62) (m := 17) (x := u) (by decide) rfl hu du, if_neg (by decide), if_neg (by decide), if_neg (by decide)]
  rw [readL_step (k := 61) (m := 18) (x := e) (by decide) rfl he de, if_neg (by decide), if_neg (by decide), if_pos (by decide)]
  rfl
theorem enc_size {d : DR} (h : chkD d = 0) : (encDS d).size = 2048 := by
  rw [encDS_ok h]
  show (encD d).toArray.size = 2048
  rw [List.size_toArray, encD_len h]
theorem dec_enc {d : DR} (h : chkD d = 0) : decD (encDS d) = (d, 0) := by rw [encDS_ok h]; exact dec_encD h
/-- What the laws' example says of the blocks of its descriptors. -/
def ExS (s u e : ByteArray) : Prop := s.size = 2048 ∧ u.size = 2048 ∧ e.size = 2048 ∧ decD s = (exP, 0) ∧ s.extract 0 12 = ⟨#[1, 67, 68, 48, 48, 49, 1, 0, 32, 32, 32, 32]⟩ ∧ s.extract 40 48 = ⟨#[68, 73, 83, 67, 32, 32, 32, 32]⟩ ∧ bt u 71 = 33 ∧ bt e 0 = 255 ∧ readA (List.replicate 16 ⟨#[]⟩ ++ [s, u, e]) 0 = ([exP, exB], 0, 0) ∧ difD s = [] ∧ difD (s.extract 0 80 ++ ⟨#[0]⟩ ++ s.extract 81 s.size) = [80]
theorem ex_all : ∃ s u e : ByteArray, encDS exP = s ∧ encDS exB = u ∧ encDS exT = e ∧ ExS s u e := by
  refine ⟨_, _, _, rfl, rfl, rfl, enc_size chkP, enc_size chkB, enc_size chkT, dec_enc chkP, ?_, ?_, ?_, ?_, read_ex (enc_size chkP) (enc_size chkB) (enc_size chkT) (dec_enc chkP) (dec_enc chkB) (dec_enc chkT), ?_, ?_⟩
  · rw [encDS_ok chkP]; exact headP
  · rw [encDS_ok chkP]; exact nameP
  · rw [encDS_ok chkB]; exact catB
  · rw [encDS_ok chkT]; exact typT
  · rw [encDS_ok chkP]; exact dif_encD chkP
  · rw [encDS_ok chkP]; exact difP
end Go.Proofs.YtjbhokmkmapkoaaGreatDoor
namespace Go.Proofs.YtjbhokmkmapkoaaGreatDoor
set_option linter.unusedSimpArgs false
set_option linter.unusedVariables false
open Go.RowKit
open Go.PlainAid (bt get_bt bt_nonneg bt_le bt_end)
theorem results_cells2 {P : Program} {fn : Func} {p q : Tmp} {ty : TypeId} (h : fn.results = #[.cell p ty, .cell q ty]) (tmps : Array Value) (w : World) (g g2 : Nat) (t : TypeId) (cs cs2 : Array Value) (d : TypeDesc)
    (hp : tmps.getD p undef = .pointer (some ⟨g, 0, none⟩)) (hq : tmps.getD q undef = .pointer (some ⟨g2, 0, none⟩)) (hg : Blk w g cs t) (hg2 : Blk w g2 cs2 t)
    (hu : P.underlying ty = some d) (hd : (match d with | .struct _ | .array _ _ => true | _ => false) = true) (hi : (P.info? ty).map (·.size) = some cs.size) (hi2 : (P.info? ty).map (·.size) = some cs2.size) :
    (results fn tmps).run P w = .ok (.tuple #[.agg cs, .agg cs2]) w := by
  have hp' : tmps[p]?.getD undef = .pointer (some ⟨g, 0, none⟩) := by simpa using hp
  have hq' : tmps[q]?.getD undef = .pointer (some ⟨g2, 0, none⟩) := by simpa using hq
  simp [results, h, hp', hq', asAddr, run_loadVar_row w g t ty cs (0, 0) d hg hu hd hi, run_loadVar_row w g2 t ty cs2 (0, 0) d hg2 hu hd hi2]
theorem ex_ret {w W : World} {b0 b1 : Nat} (a : Act) (hd : a.defers = []) (h0 : a.tmps.getD 0 undef = .pointer (some ⟨b0, 0, none⟩)) (h1 : a.tmps.getD 1 undef = .pointer (some ⟨b1, 0, none⟩)) (hB : Blk W b0 exP.cells 27) (hB2 : Blk W b1 exB.cells 27) (hbel : Below w.heap.size w W) :
    bodyPost Tryz.prog Tryz.f26 (fun e w' => e = .returned (.tuple #[.agg exP.cells, .agg exB.cells]) ∧ Below w.heap.size w w') .ret a W :=
  bodyPost_ret (results_cells2 Tryz.results26 a.tmps W b0 b1 27 exP.cells exB.cells _ h0 h1 hB hB2 Tryz.underlying27 rfl (info27 _) (info27 _)) hd ⟨rfl, hbel⟩
set_option maxRecDepth 100000 in
set_option maxHeartbeats 4000000 in
theorem example_any (w : World) : Calls Tryz.prog 26 #[] w fun e w' => e = .returned (.tuple #[.agg exP.cells, .agg exB.cells]) ∧ Below w.heap.size w w' := by
  have HL : Live w [] := trivial
  go_enter Tryz.func26, Tryz.ntmps26
  go_upto_region 1 with fail
  have hB0 : Blk ((w.alloc (.cells #[.int .i64 0, .int .i64 0, .string ⟨#[]⟩, .string ⟨#[]⟩, .string ⟨#[]⟩, .string ⟨#[]⟩, .string ⟨#[]⟩, .int .i64 0, .int .i64 0, .int .i64 0, .int .i64 0, .int .i64 0, .int .i64 0, .int .i64 0, .int .i64 0, .string ⟨#[]⟩, .int .i64 0, .int .i64 0, .int .i64 0, .int .i64 0, .int .i64 0, .int .i64 0, .string ⟨#[]⟩] 27)).alloc (.cells #[.int .i64 0, .int .i64 0, .string ⟨#[]⟩, .string ⟨#[]⟩, .string ⟨#[]⟩, .string ⟨#[]⟩, .string ⟨#[]⟩, .int .i64 0, .int .i64 0, .int .i64 0, .int .i64 0, .int .i64 0, .int .i64 0, .int .i64 0, .int .i64 0, .string ⟨#[]⟩, .int .i64 0, .int .i64 0, .int .i64 0, .int .i64 0, .int .i64 0, .int .i64 0, .string ⟨#[]⟩] 27)) w.heap.size DR.zero.cells 27 := (Blk.newAt rfl).alloc _
  have hB1 : Blk ((w.alloc (.cells #[.int .i64 0, .int .i64 0, .string ⟨#[]⟩, .string ⟨#[]⟩, .string ⟨#[]⟩, .string ⟨#[]⟩, .string ⟨#[]⟩, .int .i64 0, .int .i64 0, .int .i64 0, .int .i64 0, .int .i64 0, .int .i64 0, .int .i64 0, .int .i64 0, .string ⟨#[]⟩, .int .i64 0, .int .i64 0, .int .i64 0, .int .i64 0, .int .i64 0, .int .i64 0, .string ⟨#[]⟩] 27)).alloc (.cells #[.int .i64 0, .int .i64 0, .string ⟨#[]⟩, .string ⟨#[]⟩, .string ⟨#[]⟩, .string ⟨#[]⟩, .string ⟨#[]⟩, .int .i64 0, .int .i64 0, .int .i64 0, .int .i64 0, .int .i64 0, .int .i64 0, .int .i64 0, .int .i64 0, .string ⟨#[]⟩, .int .i64 0, .int .i64 0, .int .i64 0, .int .i64 0, .int .i64 0, .int .i64 0, .string ⟨#[]⟩] 27)) (w.heap.size + 1) DR.zero.cells 27 := Blk.newAt (by simp only [World.size_alloc])
  have hbel1 : Below w.heap.size w ((w.alloc (.cells #[.int .i64 0, .int .i64 0, .string ⟨#[]⟩, .string ⟨#[]⟩, .string ⟨#[]⟩, .string ⟨#[]⟩, .string ⟨#[]⟩, .int .i64 0, .int .i64 0, .int .i64 0, .int .i64 0, .int .i64 0, .int .i64 0, .int .i64 0, .int .i64 0, .string ⟨#[]⟩, .int .i64 0, .int .i64 0, .int .i64 0, .int .i64 0, .int .i64 0, .int .i64 0, .string ⟨#[]⟩] 27)).alloc (.cells #[.int .i64 0, .int .i64 0, .string ⟨#[]⟩, .string ⟨#[]⟩, .string ⟨#[]⟩, .string ⟨#[]⟩, .string ⟨#[]⟩, .int .i64 0, .int .i64 0, .int .i64 0, .int .i64 0, .int .i64 0, .int .i64 0, .int .i64 0, .int .i64 0, .string ⟨#[]⟩, .int .i64 0, .int .i64 0, .int .i64 0, .int .i64 0, .int .i64 0, .int .i64 0, .string ⟨#[]⟩] 27)) := by (repeat' (first | (with_reducible exact Below.refl _ _) | (with_reducible refine Below.alloc ?_ ?_ _) | (with_reducible refine Below.setCell ?_ ?_ _) | (with_reducible refine Below.drew ?_) | (with_reducible refine below_drewN' ?_) | (with_reducible refine below_bytesW ?_ ?_) | (with_reducible refine Below.trans ?_ (Below.mono (by assumption) ?_)) | omega | (simp only [World.size_alloc, World.size_setCell, World.size_drew]; omega) | (simp [size_bytesW]; omega) | (simp; omega)))
  generalize (w.alloc (.cells #[.int .i64 0, .int .i64 0, .string ⟨#[]⟩, .string ⟨#[]⟩, .string ⟨#[]⟩, .string ⟨#[]⟩, .string ⟨#[]⟩, .int .i64 0, .int .i64 0, .int .i64 0, .int .i64 0, .int .i64 0, .int .i64 0, .int .i64 0, .int .i64 0, .string ⟨#[]⟩, .int .i64 0, .int .i64 0, .int .i64 0, .int .i64 0, .int .i64 0, .int .i64 0, .string ⟨#[]⟩] 27)).alloc (.cells #[.int .i64 0, .int .i64 0, .string ⟨#[]⟩, .string ⟨#[]⟩, .string ⟨#[]⟩, .string ⟨#[]⟩, .string ⟨#[]⟩, .int .i64 0, .int .i64 0, .int .i64 0, .int .i64 0, .int .i64 0, .int .i64 0, .int .i64 0, .int .i64 0, .string ⟨#[]⟩, .int .i64 0, .int .i64 0, .int .i64 0, .int .i64 0, .int .i64 0, .int .i64 0, .string ⟨#[]⟩] 27) = W1 at *
  obtain ⟨b1, eb1⟩ : ∃ b1, b1 = w.heap.size + 1 := ⟨_, rfl⟩
  obtain ⟨b0, eb0⟩ : ∃ b0, b0 = w.heap.size := ⟨_, rfl⟩
  rw [← eb1] at hB1 ⊢
  rw [← eb0] at hB0 ⊢
  have l0 : w.heap.size ≤ b0 := by omega
  have l1 : b0 < b1 := by omega
  clear eb0 eb1
  have hB0' := hide (show Blk ((W1.setRow b0 exP.cells).setRow b1 exB.cells) b0 exP.cells 27 from Blk.row (by omega) hB0.setRow)
  have hB1' := hide (show Blk ((W1.setRow b0 exP.cells).setRow b1 exB.cells) b1 exB.cells 27 from (Blk.row (C := exP.cells) (show b1 ≠ b0 by omega) hB1).setRow)
  have hbel' := below_setRow' (below_setRow' hbel1 l0 exP.cells) (show w.heap.size ≤ b1 by omega) exB.cells
  go_wp2_with (first | (refine wpList_store_row rfl 27 (.tmp 0) (.tmp 4) rfl b0 exP.cells rfl rfl 27 _ hB0 (info27 _) (size27 _ _) (one27 _) ?_) | (refine wpList_store_row rfl 27 (.tmp 1) (.tmp 5) rfl b1 exB.cells rfl rfl 27 _ (Blk.row (C := exP.cells) (show b1 ≠ b0 by omega) hB1) (info27 _) (size27 _ _) (one27 _) ?_))
  (try simp only [Exit.inBlock, Exit.then])
  exact ex_ret _ rfl rfl rfl hB0'.out hB1'.out hbel'
end Go.Proofs.YtjbhokmkmapkoaaGreatDoor
