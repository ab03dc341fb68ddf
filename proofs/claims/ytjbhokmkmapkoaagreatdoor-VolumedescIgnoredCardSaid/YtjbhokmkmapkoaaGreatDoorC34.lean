/- Contracts and plain words for the laws of volume descriptors, part 34: D3, D4. No condition. -/
import Derived.Test.YtjbhokmkmapkoaaGreatDoorC33
namespace Go.Proofs.YtjbhokmkmapkoaaGreatDoor
set_option linter.unusedSimpArgs false
set_option linter.unusedVariables false
open Go.RowKit
open Go.PlainAid (bt get_bt bt_nonneg bt_le bt_end)
set_option maxRecDepth 100000 in
set_option maxHeartbeats 4000000 in
theorem rdiffer_any (s : ByteArray) (h100 : s.size ≤ 100000) (w : World) : Calls Tryz.prog 21 #[.string s] w (DifP s w) := by
  have hbb := get_bt s
  by_cases hsz : s.size = 2048
  case neg =>
    have HD := hide (dif_no (s := s) (Or.inl hsz))
    have q : ((s.size : Int) != 2048) = true := by simp; omega
    clear hsz
    have HL : Live w [] := trivial
    go_enter Tryz.func21, Tryz.ntmps21
    go_wp2
    go_ret
    exact DifP.nil HD.out (by (exact bl))
  case pos =>
  have q : ((s.size : Int) != 2048) = false := by simp; omega
  have n0 : 0 < s.size := by omega
  have i0 : (0 : Int) < (s.size : Int) := by omega
  have HS := hide hsz
  by_cases h12 : bt s 0 = 1 ∨ bt s 0 = 2
  case neg =>
    have HD := hide (dif_no (s := s) (Or.inr (by omega)))
    have q1 : (bt s 0 != 1) = true := by simp; omega
    have q2 : (bt s 0 != 2) = true := by simp; omega
    clear hsz h12
    have HL : Live w [] := trivial
    go_enter Tryz.func21, Tryz.ntmps21
    go_wp2
    go_ret
    exact DifP.nil HD.out (by (exact bl))
  case pos =>
  have HD := hide (difK_all hsz h12)
  have H12 := hide h12
  clear hsz h12
  obtain ⟨i0', hi, hz0, hz1, hz2⟩ := info_parts intInfo
  have HL : Live w [] := trivial
  go_enter Tryz.func21, Tryz.ntmps21
  go_upto_region 2 with fail
  go_cut [22] (fun v wx => v = .bool false ∧ w = wx)
  case first =>
    rcases H12.out with h | h
    · have q1 : (bt s 0 != 1) = false := by rw [h]; rfl
      clear h
      go_wp2
      go_meet
      exact ⟨rfl, rfl⟩
    · have q1 : (bt s 0 != 1) = true := by rw [h]; rfl
      have q2 : (bt s 0 != 2) = false := by rw [h]; rfl
      clear h
      go_wp2
      go_meet
      exact ⟨rfl, rfl⟩
  case rest =>
  obtain ⟨rfl, rfl⟩ := hcut
  clear hbb q n0 i0
  go_upto_block 0 with fail
  have hBa : Blk ((w.alloc (.cells difO 3)).alloc (.cells difZ 3)) w.heap.size difO 3 := (Blk.newAt rfl).alloc _
  have hBb : Blk ((w.alloc (.cells difO 3)).alloc (.cells difZ 3)) (w.heap.size + 1) difZ 3 := Blk.newAt (by simp only [World.size_alloc])
  have hbel0 : Below w.heap.size w ((w.alloc (.cells difO 3)).alloc (.cells difZ 3)) := by (exact bl)
  have hlt0 := hBa.lt
  have hlt1 := hBb.lt
  unfold difO difZ at hBa hBb hbel0 hlt0 hlt1
  generalize (w.alloc (.cells #[.int .i64 80, .int .i64 120, .int .i64 124, .int .i64 128, .int .i64 132, .int .i64 158, .int .i64 166, .int .i64 184] 3)).alloc (.cells #[.int .i64 4, .int .i64 2, .int .i64 2, .int .i64 2, .int .i64 4, .int .i64 4, .int .i64 4, .int .i64 2] 3) = W1 at *
  have hBa' : Blk W1 w.heap.size difO 3 := hBa
  have hBb' : Blk W1 (w.heap.size + 1) difZ 3 := hBb
  have hzw := hbel0.size
  clear hBa hBb
  obtain ⟨gb, hgb⟩ : ∃ gb, gb = w.heap.size + 1 := ⟨_, rfl⟩
  obtain ⟨ga, hga⟩ : ∃ ga, ga = w.heap.size := ⟨_, rfl⟩
  rw [← hgb] at hBb' hlt1
  (try rw [← hgb])
  rw [← hga] at hBa' hlt0
  (try rw [← hga])
  have HGE := hide hga
  clear hga hgb
  go_wp2_with fail
  go_loopw [6, 3] (fun i out wr => ∃ k : Nat, k ≤ 8 ∧ i = .int .i64 k ∧ wr.ownsRow W1.heap.size 3 1 out (difK s k).length (difV (difK s k)) ∧ Below W1.heap.size W1 wr ∧ Blk wr ga difO 3 ∧ Blk wr gb difZ 3) (fun i _ _ => 8 - (intOf i).toNat)
  case atStart => exact ⟨0, by omega, rfl, World.ownsRow_nil _ _ _ _, Below.refl _ _, hBa', hBb'⟩
  case round =>
    obtain ⟨k, hk8, rfl, hown, hbel, hga, hgb⟩ := hrel
    have hszr := hbel.size
    by_cases hk : k < 8
    case pos =>
      obtain ⟨_, _, hf0, hf1⟩ := dif_at k hk
      obtain ⟨hn, hin, _⟩ := dif_in k hk
      have HY := hide (fun h => difK_y (s := s) hk h)
      have HN := hide (fun h => difK_n (s := s) hk h)
      have hln := difK_len s k
      have hz := HS.out
      have RRB := hide (fun W => rrb_any s (pA k) (pN k) h100 hn (by omega) W)
      generalize pA k = p at *
      generalize pN k = n at *
      have f0 := (hga.cells k).trans hf0
      have f1 := (hgb.cells k).trans hf1
      have HF0 := hide hf0
      have HF1 := hide hf1
      clear hf0 hf1 hn hin hz
      have HO := hide hown
      have HGA := hide hga
      have HGB := hide hgb
      have HBe := hide hbel
      clear hown hga hgb hbel
      go_upto_region 9 with fail
      refine wp_region_noPanic ?_
      refine wp_region_held_drew (S := (fun x => x.cell? ⟨ga, k, none⟩ = some (.int .i64 (p : Nat)) ∧ x.cell? ⟨gb, k, none⟩ = some (.int .i64 (n : Nat)))) (by kernel_rfl) kp (fun hHeld => ?_)
      refine tkY 0 ⟨some 32, .move (.tmp 0), 9, "ref.go:190", #[], none⟩ ?_ ?_ ?_
      rotate_left
      · intro w hSw; (try dsimp only at hSw); go_simp; (try with_reducible rfl)
      try simp only [PT]
      refine tkY 1 ⟨some 33, .move (.tmp 4), 37, "ref.go:190", #[], none⟩ ?_ ?_ ?_
      rotate_left
      · intro w hSw; (try dsimp only at hSw); go_simp; (try with_reducible rfl)
      try simp only [PT]
      refine tkY 2 ⟨some 34, .move (.tmp 6), 3, "ref.go:190", #[], none⟩ ?_ ?_ ?_
      rotate_left
      · intro w hSw; (try dsimp only at hSw); go_simp; (try with_reducible rfl)
      try simp only [PT]
      refine tkY 3 ⟨some 35, .indexAddr 37 (.tmp 33) (.tmp 34), 0, "ref.go:190", #[⟨1, .data⟩, ⟨2, .data⟩], none⟩ ?_ ?_ ?_
      rotate_left
      · intro w hSw; (try dsimp only at hSw); go_simp; (try with_reducible rfl)
      try simp only [PT]
      refine tkY 4 ⟨some 36, .load 3 (.tmp 35), 3, "ref.go:190", #[⟨3, .data⟩], none⟩ ?_ ?_ ?_
      rotate_left
      · intro w hSw; (try dsimp only at hSw); go_simp; (try with_reducible rfl)
      try simp only [PT]
      refine tkY 5 ⟨some 37, .move (.tmp 5), 37, "ref.go:190", #[], none⟩ ?_ ?_ ?_
      rotate_left
      · intro w hSw; (try dsimp only at hSw); go_simp; (try with_reducible rfl)
      try simp only [PT]
      refine tkY 6 ⟨some 38, .move (.tmp 6), 3, "ref.go:190", #[], none⟩ ?_ ?_ ?_
      rotate_left
      · intro w hSw; (try dsimp only at hSw); go_simp; (try with_reducible rfl)
      try simp only [PT]
      refine tkY 7 ⟨some 39, .indexAddr 37 (.tmp 37) (.tmp 38), 0, "ref.go:190", #[⟨5, .data⟩, ⟨6, .data⟩], none⟩ ?_ ?_ ?_
      rotate_left
      · intro w hSw; (try dsimp only at hSw); go_simp; (try with_reducible rfl)
      try simp only [PT]
      refine tkY 8 ⟨some 40, .load 3 (.tmp 39), 3, "ref.go:190", #[⟨7, .data⟩], none⟩ ?_ ?_ ?_
      rotate_left
      · intro w hSw; (try dsimp only at hSw); go_simp; (try with_reducible rfl)
      try simp only [PT]
      refine wpAnyH_ready (rs := [9]) (by kernel_rfl) (by simp) ?_
      refine AllReadyH.cons (o := ⟨some 41, .call ⟨.value (.func 66), #[.tmp 32, .tmp 36, .tmp 40], #[9, 3, 3]⟩, 90, "ref.go:190", #[⟨0, .data⟩, ⟨4, .data⟩, ⟨8, .data⟩], none⟩) rfl (fun K hK => ?_) AllReadyH.nil
      go_simp
      (go_at_call 66; (with_reducible refine (RRB.out _).mono ?_); rintro e w1 ⟨v, rfl, hb1⟩; have hka := Blk.below hb1 HGA.out; have hkb := Blk.below hb1 HGB.out; have hkeep : w1.cell? ⟨ga, k, none⟩ = some (.int .i64 (p : Nat)) ∧ w1.cell? ⟨gb, k, none⟩ = some (.int .i64 (n : Nat)) := ⟨(hka.cells k).trans HF0.out, (hkb.cells k).trans HF1.out⟩)
      go_wp2_with fail
      refine hK.out _ _ kp (fun hHeld => ?_)
      clear hK K
      try simp only [PT]
      refine tkY 10 ⟨some 31, .move (.tmp 41), 90, "ref.go:190", #[⟨9, .data⟩], none⟩ ?_ ?_ ?_
      rotate_left
      · intro w hSw; (try dsimp only at hSw); go_simp; (try with_reducible rfl)
      try simp only [PT]
      refine tkY 11 ⟨some 42, .extract (.tmp 31) 0, 3, "ref.go:190", #[⟨10, .data⟩], none⟩ ?_ ?_ ?_
      rotate_left
      · intro w hSw; (try dsimp only at hSw); go_simp; (try with_reducible rfl)
      try simp only [PT]
      refine tkY 12 ⟨some 43, .extract (.tmp 31) 1, 4, "ref.go:190", #[⟨10, .data⟩, ⟨14, .gcOnly .lateStores⟩], none⟩ ?_ ?_ ?_
      rotate_left
      · intro w hSw; (try dsimp only at hSw); go_simp; (try with_reducible rfl)
      try simp only [PT]
      refine tkY 13 ⟨some 44, .extract (.tmp 31) 2, 30, "ref.go:190", #[⟨10, .data⟩, ⟨15, .gcOnly .lateStores⟩], none⟩ ?_ ?_ ?_
      rotate_left
      · intro w hSw; (try dsimp only at hSw); go_simp; (try with_reducible rfl)
      try simp only [PT]
      refine tkY 14 ⟨some 7, .assign (.tmp 42), 3, "ref.go:190", #[⟨11, .data⟩, ⟨9, .chain⟩, ⟨0, .phase⟩, ⟨1, .phase⟩, ⟨2, .phase⟩, ⟨3, .phase⟩, ⟨4, .phase⟩, ⟨5, .phase⟩, ⟨6, .phase⟩, ⟨7, .phase⟩, ⟨8, .phase⟩, ⟨9, .phase⟩, ⟨10, .phase⟩, ⟨11, .phase⟩, ⟨12, .textOnly .lateStores⟩, ⟨13, .textOnly .lateStores⟩], none⟩ ?_ ?_ ?_
      rotate_left
      · intro w hSw; (try dsimp only at hSw); go_simp; (try with_reducible rfl)
      try simp only [PT]
      refine tkY 15 ⟨some 8, .assign (.tmp 43), 4, "ref.go:190", #[⟨12, .data⟩, ⟨14, .chain⟩, ⟨0, .phase⟩, ⟨1, .phase⟩, ⟨2, .phase⟩, ⟨3, .phase⟩, ⟨4, .phase⟩, ⟨5, .phase⟩, ⟨6, .phase⟩, ⟨7, .phase⟩, ⟨8, .phase⟩, ⟨9, .phase⟩, ⟨10, .phase⟩, ⟨11, .phase⟩, ⟨12, .phase⟩, ⟨13, .textOnly .lateStores⟩, ⟨14, .phase⟩], none⟩ ?_ ?_ ?_
      rotate_left
      · intro w hSw; (try dsimp only at hSw); go_simp; (try with_reducible rfl)
      try simp only [PT]
      refine tkY 16 ⟨some 9, .assign (.tmp 44), 30, "ref.go:190", #[⟨13, .data⟩, ⟨15, .chain⟩, ⟨0, .phase⟩, ⟨1, .phase⟩, ⟨2, .phase⟩, ⟨3, .phase⟩, ⟨4, .phase⟩, ⟨5, .phase⟩, ⟨6, .phase⟩, ⟨7, .phase⟩, ⟨8, .phase⟩, ⟨9, .phase⟩, ⟨10, .phase⟩, ⟨11, .phase⟩, ⟨12, .phase⟩, ⟨13, .phase⟩, ⟨14, .phase⟩, ⟨15, .phase⟩], none⟩ ?_ ?_ ?_
      rotate_left
      · intro w hSw; (try dsimp only at hSw); go_simp; (try with_reducible rfl)
      try simp only [PT]
      refine wpAnyH_done (by kernel_rfl) ?_ _
      refine NoPanic.normal ?_
      have HO1 := hide (ownsRow_below (World.ownsRow.drew HO.out) hb1)
      have HG1 := hide hka
      have HG2 := hide hkb
      have HB1 := hide ((show Below W1.heap.size W1 wr.drew from ⟨HBe.out.os, HBe.out.tape, HBe.out.output, HBe.out.size, HBe.out.block⟩).trans (hb1.mono HBe.out.size))
      have hz1' : W1.heap.size ≤ w1.heap.size := by have h1 : wr.heap.size ≤ w1.heap.size := hb1.size; omega
      have y0 : w1.cell? ⟨ga, k, none⟩ = some (.int .i64 (p : Nat)) := hkeep.1
      clear f0 f1 HO HGA HGB HBe hka hkb hb1 hkeep RRB
      cases hsm : sameB s (p, n)
      case true =>
        have HE := hide (HY.out hsm)
        clear hsm
        go_wp2_with fail
        go_roundw
        case rel => exact ⟨k + 1, by omega, by go_num, by rw [HE.out]; exact HO1.out, HB1.out, HG1.out, HG2.out⟩
        case measure => simp [intOf]; omega
      case false =>
        have HE := hide (HN.out hsm)
        clear hsm
        go_wp2_with (at_builtin; refine wpList_append_one _ rfl _ _ 37 rfl W1.heap.size 3 intInfo Tryz.underlying37 rfl (by decide) _ _ _ HO1.out #[.int .i64 (p : Nat)] rfl rfl rfl (by simp [Value.oneCell']) (by unfold maxLen; omega) (by omega) (by omega) ?_; intro v2 w2 hown2 hb2 hot2 hz2)
        go_roundw
        case rel => exact ⟨k + 1, by omega, by go_num, by rw [HE.out, difV_snoc, List.length_append]; exact hown2, HB1.out.trans hb2, Blk.under hb2 (by omega) HG1.out, Blk.under hb2 (by omega) HG2.out⟩
        case measure => simp [intOf]; omega
    case neg =>
      have ek : k = 8 := by omega
      subst ek
      have HO := hide hown
      clear hown
      go_wp2_with fail
      go_ret
      refine ⟨_, rfl, ?_, hbel0.trans (hbel.mono hbel0.size)⟩
      rw [HD.out]
      exact row_mono HO.out (by omega)
end Go.Proofs.YtjbhokmkmapkoaaGreatDoor
namespace Go.Proofs.YtjbhokmkmapkoaaGreatDoor
set_option linter.unusedSimpArgs false
set_option linter.unusedVariables false
open Go.RowKit
open Go.PlainAid (bt get_bt bt_nonneg bt_le bt_end)
/-- A slice reads as numbers. -/
def ReadsN (w : World) (a : Value) (l : List Nat) : Prop := ∃ A c, a = .slice A l.length c ∧ (0 < l.length → ∃ g, A = some ⟨g, 0, none⟩ ∧ g < w.heap.size ∧ ∀ (j n : Nat), l[j]? = some n → w.cell? ⟨g, j, none⟩ = some (.int .i64 (n : Int)))
theorem ReadsN.below {w w1 : World} {v : Value} {L : List Nat} (h : ReadsN w v L) (hb : Below w.heap.size w w1) : ReadsN w1 v L := by
  obtain ⟨A, c, e, h⟩ := h
  refine ⟨A, c, e, fun h0 => ?_⟩
  obtain ⟨g, e2, hg, hc⟩ := h h0
  exact ⟨g, e2, Nat.lt_of_lt_of_le hg hb.size, fun j u hu => (hb.cell (p := ⟨g, j, none⟩) hg).trans (hc j u hu)⟩
theorem ReadsN.of {w : World} {B : Nat} {v : Value} {L : List Nat} (h : w.ownsRow B 3 1 v L.length (difV L)) : ReadsN w v L := by
  rcases Go.Joins.ownsRow_forms h with ⟨rfl, h0⟩ | ⟨g, cap, rfl⟩
  · exact ⟨none, 0, by rw [h0], fun h1 => by omega⟩
  · refine ⟨_, _, rfl, fun _ => ⟨g, rfl, (h.lt g rfl).2, fun j n hn => ?_⟩⟩
    have hj := (List.getElem?_eq_some_iff.1 hn).1
    rw [h.cellAt j (by omega)]
    unfold difV
    rw [List.getElem?_map, hn]
    rfl
/-- A row of one number laid just now. -/
theorem ReadsN.one (w : World) (n : Nat) : ReadsN (w.alloc (.cells #[.int .i64 (n : Int)] 3)) (.slice (some ⟨w.heap.size, 0, none⟩) 1 1) [n] :=
  ⟨_, _, rfl, fun _ => ⟨w.heap.size, rfl, by rw [World.size_alloc]; omega, fun j m hm => by
    have h1 : j < 1 := (List.getElem?_eq_some_iff.1 hm).1
    obtain rfl : j = 0 := by omega
    have e : n = m := by simpa using hm
    rw [World.cell?_alloc_new, e]
    rfl⟩⟩
set_option maxRecDepth 100000 in
set_option maxHeartbeats 4000000 in
theorem equal_any (L M : List Nat) (a b : Value) (hL : L.length ≤ 100000) (hM : M.length ≤ 100000) (w : World) (ha : ReadsN w a L) (hb : ReadsN w b M) : Calls Tryz.prog 19 #[a, b] w fun e w' => e = .returned (.bool (decide (L = M))) ∧ Below w.heap.size w w' := by
  obtain ⟨A, c, rfl, hA⟩ := ha
  obtain ⟨A2, c2, rfl, hA2⟩ := hb
  by_cases hlen : L.length = M.length
  case neg =>
    have HD := hide (show decide (L = M) = false from decide_eq_false fun h => hlen (by rw [h]))
    have q : ((L.length : Int) != (M.length : Int)) = true := by simp; omega
    have HL : Live w [] := trivial
    go_enter Tryz.func19, Tryz.ntmps19
    go_wp2_with fail
    go_ret
    exact ⟨ret_b HD.out.symm, by (exact bl)⟩
  have q : ((L.length : Int) != (M.length : Int)) = false := by simp; omega
  have HA := hide hA
  have HA2 := hide hA2
  clear hA hA2
  have HL : Live w [] := trivial
  go_enter Tryz.func19, Tryz.ntmps19
  go_wp2_with fail
  go_loopw [13] (fun i wr => ∃ k : Nat, k ≤ L.length ∧ i = .int .i64 k ∧ L.take k = M.take k ∧ Below w.heap.size w wr) (fun i _ => L.length - (intOf i).toNat)
  case atStart => exact ⟨0, by omega, rfl, rfl, by (exact bl)⟩
  case round =>
    obtain ⟨k, hk, rfl, htk, hbel⟩ := hrel
    have HTK := hide htk
    clear htk
    have hsz := hbel.size
    by_cases hlt : k < L.length
    · obtain ⟨x, hx⟩ : ∃ x, L[k]? = some x := ⟨_, List.getElem?_eq_getElem hlt⟩
      obtain ⟨y, hy⟩ : ∃ y, M[k]? = some y := ⟨_, List.getElem?_eq_getElem (by omega)⟩
      obtain ⟨g, rfl, hg, hc⟩ := HA.out (by omega)
      obtain ⟨g2, rfl, hg2, hc2⟩ := HA2.out (by omega)
      have r1 : wr.cell? ⟨g, k, none⟩ = some (.int .i64 (x : Int)) := (hbel.cell (p := ⟨g, k, none⟩) hg).trans (hc _ _ hx)
      have r2 : wr.cell? ⟨g2, k, none⟩ = some (.int .i64 (y : Int)) := (hbel.cell (p := ⟨g2, k, none⟩) hg2).trans (hc2 _ _ hy)
      have HX := hide hx
      have HY := hide hy
      clear hc hc2 hx hy
      go_upto_region 6 with fail
      refine wp_region_noPanic ?_
      refine wp_region_held_drew (S := (fun z => z.cell? ⟨g, k, none⟩ = some (.int .i64 (x : Int)) ∧ z.cell? ⟨g2, k, none⟩ = some (.int .i64 (y : Int)))) (by kernel_rfl) kp (fun hHeld => ?_)
      refine tkY 0 ⟨some 16, .move (.tmp 0), 37, "slices.go:25", #[], none⟩ ?_ ?_ ?_
      rotate_left
      · intro w hSw; (try dsimp only at hSw); go_simp; (try with_reducible rfl)
      try simp only [PT]
      refine tkY 1 ⟨some 17, .move (.tmp 5), 3, "slices.go:25", #[], none⟩ ?_ ?_ ?_
      rotate_left
      · intro w hSw; (try dsimp only at hSw); go_simp; (try with_reducible rfl)
      try simp only [PT]
      refine tkY 2 ⟨some 18, .indexAddr 37 (.tmp 16) (.tmp 17), 0, "slices.go:25", #[⟨0, .data⟩, ⟨1, .data⟩], none⟩ ?_ ?_ ?_
      rotate_left
      · intro w hSw; (try dsimp only at hSw); go_simp; (try with_reducible rfl)
      try simp only [PT]
      refine tkY 3 ⟨some 19, .load 3 (.tmp 18), 3, "slices.go:25", #[⟨2, .data⟩], none⟩ ?_ ?_ ?_
      rotate_left
      · intro w hSw; (try dsimp only at hSw); go_simp; (try with_reducible rfl)
      try simp only [PT]
      refine tkY 4 ⟨some 20, .move (.tmp 1), 37, "slices.go:25", #[], none⟩ ?_ ?_ ?_
      rotate_left
      · intro w hSw; (try dsimp only at hSw); go_simp; (try with_reducible rfl)
      try simp only [PT]
      refine tkY 5 ⟨some 21, .move (.tmp 5), 3, "slices.go:25", #[], none⟩ ?_ ?_ ?_
      rotate_left
      · intro w hSw; (try dsimp only at hSw); go_simp; (try with_reducible rfl)
      try simp only [PT]
      refine tkY 6 ⟨some 22, .indexAddr 37 (.tmp 20) (.tmp 21), 0, "slices.go:25", #[⟨4, .data⟩, ⟨5, .data⟩], none⟩ ?_ ?_ ?_
      rotate_left
      · intro w hSw; (try dsimp only at hSw); go_simp; (try with_reducible rfl)
      try simp only [PT]
      refine tkY 7 ⟨some 23, .load 3 (.tmp 22), 3, "slices.go:25", #[⟨6, .data⟩], none⟩ ?_ ?_ ?_
      rotate_left
      · intro w hSw; (try dsimp only at hSw); go_simp; (try with_reducible rfl)
      try simp only [PT]
      refine tkY 8 ⟨some 24, .binOp .neq 3 (.tmp 19) (.tmp 23) 3, 4, "slices.go:25", #[⟨3, .data⟩, ⟨7, .data⟩], none⟩ ?_ ?_ ?_
      rotate_left
      · intro w hSw; (try dsimp only at hSw); go_simp; (try with_reducible rfl)
      try simp only [PT]
      refine wpAnyH_done (by kernel_rfl) ?_ _
      refine NoPanic.normal ?_
      clear hHeld
      by_cases hxy : x = y
      · have q2 : ((x : Int) != (y : Int)) = false := by simp; omega
        have HT := hide (show L.take (k + 1) = M.take (k + 1) from by rw [List.take_add_one, List.take_add_one, HTK.out, HX.out, HY.out, hxy])
        clear hxy
        go_wp2_with fail
        go_roundw
        case rel => exact ⟨k + 1, by omega, by go_num, HT.out, hbel.drew⟩
        case measure => simp [intOf]; omega
      · have q2 : ((x : Int) != (y : Int)) = true := by simp; omega
        have HD := hide (show decide (L = M) = false from decide_eq_false fun h => hxy (by
          subst h
          exact Option.some.inj (HX.out.symm.trans HY.out)))
        clear hxy
        go_wp2_with fail
        go_ret
        exact ⟨ret_b HD.out.symm, hbel.drew⟩
    · obtain rfl : k = L.length := by omega
      have HD := hide (show decide (L = M) = true from decide_eq_true (by
        have h := HTK.out
        rw [List.take_length, hlen, List.take_length] at h
        exact h))
      go_wp2_with fail
      go_ret
      exact ⟨ret_b HD.out.symm, hbel⟩
end Go.Proofs.YtjbhokmkmapkoaaGreatDoor
