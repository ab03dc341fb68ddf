/- The statement RockridgeReturns, walked. -/
import Derived.Test.YtopajpomhflgbaaGreatDoorCM26
import Derived.Test.YtopajpomhflgbaaGreatDoorCM19
namespace Go.Proofs.YtopajpomhflgbaaGreatDoor
set_option linter.unusedSimpArgs false
set_option linter.unusedVariables false
open Go.RowKit

def knownV : Array Value := #[.string sPX, .string sNM, .string sSL, .string sTF, .string sCL, .string sPL, .string sRE]
theorem known_cells {w : World} {b : Nat} {T : TypeId} (h : Blk w b knownV T) : ∀ j s, knownS[j]? = some s → w.cell? ⟨b, j, none⟩ = some (.string s) := by
  intro j s hs
  rw [h.cells j]
  match j, hs with
  | 0, hs => simp [knownS] at hs; subst hs; rfl
  | 1, hs => simp [knownS] at hs; subst hs; rfl
  | 2, hs => simp [knownS] at hs; subst hs; rfl
  | 3, hs => simp [knownS] at hs; subst hs; rfl
  | 4, hs => simp [knownS] at hs; subst hs; rfl
  | 5, hs => simp [knownS] at hs; subst hs; rfl
  | 6, hs => simp [knownS] at hs; subst hs; rfl
  | j + 7, hs => simp [knownS] at hs
theorem list_eq {s : ByteArray} {l : List UInt8} (h : s = ⟨l.toArray⟩) : (s.toList == l) = true := by
  rw [h, ByteArray.toList_eq]; simp
theorem known_arr : (#[.string sPX, .string sNM, .string sSL, .string sTF, .string sCL, .string sPL, .string sRE] : Array Value) = knownV := rfl
theorem cells_arr (r : RR) : (#[.bool r.att, .int .i64 r.kind, .int .i64 r.mode, .int .i64 r.links, .int .i64 r.uid, .int .i64 r.gid, .bool r.named, .string r.name, .string r.target, .bool r.timed, .int .i64 r.time, .int .i64 r.child, .int .i64 r.parent, .bool r.reloc] : Array Value) = r.cells := rfl
theorem piece_known {L O : List En} {k : Nat} {y : En} (h : O[k]? = some y) (hk : knownB y.sig = true) : mixA L O (k + 1) = mixA L O k := by
  rw [mixA_succ]; unfold piece; rw [h]; simp [hk]
theorem piece_one {L O : List En} {k : Nat} {y : En} (h : O[k]? = some y) (hk : knownB y.sig = false) (hl : L[k]? = none) : mixA L O (k + 1) = mixA L O k ++ [y] := by
  rw [mixA_succ]; unfold piece; rw [h]; simp [hk, hl]
theorem piece_two {L O : List En} {k : Nat} {y x : En} (h : O[k]? = some y) (hk : knownB y.sig = false) (hl : L[k]? = some x) : mixA L O (k + 1) = mixA L O k ++ [y] ++ [x] := by
  rw [mixA_succ]; unfold piece; rw [h]; simp [hk, hl]
theorem has_known (kb : Nat) (x : ByteArray) (w : World) (hc : ∀ j s, knownS[j]? = some s → w.cell? ⟨kb, j, none⟩ = some (.string s)) : Calls Tryz.prog 24 #[.slice (some ⟨kb, 0, none⟩) 7 7, .string x] w fun e w' => e = .returned (.bool (knownB x)) ∧ w = w' :=
  has_str kb 7 knownS x w (by decide) hc
theorem ReadsAt.cells {w : World} {A : Option Addr} {n c : Nat} {L : List En} (h : ReadsAt w (.slice A n c) L) (h0 : 0 < L.length) : ∃ g o, A = some ⟨g, o, none⟩ ∧ g < w.heap.size ∧ ∀ j u, (entsV L)[j]? = some u → w.cell? ⟨g, o + j, none⟩ = some u := by
  obtain ⟨A', c', e, h⟩ := h
  injection e with e1 e2 e3
  rw [e1]
  exact h h0
theorem ReadsE.cells {w : World} {A : Option Addr} {n c : Nat} {L : List En} (h : ReadsE w (.slice A n c) L) (h0 : 0 < L.length) : ∃ g, A = some ⟨g, 0, none⟩ ∧ g < w.heap.size ∧ ∀ j u, (entsV L)[j]? = some u → w.cell? ⟨g, j, none⟩ = some u := by
  obtain ⟨A', c', e, h⟩ := h
  injection e with e1 e2 e3
  rw [e1]
  exact h h0
def OwnE (B : Nat) (M : List En) (v : Value) (w : World) : Prop := w.ownsRow B 32 3 v M.length (entsV M)
theorem OwnE.snoc {B : Nat} {M : List En} {y : En} {v : Value} {w : World} (h : w.ownsRow B 32 3 v (M.length + 1) (entsV M ++ [.string y.sig, .int .i64 y.ver, .string y.data])) : OwnE B (M ++ [y]) v w := by
  unfold OwnE
  rw [List.length_append, entsV_snoc]
  exact h
theorem OwnE.row {B : Nat} {M : List En} {v : Value} {w : World} (h : OwnE B M v w) (o : Obj) : (w.alloc o).ownsRow B 32 3 v M.length (entsV M) := World.ownsRow.alloc h o
theorem OwnE.reads {B : Nat} {M : List En} {v : Value} {w : World} (h : OwnE B M v w) : ReadsE w v M := ReadsE.of h
theorem OwnE.below {B : Nat} {M : List En} {v : Value} {w w1 : World} (h : OwnE B M v w) (hb : Below w.heap.size w w1) : OwnE B M v w1 := below_row' h hb
set_option maxRecDepth 100000 in
set_option maxHeartbeats 16000000 in
theorem law_returns (r : RR) (O : List En) (ov : Value) (w : World) (hT : TabV w) (hO : ReadsAt w ov O) (hol : O.length ≤ maxLen) : Calls Tryz.prog 7 #[.agg r.cells, ov] w fun e w' => e = .returned (.bool true) ∧ Below w.heap.size w w' := by
  have HO0 := hide hO
  obtain ⟨A2, c2, hov, _⟩ := hO
  subst hov
  have hB0 : Blk (w.alloc (.cells r.cells 23)) w.heap.size r.cells 23 := Blk.newAt rfl
  have hbel0 : Below w.heap.size w (w.alloc (.cells r.cells 23)) := by (repeat' (first | (with_reducible exact Below.refl _ _) | (with_reducible refine Below.alloc ?_ ?_ _) | (with_reducible refine Below.setCell ?_ ?_ _) | (with_reducible refine Below.drew ?_) | (with_reducible refine below_drewN' ?_) | (with_reducible refine below_bytesW ?_ ?_) | (with_reducible refine Below.trans ?_ (Below.mono (by assumption) ?_)) | omega | (simp only [World.size_alloc, World.size_setCell, World.size_drew]; omega) | (simp [size_bytesW]; omega) | (simp; omega)))
  obtain ⟨W1, hW1⟩ : ∃ W1, W1 = w.alloc (.cells r.cells 23) := ⟨_, rfl⟩
  rw [← hW1] at hB0 hbel0
  have HL : Live w [] := trivial
  go_enter Tryz.func7, Tryz.ntmps7
  go_upto_region 1 with fail
  rw [← hW1]
  clear hW1
  go_wp2_with fail
  refine (awake_any _ (hT.below hbel0)).mono ?_
  rintro e w1 ⟨rfl, hb1⟩
  have hB1 := hB0.below hb1
  have hbel1 := hbel0.trans (hb1.mono hbel0.size)
  have hrr1 := RRat.of hB1
  unfold RRat at hrr1
  go_wp2_with fail
  rw [cells_lit]
  refine (short_any r _).mono ?_
  rintro e w2 ⟨rfl, hb2⟩
  have hB2 := hB1.below hb2
  have hbel2 := hbel1.trans (hb2.mono hbel1.size)
  have hrr2 := RRat.of hB2
  unfold RRat at hrr2
  clear hrr1
  cases hs : shortB r
  case false =>
    go_wp2
    go_ret
    exact ⟨rfl, hbel2⟩
  have hs0 := hide hs
  unfold shortB at hs
  have hs := of_decide_eq_true hs
  have SM := hide (small_any O _ hol _ (HO0.out.below hbel2))
  cases hsm : smallE O
  case false =>
    rw [hsm] at SM
    clear hsm
    go_wp2_with fail
    refine SM.out.mono ?_
    rintro e w3 ⟨rfl, rfl⟩
    go_wp2
    go_ret
    exact ⟨rfl, hbel2⟩
  rw [hsm] at SM
  have HSM := hide hsm
  clear hsm
  go_wp2_with fail
  refine SM.out.mono ?_
  rintro e w3 ⟨rfl, rfl⟩
  go_wp2_with fail
  try rw [cells_lit]
  refine (entries_any r (by omega) (by omega) _ (hT.below hbel2)).mono ?_
  intro e w3 hE
  obtain ⟨va, rfl, hra, hb3⟩ := hE.both
  have hB3 := hB2.below hb3
  have hbel3 := hbel2.trans (hb3.mono hbel2.size)
  by_cases h0 : chk r = 0
  case neg =>
    rw [if_neg h0] at hra
    obtain ⟨A, c, rfl, _⟩ := hra
    have hq : (chk r == 0) = false := by rw [beq_eq_false_iff_ne]; exact h0
    have hq2 : (chk r != 0) = true := by rw [bne_iff_ne]; exact h0
    clear h0
    go_wp2
    go_ret
    exact ⟨rfl, hbel3⟩
  have hlen := ents_len r
  rw [if_pos h0] at hra
  have SAY := hide (says_ents r h0)
  have hO20 : O.length ≤ 20 := by
    have := HSM.out
    unfold smallE at this
    simp only [Bool.and_eq_true, decide_eq_true_eq] at this
    exact this.1
  have hO4 : ∀ e ∈ O, e.data.size ≤ 400 := by
    have := HSM.out
    unfold smallE at this
    simp only [Bool.and_eq_true, List.all_eq_true] at this
    intro e he
    have := this.2 e he
    unfold smE at this
    simp only [Bool.and_eq_true, decide_eq_true_eq] at this
    exact this.1
  have SAY2 := hide (mixed_says r O h0 hO20 hO4)
  have HM := hide (show mixed r O = mixC (mixB (mixA (ents r) O O.length) (ents r) (ents r).length) (ents r) (ents r).length from rfl)
  rw [h0]
  clear h0 hO4 hrr2
  generalize mixed r O = MX at *
  generalize ents r = L at *
  have HR3 := hide hra
  obtain ⟨A, c, hva, hA⟩ := hra
  rw [hva]
  rw [hva] at HR3
  clear hA hva
  go_wp2_with fail
  refine (read_says L r SAY.out _ _ (hT.below hbel3) HR3.out).mono ?_
  rintro e w4 ⟨rfl, hb4⟩
  have hB4 := hB3.below hb4
  have hbel4 := hbel3.trans (hb4.mono hbel3.size)
  have HR4 := hide (HR3.out.below hb4)
  unfold RR.cells
  go_upto_region 9 with fail
  have hX : Blk (w4.alloc (.cells r.cells 23)) w4.heap.size r.cells 23 := Blk.newAt rfl
  have hB5 := hB4.alloc (.cells r.cells 23)
  have hb5 : Below w4.heap.size w4 (w4.alloc (.cells r.cells 23)) := by (repeat' (first | (with_reducible exact Below.refl _ _) | (with_reducible refine Below.alloc ?_ ?_ _) | (with_reducible refine Below.setCell ?_ ?_ _) | (with_reducible refine Below.drew ?_) | (with_reducible refine below_drewN' ?_) | (with_reducible refine below_bytesW ?_ ?_) | (with_reducible refine Below.trans ?_ (Below.mono (by assumption) ?_)) | omega | (simp only [World.size_alloc, World.size_setCell, World.size_drew]; omega) | (simp [size_bytesW]; omega) | (simp; omega)))
  have hxb : w.heap.size < w4.heap.size := hB4.lt
  rw [cells_arr]
  obtain ⟨w5, hw5⟩ : ∃ w5, w5 = w4.alloc (.cells r.cells 23) := ⟨_, rfl⟩
  rw [← hw5] at hX hB5 hb5
  rw [← hw5]
  clear hw5
  obtain ⟨xb, hxe⟩ : ∃ xb, xb = w4.heap.size := ⟨_, rfl⟩
  rw [← hxe] at hX hxb
  rw [← hxe]
  have HXE := hide hxe
  clear hxe
  have hbel5 := hbel4.trans (hb5.mono hbel4.size)
  have HR5 := hide (HR4.out.below hb5)
  have hrrX := RRat.of hX
  unfold RRat at hrrX
  have hrr5 := RRat.of hB5
  unfold RRat at hrr5
  go_upto_region 13 with fail
  have hK : Blk (w5.alloc (.cells knownV 9)) w5.heap.size knownV 9 := Blk.newAt rfl
  have hB6 := hB5.alloc (.cells knownV 9)
  have hX6 := hX.alloc (.cells knownV 9)
  have hb6 : Below w5.heap.size w5 (w5.alloc (.cells knownV 9)) := by (repeat' (first | (with_reducible exact Below.refl _ _) | (with_reducible refine Below.alloc ?_ ?_ _) | (with_reducible refine Below.setCell ?_ ?_ _) | (with_reducible refine Below.drew ?_) | (with_reducible refine below_drewN' ?_) | (with_reducible refine below_bytesW ?_ ?_) | (with_reducible refine Below.trans ?_ (Below.mono (by assumption) ?_)) | omega | (simp only [World.size_alloc, World.size_setCell, World.size_drew]; omega) | (simp [size_bytesW]; omega) | (simp; omega)))
  rw [known_arr]
  obtain ⟨w6, hw6⟩ : ∃ w6, w6 = w5.alloc (.cells knownV 9) := ⟨_, rfl⟩
  rw [← hw6] at hK hB6 hX6 hb6
  rw [← hw6]
  clear hw6
  obtain ⟨kb, hke⟩ : ∃ kb, kb = w5.heap.size := ⟨_, rfl⟩
  rw [← hke] at hK
  rw [← hke]
  clear hke
  have hbel6 := hbel5.trans (hb6.mono hbel5.size)
  have HR6 := hide (HR5.out.below hb6)
  have HO6 := hide (HO0.out.below hbel6)
  have hT6 := hT.below hbel6
  have hxlt := hX6.lt
  have hklt := hK.lt
  have HK := hide (known_cells hK)
  obtain ⟨B, hBe⟩ : ∃ B, B = w6.heap.size := ⟨_, rfl⟩
  rw [← hBe] at hxlt hklt
  have hB6le : B ≤ w6.heap.size := by omega
  have hBel : w.heap.size ≤ B := by have := hbel6.size; omega
  have HBE := hide hBe
  clear hBe hrrX hrr5 hK
  go_wp2_with fail
  go_loopw [10, 52] (fun m c wr => ∃ k : Nat, k ≤ O.length ∧ c = .int .i64 k ∧ OwnE B (mixA L O k) m wr ∧ Below B w6 wr) (fun _ c _ => O.length - (intOf c).toNat)
  case atStart => exact ⟨0, by omega, rfl, World.ownsRow_nil _ _ _ _, Below.refl _ _⟩
  case round =>
    obtain ⟨k, hk, rfl, hown, hbel⟩ := hrel
    have HW := hide hown
    clear hown
    have hsz := hbel.size
    have hML := mixA_len L O k
    by_cases hlt : k < O.length
    · obtain ⟨y, hy⟩ : ∃ y, O[k]? = some y := ⟨_, List.getElem?_eq_getElem hlt⟩
      obtain ⟨g, o, rfl, hg, hc⟩ := HO6.out.cells (by omega)
      obtain ⟨v0, v1, v2⟩ := entsV_at O k y hy
      have hgB : g < B := by have := HBE.out; omega
      have c0 : wr.cell? ⟨g, o + k * 3, none⟩ = some (.string y.sig) := (hbel.cell (p := ⟨g, _, none⟩) hgB).trans (hc _ _ v0)
      have c1 : wr.cell? ⟨g, o + k * 3 + 1, none⟩ = some (.int .i64 y.ver) := (hbel.cell (p := ⟨g, _, none⟩) hgB).trans (hc _ _ v1)
      have c2 : wr.cell? ⟨g, o + k * 3 + 1 + 1, none⟩ = some (.string y.data) := (hbel.cell (p := ⟨g, _, none⟩) hgB).trans (hc _ _ v2)
      have HY := hide hy
      clear hy hc v0 v1 v2
      go_upto_region 16 with fail
      have hBw : B ≤ wr.heap.size := by have := HBE.out; omega
      have hby : Below B w6 (wr.alloc (.cells #[.string y.sig, .int .i64 y.ver, .string y.data] 32)) := hbel.alloc hBw _
      have HWy := hide (OwnE.below HW.out (show Below wr.heap.size wr (wr.alloc (.cells #[.string y.sig, .int .i64 y.ver, .string y.data] 32)) from (Below.refl _ _).alloc (Nat.le_refl _) _))
      have hYb : Blk (wr.alloc (.cells #[.string y.sig, .int .i64 y.ver, .string y.data] 32)) wr.heap.size #[.string y.sig, .int .i64 y.ver, .string y.data] 32 := Blk.newAt rfl
      obtain ⟨wy, hwy⟩ : ∃ wy, wy = wr.alloc (.cells #[.string y.sig, .int .i64 y.ver, .string y.data] 32) := ⟨_, rfl⟩
      rw [← hwy] at hby HWy hYb
      rw [← hwy]
      clear hwy
      obtain ⟨yb, hyb⟩ : ∃ yb, yb = wr.heap.size := ⟨_, rfl⟩
      rw [← hyb] at hYb
      rw [← hyb]
      have hBy : B ≤ yb := by omega
      clear hyb
      have hylt := hYb.lt
      have e0 : wy.cell? ⟨yb, 0, none⟩ = some (.string y.sig) := (hYb.cells 0).trans rfl
      have e1 : wy.cell? ⟨yb, 1, none⟩ = some (.int .i64 y.ver) := (hYb.cells 1).trans rfl
      have e2 : wy.cell? ⟨yb, 2, none⟩ = some (.string y.data) := (hYb.cells 2).trans rfl
      clear c0 c1 c2
      have KN := hide (has_known kb y.sig wy (fun j s hs => (hby.cell (p := ⟨kb, j, none⟩) hklt).trans (HK.out j s hs)))
      cases hkb : knownB y.sig
      case true =>
        rw [hkb] at KN
        have HT := hide (piece_known (L := L) HY.out hkb)
        clear hkb
        go_wp2_with fail
        refine KN.out.mono ?_
        rintro e w' ⟨rfl, rfl⟩
        go_wp2
        go_roundw
        case rel => exact ⟨k + 1, by omega, by go_num, by rw [HT.out]; exact HWy.out, hby⟩
        case measure => simp [intOf]; omega
      case false =>
        rw [hkb] at KN
        have HKB := hide hkb
        clear hkb
        go_wp2_with fail
        refine KN.out.mono ?_
        rintro e w' ⟨rfl, rfl⟩
        go_upto_region 18 with (at_builtin; refine wpList_append_one _ rfl _ _ 26 rfl B 32 entInfo Tryz.underlying26 rfl (by decide) _ _ _ HWy.out #[.string y.sig, .int .i64 y.ver, .string y.data] rfl rfl rfl (by simp [Value.oneCell']) (by unfold maxLen; omega) (by omega) (by omega) ?_; intro v2 w2 hown2 hb2 hot2 hz2)
        have hown2 := hide (OwnE.snoc hown2)
        have hbel2 := hby.trans hb2
        by_cases hkl : k < L.length
        · obtain ⟨x, hx⟩ : ∃ x, L[k]? = some x := ⟨_, List.getElem?_eq_getElem hkl⟩
          have HT := hide (piece_two HY.out HKB.out hx)
          obtain ⟨g2, rfl, hg2, hc2⟩ := HR6.out.cells (by omega)
          obtain ⟨u0, u1, u2⟩ := entsV_at L k x hx
          have hgB2 : g2 < B := by have := HBE.out; omega
          have d0 : w2.cell? ⟨g2, k * 3, none⟩ = some (.string x.sig) := (hbel2.cell (p := ⟨g2, _, none⟩) hgB2).trans (hc2 _ _ u0)
          have d1 : w2.cell? ⟨g2, k * 3 + 1, none⟩ = some (.int .i64 x.ver) := (hbel2.cell (p := ⟨g2, _, none⟩) hgB2).trans (hc2 _ _ u1)
          have d2 : w2.cell? ⟨g2, k * 3 + 1 + 1, none⟩ = some (.string x.data) := (hbel2.cell (p := ⟨g2, _, none⟩) hgB2).trans (hc2 _ _ u2)
          have hz3 : B ≤ w2.heap.size := by omega
          have hln : (mixA L O k ++ [y]).length ≤ 60 := by rw [List.length_append]; simp; omega
          clear hx hc2 u0 u1 u2
          generalize mixA L O k ++ [y] = My at *
          go_wp2_with (at_builtin; refine wpList_append_one _ rfl _ _ 26 rfl B 32 entInfo Tryz.underlying26 rfl (by decide) _ _ _ hown2.out #[.string x.sig, .int .i64 x.ver, .string x.data] rfl rfl rfl (by simp [Value.oneCell']) (by unfold maxLen; omega) (by omega) hz3 ?_; intro v3 w3 hown3 hb3 hot3 hz3)
          have hown3 := hide (OwnE.snoc hown3)
          go_roundw
          case rel => exact ⟨k + 1, by omega, by go_num, by rw [HT.out]; exact hown3.out, hbel2.trans hb3⟩
          case measure => simp [intOf]; omega
        · have HT := hide (piece_one (L := L) HY.out HKB.out (List.getElem?_eq_none (by omega)))
          go_wp2
          go_roundw
          case rel => exact ⟨k + 1, by omega, by go_num, by rw [HT.out]; exact hown2.out, hbel2⟩
          case measure => simp [intOf]; omega
    · obtain rfl : k = O.length := by omega
      have hM1 : (mixA L O O.length).length ≤ 40 := by omega
      generalize mixA L O O.length = M1 at *
      clear hML
      obtain ⟨w7, hw7⟩ : ∃ x, x = wr := ⟨_, rfl⟩
      subst hw7
      have HW7 := hide HW.out
      have hbel7 := hbel
      clear HW hbel hsz hlt hk
      go_wp2_with fail
      go_loopw [10, 79] (fun m c wr => ∃ k : Nat, k ≤ L.length ∧ c = .int .i64 k ∧ OwnE B (mixB M1 L k) m wr ∧ Below B w6 wr) (fun _ c _ => L.length - (intOf c).toNat)
      case atStart => exact ⟨0, by omega, rfl, HW7.out, hbel7⟩
      case round =>
        obtain ⟨k, hk, rfl, hown, hbel⟩ := hrel
        have HW := hide hown
        clear hown
        have hsz := hbel.size
        have hML : (mixB M1 L k).length ≤ 50 := by
          have := mixB_len (L.take k) M1
          have : (L.take k).length ≤ k := List.length_take_le _ _
          unfold mixB
          omega
        by_cases hlt : k < L.length
        · obtain ⟨y, hy⟩ : ∃ y, L[k]? = some y := ⟨_, List.getElem?_eq_getElem hlt⟩
          obtain ⟨g, rfl, hg, hc⟩ := HR6.out.cells (by omega)
          obtain ⟨v0, v1, v2⟩ := entsV_at L k y hy
          have hgB : g < B := by have := HBE.out; omega
          have c0 : wr.cell? ⟨g, k * 3, none⟩ = some (.string y.sig) := (hbel.cell (p := ⟨g, _, none⟩) hgB).trans (hc _ _ v0)
          have c1 : wr.cell? ⟨g, k * 3 + 1, none⟩ = some (.int .i64 y.ver) := (hbel.cell (p := ⟨g, _, none⟩) hgB).trans (hc _ _ v1)
          have c2 : wr.cell? ⟨g, k * 3 + 1 + 1, none⟩ = some (.string y.data) := (hbel.cell (p := ⟨g, _, none⟩) hgB).trans (hc _ _ v2)
          have HY := hide hy
          clear hy hc v0 v1 v2
          have HT := hide (mixB_succ M1 L k y HY.out)
          unfold addB at HT
          generalize mixB M1 L k = M at *
          go_upto_region 24 with fail
          have hBw : B ≤ wr.heap.size := by have := HBE.out; omega
          have hby : Below B w6 (wr.alloc (.cells #[.string y.sig, .int .i64 y.ver, .string y.data] 32)) := hbel.alloc hBw _
          have HWy := hide (OwnE.below HW.out (show Below wr.heap.size wr (wr.alloc (.cells #[.string y.sig, .int .i64 y.ver, .string y.data] 32)) from (Below.refl _ _).alloc (Nat.le_refl _) _))
          have hYb : Blk (wr.alloc (.cells #[.string y.sig, .int .i64 y.ver, .string y.data] 32)) wr.heap.size #[.string y.sig, .int .i64 y.ver, .string y.data] 32 := Blk.newAt rfl
          obtain ⟨wy, hwy⟩ : ∃ wy, wy = wr.alloc (.cells #[.string y.sig, .int .i64 y.ver, .string y.data] 32) := ⟨_, rfl⟩
          rw [← hwy] at hby HWy hYb
          rw [← hwy]
          clear hwy
          obtain ⟨yb, hyb⟩ : ∃ yb, yb = wr.heap.size := ⟨_, rfl⟩
          rw [← hyb] at hYb
          rw [← hyb]
          have hBy : B ≤ yb := by omega
          clear hyb
          have hylt := hYb.lt
          have e0 : wy.cell? ⟨yb, 0, none⟩ = some (.string y.sig) := (hYb.cells 0).trans rfl
          have e1 : wy.cell? ⟨yb, 1, none⟩ = some (.int .i64 y.ver) := (hYb.cells 1).trans rfl
          have e2 : wy.cell? ⟨yb, 2, none⟩ = some (.string y.data) := (hYb.cells 2).trans rfl
          clear c0 c1 c2
          have CN := hide (has_en M y _ wy (by omega) (OwnE.reads HWy.out))
          cases hm : memB y M
          case true =>
            rw [hm] at CN
            have HE := hide (HT.out.trans (if_pos hm))
            clear hm HT
            go_wp2_with fail
            refine CN.out.mono ?_
            rintro e w' ⟨rfl, hbc⟩
            go_wp2
            go_roundw
            case rel => exact ⟨k + 1, by omega, by go_num, by rw [HE.out]; exact OwnE.below HWy.out hbc, hby.trans (hbc.mono (by omega))⟩
            case measure => simp [intOf]; omega
          case false =>
            rw [hm] at CN
            have HE := hide (HT.out.trans (if_neg (by rw [hm]; simp)))
            clear hm HT
            go_wp2_with fail
            refine CN.out.mono ?_
            rintro e wc ⟨rfl, hbc⟩
            have HWc := hide (OwnE.below HWy.out hbc)
            have hYc := hYb.below hbc
            have f0 : wc.cell? ⟨yb, 0, none⟩ = some (.string y.sig) := (hYc.cells 0).trans rfl
            have f1 : wc.cell? ⟨yb, 1, none⟩ = some (.int .i64 y.ver) := (hYc.cells 1).trans rfl
            have f2 : wc.cell? ⟨yb, 2, none⟩ = some (.string y.data) := (hYc.cells 2).trans rfl
            have hbelc := hby.trans (hbc.mono (by omega))
            have hzc : B ≤ wc.heap.size := by have := hbc.size; omega
            go_wp2_with (at_builtin; refine wpList_append_one _ rfl _ _ 26 rfl B 32 entInfo Tryz.underlying26 rfl (by decide) _ _ _ HWc.out #[.string y.sig, .int .i64 y.ver, .string y.data] rfl rfl rfl (by simp [Value.oneCell']) (by unfold maxLen; omega) (by omega) hzc ?_; intro v2 w2 hown2 hb2 hot2 hz2)
            have hown2 := hide (OwnE.snoc hown2)
            go_roundw
            case rel => exact ⟨k + 1, by omega, by go_num, by rw [HE.out]; exact hown2.out, hbelc.trans hb2⟩
            case measure => simp [intOf]; omega
        · obtain rfl : k = L.length := by omega
          generalize mixB M1 L L.length = M2 at *
          obtain ⟨w8, hw8⟩ : ∃ x, x = wr := ⟨_, rfl⟩
          subst hw8
          have HW8 := hide HW.out
          have hbel8 := hbel
          clear HW hbel hsz hlt hk HW7 hbel7
          go_wp2_with fail
          go_loopw [10, 94] (fun m c wr => ∃ k : Nat, k ≤ L.length ∧ c = .int .i64 k ∧ OwnE B (mixC M2 L k) m wr ∧ Below B w6 wr) (fun _ c _ => L.length - (intOf c).toNat)
          case atStart => exact ⟨0, by omega, rfl, by unfold mixC; rw [List.take_zero, List.flatMap_nil, List.append_nil]; exact HW8.out, hbel8⟩
          case round =>
            obtain ⟨k, hk, rfl, hown, hbel⟩ := hrel
            have HW := hide hown
            clear hown
            have hsz := hbel.size
            have hMC : (mixC M2 L k).length ≤ 60 := by
              have := spoils_len (L.take k)
              have : (L.take k).length ≤ k := List.length_take_le _ _
              unfold mixC
              rw [List.length_append]
              omega
            by_cases hlt : k < L.length
            · obtain ⟨y, hy⟩ : ∃ y, L[k]? = some y := ⟨_, List.getElem?_eq_getElem hlt⟩
              obtain ⟨g, rfl, hg, hc⟩ := HR6.out.cells (by omega)
              obtain ⟨v0, v1, v2⟩ := entsV_at L k y hy
              have hgB : g < B := by have := HBE.out; omega
              have c0 : wr.cell? ⟨g, k * 3, none⟩ = some (.string y.sig) := (hbel.cell (p := ⟨g, _, none⟩) hgB).trans (hc _ _ v0)
              have c1 : wr.cell? ⟨g, k * 3 + 1, none⟩ = some (.int .i64 y.ver) := (hbel.cell (p := ⟨g, _, none⟩) hgB).trans (hc _ _ v1)
              have c2 : wr.cell? ⟨g, k * 3 + 1 + 1, none⟩ = some (.string y.data) := (hbel.cell (p := ⟨g, _, none⟩) hgB).trans (hc _ _ v2)
              have HY := hide hy
              clear hy hc v0 v1 v2
              have HT := hide (mixC_succ M2 L k y HY.out)
              unfold spoil at HT
              generalize mixC M2 L k = M at *
              go_upto_region 30 with fail
              have hBw : B ≤ wr.heap.size := by have := HBE.out; omega
              have hby : Below B w6 (wr.alloc (.cells #[.string y.sig, .int .i64 y.ver, .string y.data] 32)) := hbel.alloc hBw _
              have HWy := hide (OwnE.below HW.out (show Below wr.heap.size wr (wr.alloc (.cells #[.string y.sig, .int .i64 y.ver, .string y.data] 32)) from (Below.refl _ _).alloc (Nat.le_refl _) _))
              have hYb : Blk (wr.alloc (.cells #[.string y.sig, .int .i64 y.ver, .string y.data] 32)) wr.heap.size #[.string y.sig, .int .i64 y.ver, .string y.data] 32 := Blk.newAt rfl
              obtain ⟨wy, hwy⟩ : ∃ wy, wy = wr.alloc (.cells #[.string y.sig, .int .i64 y.ver, .string y.data] 32) := ⟨_, rfl⟩
              rw [← hwy] at hby HWy hYb
              rw [← hwy]
              clear hwy
              obtain ⟨yb, hyb⟩ : ∃ yb, yb = wr.heap.size := ⟨_, rfl⟩
              rw [← hyb] at hYb
              rw [← hyb]
              have hBy : B ≤ yb := by omega
              clear hyb
              have hylt := hYb.lt
              have e0 : wy.cell? ⟨yb, 0, none⟩ = some (.string y.sig) := (hYb.cells 0).trans rfl
              have e1 : wy.cell? ⟨yb, 1, none⟩ = some (.int .i64 y.ver) := (hYb.cells 1).trans rfl
              have e2 : wy.cell? ⟨yb, 2, none⟩ = some (.string y.data) := (hYb.cells 2).trans rfl
              clear c0 c1 c2
              by_cases q1 : y.sig = sRE
              · have hq : (y.sig.toList == [82, 69]) = true := list_eq q1
                have HE := hide (HT.out.trans (by rw [if_neg (by rintro ⟨h, _⟩; exact h q1), List.append_nil]))
                clear q1 HT
                go_wp2
                go_roundw
                case rel => exact ⟨k + 1, by omega, by go_num, by rw [HE.out]; exact HWy.out, hby⟩
                case measure => simp [intOf]; omega
              by_cases q2 : y.sig = sNM
              · have hq1 : (y.sig.toList == [82, 69]) = false := eq_list q1
                have hq : (y.sig.toList == [78, 77]) = true := list_eq q2
                have HE := hide (HT.out.trans (by rw [if_neg (by rintro ⟨_, h, _⟩; exact h q2), List.append_nil]))
                clear q1 q2 HT
                go_wp2
                go_roundw
                case rel => exact ⟨k + 1, by omega, by go_num, by rw [HE.out]; exact HWy.out, hby⟩
                case measure => simp [intOf]; omega
              by_cases q3 : y.sig = sSL
              · have hq1 : (y.sig.toList == [82, 69]) = false := eq_list q1
                have hq2 : (y.sig.toList == [78, 77]) = false := eq_list q2
                have hq : (y.sig.toList == [83, 76]) = true := list_eq q3
                have HE := hide (HT.out.trans (by rw [if_neg (by rintro ⟨_, _, h⟩; exact h q3), List.append_nil]))
                clear q1 q2 q3 HT
                go_wp2
                go_roundw
                case rel => exact ⟨k + 1, by omega, by go_num, by rw [HE.out]; exact HWy.out, hby⟩
                case measure => simp [intOf]; omega
              have hq1 : (y.sig.toList == [82, 69]) = false := eq_list q1
              have hq2 : (y.sig.toList == [78, 77]) = false := eq_list q2
              have hq3 : (y.sig.toList == [83, 76]) = false := eq_list q3
              have HE := hide (HT.out.trans (by rw [if_pos ⟨q1, q2, q3⟩]))
              have hzy : B ≤ wy.heap.size := by omega
              clear q1 q2 q3 HT
              go_wp2_with (at_builtin; refine wpList_append_one _ rfl _ _ 26 rfl B 32 entInfo Tryz.underlying26 rfl (by decide) _ _ _ HWy.out #[.string y.sig, .int .i64 1, .string ⟨#[]⟩] rfl rfl rfl (by simp [Value.oneCell']) (by unfold maxLen; omega) (by omega) hzy ?_; intro v2 w2 hown2 hb2 hot2 hz2)
              have hown2 := hide (OwnE.snoc (y := ⟨y.sig, 1, ⟨#[]⟩⟩) hown2)
              go_roundw
              case rel => exact ⟨k + 1, by omega, by go_num, by rw [HE.out]; exact hown2.out, hby.trans hb2⟩
              case measure => simp [intOf]; omega
            · obtain rfl : k = L.length := by omega
              have hown9 := HW.out
              rw [← HM.out] at hown9
              have HR9 := hide (OwnE.reads hown9)
              clear hown9
              obtain ⟨A9, c9, hv9, hA9⟩ := HR9.out
              have hB9 : Blk wr w.heap.size r.cells 23 := hB6.under hbel (by omega)
              have hX9 : Blk wr xb r.cells 23 := hX6.under hbel hxlt
              have hbel9 := hbel6.trans (hbel.mono hBel)
              have hT9 := hT.below hbel9
              have RD := hide (read_says MX r SAY2.out _ wr hT9 HR9.out)
              clear hv9 hA9
              go_wp2_with fail
              refine RD.out.mono ?_
              rintro e wx ⟨rfl, hbx⟩
              have hBx := hB9.below hbx
              have hXx := hX9.below hbx
              have hrrB := RRat.of hBx
              unfold RRat at hrrB
              have hrrX := RRat.of hXx
              unfold RRat at hrrX
              have hfr := hXx.free
              have hbelx := hbel9.trans (hbx.mono hbel9.size)
              have hzx := hXx.lt
              have hne : w.heap.size ≠ xb := by omega
              unfold RR.cells
              go_wp2_with fail
              go_ret
              exact ⟨rfl, by (repeat' (first | (with_reducible exact Below.refl _ _) | (with_reducible refine Below.alloc ?_ ?_ _) | (with_reducible refine Below.setCell ?_ ?_ _) | (with_reducible refine Below.drew ?_) | (with_reducible refine below_drewN' ?_) | (with_reducible refine below_bytesW ?_ ?_) | (with_reducible refine Below.trans ?_ (Below.mono (by assumption) ?_)) | omega | (simp only [World.size_alloc, World.size_setCell, World.size_drew]; omega) | (simp [size_bytesW]; omega) | (simp; omega)))⟩
end Go.Proofs.YtopajpomhflgbaaGreatDoor
