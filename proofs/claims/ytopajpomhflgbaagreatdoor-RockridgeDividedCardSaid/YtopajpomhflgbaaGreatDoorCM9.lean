/- Contracts of rockridge.joined, at either literal that Read hands to it. -/
import Derived.Test.YtopajpomhflgbaaGreatDoorCM6
namespace Go.Proofs.YtopajpomhflgbaaGreatDoor
set_option linter.unusedSimpArgs false
set_option linter.unusedVariables false
open Go.RowKit
open Go.PlainAid (bt get_bt bt_nonneg bt_le)

def tlB (s : ByteArray) : List UInt8 := (s.extract 1 s.size).data.toList
/-- What entries that go on say together: the bytes, whether there are some, whether they have their form. -/
def joinF (sig : ByteArray) (nm : Bool) : List En → List UInt8 → Bool → Bool → List UInt8 × Bool × Bool
  | [], d, s, on => (d, s, !on)
  | e :: r, d, s, on =>
    if e.sig ≠ sig then joinF sig nm r d s on
    else if e.data.size = 0 then ([], true, false)
    else if nm = true ∧ 1 < bt e.data 0 then joinF sig nm r d s on
    else if bt e.data 0 = 1 then joinF sig nm r (d ++ tlB e.data) true true
    else (d ++ tlB e.data, true, true)
def joinV (r : List UInt8 × Bool × Bool) : Value := .tuple #[.string ⟨r.1.toArray⟩, .bool r.2.1, .bool r.2.2]
theorem join_drop {sig : ByteArray} {nm : Bool} {L : List En} {k : Nat} {e : En} (h : L[k]? = some e) (d : List UInt8) (s on : Bool) : joinF sig nm (L.drop k) d s on =
    if e.sig ≠ sig then joinF sig nm (L.drop (k + 1)) d s on
    else if e.data.size = 0 then ([], true, false)
    else if nm = true ∧ 1 < bt e.data 0 then joinF sig nm (L.drop (k + 1)) d s on
    else if bt e.data 0 = 1 then joinF sig nm (L.drop (k + 1)) (d ++ tlB e.data) true true
    else (d ++ tlB e.data, true, true) := by
  obtain ⟨hk, rfl⟩ := List.getElem?_eq_some_iff.1 h
  rw [List.drop_eq_getElem_cons hk, joinF]
theorem join_end {sig : ByteArray} {nm : Bool} {L : List En} (d : List UInt8) (s on : Bool) : joinF sig nm (L.drop L.length) d s on = (d, s, !on) := by
  rw [List.drop_length]; rfl
theorem tlB_len {s : ByteArray} : (tlB s).length ≤ s.size := by
  unfold tlB
  rw [← ByteArray.toList_eq, Lib.extract_toList, List.length_take, List.length_drop, Array.length_toList]
  show min (s.size - 1) (s.data.size - 1) ≤ s.size
  omega
theorem cat_tl (d : List UInt8) (s : ByteArray) : ByteArray.mk d.toArray ++ s.extract 1 s.size = ⟨(d ++ tlB s).toArray⟩ := by
  rw [← cat_arr]
  congr 1
set_option maxHeartbeats 400000 in
theorem rl2 (f : Int) (w : World) : Calls Tryz.prog 53 #[.int .u8 f] w fun e w' => e = .returned (.bool (decide (1 < f))) ∧ w = w' := by
  have HL : Live w [] := trivial
  go_enter Tryz.func53, Tryz.ntmps53
  go_wp2
  go_ret
  exact ⟨rfl, rfl⟩
set_option maxHeartbeats 400000 in
theorem rl3 (f : Int) (w : World) : Calls Tryz.prog 54 #[.int .u8 f] w fun e w' => e = .returned (.bool false) ∧ w = w' := by
  have HL : Live w [] := trivial
  go_enter Tryz.func54, Tryz.ntmps54
  go_wp2
  go_ret
  exact ⟨rfl, rfl⟩
set_option maxRecDepth 100000 in
set_option maxHeartbeats 8000000 in
theorem joined_nm (L : List En) (sig : ByteArray) (a : Value) (w : World) (hL : L.length ≤ 1000) (hD : ∀ e ∈ L, e.data.size ≤ 1000000) (ha : ReadsE w a L) :
    Calls Tryz.prog 52 #[a, .string sig, .func (.func 53) #[] #[]] w fun e w' => e = .returned (joinV (joinF sig true L [] false false)) ∧ Below w.heap.size w w' := by
  obtain ⟨A, c, rfl, hA⟩ := ha
  have HA := hide hA
  have HDs := hide hD
  clear hA hD
  have HL : Live w [] := trivial
  go_enter Tryz.func52, Tryz.ntmps52
  go_wp2_with fail
  go_loopw [6, 7, 9, 15] (fun dv sv ov i wr => ∃ k : Nat, k ≤ L.length ∧ i = .int .i64 k ∧ ∃ (d : List UInt8) (s on : Bool), dv = .string ⟨d.toArray⟩ ∧ sv = .bool s ∧ ov = .bool on ∧ joinF sig true L [] false false = joinF sig true (L.drop k) d s on ∧ d.length ≤ k * 1000000 ∧ Below w.heap.size w wr) (fun _ _ _ i _ => L.length - (intOf i).toNat)
  case atStart => exact ⟨0, by omega, rfl, [], false, false, rfl, rfl, rfl, rfl, by simp, by (repeat' (first | (with_reducible exact Below.refl _ _) | (with_reducible refine Below.alloc ?_ ?_ _) | (with_reducible refine Below.setCell ?_ ?_ _) | (with_reducible refine Below.drew ?_) | (with_reducible refine below_drewN' ?_) | (with_reducible refine below_bytesW ?_ ?_) | (with_reducible refine Below.trans ?_ (Below.mono (by assumption) ?_)) | omega | (simp only [World.size_alloc, World.size_setCell, World.size_drew]; omega) | (simp [size_bytesW]; omega) | (simp; omega)))⟩
  case round =>
    obtain ⟨k, hk, rfl, d, s, on, rfl, rfl, rfl, hd, hdl, hbel⟩ := hrel
    have HD := hide hd
    clear hd
    have hsz := hbel.size
    by_cases hlt : k < L.length
    case neg =>
      obtain rfl : k = L.length := by omega
      have E2 := hide (join_end (sig := sig) (nm := true) (L := L) d s on)
      go_wp2
      go_ret3
      exact ⟨by rw [HD.out, E2.out]; rfl, hbel⟩
    case pos =>
      obtain ⟨x, he⟩ : ∃ x, L[k]? = some x := ⟨_, List.getElem?_eq_getElem hlt⟩
      obtain ⟨g, rfl, hg, hcl⟩ := HA.out (by omega)
      obtain ⟨v0, v1, v2⟩ := entsV_at L k x he
      have c0 : wr.cell? ⟨g, k * 3, none⟩ = some (.string x.sig) := (hbel.cell (p := ⟨g, _, none⟩) hg).trans (hcl _ _ v0)
      have c1 : wr.cell? ⟨g, k * 3 + 1, none⟩ = some (.int .i64 x.ver) := (hbel.cell (p := ⟨g, _, none⟩) hg).trans (hcl _ _ v1)
      have c2 : wr.cell? ⟨g, k * 3 + 1 + 1, none⟩ = some (.string x.data) := (hbel.cell (p := ⟨g, _, none⟩) hg).trans (hcl _ _ v2)
      have hxs : x.data.size ≤ 1000000 := HDs.out x (List.mem_of_getElem? he)
      have HJ := hide (join_drop (sig := sig) (nm := true) he d s on)
      clear he hcl v0 v1 v2
      by_cases hx : x.sig = sig
      case neg =>
        have HX := hide hx
        have h1 := beq_ne hx
        have E2 := hide (show joinF sig true (L.drop k) d s on = joinF sig true (L.drop (k + 1)) d s on by rw [HJ.out, if_pos HX.out])
        clear hx
        go_wp2
        go_roundw
        case rel => exact ⟨k + 1, by omega, by go_num, d, s, on, rfl, rfl, rfl, by rw [HD.out, E2.out], Nat.le_trans hdl (Nat.mul_le_mul_right _ (Nat.le_succ k)), by (repeat' (first | (with_reducible exact Below.refl _ _) | (with_reducible refine Below.alloc ?_ ?_ _) | (with_reducible refine Below.setCell ?_ ?_ _) | (with_reducible refine Below.drew ?_) | (with_reducible refine below_drewN' ?_) | (with_reducible refine below_bytesW ?_ ?_) | (with_reducible refine Below.trans ?_ (Below.mono (by assumption) ?_)) | omega | (simp only [World.size_alloc, World.size_setCell, World.size_drew]; omega) | (simp [size_bytesW]; omega) | (simp; omega)))⟩
        case measure => simp [intOf]; omega
      have HX := hide hx
      have h1 : (x.sig.toList == sig.toList) = true := by rw [hx]; simp
      clear hx
      by_cases hz : x.data.size = 0
      case pos =>
        have e0 : x.data = ⟨#[]⟩ := by
          apply ByteArray.ext
          exact Array.eq_empty_of_size_eq_zero hz
        have E2 := hide (show joinF sig true (L.drop k) d s on = ([], true, false) by rw [HJ.out, if_neg (by simpa using HX.out), if_pos hz])
        rw [e0] at c2
        clear hz e0 hxs
        go_wp2
        go_ret3
        exact ⟨by rw [HD.out, E2.out]; rfl, by (repeat' (first | (with_reducible exact Below.refl _ _) | (with_reducible refine Below.alloc ?_ ?_ _) | (with_reducible refine Below.setCell ?_ ?_ _) | (with_reducible refine Below.drew ?_) | (with_reducible refine below_drewN' ?_) | (with_reducible refine below_bytesW ?_ ?_) | (with_reducible refine Below.trans ?_ (Below.mono (by assumption) ?_)) | omega | (simp only [World.size_alloc, World.size_setCell, World.size_drew]; omega) | (simp [size_bytesW]; omega) | (simp; omega)))⟩
      have hz0 : 0 < x.data.size := by omega
      have q0 : (x.data.toList == []) = false := by
        rw [beq_eq_false_iff_ne]; intro e
        rw [ByteArray.toList_eq] at e
        have := congrArg List.length e
        rw [Array.length_toList] at this
        exact hz this
      have q1 : x.data.toList.isEmpty = false := by rw [List.isEmpty_eq_false_iff]; intro e; rw [e] at q0; simp at q0
      have HZ := hide hz
      clear hz
      have hgb := get_bt x.data
      have f0 := bt_nonneg x.data 0
      have f1 := bt_le x.data 0
      obtain ⟨f, hf⟩ : ∃ f, bt x.data 0 = f := ⟨_, rfl⟩
      have HF := hide hf
      rw [hf] at f0 f1
      have htl := tlB_len (s := x.data)
      have HXc := hide (cat_tl d x.data)
      by_cases hl : 1 < f
      · have E2 := hide (show joinF sig true (L.drop k) d s on = joinF sig true (L.drop (k + 1)) d s on by rw [HJ.out, if_neg (by simpa using HX.out), if_neg HZ.out, if_pos ⟨rfl, by rw [HF.out]; exact hl⟩])
        have hl2 : decide (1 < f) = true := by simpa using hl
        go_wp2_with (first | (go_at_call 53; (with_reducible refine (rl2 _ _).mono ?_); rintro e w' ⟨rfl, rfl⟩))
        go_roundw
        case rel => exact ⟨k + 1, by omega, by go_num, d, s, on, rfl, rfl, rfl, by rw [HD.out, E2.out], Nat.le_trans hdl (Nat.mul_le_mul_right _ (Nat.le_succ k)), by (repeat' (first | (with_reducible exact Below.refl _ _) | (with_reducible refine Below.alloc ?_ ?_ _) | (with_reducible refine Below.setCell ?_ ?_ _) | (with_reducible refine Below.drew ?_) | (with_reducible refine below_drewN' ?_) | (with_reducible refine below_bytesW ?_ ?_) | (with_reducible refine Below.trans ?_ (Below.mono (by assumption) ?_)) | omega | (simp only [World.size_alloc, World.size_setCell, World.size_drew]; omega) | (simp [size_bytesW]; omega) | (simp; omega)))⟩
        case measure => simp [intOf]; omega
      have hl2 : decide (1 < f) = false := by simpa using hl
      have hnl : ¬ (true = true ∧ 1 < bt x.data 0) := by rw [HF.out]; omega
      by_cases h1f : f = 1
      · have E2 := hide (show joinF sig true (L.drop k) d s on = joinF sig true (L.drop (k + 1)) (d ++ tlB x.data) true true by rw [HJ.out, if_neg (by simpa using HX.out), if_neg HZ.out, if_neg hnl, if_pos (by rw [HF.out]; exact h1f)])
        subst h1f
        clear hnl
        go_wp2_with (first | (go_at_call 53; (with_reducible refine (rl2 _ _).mono ?_); rintro e w' ⟨rfl, rfl⟩))
        go_roundw
        case rel => exact ⟨k + 1, by omega, by go_num, d ++ tlB x.data, true, true, congrArg Value.string HXc.out, rfl, rfl, by rw [HD.out, E2.out], by rw [List.length_append, Nat.succ_mul]; exact Nat.add_le_add hdl (Nat.le_trans htl hxs), by (repeat' (first | (with_reducible exact Below.refl _ _) | (with_reducible refine Below.alloc ?_ ?_ _) | (with_reducible refine Below.setCell ?_ ?_ _) | (with_reducible refine Below.drew ?_) | (with_reducible refine below_drewN' ?_) | (with_reducible refine below_bytesW ?_ ?_) | (with_reducible refine Below.trans ?_ (Below.mono (by assumption) ?_)) | omega | (simp only [World.size_alloc, World.size_setCell, World.size_drew]; omega) | (simp [size_bytesW]; omega) | (simp; omega)))⟩
        case measure => simp [intOf]; omega
      · have E3 := hide (show Ending.returned (.tuple #[.string (ByteArray.mk d.toArray ++ x.data.extract 1 x.data.size), .bool true, .bool true]) = .returned (joinV (joinF sig true L [] false false)) by rw [HD.out, HXc.out, HJ.out, if_neg (by simpa using HX.out), if_neg HZ.out, if_neg hnl, if_neg (by rw [HF.out]; exact h1f)]; rfl)
        have h1g : (f == 1) = false := by rw [beq_eq_false_iff_ne]; exact h1f
        clear hnl h1f
        go_wp2_with (first | (go_at_call 53; (with_reducible refine (rl2 _ _).mono ?_); rintro e w' ⟨rfl, rfl⟩))
        go_ret3
        exact ⟨E3.out, by (repeat' (first | (with_reducible exact Below.refl _ _) | (with_reducible refine Below.alloc ?_ ?_ _) | (with_reducible refine Below.setCell ?_ ?_ _) | (with_reducible refine Below.drew ?_) | (with_reducible refine below_drewN' ?_) | (with_reducible refine below_bytesW ?_ ?_) | (with_reducible refine Below.trans ?_ (Below.mono (by assumption) ?_)) | omega | (simp only [World.size_alloc, World.size_setCell, World.size_drew]; omega) | (simp [size_bytesW]; omega) | (simp; omega)))⟩
set_option maxRecDepth 100000 in
set_option maxHeartbeats 8000000 in
theorem joined_sl (L : List En) (sig : ByteArray) (a : Value) (w : World) (hL : L.length ≤ 1000) (hD : ∀ e ∈ L, e.data.size ≤ 1000000) (ha : ReadsE w a L) :
    Calls Tryz.prog 52 #[a, .string sig, .func (.func 54) #[] #[]] w fun e w' => e = .returned (joinV (joinF sig false L [] false false)) ∧ Below w.heap.size w w' := by
  obtain ⟨A, c, rfl, hA⟩ := ha
  have HA := hide hA
  have HDs := hide hD
  clear hA hD
  have HL : Live w [] := trivial
  go_enter Tryz.func52, Tryz.ntmps52
  go_wp2_with fail
  go_loopw [6, 7, 9, 15] (fun dv sv ov i wr => ∃ k : Nat, k ≤ L.length ∧ i = .int .i64 k ∧ ∃ (d : List UInt8) (s on : Bool), dv = .string ⟨d.toArray⟩ ∧ sv = .bool s ∧ ov = .bool on ∧ joinF sig false L [] false false = joinF sig false (L.drop k) d s on ∧ d.length ≤ k * 1000000 ∧ Below w.heap.size w wr) (fun _ _ _ i _ => L.length - (intOf i).toNat)
  case atStart => exact ⟨0, by omega, rfl, [], false, false, rfl, rfl, rfl, rfl, by simp, by (repeat' (first | (with_reducible exact Below.refl _ _) | (with_reducible refine Below.alloc ?_ ?_ _) | (with_reducible refine Below.setCell ?_ ?_ _) | (with_reducible refine Below.drew ?_) | (with_reducible refine below_drewN' ?_) | (with_reducible refine below_bytesW ?_ ?_) | (with_reducible refine Below.trans ?_ (Below.mono (by assumption) ?_)) | omega | (simp only [World.size_alloc, World.size_setCell, World.size_drew]; omega) | (simp [size_bytesW]; omega) | (simp; omega)))⟩
  case round =>
    obtain ⟨k, hk, rfl, d, s, on, rfl, rfl, rfl, hd, hdl, hbel⟩ := hrel
    have HD := hide hd
    clear hd
    have hsz := hbel.size
    by_cases hlt : k < L.length
    case neg =>
      obtain rfl : k = L.length := by omega
      have E2 := hide (join_end (sig := sig) (nm := false) (L := L) d s on)
      go_wp2
      go_ret3
      exact ⟨by rw [HD.out, E2.out]; rfl, hbel⟩
    case pos =>
      obtain ⟨x, he⟩ : ∃ x, L[k]? = some x := ⟨_, List.getElem?_eq_getElem hlt⟩
      obtain ⟨g, rfl, hg, hcl⟩ := HA.out (by omega)
      obtain ⟨v0, v1, v2⟩ := entsV_at L k x he
      have c0 : wr.cell? ⟨g, k * 3, none⟩ = some (.string x.sig) := (hbel.cell (p := ⟨g, _, none⟩) hg).trans (hcl _ _ v0)
      have c1 : wr.cell? ⟨g, k * 3 + 1, none⟩ = some (.int .i64 x.ver) := (hbel.cell (p := ⟨g, _, none⟩) hg).trans (hcl _ _ v1)
      have c2 : wr.cell? ⟨g, k * 3 + 1 + 1, none⟩ = some (.string x.data) := (hbel.cell (p := ⟨g, _, none⟩) hg).trans (hcl _ _ v2)
      have hxs : x.data.size ≤ 1000000 := HDs.out x (List.mem_of_getElem? he)
      have HJ := hide (join_drop (sig := sig) (nm := false) he d s on)
      clear he hcl v0 v1 v2
      by_cases hx : x.sig = sig
      case neg =>
        have HX := hide hx
        have h1 := beq_ne hx
        have E2 := hide (show joinF sig false (L.drop k) d s on = joinF sig false (L.drop (k + 1)) d s on by rw [HJ.out, if_pos HX.out])
        clear hx
        go_wp2
        go_roundw
        case rel => exact ⟨k + 1, by omega, by go_num, d, s, on, rfl, rfl, rfl, by rw [HD.out, E2.out], Nat.le_trans hdl (Nat.mul_le_mul_right _ (Nat.le_succ k)), by (repeat' (first | (with_reducible exact Below.refl _ _) | (with_reducible refine Below.alloc ?_ ?_ _) | (with_reducible refine Below.setCell ?_ ?_ _) | (with_reducible refine Below.drew ?_) | (with_reducible refine below_drewN' ?_) | (with_reducible refine below_bytesW ?_ ?_) | (with_reducible refine Below.trans ?_ (Below.mono (by assumption) ?_)) | omega | (simp only [World.size_alloc, World.size_setCell, World.size_drew]; omega) | (simp [size_bytesW]; omega) | (simp; omega)))⟩
        case measure => simp [intOf]; omega
      have HX := hide hx
      have h1 : (x.sig.toList == sig.toList) = true := by rw [hx]; simp
      clear hx
      by_cases hz : x.data.size = 0
      case pos =>
        have e0 : x.data = ⟨#[]⟩ := by
          apply ByteArray.ext
          exact Array.eq_empty_of_size_eq_zero hz
        have E2 := hide (show joinF sig false (L.drop k) d s on = ([], true, false) by rw [HJ.out, if_neg (by simpa using HX.out), if_pos hz])
        rw [e0] at c2
        clear hz e0 hxs
        go_wp2
        go_ret3
        exact ⟨by rw [HD.out, E2.out]; rfl, by (repeat' (first | (with_reducible exact Below.refl _ _) | (with_reducible refine Below.alloc ?_ ?_ _) | (with_reducible refine Below.setCell ?_ ?_ _) | (with_reducible refine Below.drew ?_) | (with_reducible refine below_drewN' ?_) | (with_reducible refine below_bytesW ?_ ?_) | (with_reducible refine Below.trans ?_ (Below.mono (by assumption) ?_)) | omega | (simp only [World.size_alloc, World.size_setCell, World.size_drew]; omega) | (simp [size_bytesW]; omega) | (simp; omega)))⟩
      have hz0 : 0 < x.data.size := by omega
      have q0 : (x.data.toList == []) = false := by
        rw [beq_eq_false_iff_ne]; intro e
        rw [ByteArray.toList_eq] at e
        have := congrArg List.length e
        rw [Array.length_toList] at this
        exact hz this
      have q1 : x.data.toList.isEmpty = false := by rw [List.isEmpty_eq_false_iff]; intro e; rw [e] at q0; simp at q0
      have HZ := hide hz
      clear hz
      have hgb := get_bt x.data
      have f0 := bt_nonneg x.data 0
      have f1 := bt_le x.data 0
      obtain ⟨f, hf⟩ : ∃ f, bt x.data 0 = f := ⟨_, rfl⟩
      have HF := hide hf
      rw [hf] at f0 f1
      have htl := tlB_len (s := x.data)
      have HXc := hide (cat_tl d x.data)
      have hnl : ¬ (false = true ∧ 1 < bt x.data 0) := by simp
      by_cases h1f : f = 1
      · have E2 := hide (show joinF sig false (L.drop k) d s on = joinF sig false (L.drop (k + 1)) (d ++ tlB x.data) true true by rw [HJ.out, if_neg (by simpa using HX.out), if_neg HZ.out, if_neg hnl, if_pos (by rw [HF.out]; exact h1f)])
        subst h1f
        clear hnl
        go_wp2_with (first | (go_at_call 54; (with_reducible refine (rl3 _ _).mono ?_); rintro e w' ⟨rfl, rfl⟩))
        go_roundw
        case rel => exact ⟨k + 1, by omega, by go_num, d ++ tlB x.data, true, true, congrArg Value.string HXc.out, rfl, rfl, by rw [HD.out, E2.out], by rw [List.length_append, Nat.succ_mul]; exact Nat.add_le_add hdl (Nat.le_trans htl hxs), by (repeat' (first | (with_reducible exact Below.refl _ _) | (with_reducible refine Below.alloc ?_ ?_ _) | (with_reducible refine Below.setCell ?_ ?_ _) | (with_reducible refine Below.drew ?_) | (with_reducible refine below_drewN' ?_) | (with_reducible refine below_bytesW ?_ ?_) | (with_reducible refine Below.trans ?_ (Below.mono (by assumption) ?_)) | omega | (simp only [World.size_alloc, World.size_setCell, World.size_drew]; omega) | (simp [size_bytesW]; omega) | (simp; omega)))⟩
        case measure => simp [intOf]; omega
      · have E3 := hide (show Ending.returned (.tuple #[.string (ByteArray.mk d.toArray ++ x.data.extract 1 x.data.size), .bool true, .bool true]) = .returned (joinV (joinF sig false L [] false false)) by rw [HD.out, HXc.out, HJ.out, if_neg (by simpa using HX.out), if_neg HZ.out, if_neg hnl, if_neg (by rw [HF.out]; exact h1f)]; rfl)
        have h1g : (f == 1) = false := by rw [beq_eq_false_iff_ne]; exact h1f
        clear hnl h1f
        go_wp2_with (first | (go_at_call 54; (with_reducible refine (rl3 _ _).mono ?_); rintro e w' ⟨rfl, rfl⟩))
        go_ret3
        exact ⟨E3.out, by (repeat' (first | (with_reducible exact Below.refl _ _) | (with_reducible refine Below.alloc ?_ ?_ _) | (with_reducible refine Below.setCell ?_ ?_ _) | (with_reducible refine Below.drew ?_) | (with_reducible refine below_drewN' ?_) | (with_reducible refine below_bytesW ?_ ?_) | (with_reducible refine Below.trans ?_ (Below.mono (by assumption) ?_)) | omega | (simp only [World.size_alloc, World.size_setCell, World.size_drew]; omega) | (simp [size_bytesW]; omega) | (simp; omega)))⟩
end Go.Proofs.YtopajpomhflgbaaGreatDoor
