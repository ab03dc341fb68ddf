/- Contracts and plain words for the laws of volume descriptors, part 12: H1, W3, A, E. No condition. -/
import Derived.Test.YtjbhokmkmapkoaaGreatDoorC9
import Derived.Test.YtjbhokmkmapkoaaGreatDoorC8
import Derived.Test.YtjbhokmkmapkoaaGreatDoorC6
import Derived.Test.YtjbhokmkmapkoaaGreatDoorC11
import Derived.Test.YtjbhokmkmapkoaaGreatDoorC0
import Derived.Test.YtjbhokmkmapkoaaGreatDoorProg
import Derived.Lib.SmallJoins
import Derived.OwnWalk
import Derived.Deep.AppendLies
import Derived.Test.YtjbhokmkmapkoaaGreatDoorC1
import Derived.Test.YtjbhokmkmapkoaaGreatDoorC7
import Derived.Lib.IndexLaws
import Derived.Lib.IndexAny
namespace Go.Proofs.YtjbhokmkmapkoaaGreatDoor
set_option linter.unusedSimpArgs false
set_option linter.unusedVariables false
open Go.RowKit
open Go.PlainAid (bt get_bt bt_nonneg bt_le bt_end)
/-- The table of powers of ten. -/
abbrev Tab (w : World) : Prop := Dt.Tab w
theorem tz_of {t z : Int} (h : (tmB t && zoneB z) = true) : tmB t = true ∧ zoneB z = true := by rw [Bool.and_eq_true] at h; exact h
theorem recT_no (t z : Int) (h : (tmB t && zoneB z) = false) (w : World) : Calls Tryz.prog 77 #[.int .i64 t, .int .i64 z] w fun e w' => e = .returned (.tuple #[.string ⟨#[]⟩, .int .i64 2]) ∧ Below w.heap.size w w' := Dt.record_no t z h w
theorem recT_yes (t z : Int) (h : (tmB t && zoneB z) = true) (w : World) : Calls Tryz.prog 77 #[.int .i64 t, .int .i64 z] w fun e w' => e = .returned (.tuple #[.string (recT2 t z), .int .i64 0]) ∧ Below w.heap.size w w' := by
  obtain ⟨ht, hz⟩ := tz_of h
  obtain ⟨hv, he⟩ := clk_at ht hz
  have h3 := zone_of hz
  exact Dt.record_at t z (z / 15) _ _ _ _ _ _ hv he (time_of ht) h3.1 ⟨h3.2.1, h3.2.2.1⟩ w
theorem rrecT_no (t z : Int) (h : (tmB t && zoneB z) = false) (w : World) : Calls Tryz.prog 90 #[.int .i64 t, .int .i64 z] w fun e w' => e = .returned (.tuple #[.string ⟨#[]⟩, .int .i64 2]) ∧ Below w.heap.size w w' := Dt.rrecord_no t z h w
theorem rrecT_yes (t z : Int) (h : (tmB t && zoneB z) = true) (w : World) : Calls Tryz.prog 90 #[.int .i64 t, .int .i64 z] w fun e w' => e = .returned (.tuple #[.string (recT2 t z), .int .i64 0]) ∧ Below w.heap.size w w' := by
  obtain ⟨ht, hz⟩ := tz_of h
  obtain ⟨hv, he⟩ := clk_at ht hz
  have h3 := zone_of hz
  exact Dt.rrecord_at t z (z / 15) _ _ _ _ _ _ hv he (time_of ht) h3.1 ⟨h3.2.1, h3.2.2.1⟩ w
theorem desT_no (t z : Int) (h : (tmB t && zoneB z) = false) (w : World) : Calls Tryz.prog 37 #[.int .i64 t, .int .i64 z] w fun e w' => e = .returned (.tuple #[.string ⟨#[]⟩, .int .i64 2]) ∧ Below w.heap.size w w' := Dt.desc_no t z h w
theorem desT_yes (t z : Int) (h : (tmB t && zoneB z) = true) (w : World) (hT : Tab w) : Calls Tryz.prog 37 #[.int .i64 t, .int .i64 z] w fun e w' => e = .returned (.tuple #[.string (desT2 t z), .int .i64 0]) ∧ Below w.heap.size w w' := by
  obtain ⟨ht, hz⟩ := tz_of h
  obtain ⟨hv, he⟩ := clk_at ht hz
  have h3 := zone_of hz
  have h4 := Dt.desc_yes t (z / 15) (time_of ht) ⟨h3.2.1, h3.2.2.1⟩ w hT
  rw [← h3.1] at h4
  refine h4.mono fun e w' ⟨cY, cM, cD, ch, cm, cs, h1, h2, h3, h4⟩ => ?_
  have := Dt.secs_inj hv h2 (he.trans h3.symm)
  obtain ⟨e1, e2, e3, e4, e5, e6⟩ := this
  unfold desT2
  rw [e1, e2, e3, e4, e5, e6]
  exact ⟨h1, h4⟩
theorem rdesT_no (t z : Int) (h : (tmB t && zoneB z) = false) (w : World) : Calls Tryz.prog 43 #[.int .i64 t, .int .i64 z] w fun e w' => e = .returned (.tuple #[.string ⟨#[]⟩, .int .i64 2]) ∧ Below w.heap.size w w' := Dt.rdesc_no t z h w
theorem rdesT_yes (t z : Int) (h : (tmB t && zoneB z) = true) (w : World) : Calls Tryz.prog 43 #[.int .i64 t, .int .i64 z] w fun e w' => e = .returned (.tuple #[.string (desT2 t z), .int .i64 0]) ∧ Below w.heap.size w w' := by
  obtain ⟨ht, hz⟩ := tz_of h
  obtain ⟨hv, he⟩ := clk_at ht hz
  have h3 := zone_of hz
  have h4 := Dt.rdesc_yes t (z / 15) (time_of ht) ⟨h3.2.1, h3.2.2.1⟩ w
  rw [← h3.1] at h4
  refine h4.mono fun e w' ⟨cY, cM, cD, ch, cm, cs, h1, h2, h3, h4⟩ => ?_
  have := Dt.secs_inj hv h2 (he.trans h3.symm)
  obtain ⟨e1, e2, e3, e4, e5, e6⟩ := this
  unfold desT2
  rw [e1, e2, e3, e4, e5, e6]
  exact ⟨h1, h4⟩
/-- The answer of a reader of times. -/
def TimP (r : Int × Int × Int) (w : World) (e : Ending) (w' : World) : Prop := e = .returned (.tuple #[.int .i64 r.1, .int .i64 r.2.1, .int .i64 r.2.2]) ∧ Below w.heap.size w w'
theorem rrT_any (s : ByteArray) (w : World) : Calls Tryz.prog 113 #[.string s] w (TimP (rrT s) w) := by
  by_cases hs : s.size = 7
  · unfold rrT; rw [if_pos hs]; exact Dt.readRecord_yes s hs w
  · unfold rrT; rw [if_neg hs]; exact Dt.readRecord_no s hs w
theorem rrrT_any (s : ByteArray) (w : World) : Calls Tryz.prog 120 #[.string s] w (TimP (rrT s) w) := by
  by_cases hs : s.size = 7
  · unfold rrT; rw [if_pos hs]; exact Dt.rreadRecord_yes s hs w
  · unfold rrT; rw [if_neg hs]; exact Dt.rreadRecord_no s hs w
theorem digB_iff (s : ByteArray) : digB s = true ↔ Dt.DigTo s 16 := by
  unfold digB
  rw [List.all_eq_true]
  exact ⟨fun h m hm => show 48 ≤ bt s m ∧ bt s m ≤ 57 from of_decide_eq_true (h m (List.mem_range.2 hm)), fun h m hm => decide_eq_true (show 48 ≤ bt s m ∧ bt s m ≤ 57 from h m (List.mem_range.1 hm))⟩
theorem rdT_any (s : ByteArray) (w : World) : Calls Tryz.prog 58 #[.string s] w (TimP (rdT s) w) := by
  by_cases hs : s.size = 17
  · by_cases hu : s = Dt.unS
    · subst hu; exact Dt.readDesc_un w
    · cases hd : digB s
      · have nd : ¬ Dt.DigTo s 16 := fun h => by rw [(digB_iff s).2 h] at hd; cases hd
        unfold rdT; rw [if_neg (by simpa using hs), if_neg hu, hd]; exact Dt.readDesc_bad s hs hu nd w
      · have yd := (digB_iff s).1 hd
        unfold rdT; rw [if_neg (by simpa using hs), if_neg hu, if_pos hd]; exact Dt.readDesc_yes s hs hu yd w
  · unfold rdT; rw [if_pos hs]; exact Dt.readDesc_no s hs w
theorem rrdT_any (s : ByteArray) (w : World) : Calls Tryz.prog 63 #[.string s] w (TimP (rdT s) w) := by
  by_cases hs : s.size = 17
  · by_cases hu : s = Dt.unS
    · subst hu; exact Dt.rreadDesc_un w
    · cases hd : digB s
      · have nd : ¬ Dt.DigTo s 16 := fun h => by rw [(digB_iff s).2 h] at hd; cases hd
        unfold rdT; rw [if_neg (by simpa using hs), if_neg hu, hd]; exact Dt.rreadDesc_bad s hs hu nd w
      · have yd := (digB_iff s).1 hd
        unfold rdT; rw [if_neg (by simpa using hs), if_neg hu, if_pos hd]; exact Dt.rreadDesc_yes s hs hu yd w
  · unfold rdT; rw [if_pos hs]; exact Dt.rreadDesc_no s hs w
end Go.Proofs.YtjbhokmkmapkoaaGreatDoor
namespace Go.Proofs.YtjbhokmkmapkoaaGreatDoor
set_option linter.unusedSimpArgs false
set_option linter.unusedVariables false
open Go.PlainAid (bt get_bt bt_nonneg bt_le bt_end)
theorem At.mk {a l b : List UInt8} {p : Nat} (hp : a.length = p) : At ⟨(a ++ (l ++ b)).toArray⟩ p l := ⟨a, b, rfl, hp⟩
theorem At.seg {segs : List (List UInt8)} {lens : List Nat} (h : segs.map List.length = lens) (k p : Nat) (l : List UInt8) (hk : segs[k]? = some l) (hp : (lens.take k).sum = p) : At ⟨segs.flatten.toArray⟩ p l := by
  obtain ⟨hi, e⟩ := List.getElem?_eq_some_iff.1 hk
  have hs : segs = segs.take k ++ l :: segs.drop (k + 1) := by
    rw [← e]
    conv => lhs; rw [← List.take_append_drop k segs]
    rw [List.drop_eq_getElem_cons hi]
  have hf : segs.flatten = (segs.take k).flatten ++ (l ++ (segs.drop (k + 1)).flatten) := by
    conv => lhs; rw [hs]
    simp
  rw [hf]
  refine At.mk ?_
  rw [List.length_flatten, List.map_take, h, hp]
def zr (n : Nat) : List UInt8 := List.replicate n 0
theorem zr_len (n : Nat) : (zr n).length = n := List.length_replicate
def stdL : List UInt8 := [67, 68, 48, 48, 49, 1]
def stdS : ByteArray := ⟨stdL.toArray⟩
def torL : List UInt8 := [69, 76, 32, 84, 79, 82, 73, 84, 79, 32, 83, 80, 69, 67, 73, 70, 73, 67, 65, 84, 73, 79, 78]
def torS : ByteArray := ⟨torL.toArray⟩
def padL (r : Rec) : List UInt8 := if r.id.size % 2 = 0 then [0] else []
def segsR (r : Rec) : List (List UInt8) := [[u8 (recSz r.id.size r.use.size : Nat), 0], both4 r.lba, both4 r.len, (recT2 r.time r.zone).data.toList, [u8 r.flags, 0, 0], both2 r.seq, [u8 (r.id.size : Nat)], r.id.data.toList, padL r, r.use.data.toList]
/-- The bytes of a record. -/
def encR (r : Rec) : List UInt8 := (segsR r).flatten
/-- A record at the beginning of bytes, its size, and the error. -/
def decR (s : ByteArray) : Rec × Int × Int :=
  if s.size < 34 then (Rec.zero, 0, 10)
  else if bt s 0 % 2 ≠ 0 ∨ bt s 0 < 34 ∨ (s.size : Int) < bt s 0 ∨ bt s 32 = 0 ∨ bt s 0 < padN (bt s 32).toNat then (Rec.zero, 0, 10)
  else if bt s 1 ≠ 0 ∨ bt s 26 ≠ 0 ∨ bt s 27 ≠ 0 then (Rec.zero, 0, 14)
  else if (rrT (s.extract 18 25)).2.2 ≠ 0 then (Rec.zero, 0, (rrT (s.extract 18 25)).2.2)
  else (⟨s.extract 33 (33 + (bt s 32).toNat), le4 s 2, le4 s 10, (rrT (s.extract 18 25)).1, (rrT (s.extract 18 25)).2.1, bt s 25, le2 s 28, s.extract (padN (bt s 32).toNat) (bt s 0).toNat⟩, bt s 0, 0)
theorem recE_zero {r : Rec} (h : recE r = 0) : (tmB r.time = true ∧ zoneB r.zone = true) ∧ (0 ≤ r.lba ∧ r.lba ≤ 4294967295) ∧ (0 ≤ r.len ∧ r.len ≤ 4294967295) ∧ (0 ≤ r.seq ∧ r.seq ≤ 65535) ∧ (0 ≤ r.flags ∧ r.flags ≤ 255) := by
  unfold recE at h
  split at h
  · cases h
  split at h
  · cases h
  split at h
  · rename_i hb
    simp only [Bool.and_eq_true, wordB, halfB, byteB, decide_eq_true_eq] at hb
    obtain ⟨⟨⟨⟨⟨a, b⟩, c⟩, d⟩, e⟩, f⟩ := hb
    exact ⟨⟨a, b⟩, c, d, e, f⟩
  · cases h
theorem lensR {r : Rec} (hi : r.id = selfS) (hu : r.use = ⟨#[]⟩) (h : recE r = 0) : (segsR r).map List.length = [2, 8, 8, 7, 3, 4, 1, 1, 0, 0] := by
  obtain ⟨⟨h1, h2⟩, _⟩ := recE_zero h
  have hl : (recT2 r.time r.zone).data.toList.length = 7 := by rw [Array.length_toList]; exact recT2_size h1 h2
  unfold segsR padL
  rw [hi, hu]
  simp only [List.map_cons, List.map_nil, hl]
  rfl
theorem encR_len {r : Rec} (hi : r.id = selfS) (hu : r.use = ⟨#[]⟩) (h : recE r = 0) : (encR r).length = 34 := by
  unfold encR
  rw [List.length_flatten, lensR hi hu h]
  rfl
/-- The record of a root is read back. -/
theorem dec_encR {r : Rec} (hi : r.id = selfS) (hu : r.use = ⟨#[]⟩) (h : recE r = 0) : decR ⟨(encR r).toArray⟩ = (r, 34, 0) := by
  obtain ⟨⟨ht, hz⟩, hl, hn, hs, hf⟩ := recE_zero h
  have L := lensR hi hu h
  have hsz : recSz r.id.size r.use.size = 34 := by rw [hi, hu]; rfl
  have hsize : (ByteArray.mk (encR r).toArray).size = 34 := by
    show (encR r).toArray.size = 34
    rw [List.size_toArray, encR_len hi hu h]
  have a0 := At.seg L 0 0 _ rfl rfl
  have a1 := At.seg L 1 2 _ rfl rfl
  have a2 := At.seg L 2 10 _ rfl rfl
  have a3 := At.seg L 3 18 _ rfl rfl
  have a4 := At.seg L 4 25 _ rfl rfl
  have a5 := At.seg L 5 28 _ rfl rfl
  have a6 := At.seg L 6 32 _ rfl rfl
  have a7 := At.seg L 7 33 _ rfl rfl
  change At ⟨(encR r).toArray⟩ _ _ at a0 a1 a2 a3 a4 a5 a6 a7
  generalize hS : (⟨(encR r).toArray⟩ : ByteArray) = s at *
  have e0 := a0.bt 0 _ rfl
  have e1 := a0.bt 1 _ rfl
  rw [hsz, u8_nat (by decide)] at e0
  have e25 := a4.bt 0 _ rfl
  rw [u8_nat hf] at e25
  have e26 := a4.bt 1 _ rfl
  have e27 := a4.bt 2 _ rfl
  have e32 := a6.bt 0 _ rfl
  have hi1 : r.id.size = 1 := by rw [hi]; rfl
  rw [hi1, u8_nat (by decide)] at e32
  have e3 := a3.ext
  have hl3 : (recT2 r.time r.zone).data.toList.length = 7 := by rw [Array.length_toList]; exact recT2_size ht hz
  rw [hl3, ← lst] at e3
  have e7 := a7.ext
  have hl7 : r.id.data.toList.length = 1 := by rw [hi]; rfl
  rw [hl7, ← lst] at e7
  simp only [Nat.add_zero, Nat.reduceAdd] at e0 e1 e25 e26 e27 e32 e3 e7
  have z0 : ((0 : UInt8).toNat : Int) = 0 := rfl
  rw [z0] at e1 e26 e27
  have n34 : ((34 : Nat) : Int) = 34 := rfl
  have n1 : ((1 : Nat) : Int) = 1 := rfl
  rw [n34] at e0
  rw [n1] at e32
  have t1 : (1 : Int).toNat = 1 := rfl
  have t34 : (34 : Int).toNat = 34 := rfl
  have p1 : padN 1 = 34 := rfl
  unfold decR
  rw [e0, e1, e26, e27, e32, e3, rrT_rec ht hz, t1, t34, p1, hsize]
  rw [if_neg (by omega), if_neg (by omega), if_neg (by omega), if_neg (by simp)]
  rw [show 33 + 1 = 34 from rfl, e7, le4_at (l := b4 r.lba) a1 hl, le4_at (l := b4 r.len) a2 hn, le2_at (l := b2 r.seq) a5 hs, e25]
  have hx : s.extract 34 34 = ⟨#[]⟩ := by
    apply ByteArray.ext
    apply Array.toList_inj.1
    rw [← ByteArray.toList_eq, Lib.extract_toList]
    simp
  rw [hx, ← hu]
def wide (d : DR) : Bool := decide (d.typ = 2)
def escL (d : DR) : List UInt8 := if d.typ = 2 then [37, 47, 69] else [0, 0, 0]
def segsD (d : DR) : List (List UInt8) := [[u8 d.typ], stdL, [0], fldL (wide d) ⟨#[]⟩ 32, fldL (wide d) d.name 32, zr 8, both4 d.space, escL d, zr 29, both2 d.discs, both2 d.number, both2 2048, both4 d.psize, l4 d.pl, zr 4, b4 d.pm, zr 4, encR d.root,
  fldL (wide d) d.set 128, fldL (wide d) d.pub 128, fldL (wide d) d.prep 128, fldL (wide d) d.app 128, fldL (wide d) ⟨#[]⟩ 37, fldL (wide d) ⟨#[]⟩ 37, fldL (wide d) ⟨#[]⟩ 37, (desT2 d.time d.zone).data.toList, (desT2 d.time d.zone).data.toList, unL, (desT2 d.time d.zone).data.toList, [1], zr 1166]
def segsB (d : DR) : List (List UInt8) := [[u8 d.typ], stdL, torL, zr 41, l4 d.cat, zr 1973]
def segsT (d : DR) : List (List UInt8) := [[u8 d.typ], stdL, zr 2041]
/-- The bytes of a descriptor. -/
def encD (d : DR) : List UInt8 := if d.typ = 0 then (segsB d).flatten else if d.typ = 255 then (segsT d).flatten else (segsD d).flatten
def escB (s : ByteArray) : Bool := decide (bt s 88 = 37 ∧ bt s 89 = 47 ∧ (bt s 90 = 64 ∨ bt s 90 = 67 ∨ bt s 90 = 69))
/-- What the fields say. -/
def bodyD (s : ByteArray) : DR :=
  ⟨bt s 0, 0, txtS (decide (bt s 0 = 2)) (s.extract 40 72), txtS (decide (bt s 0 = 2)) (s.extract 190 318), txtS (decide (bt s 0 = 2)) (s.extract 318 446), txtS (decide (bt s 0 = 2)) (s.extract 446 574), txtS (decide (bt s 0 = 2)) (s.extract 574 702),
   le2 s 124, le2 s 120, (rdT (s.extract 813 830)).1, (rdT (s.extract 813 830)).2.1, le4 s 80, le4 s 132, le4 s 140, be4 s 148, (decR (s.extract 156 190)).1⟩
def rightD (s : ByteArray) : Bool := txtB (decide (bt s 0 = 2)) (s.extract 40 72) && txtB (decide (bt s 0 = 2)) (s.extract 190 318) && txtB (decide (bt s 0 = 2)) (s.extract 318 446) && txtB (decide (bt s 0 = 2)) (s.extract 446 574) && txtB (decide (bt s 0 = 2)) (s.extract 574 702)
/-- Nothing is wrong with the fields. -/
def goodD (s : ByteArray) : Bool := rightD s && decide ((decR (s.extract 156 190)).2.2 = 0 ∧ (decR (s.extract 156 190)).2.1 = 34 ∧ (rdT (s.extract 813 830)).2.2 = 0 ∧ chkD (bodyD s) = 0)
def decD (s : ByteArray) : DR × Int :=
  if s.size ≠ 2048 then (DR.zero, 1)
  else if s.extract 1 7 ≠ stdS then (DR.zero, 10)
  else if bt s 0 = 255 then ({ DR.zero with typ := 255 }, 0)
  else if bt s 0 = 0 then (if s.extract 7 30 ≠ torS then (DR.zero, 14) else ({ DR.zero with cat := le4 s 71 }, 0))
  else if 2 < bt s 0 ∨ le2 s 128 ≠ 2048 ∨ bt s 881 ≠ 1 ∨ (bt s 0 = 2 ∧ escB s = false) then (DR.zero, 14)
  else if goodD s = true then (bodyD s, 0) else (DR.zero, 10)
end Go.Proofs.YtjbhokmkmapkoaaGreatDoor
namespace Go.Proofs.YtjbhokmkmapkoaaGreatDoor
set_option linter.unusedSimpArgs false
set_option linter.unusedVariables false
open Go.RowKit
open Go.PlainAid (bt get_bt bt_nonneg bt_le)
theorem ret_b {a b : Bool} (h : a = b) : Ending.returned (.bool a) = .returned (.bool b) := by rw [h]
set_option maxHeartbeats 400000 in
theorem char_any (n : Int) (w : World) : Calls Tryz.prog 149 #[.int .i64 n] w fun e w' => e = .returned (.bool (chB n)) ∧ w = w' := by
  have HL : Live w [] := trivial
  go_enter Tryz.func149, Tryz.ntmps149
  go_wp2
  all_goals
    go_ret
    exact ⟨ret_b (by rw [Bool.eq_iff_iff]; simp [chB] <;> omega), rfl⟩
set_option maxHeartbeats 400000 in
theorem rchar_any (n : Int) (w : World) : Calls Tryz.prog 178 #[.int .i64 n] w fun e w' => e = .returned (.bool (chB n)) ∧ w = w' := by
  have HL : Live w [] := trivial
  go_enter Tryz.func178, Tryz.ntmps178
  go_wp2
  all_goals
    go_ret
    exact ⟨ret_b (by rw [Bool.eq_iff_iff]; simp [chB] <;> omega), rfl⟩
/-- The tables of the library's decoder. -/
def TabU (w : World) : Prop := Lib.Utf8Tabs 1 2 w
theorem decC (s : ByteArray) (c k : Int) (hc : ((Lib.decodeGo s).1 : Int) = c) (hk : ((Lib.decodeGo s).2 : Int) = k) (w : World) (hT : TabU w) :
    Calls Tryz.prog 148 #[.string s] w fun e w' => e = .returned (.tuple #[.int .i32 c, .int .i64 k]) ∧ Below w.heap.size w w' := by
  subst hc hk
  exact Any.utf8_DecodeRuneInString Tryz.lays197 s w hT
theorem cell_lt {w : World} {b o : Nat} {v : Value} (h : w.cell? ⟨b, o, none⟩ = some v) : b < w.heap.size := by
  rcases Nat.lt_or_ge b w.heap.size with h' | h'
  · exact h'
  · simp [World.cell?, Array.getElem?_eq_none h'] at h
theorem TabU.below {w w' : World} (h : TabU w) (hb : Below w.heap.size w w') : TabU w' := by
  unfold TabU Lib.Utf8Tabs at *
  obtain ⟨h1, h2⟩ := h
  have l1 := cell_lt (h1 0 (by omega))
  have l2 := cell_lt (h2 0 (by omega)).1
  exact ⟨fun c hc => (hb.cell (p := ⟨_, c, none⟩) l1).trans (h1 c hc), fun i hi => ⟨(hb.cell (p := ⟨_, 2 * i, none⟩) l2).trans (h2 i hi).1, (hb.cell (p := ⟨_, 2 * i + 1, none⟩) l2).trans (h2 i hi).2⟩⟩
theorem intInfo : (Tryz.prog.info? 3).map (fun i => (i.zero, i.size, i.bytes)) = some (some (.int .i64 0), 1, 8) := by kernel_rfl
/-- The decoder meets a character of so many bytes. -/
def Hit (t : ByteArray) (c : Int) (kk : Nat) : Prop := ((Lib.decodeGo t).1 : Int) = c ∧ (Lib.decodeGo t).2 = kk ∧ hd t = kk ∧ fc t = c
theorem hit_or (t : ByteArray) (h : 1 ≤ t.size) : (∃ c kk, Hit t c kk ∧ chB c = true ∧ 32 ≤ c ∧ c ≤ 65533 ∧ kk ≤ t.size ∧ ((kk = 1 ∧ c < 128) ∨ kk = 2 ∨ kk = 3)) ∨ (hd t = 0 ∧ (chB ((Lib.decodeGo t).1 : Int) = false ∨ ((Lib.decodeGo t).1 = 65533 ∧ (Lib.decodeGo t).2 = 1))) := by
  by_cases h1 : H1 t
  · have d := dec_1 h1
    refine Or.inl ⟨bt t 0, 1, ⟨d.1, d.2, by unfold hd; rw [if_pos h1], by unfold fc; rw [if_pos h1]⟩, ?_, h1.2.1, ?_, h, Or.inl ⟨rfl, h1.2.2⟩⟩
    · have := h1.2; unfold chB; exact decide_eq_true (by omega)
    · have := h1.2; omega
  · by_cases h2 : H2 t
    · have d := dec_2 h2
      have e := h2
      unfold H2 at e
      have hc : 128 ≤ c2 t ∧ c2 t ≤ 2047 := by unfold c2; omega
      exact Or.inl ⟨c2 t, 2, ⟨d.1, d.2, by unfold hd; rw [if_neg h1, if_pos h2], by unfold fc; rw [if_neg h1, if_pos h2]⟩, by unfold chB; exact decide_eq_true (by omega), by omega, by omega, e.1, Or.inr (Or.inl rfl)⟩
    · by_cases h3 : H3 t
      · have d := dec_3 h3
        have hb : chB (c3 t) = true := h3.2.2.2.2.2.2.2.2
        have hb2 := hb
        unfold chB at hb2
        have hb2 := of_decide_eq_true hb2
        exact Or.inl ⟨c3 t, 3, ⟨d.1, d.2, by unfold hd; rw [if_neg h1, if_neg h2, if_pos h3], by unfold fc; rw [if_neg h1, if_neg h2, if_pos h3]⟩, hb, by omega, by omega, h3.1, Or.inr (Or.inr rfl)⟩
      · exact Or.inr ⟨by unfold hd; rw [if_neg h1, if_neg h2, if_neg h3], dec_0 h h1 h2 h3⟩
theorem chars_next {s t : ByteArray} {pre : List Int} {c : Int} {kk : Nat} (h : charL s = (charL t).map (pre ++ ·)) (hh : hd t = kk) (hc : fc t = c) (h0 : kk ≠ 0) : charL s = (charL (t.extract kk t.size)).map ((pre ++ [c]) ++ ·) := by
  rw [h, charL_step (by omega), hh, hc]
  cases charL (t.extract kk t.size) with
  | none => rfl
  | some n => simp
theorem rune_top (t : ByteArray) : (Lib.decodeGo t).1 ≤ 1114111 := by
  unfold Lib.decodeGo
  split
  · omega
  · exact Lib.rune_le t 0
/-- The characters come as the cells of a row of the call's own, or there is an error. -/
def CharsP (r : Option (List Int)) (w : World) (e : Ending) (w' : World) : Prop :=
  (match r with
    | some cs => ∃ v, e = .returned (.tuple #[v, .int .i64 0]) ∧ w'.ownsRow w.heap.size 3 1 v cs.length (cs.map (Value.int .i64))
    | none => e = .returned (.tuple #[.slice none 0 0, .int .i64 3])) ∧ Below w.heap.size w w'
theorem some_below {W w1 : World} {k : Nat} {o : Obj} (hb : Below W.heap.size W w1) (h : W.heap[k]? = some o) : w1.heap[k]? = some o := by
  have : k < W.heap.size := by
    rcases Nat.lt_or_ge k W.heap.size with h' | h'
    · exact h'
    · rw [Array.getElem?_eq_none h'] at h; cases h
  rw [hb.block k this, h]
theorem ownsRow_below {W w1 : World} {B : Nat} {e : TypeId} {size : Nat} {v : Value} {n : Nat} {xs : List Value} (h : W.ownsRow B e size v n xs) (hb : Below W.heap.size W w1) : w1.ownsRow B e size v n xs := by
  refine ⟨h.1, ?_⟩
  rcases h.2 with h2 | ⟨g, cap, cur, hv, hg, hh, r⟩
  · exact Or.inl h2
  · exact Or.inr ⟨g, cap, cur, hv, hg, some_below hb hh, r⟩
def CRel (s : ByteArray) (sv out : Value) (B : Nat) (W wr : World) : Prop :=
  ∃ (t : ByteArray) (pre : List Int), sv = .string t ∧ pre.length + t.size ≤ s.size ∧ charL s = (charL t).map (pre ++ ·) ∧ wr.ownsRow B 3 1 out pre.length (pre.map (Value.int .i64)) ∧ Below B W wr
theorem row_snoc {w : World} {B : Nat} {T : TypeId} {v : Value} {pre : List Int} {c : Int} (h : w.ownsRow B T 1 v (pre.length + 1) (pre.map (Value.int .i64) ++ [.int .i64 c])) : w.ownsRow B T 1 v (pre ++ [c]).length ((pre ++ [c]).map (Value.int .i64)) := by
  rw [List.length_append, List.map_append]; exact h
def strLen : Value → Nat
  | .string t => t.size
  | _ => 0
theorem CharsP.no {s : ByteArray} {w : World} {e : Ending} {w' : World} (h : charL s = none) (he : e = .returned (.tuple #[.slice none 0 0, .int .i64 3])) (hb : Below w.heap.size w w') : CharsP (charL s) w e w' := by
  unfold CharsP; rw [h]; exact ⟨he, hb⟩
theorem CharsP.yes {s : ByteArray} {w : World} {e : Ending} {w' : World} {cs : List Int} {v : Value} (h : charL s = some cs) (he : e = .returned (.tuple #[v, .int .i64 0])) (ho : w'.ownsRow w.heap.size 3 1 v cs.length (cs.map (Value.int .i64))) (hb : Below w.heap.size w w') : CharsP (charL s) w e w' := by
  unfold CharsP; rw [h]; exact ⟨⟨v, he, ho⟩, hb⟩
set_option maxRecDepth 100000 in
set_option maxHeartbeats 4000000 in
theorem chars_any (s : ByteArray) (hs : s.size ≤ 65536) (w : World) (hT : TabU w) : Calls Tryz.prog 102 #[.string s] w (CharsP (charL s) w) := by
  obtain ⟨i0, hi, hz0, hz1, hz2⟩ := info_parts intInfo
  have HL : Live w [] := trivial
  go_enter Tryz.func102, Tryz.ntmps102
  go_wp2_with (at_make; refine wpList_make_own _ rfl _ _ 37 rfl w.heap.size 3 i0 (.int .i64 0) 1 Tryz.underlying37 hi hz0 hz1 .i64 .i64 _ s.size rfl rfl (by first | rfl | omega) (by rw [hz2]; omega) (by unfold maxLen; omega) (Nat.le_refl _) ?_; intro w0 hown0 hgrow0)
  have hb0 : Below w.heap.size w w0 := (Below.refl _ _).grown hgrow0 (Nat.le_refl _) (fun k h => by cases h)
  go_loopw [0, 4] (fun sv out wr => CRel s sv out w.heap.size w wr) (fun sv _ _ => strLen sv)
  case atStart => exact ⟨s, [], rfl, by simp, by simp, hown0, hb0⟩
  case round =>
    obtain ⟨t, pre, rfl, hk, hc, hown, hbel⟩ := hrel
    have HC := hide hc
    clear hc hown0 hgrow0
    have hTr := hT.below hbel
    have hsz := hbel.size
    by_cases h0 : t.size = 0
    · have HH := hide h0
      have hz : ¬ (0 : Int) < (t.size : Int) := by omega
      clear h0
      have HO := hide hown
      clear hown
      go_wp2
      go_ret2
      exact CharsP.yes (by rw [HC.out, charL_nil HH.out]; simp) rfl HO.out hbel
    · have hz : (0 : Int) < (t.size : Int) := by omega
      rcases hit_or t (by omega) with ⟨c, kk, hhit, hcb, c0, c1, hle, hkk⟩ | ⟨hd0, hbad⟩
      · have HI := hide hhit
        clear hhit h0
        have HO := hide hown
        clear hown
        rcases hkk with ⟨rfl, h128⟩ | rfl | rfl
        · have DC := hide (fun W hW => decC t c 1 HI.out.1 (by rw [HI.out.2.1]; rfl) W hW)
          have hq : (c == 65533) = false := by simp; omega
          all_goals
            go_wp2_with (first | (go_at_call 148; (with_reducible refine (DC.out _ hTr).mono ?_); rintro e w1 ⟨rfl, hb⟩; have hz1' := hb.size) | (go_at_call 149; (with_reducible refine (char_any _ _).mono ?_); rintro e w' ⟨rfl, rfl⟩) | (at_builtin; refine wpList_append_own _ rfl _ _ 37 rfl w.heap.size 3 i0 (.int .i64 0) 1 8 Tryz.underlying37 hi hz0 hz1 hz2 rfl (by decide) _ pre.length (pre.map (Value.int .i64)) rfl ((ownsRow_below HO.out hb).alloc _) ⟨w1.heap.size, 0, none⟩ 1 1 [.int .i64 c] rfl rfl (World.news_of_block (cs := #[.int .i64 c]) (t := 3) (fr := (0, 0)) (heap_alloc_new w1 _)) (by simp [Value.oneCell']) (by unfold maxLen; omega) (by omega) (by show w.heap.size ≤ (w1.alloc _).heap.size; rw [World.size_alloc]; omega) ?_; intro v2 w2 hown2 hgrow2 _))
            go_roundw
            case rel => exact ⟨t.extract 1 t.size, pre ++ [c], rfl, by simp; omega, chars_next HC.out HI.out.2.2.1 HI.out.2.2.2 (by omega), row_snoc hown2, (hbel.trans (hb.mono hsz)).trans (((Below.refl w.heap.size w1).alloc (by omega) _).grown hgrow2 (by show w.heap.size ≤ (w1.alloc _).heap.size; rw [World.size_alloc]; omega) (fun q hq => (HO.out.lt q hq).1))⟩
            case measure => simp [strLen]; omega
        · have DC := hide (fun W hW => decC t c 2 HI.out.1 (by rw [HI.out.2.1]; rfl) W hW)
          cases hq : (c == 65533)
          all_goals
            go_wp2_with (first | (go_at_call 148; (with_reducible refine (DC.out _ hTr).mono ?_); rintro e w1 ⟨rfl, hb⟩; have hz1' := hb.size) | (go_at_call 149; (with_reducible refine (char_any _ _).mono ?_); rintro e w' ⟨rfl, rfl⟩) | (at_builtin; refine wpList_append_own _ rfl _ _ 37 rfl w.heap.size 3 i0 (.int .i64 0) 1 8 Tryz.underlying37 hi hz0 hz1 hz2 rfl (by decide) _ pre.length (pre.map (Value.int .i64)) rfl ((ownsRow_below HO.out hb).alloc _) ⟨w1.heap.size, 0, none⟩ 1 1 [.int .i64 c] rfl rfl (World.news_of_block (cs := #[.int .i64 c]) (t := 3) (fr := (0, 0)) (heap_alloc_new w1 _)) (by simp [Value.oneCell']) (by unfold maxLen; omega) (by omega) (by show w.heap.size ≤ (w1.alloc _).heap.size; rw [World.size_alloc]; omega) ?_; intro v2 w2 hown2 hgrow2 _))
            go_roundw
            case rel => exact ⟨t.extract 2 t.size, pre ++ [c], rfl, by simp; omega, chars_next HC.out HI.out.2.2.1 HI.out.2.2.2 (by omega), row_snoc hown2, (hbel.trans (hb.mono hsz)).trans (((Below.refl w.heap.size w1).alloc (by omega) _).grown hgrow2 (by show w.heap.size ≤ (w1.alloc _).heap.size; rw [World.size_alloc]; omega) (fun q hq => (HO.out.lt q hq).1))⟩
            case measure => simp [strLen]; omega
        · have DC := hide (fun W hW => decC t c 3 HI.out.1 (by rw [HI.out.2.1]; rfl) W hW)
          cases hq : (c == 65533)
          all_goals
            go_wp2_with (first | (go_at_call 148; (with_reducible refine (DC.out _ hTr).mono ?_); rintro e w1 ⟨rfl, hb⟩; have hz1' := hb.size) | (go_at_call 149; (with_reducible refine (char_any _ _).mono ?_); rintro e w' ⟨rfl, rfl⟩) | (at_builtin; refine wpList_append_own _ rfl _ _ 37 rfl w.heap.size 3 i0 (.int .i64 0) 1 8 Tryz.underlying37 hi hz0 hz1 hz2 rfl (by decide) _ pre.length (pre.map (Value.int .i64)) rfl ((ownsRow_below HO.out hb).alloc _) ⟨w1.heap.size, 0, none⟩ 1 1 [.int .i64 c] rfl rfl (World.news_of_block (cs := #[.int .i64 c]) (t := 3) (fr := (0, 0)) (heap_alloc_new w1 _)) (by simp [Value.oneCell']) (by unfold maxLen; omega) (by omega) (by show w.heap.size ≤ (w1.alloc _).heap.size; rw [World.size_alloc]; omega) ?_; intro v2 w2 hown2 hgrow2 _))
            go_roundw
            case rel => exact ⟨t.extract 3 t.size, pre ++ [c], rfl, by simp; omega, chars_next HC.out HI.out.2.2.1 HI.out.2.2.2 (by omega), row_snoc hown2, (hbel.trans (hb.mono hsz)).trans (((Below.refl w.heap.size w1).alloc (by omega) _).grown hgrow2 (by show w.heap.size ≤ (w1.alloc _).heap.size; rw [World.size_alloc]; omega) (fun q hq => (HO.out.lt q hq).1))⟩
            case measure => simp [strLen]; omega
      · have HD := hide hd0
        rcases hbad with hcb | ⟨e1, e2⟩
        · obtain ⟨c, hc1⟩ : ∃ c, c = ((Lib.decodeGo t).1 : Int) := ⟨_, rfl⟩
          obtain ⟨q, hq1⟩ : ∃ q, q = ((Lib.decodeGo t).2 : Int) := ⟨_, rfl⟩
          have DC := hide (fun W hW => decC t c q hc1.symm hq1.symm W hW)
          rw [← hc1] at hcb
          have c32 : 0 ≤ c ∧ c ≤ 1114111 := by rw [hc1]; have := rune_top t; omega
          clear hd0 h0 hc1 hq1 hown
          go_wp2_with (first | (go_at_call 148; (with_reducible refine (DC.out _ hTr).mono ?_); rintro e w1 ⟨rfl, hb⟩; have hz1' := hb.size) | (go_at_call 149; (with_reducible refine (char_any _ _).mono ?_); rintro e w' ⟨rfl, rfl⟩))
          go_ret2
          exact CharsP.no (by rw [HC.out, charL_no (by omega) HD.out]; rfl) rfl (hbel.trans (hb.mono hsz))
        · have DC := hide (fun W hW => decC t 65533 1 (by rw [e1]; rfl) (by rw [e2]; rfl) W hW)
          have hcb : chB 65533 = true := by decide
          clear hd0 h0 e1 e2 hown
          go_wp2_with (first | (go_at_call 148; (with_reducible refine (DC.out _ hTr).mono ?_); rintro e w1 ⟨rfl, hb⟩; have hz1' := hb.size) | (go_at_call 149; (with_reducible refine (char_any _ _).mono ?_); rintro e w' ⟨rfl, rfl⟩))
          go_ret2
          exact CharsP.no (by rw [HC.out, charL_no (by omega) HD.out]; rfl) rfl (hbel.trans (hb.mono hsz))
end Go.Proofs.YtjbhokmkmapkoaaGreatDoor
namespace Go.Proofs.YtjbhokmkmapkoaaGreatDoor
set_option linter.unusedSimpArgs false
set_option linter.unusedVariables false
open Go.RowKit
open Go.PlainAid (bt get_bt bt_nonneg bt_le bt_end)
theorem all_snoc {f : UInt8 → Bool} {s : ByteArray} {k : Nat} (hk : k < s.size) (h : (s.data.toList.take k).all f = true) (hc : f (s[k]'hk) = true) : (s.data.toList.take (k + 1)).all f = true := by
  rw [List.take_succ_eq_append_getElem (by simpa using hk), List.all_append, h]
  have e : s.data.toList[k]'(by simpa using hk) = s[k]'hk := Array.getElem_toList _
  rw [e]; simp [hc]
theorem all_stop {f : UInt8 → Bool} {s : ByteArray} {k : Nat} (hk : k < s.size) (hc : f (s[k]'hk) = false) : s.data.toList.all f = false := by
  rw [List.all_eq_false]
  refine ⟨s[k]'hk, ?_, by rw [hc]; simp⟩
  have e : s.data.toList[k]'(by simpa using hk) = s[k]'hk := Array.getElem_toList _
  rw [← e]; exact List.getElem_mem _
theorem all_end {f : UInt8 → Bool} {s : ByteArray} (h : (s.data.toList.take s.size).all f = true) : s.data.toList.all f = true := by
  rw [List.take_of_length_le (by rw [Array.length_toList]; exact Nat.le_refl _)] at h; exact h
set_option maxHeartbeats 1000000 in
theorem d_any (c : UInt8) (w : World) : Calls Tryz.prog 151 #[.int .u8 (c.toNat : Int)] w fun e w' => e = .returned (.bool (dB c)) ∧ w = w' := by
  have HL : Live w [] := trivial
  go_enter Tryz.func151, Tryz.ntmps151
  go_wp2
  all_goals
    go_ret
    exact ⟨ret_b (by rw [Bool.eq_iff_iff]; simp [dB] <;> omega), rfl⟩
set_option maxHeartbeats 1000000 in
theorem rD_any (c : UInt8) (w : World) : Calls Tryz.prog 154 #[.int .u8 (c.toNat : Int)] w fun e w' => e = .returned (.bool (dB c)) ∧ w = w' := by
  have HL : Live w [] := trivial
  go_enter Tryz.func154, Tryz.ntmps154
  go_wp2
  all_goals
    go_ret
    exact ⟨ret_b (by rw [Bool.eq_iff_iff]; simp [dB] <;> omega), rfl⟩
theorem idxA (s : ByteArray) (c : UInt8) (w : World) : Calls Tryz.prog 54 #[.string s, .int .u8 (c.toNat : Int)] w fun e w' => e = .returned (.int .i64 (Lib.indexByte s.data.toList c)) ∧ w = w' := by
  refine (Any.strings_IndexByte Tryz.lays137 s (c.toNat : Int) w).mono ?_
  rintro e w' ⟨rfl, rfl⟩
  have : ((c.toNat : Int)).toNat.toUInt8 = c := by simp
  rw [this]
  exact ⟨rfl, rfl⟩
set_option maxHeartbeats 1000000 in
theorem a1_any (c : UInt8) (w : World) : Calls Tryz.prog 152 #[.int .u8 (c.toNat : Int)] w fun e w' => e = .returned (.bool (inB aStr c)) ∧ w = w' := by
  have IB := hide (fun W => idxA aStr c W)
  unfold aStr at IB
  have HX := hide (Lib.contains_iff_indexByte aStr.data.toList c)
  have HL : Live w [] := trivial
  go_enter Tryz.func152, Tryz.ntmps152
  go_wp2_with (first | (go_at_call 54; (with_reducible refine (IB.out _).mono ?_); rintro e w' ⟨rfl, rfl⟩))
  go_ret
  exact ⟨ret_b HX.out.symm, rfl⟩
set_option maxRecDepth 100000 in
set_option maxHeartbeats 4000000 in
theorem all_d (s : ByteArray) (hs : s.size ≤ 65536) (g : Nat) (w : World) (hc : w.cell? ⟨g, 0, none⟩ = some (.func (.func 151) #[] #[])) : Calls Tryz.prog 150 #[.string s, .slice (some ⟨g, 0, none⟩) 1 1] w fun e w' => e = .returned (.bool (dsB s)) ∧ w = w' := by
  have hs2 : ¬ (65536 : Int) < (s.size : Int) := by omega
  have HL : Live w [] := trivial
  go_enter Tryz.func150, Tryz.ntmps150
  go_wp2_with fail
  go_loop [14] (fun i => ∃ k : Nat, k ≤ s.size ∧ i = .int .i64 k ∧ (s.data.toList.take k).all dB = true) (fun i => s.size - (intOf i).toNat)
  case atStart => exact ⟨0, by omega, rfl, rfl⟩
  case round =>
    obtain ⟨k, hk, rfl, hall⟩ := hrel
    have HL := hide hall
    clear hall
    by_cases hlt : k < s.size
    · cases hd : dB (s[k]'hlt)
      case true =>
        have DA := hide (fun W => d_any (s[k]'hlt) W)
        rw [hd] at DA
        have HN := hide (all_snoc hlt HL.out hd)
        clear hd
        go_wp2_with fail
        refine wp_loop_rounds 2 ?_
        rw [rounds_succ]
        go_wp2_with (go_at_call 151; (with_reducible refine (DA.out _).mono ?_); rintro e w' ⟨rfl, rfl⟩)
        rw [rounds_succ]
        go_wp2_with fail
        go_round
        case rel => exact ⟨k + 1, by omega, by go_num, HN.out⟩
        case measure => simp [intOf]; omega
      case false =>
        have DA := hide (fun W => d_any (s[k]'hlt) W)
        rw [hd] at DA
        have HN := hide (all_stop hlt hd)
        clear hd
        go_wp2_with fail
        refine wp_loop_rounds 2 ?_
        rw [rounds_succ]
        go_wp2_with (go_at_call 151; (with_reducible refine (DA.out _).mono ?_); rintro e w' ⟨rfl, rfl⟩)
        rw [rounds_succ]
        go_wp2_with fail
        go_ret
        exact ⟨ret_b HN.out.symm, rfl⟩
    · obtain rfl : k = s.size := by omega
      go_wp2_with fail
      go_ret
      exact ⟨ret_b (all_end HL.out).symm, rfl⟩
set_option maxRecDepth 100000 in
set_option maxHeartbeats 4000000 in
theorem all_a (s : ByteArray) (hs : s.size ≤ 65536) (g : Nat) (w : World) (hc : w.cell? ⟨g, 0, none⟩ = some (.func (.func 151) #[] #[])) (hc2 : w.cell? ⟨g, 1, none⟩ = some (.func (.func 152) #[] #[])) : Calls Tryz.prog 150 #[.string s, .slice (some ⟨g, 0, none⟩) 2 2] w fun e w' => e = .returned (.bool (asB s)) ∧ w = w' := by
  have hs2 : ¬ (65536 : Int) < (s.size : Int) := by omega
  have HL : Live w [] := trivial
  go_enter Tryz.func150, Tryz.ntmps150
  go_wp2_with fail
  go_loop [14] (fun i => ∃ k : Nat, k ≤ s.size ∧ i = .int .i64 k ∧ (s.data.toList.take k).all aB = true) (fun i => s.size - (intOf i).toNat)
  case atStart => exact ⟨0, by omega, rfl, rfl⟩
  case round =>
    obtain ⟨k, hk, rfl, hall⟩ := hrel
    have HL := hide hall
    clear hall
    by_cases hlt : k < s.size
    · have DA := hide (fun W => d_any (s[k]'hlt) W)
      have AA := hide (fun W => a1_any (s[k]'hlt) W)
      cases hd : dB (s[k]'hlt)
      case true =>
        rw [hd] at DA
        have HN := hide (all_snoc hlt HL.out (show aB (s[k]'hlt) = true by unfold aB; rw [hd]; rfl))
        clear hd
        go_wp2_with fail
        refine wp_loop_rounds 3 ?_
        rw [rounds_succ]
        go_wp2_with (go_at_call 151; (with_reducible refine (DA.out _).mono ?_); rintro e w' ⟨rfl, rfl⟩)
        rw [rounds_succ]
        go_wp2_with fail
        rw [rounds_succ]
        go_wp2_with fail
        go_round
        case rel => exact ⟨k + 1, by omega, by go_num, HN.out⟩
        case measure => simp [intOf]; omega
      case false =>
        rw [hd] at DA
        cases ha : inB aStr (s[k]'hlt)
        case true =>
          rw [ha] at AA
          have HN := hide (all_snoc hlt HL.out (show aB (s[k]'hlt) = true by unfold aB; rw [hd, ha]; rfl))
          clear hd ha
          go_wp2_with fail
          refine wp_loop_rounds 3 ?_
          rw [rounds_succ]
          go_wp2_with (go_at_call 151; (with_reducible refine (DA.out _).mono ?_); rintro e w' ⟨rfl, rfl⟩)
          rw [rounds_succ]
          go_wp2_with (go_at_call 152; (with_reducible refine (AA.out _).mono ?_); rintro e w' ⟨rfl, rfl⟩)
          rw [rounds_succ]
          go_wp2_with fail
          go_round
          case rel => exact ⟨k + 1, by omega, by go_num, HN.out⟩
          case measure => simp [intOf]; omega
        case false =>
          rw [ha] at AA
          have HN := hide (all_stop hlt (show aB (s[k]'hlt) = false by unfold aB; rw [hd, ha]; rfl))
          clear hd ha
          go_wp2_with fail
          refine wp_loop_rounds 3 ?_
          rw [rounds_succ]
          go_wp2_with (go_at_call 151; (with_reducible refine (DA.out _).mono ?_); rintro e w' ⟨rfl, rfl⟩)
          rw [rounds_succ]
          go_wp2_with (go_at_call 152; (with_reducible refine (AA.out _).mono ?_); rintro e w' ⟨rfl, rfl⟩)
          rw [rounds_succ]
          go_wp2_with fail
          go_ret
          exact ⟨ret_b HN.out.symm, rfl⟩
    · obtain rfl : k = s.size := by omega
      go_wp2_with fail
      go_ret
      exact ⟨ret_b (all_end HL.out).symm, rfl⟩
set_option maxHeartbeats 1000000 in
theorem dchars_any (s : ByteArray) (hs : s.size ≤ 65536) (w : World) : Calls Tryz.prog 103 #[.string s] w fun e w' => e = .returned (.bool (dsB s)) ∧ Below w.heap.size w w' := by
  have HL : Live w [] := trivial
  go_enter Tryz.func103, Tryz.ntmps103
  go_wp2_with fail
  refine (all_d s hs _ _ (by go_simp)).mono ?_
  rintro e w' ⟨rfl, rfl⟩
  go_wp2
  go_ret
  exact ⟨rfl, by (exact bl)⟩
set_option maxHeartbeats 1000000 in
theorem achars_any (s : ByteArray) (hs : s.size ≤ 65536) (w : World) : Calls Tryz.prog 104 #[.string s] w fun e w' => e = .returned (.bool (asB s)) ∧ Below w.heap.size w w' := by
  have HL : Live w [] := trivial
  go_enter Tryz.func104, Tryz.ntmps104
  go_wp2_with fail
  refine (all_a s hs _ _ (by go_simp) (by go_simp)).mono ?_
  rintro e w' ⟨rfl, rfl⟩
  go_wp2
  go_ret
  exact ⟨rfl, by (exact bl)⟩
theorem in_no (s : ByteArray) (c : UInt8) (h : (s.data.toList.all fun x => !(x == c)) = true) : inB s c = false := by
  unfold inB
  cases hh : s.data.toList.contains c
  · rfl
  · rw [List.all_eq_true] at h
    have := h c (List.contains_iff_mem.1 hh)
    simp at this
theorem in_yes (s : ByteArray) (c : UInt8) (h : (s.data.toList.all fun x => !(x == c)) = false) : inB s c = true := by
  unfold inB
  rw [List.all_eq_false] at h
  obtain ⟨x, hx, hx2⟩ := h
  have : x = c := by simpa using hx2
  rw [← this]
  exact List.contains_iff_mem.2 hx
set_option maxHeartbeats 2000000 in
theorem ramong_any (c : UInt8) (s : ByteArray) (hs : s.size ≤ 65536) (w : World) : Calls Tryz.prog 155 #[.int .u8 (c.toNat : Int), .string s] w fun e w' => e = .returned (.bool (inB s c)) ∧ w = w' := by
  have HL : Live w [] := trivial
  go_enter Tryz.func155, Tryz.ntmps155
  go_wp2_with fail
  go_loop [5] (fun i => ∃ k : Nat, k ≤ s.size ∧ i = .int .i64 k ∧ (s.data.toList.take k).all (fun x => !(x == c)) = true) (fun i => s.size - (intOf i).toNat)
  case atStart => exact ⟨0, by omega, rfl, rfl⟩
  case round =>
    obtain ⟨k, hk, rfl, hall⟩ := hrel
    have HL := hide hall
    clear hall
    by_cases hlt : k < s.size
    · by_cases he : (s[k]'hlt) = c
      · have hb : (((s[k]'hlt).toNat : Int) == (c.toNat : Int)) = true := by rw [he]; simp
        have HN := hide (in_yes s c (all_stop (f := fun x => !(x == c)) hlt (by rw [he]; simp)))
        clear he
        go_wp2
        go_ret
        exact ⟨ret_b HN.out.symm, rfl⟩
      · have hb : (((s[k]'hlt).toNat : Int) == (c.toNat : Int)) = false := by
          rw [beq_eq_false_iff_ne]; intro h; exact he (UInt8.toNat_inj.1 (by omega))
        have HN := hide (all_snoc (f := fun x => !(x == c)) hlt HL.out (by simpa using he))
        clear he
        go_wp2
        go_round
        case rel => exact ⟨k + 1, by omega, by go_num, HN.out⟩
        case measure => simp [intOf]; omega
    · obtain rfl : k = s.size := by omega
      have HN := hide (in_no s c (all_end HL.out))
      go_wp2
      go_ret
      exact ⟨ret_b HN.out.symm, rfl⟩
set_option maxHeartbeats 2000000 in
theorem rdchars_any (s : ByteArray) (hs : s.size ≤ 65536) (w : World) : Calls Tryz.prog 106 #[.string s] w fun e w' => e = .returned (.bool (dsB s)) ∧ w = w' := by
  have hs2 : (s.size : Int) ≤ 65536 := by omega
  have HL : Live w [] := trivial
  go_enter Tryz.func106, Tryz.ntmps106
  go_wp2_with fail
  go_loop [3] (fun i => ∃ k : Nat, k ≤ s.size ∧ i = .int .i64 k ∧ (s.data.toList.take k).all dB = true) (fun i => s.size - (intOf i).toNat)
  case atStart => exact ⟨0, by omega, rfl, rfl⟩
  case round =>
    obtain ⟨k, hk, rfl, hall⟩ := hrel
    have HL := hide hall
    clear hall
    by_cases hlt : k < s.size
    · have DA := hide (fun W => rD_any (s[k]'hlt) W)
      cases hd : dB (s[k]'hlt)
      case true =>
        rw [hd] at DA
        have HN := hide (all_snoc hlt HL.out hd)
        clear hd
        go_wp2_with (go_at_call 154; (with_reducible refine (DA.out _).mono ?_); rintro e w' ⟨rfl, rfl⟩)
        go_round
        case rel => exact ⟨k + 1, by omega, by go_num, HN.out⟩
        case measure => simp [intOf]; omega
      case false =>
        rw [hd] at DA
        have HN := hide (all_stop hlt hd)
        clear hd
        go_wp2_with (go_at_call 154; (with_reducible refine (DA.out _).mono ?_); rintro e w' ⟨rfl, rfl⟩)
        go_ret
        exact ⟨ret_b HN.out.symm, rfl⟩
    · obtain rfl : k = s.size := by omega
      go_wp2
      go_ret
      exact ⟨ret_b (all_end HL.out).symm, rfl⟩
set_option maxHeartbeats 4000000 in
theorem rachars_any (s : ByteArray) (hs : s.size ≤ 65536) (w : World) : Calls Tryz.prog 107 #[.string s] w fun e w' => e = .returned (.bool (asB s)) ∧ w = w' := by
  have hs2 : (s.size : Int) ≤ 65536 := by omega
  have HL : Live w [] := trivial
  go_enter Tryz.func107, Tryz.ntmps107
  go_wp2_with fail
  go_loop [3] (fun i => ∃ k : Nat, k ≤ s.size ∧ i = .int .i64 k ∧ (s.data.toList.take k).all aB = true) (fun i => s.size - (intOf i).toNat)
  case atStart => exact ⟨0, by omega, rfl, rfl⟩
  case round =>
    obtain ⟨k, hk, rfl, hall⟩ := hrel
    have HL := hide hall
    clear hall
    by_cases hlt : k < s.size
    · have DA := hide (fun W => rD_any (s[k]'hlt) W)
      have AA := hide (fun W => ramong_any (s[k]'hlt) aStr (by decide) W)
      cases hd : dB (s[k]'hlt)
      case true =>
        rw [hd] at DA
        have HN := hide (all_snoc hlt HL.out (show aB (s[k]'hlt) = true by unfold aB; rw [hd]; rfl))
        clear hd
        go_wp2_with (go_at_call 154; (with_reducible refine (DA.out _).mono ?_); rintro e w' ⟨rfl, rfl⟩)
        go_round
        case rel => exact ⟨k + 1, by omega, by go_num, HN.out⟩
        case measure => simp [intOf]; omega
      case false =>
        rw [hd] at DA
        cases ha : inB aStr (s[k]'hlt)
        case true =>
          rw [ha] at AA
          unfold aStr at AA
          have HN := hide (all_snoc hlt HL.out (show aB (s[k]'hlt) = true by unfold aB; rw [hd, ha]; rfl))
          clear hd ha
          go_wp2_with (first | (go_at_call 154; (with_reducible refine (DA.out _).mono ?_); rintro e w' ⟨rfl, rfl⟩) | (go_at_call 155; (with_reducible refine (AA.out _).mono ?_); rintro e w' ⟨rfl, rfl⟩))
          go_round
          case rel => exact ⟨k + 1, by omega, by go_num, HN.out⟩
          case measure => simp [intOf]; omega
        case false =>
          rw [ha] at AA
          unfold aStr at AA
          have HN := hide (all_stop hlt (show aB (s[k]'hlt) = false by unfold aB; rw [hd, ha]; rfl))
          clear hd ha
          go_wp2_with (first | (go_at_call 154; (with_reducible refine (DA.out _).mono ?_); rintro e w' ⟨rfl, rfl⟩) | (go_at_call 155; (with_reducible refine (AA.out _).mono ?_); rintro e w' ⟨rfl, rfl⟩))
          go_ret
          exact ⟨ret_b HN.out.symm, rfl⟩
    · obtain rfl : k = s.size := by omega
      go_wp2
      go_ret
      exact ⟨ret_b (all_end HL.out).symm, rfl⟩
end Go.Proofs.YtjbhokmkmapkoaaGreatDoor
