/- Contracts and plain words for the laws of volume descriptors, part 19: W4, J1, G1, G3, G4, G5, G6. No condition. -/
import Derived.Test.YtjbhokmkmapkoaaGreatDoorC12
import Derived.Laws.StructEq
import Derived.Test.YtjbhokmkmapkoaaGreatDoorC18
import Derived.Test.YtjbhokmkmapkoaaGreatDoorC15
import Derived.Test.YtjbhokmkmapkoaaGreatDoorC0
namespace Go.Proofs.YtjbhokmkmapkoaaGreatDoor
set_option linter.unusedSimpArgs false
set_option linter.unusedVariables false
open Go.PlainAid (bt get_bt bt_nonneg bt_le bt_end)
theorem ok_nil (n : Nat) (strict wide : Bool) : okB ⟨#[]⟩ n strict wide = true := by
  unfold okB
  have h1 : endB ⟨#[]⟩ = false := by decide
  have h2 : charL ⟨#[]⟩ = some [] := charL_nil rfl
  have h3 : wideB ⟨#[]⟩ n = true := by unfold wideB; rw [h2]; exact decide_eq_true (by simp)
  rw [h1, h3]
  cases wide
  · cases strict
    · show (true && (decide (0 ≤ n) && true)) = true; simp
    · show (true && (decide (0 ≤ n) && true)) = true; simp
  · rfl
theorem chkD_typ {d : DR} (h : chkD d = 0) : d.typ = 0 ∨ d.typ = 255 ∨ d.typ = 1 ∨ d.typ = 2 := by
  unfold chkD at h
  split at h
  · rename_i h1; omega
  · split at h
    · rename_i h1; omega
    · cases h
theorem chkD_prim {d : DR} (h : chkD d = 0) (ht : d.typ = 1 ∨ d.typ = 2) : d.cat = 0 ∧ namesB d = true ∧ d.root.id = selfS ∧ d.root.use = ⟨#[]⟩ ∧ rangesB d = true ∧ tmB d.time = true ∧ zoneB d.zone = true ∧ recE d.root = 0 := by
  unfold chkD at h
  rw [if_neg (by omega), if_pos ht] at h
  by_cases hc : d.cat = 0
  case neg => rw [if_pos hc] at h; cases h
  rw [if_neg (by simpa using hc)] at h
  cases hn : namesB d
  case false => rw [if_pos hn] at h; cases h
  rw [if_neg (by rw [hn]; simp)] at h
  by_cases hr : d.root.id ≠ selfS ∨ d.root.use ≠ ⟨#[]⟩
  · rw [if_pos hr] at h; cases h
  rw [if_neg hr] at h
  split at h
  · rename_i hb
    simp only [Bool.and_eq_true, decide_eq_true_eq] at hb
    obtain ⟨⟨⟨h1, h2⟩, h3⟩, h4⟩ := hb
    refine ⟨hc, rfl, ?_, ?_, h1, h2, h3, h4⟩
    · exact Decidable.byContradiction fun h => hr (Or.inl h)
    · exact Decidable.byContradiction fun h => hr (Or.inr h)
  · cases h
theorem ranges_of {d : DR} (h : rangesB d = true) : (0 ≤ d.space ∧ d.space ≤ 4294967295) ∧ (0 ≤ d.psize ∧ d.psize ≤ 4294967295) ∧ (0 ≤ d.pl ∧ d.pl ≤ 4294967295) ∧ (0 ≤ d.pm ∧ d.pm ≤ 4294967295) ∧ (0 ≤ d.discs ∧ d.discs ≤ 65535) ∧ (0 ≤ d.number ∧ d.number ≤ 65535) := by
  unfold rangesB wordB at h
  simp only [Bool.and_eq_true, decide_eq_true_eq] at h
  obtain ⟨⟨⟨⟨a, b⟩, c⟩, e⟩, f⟩ := h
  exact ⟨a, b, c, e, by omega, by omega⟩
theorem names_of {d : DR} (h : namesB d = true) : okB d.name 32 true (wide d) = true ∧ okB d.set 128 true (wide d) = true ∧ okB d.pub 128 false (wide d) = true ∧ okB d.prep 128 false (wide d) = true ∧ okB d.app 128 false (wide d) = true := by
  unfold namesB at h
  simp only [Bool.and_eq_true] at h
  obtain ⟨⟨⟨⟨a, b⟩, c⟩, e⟩, f⟩ := h
  exact ⟨a, b, c, e, f⟩
theorem lensD {d : DR} (h : chkD d = 0) (ht : d.typ = 1 ∨ d.typ = 2) : (segsD d).map List.length = [1, 6, 1, 32, 32, 8, 8, 3, 29, 4, 4, 4, 8, 4, 4, 4, 4, 34, 128, 128, 128, 128, 37, 37, 37, 17, 17, 17, 17, 1, 1166] := by
  obtain ⟨hc, hn, hi, hu, hr, htm, hz, he⟩ := chkD_prim h ht
  obtain ⟨n1, n2, n3, n4, n5⟩ := names_of hn
  have hl : (desT2 d.time d.zone).data.toList.length = 17 := by rw [Array.length_toList]; exact desT2_size htm hz
  have hes : (escL d).length = 3 := by unfold escL; split <;> rfl
  unfold segsD
  simp only [List.map_cons, List.map_nil, fld_len n1, fld_len n2, fld_len n3, fld_len n4, fld_len n5, fld_len (ok_nil 32 true (wide d)), fld_len (ok_nil 37 true (wide d)), encR_len hi hu he, hl, hes, zr_len]
  rfl
theorem encD_prim {d : DR} (ht : d.typ = 1 ∨ d.typ = 2) : encD d = (segsD d).flatten := by
  unfold encD
  rw [if_neg (by omega), if_neg (by omega)]
theorem lensB (d : DR) : (segsB d).map List.length = [1, 6, 23, 41, 4, 1973] := by
  unfold segsB
  simp only [List.map_cons, List.map_nil, zr_len]
  rfl
theorem lensT (d : DR) : (segsT d).map List.length = [1, 6, 2041] := by
  unfold segsT
  simp only [List.map_cons, List.map_nil, zr_len]
  rfl
theorem encD_len {d : DR} (h : chkD d = 0) : (encD d).length = 2048 := by
  rcases chkD_typ h with ht | ht | ht
  · unfold encD
    rw [if_pos ht, List.length_flatten, lensB]
    rfl
  · unfold encD
    rw [if_neg (by omega), if_pos ht, List.length_flatten, lensT]
    rfl
  · rw [encD_prim ht, List.length_flatten, lensD h ht]
    rfl
theorem At.sub {s : ByteArray} {p q : Nat} {l m : List UInt8} (h : At s p l) (h2 : At ⟨l.toArray⟩ q m) : At s (p + q) m := by
  obtain ⟨a, b, rfl, rfl⟩ := h
  obtain ⟨c, e, hl, rfl⟩ := h2
  have hl : l = c ++ (m ++ e) := by
    have := congrArg (fun x : ByteArray => x.data.toList) hl
    simpa using this
  refine ⟨a ++ c, e ++ b, ?_, by simp⟩
  rw [hl]; simp
theorem both4_same {s : ByteArray} {p : Nat} {n : Int} (h : At s p (both4 n)) (hn : 0 ≤ n ∧ n ≤ 4294967295) : le4 s p = n ∧ be4 s (p + 4) = n :=
  ⟨le4_at (l := b4 n) h hn, be4_at (l := []) (At.sub (q := 4) (m := b4 n ++ []) h ⟨l4 n, [], by unfold both4; simp, rfl⟩) hn⟩
theorem both2_same {s : ByteArray} {p : Nat} {n : Int} (h : At s p (both2 n)) (hn : 0 ≤ n ∧ n ≤ 65535) : le2 s p = n ∧ be2 s (p + 2) = n :=
  ⟨le2_at (l := b2 n) h hn, be2_at (l := []) (At.sub (q := 2) (m := b2 n ++ []) h ⟨l2 n, [], by unfold both2; simp, rfl⟩) hn⟩
theorem ext_at {s : ByteArray} {p q : Nat} {l : List UInt8} (h : At s p l) (hq : p + l.length = q) : s.extract p q = ⟨l.toArray⟩ := by
  subst hq; exact h.ext
/-- What is encoded is decoded as the same. -/
theorem dec_encD {d : DR} (h : chkD d = 0) : decD ⟨(encD d).toArray⟩ = (d, 0) := by
  have hlen := encD_len h
  have hsize : (ByteArray.mk (encD d).toArray).size = 2048 := by
    show (encD d).toArray.size = _
    rw [List.size_toArray, hlen]
  rcases chkD_typ h with ht | ht | ht
  · -- a boot record
    have hE : encD d = (segsB d).flatten := by unfold encD; rw [if_pos ht]
    have hd : d = { DR.zero with typ := d.typ, cat := d.cat } ∧ 0 ≤ d.cat ∧ d.cat ≤ 4294967295 := by
      unfold chkD at h
      rw [if_pos (Or.inl ht)] at h
      split at h
      · cases h
      · rename_i ho
        have ho : d = onlyD d := Decidable.byContradiction ho
        unfold onlyD at ho
        rw [if_pos ht] at ho
        split at h
        · rename_i hw
          unfold wordB at hw
          exact ⟨ho, of_decide_eq_true hw⟩
        · cases h
    obtain ⟨hd, hc⟩ := hd
    have L := lensB d
    rw [hE] at hsize ⊢
    have a0 := At.seg L 0 0 _ rfl rfl
    have a1 := At.seg L 1 1 _ rfl rfl
    have a2 := At.seg L 2 7 _ rfl rfl
    have a4 := At.seg L 4 71 _ rfl rfl
    generalize (⟨(segsB d).flatten.toArray⟩ : ByteArray) = s at *
    have e0 := a0.bt 0 _ rfl
    rw [ht, u8_nat (by decide)] at e0
    have e0 : bt s 0 = 0 := e0
    unfold decD
    rw [if_neg (by rw [hsize]; simp), ext_at a1 (q := 7) rfl, if_neg (fun h => h rfl), e0, if_neg (by decide), if_pos rfl, ext_at a2 (q := 30) rfl, if_neg (fun h => h rfl), le4_at (l := []) (by simpa using a4) hc]
    rw [hd]
    simp only [ht]
    rfl
  · have hE : encD d = (segsT d).flatten := by unfold encD; rw [if_neg (by omega), if_pos ht]
    have hd : d = { DR.zero with typ := d.typ } := by
      unfold chkD at h
      rw [if_pos (Or.inr ht)] at h
      split at h
      · cases h
      · rename_i ho
        have ho : d = onlyD d := Decidable.byContradiction ho
        unfold onlyD at ho
        rw [if_neg (by omega)] at ho
        exact ho
    have L := lensT d
    rw [hE] at hsize ⊢
    have a0 := At.seg L 0 0 _ rfl rfl
    have a1 := At.seg L 1 1 _ rfl rfl
    generalize (⟨(segsT d).flatten.toArray⟩ : ByteArray) = s at *
    have e0 := a0.bt 0 _ rfl
    rw [ht, u8_nat (by decide)] at e0
    have e0 : bt s 0 = 255 := e0
    unfold decD
    rw [if_neg (by rw [hsize]; simp), ext_at a1 (q := 7) rfl, if_neg (fun h => h rfl), e0, if_pos rfl]
    rw [hd]
    simp only [ht]
  · obtain ⟨hc, hn, hi, hu, hr, htm, hz, he⟩ := chkD_prim h ht
    obtain ⟨n1, n2, n3, n4, n5⟩ := names_of hn
    obtain ⟨r1, r2, r3, r4, r5, r6⟩ := ranges_of hr
    have L := lensD h ht
    have hE := encD_prim ht
    rw [hE] at hsize ⊢
    have a0 := At.seg L 0 0 _ rfl rfl
    have a1 := At.seg L 1 1 _ rfl rfl
    have a4 := At.seg L 4 40 _ rfl rfl
    have a6 := At.seg L 6 80 _ rfl rfl
    have a7 := At.seg L 7 88 _ rfl rfl
    have a9 := At.seg L 9 120 _ rfl rfl
    have a10 := At.seg L 10 124 _ rfl rfl
    have a11 := At.seg L 11 128 _ rfl rfl
    have a12 := At.seg L 12 132 _ rfl rfl
    have a13 := At.seg L 13 140 _ rfl rfl
    have a15 := At.seg L 15 148 _ rfl rfl
    have a17 := At.seg L 17 156 _ rfl rfl
    have a18 := At.seg L 18 190 _ rfl rfl
    have a19 := At.seg L 19 318 _ rfl rfl
    have a20 := At.seg L 20 446 _ rfl rfl
    have a21 := At.seg L 21 574 _ rfl rfl
    have a25 := At.seg L 25 813 _ rfl rfl
    have a29 := At.seg L 29 881 _ rfl rfl
    generalize (⟨(segsD d).flatten.toArray⟩ : ByteArray) = s at *
    have hl17 : (desT2 d.time d.zone).data.toList.length = 17 := by rw [Array.length_toList]; exact desT2_size htm hz
    have e0 := a0.bt 0 _ rfl
    rw [u8_nat (by omega)] at e0
    have e0 : bt s 0 = d.typ := e0
    have e881 := a29.bt 0 _ rfl
    have e881 : bt s 881 = 1 := e881
    have hw : decide (bt s 0 = 2) = wide d := by rw [e0]; rfl
    have x40 : s.extract 40 72 = ⟨(fldL (wide d) d.name 32).toArray⟩ := ext_at a4 (by rw [fld_len n1])
    have x190 : s.extract 190 318 = ⟨(fldL (wide d) d.set 128).toArray⟩ := ext_at a18 (by rw [fld_len n2])
    have x318 : s.extract 318 446 = ⟨(fldL (wide d) d.pub 128).toArray⟩ := ext_at a19 (by rw [fld_len n3])
    have x446 : s.extract 446 574 = ⟨(fldL (wide d) d.prep 128).toArray⟩ := ext_at a20 (by rw [fld_len n4])
    have x574 : s.extract 574 702 = ⟨(fldL (wide d) d.app 128).toArray⟩ := ext_at a21 (by rw [fld_len n5])
    have x156 : s.extract 156 190 = ⟨(encR d.root).toArray⟩ := ext_at a17 (by rw [encR_len hi hu he])
    have x813 : s.extract 813 830 = desT2 d.time d.zone := (ext_at a25 (by rw [hl17])).trans (lst _).symm
    have hbody : bodyD s = d := by
      unfold bodyD
      rw [hw, e0, x40, x190, x318, x446, x574, x156, x813, (txt_fld n1 rfl).1, (txt_fld n2 rfl).1, (txt_fld n3 rfl).1, (txt_fld n4 rfl).1, (txt_fld n5 rfl).1, rdT_des htm hz, dec_encR hi hu he,
        (both4_same a6 r1).1, (both2_same a9 r5).1, (both2_same a10 r6).1, (both4_same a12 r2).1, le4_at (l := []) (by simpa using a13) r3, be4_at (l := []) (by simpa using a15) r4, ← hc]
    have hgood : goodD s = true := by
      unfold goodD rightD
      rw [hbody, hw, x40, x190, x318, x446, x574, x156, x813, (txt_fld n1 rfl).2, (txt_fld n2 rfl).2, (txt_fld n3 rfl).2, (txt_fld n4 rfl).2, (txt_fld n5 rfl).2, rdT_des htm hz, dec_encR hi hu he, h]
      rfl
    have hesc : ¬ (d.typ = 2 ∧ escB s = false) := by
      rintro ⟨h2, hb⟩
      have hE2 : escL d = [37, 47, 69] := by unfold escL; rw [if_pos h2]
      rw [hE2] at a7
      have f0 := a7.bt 0 _ rfl
      have f1 := a7.bt 1 _ rfl
      have f2 := a7.bt 2 _ rfl
      have f0 : bt s 88 = 37 := f0
      have f1 : bt s 89 = 47 := f1
      have f2 : bt s 90 = 69 := f2
      unfold escB at hb
      rw [f0, f1, f2] at hb
      revert hb; decide
    unfold decD
    rw [if_neg (by rw [hsize]; simp), ext_at a1 (q := 7) rfl, if_neg (fun h => h rfl), e0, if_neg (by omega), if_neg (by omega), (both2_same a11 (by decide)).1, e881, if_neg (by
      rintro (h1 | h1 | h1 | h1)
      · omega
      · exact h1 rfl
      · exact h1 rfl
      · exact hesc h1), if_pos hgood, hbody]
end Go.Proofs.YtjbhokmkmapkoaaGreatDoor
namespace Go.Proofs.YtjbhokmkmapkoaaGreatDoor
set_option linter.unusedSimpArgs false
set_option linter.unusedVariables false
open Go.RowKit
open Go.PlainAid (bt get_bt bt_nonneg bt_le bt_end)
/-- The cells of a volume. -/
def DR.vcells (d : DR) : Array Value := #[.string d.name, .string d.set, .string d.pub, .string d.prep, .string d.app, .int .i64 d.number, .int .i64 d.discs, .int .i64 d.time]
/-- The cells of a descriptor. -/
def DR.cells (d : DR) : Array Value := #[.int .i64 d.typ, .int .i64 d.cat, .string d.name, .string d.set, .string d.pub, .string d.prep, .string d.app, .int .i64 d.number, .int .i64 d.discs, .int .i64 d.time, .int .i64 d.zone, .int .i64 d.space, .int .i64 d.psize, .int .i64 d.pl, .int .i64 d.pm,
  .string d.root.id, .int .i64 d.root.lba, .int .i64 d.root.len, .int .i64 d.root.time, .int .i64 d.root.zone, .int .i64 d.root.flags, .int .i64 d.root.seq, .string d.root.use]
def eqTrip (d : Nat) (xs ys : Array Value) : List (TypeId × Nat) → Sem Bool
  | [] => pure true
  | p :: l => do
    let a ← part p.1 xs p.2
    let b ← part p.1 ys p.2
    let r ← Op.equalIn d p.1 a b
    if (!r) = true then pure false else eqTrip d xs ys l
theorem eqFields_trip (d : Nat) (xs ys : Array Value) : ∀ fs : List Field, (fs.all fun f => f.name != "_") = true → Op.eqFields d xs ys fs = eqTrip d xs ys (fs.map fun f => (f.type, f.offset))
  | [], _ => rfl
  | f :: fs, h => by
    rw [List.all_cons, Bool.and_eq_true] at h
    have hn : f.name ≠ "_" := by simpa using h.1
    show (if f.name ≠ "_" then _ else _) = _
    rw [if_pos hn, eqFields_trip d xs ys fs h.2]
    rfl
theorem eqTrip_cons {P : Program} {W : World} {d : Nat} {xs ys : Array Value} {t : TypeId} {o : Nat} {l : List (TypeId × Nat)} {a b : Value} {r r' : Bool} (ha : (part t xs o).run P W = .ok a W) (hb : (part t ys o).run P W = .ok b W) (hr : (Op.equalIn d t a b).run P W = .ok r W)
    (hl : (eqTrip d xs ys l).run P W = .ok r' W) : (eqTrip d xs ys ((t, o) :: l)).run P W = .ok (r && r') W := by
  unfold eqTrip
  simp only [Sem.run_bind, ha, Result.andThen_ok, hb, hr]
  cases r
  · rfl
  · exact hl
theorem eqTrip_nil {P : Program} {W : World} {d : Nat} {xs ys : Array Value} : (eqTrip d xs ys []).run P W = .ok true W := rfl
theorem eqI (d : Nat) (a b : Int) (W : World) : (Op.equalIn (d + 1) 3 (.int .i64 a) (.int .i64 b)).run Tryz.prog W = .ok (a == b) W := run_equalIn_int W d _ .i64 .i64 a b Tryz.underlying3
theorem eqS (d : Nat) (a b : ByteArray) (W : World) : (Op.equalIn (d + 1) 9 (.string a) (.string b)).run Tryz.prog W = .ok (a.toList == b.toList) W := run_equalIn_string W d _ a b Tryz.underlying9
theorem bl_inj {a b : ByteArray} : (a.toList == b.toList) = true ↔ a = b := by
  rw [beq_iff_eq]
  constructor
  · intro h
    apply ByteArray.ext
    apply Array.toList_inj.1
    rw [ByteArray.toList_eq, ByteArray.toList_eq] at h
    exact h
  · rintro rfl; rfl
theorem bl_eq {a b : ByteArray} : a.toList = b.toList ↔ a = b := by rw [← bl_inj, beq_iff_eq]
theorem eqAgg (d : Nat) (t : TypeId) (xs ys : Array Value) (W : World) (l : List (TypeId × Nat)) (r : Bool) (ht : Tryz.prog.underlying t = some (.struct (Tryz.prog.fieldsOf t))) (hp : Tryz.prog.stoodInHeld t = false) (hn : ((Tryz.prog.fieldsOf t).toList.all fun f => f.name != "_") = true)
    (hl : (Tryz.prog.fieldsOf t).toList.map (fun f => (f.type, f.offset)) = l) (h : (eqTrip d xs ys l).run Tryz.prog W = .ok r W) : (Op.equalIn (d + 1) t (.agg xs) (.agg ys)).run Tryz.prog W = .ok r W := by
  rw [run_equalIn_struct W d t xs ys ht hp, eqFields_trip d xs ys _ hn, hl]
  exact h
set_option maxRecDepth 100000 in
theorem eqRec (d : Nat) (x y : Rec) (W : World) : (Op.equalIn (d + 1 + 1) 25 (.agg x.cells) (.agg y.cells)).run Tryz.prog W = .ok (decide (x = y)) W := by
  refine eqAgg (d + 1) _ _ _ W [(9, 0), (3, 1), (3, 2), (3, 3), (3, 4), (3, 5), (3, 6), (9, 7)] _ (by kernel_rfl) (by kernel_rfl) (by kernel_rfl) (by kernel_rfl) ?_
  have h := eqTrip_cons (P := Tryz.prog) (W := W) (d := d + 1) (xs := x.cells) (ys := y.cells) (t := 9) (o := 0) (a := .string x.id) (b := .string y.id) (by kernel_rfl) (by kernel_rfl) (eqS d _ _ W)
    (eqTrip_cons (t := 3) (o := 1) (a := .int .i64 x.lba) (b := .int .i64 y.lba) (by kernel_rfl) (by kernel_rfl) (eqI d _ _ W)
    (eqTrip_cons (t := 3) (o := 2) (a := .int .i64 x.len) (b := .int .i64 y.len) (by kernel_rfl) (by kernel_rfl) (eqI d _ _ W)
    (eqTrip_cons (t := 3) (o := 3) (a := .int .i64 x.time) (b := .int .i64 y.time) (by kernel_rfl) (by kernel_rfl) (eqI d _ _ W)
    (eqTrip_cons (t := 3) (o := 4) (a := .int .i64 x.zone) (b := .int .i64 y.zone) (by kernel_rfl) (by kernel_rfl) (eqI d _ _ W)
    (eqTrip_cons (t := 3) (o := 5) (a := .int .i64 x.flags) (b := .int .i64 y.flags) (by kernel_rfl) (by kernel_rfl) (eqI d _ _ W)
    (eqTrip_cons (t := 3) (o := 6) (a := .int .i64 x.seq) (b := .int .i64 y.seq) (by kernel_rfl) (by kernel_rfl) (eqI d _ _ W)
    (eqTrip_cons (t := 9) (o := 7) (a := .string x.use) (b := .string y.use) (by kernel_rfl) (by kernel_rfl) (eqS d _ _ W) eqTrip_nil)))))))
  refine h.trans ?_
  congr 1
  rw [Bool.eq_iff_iff, decide_eq_true_eq]
  simp only [Bool.and_eq_true, beq_iff_eq, bl_eq, and_true]
  constructor
  · rintro ⟨h0, h1, h2, h3, h4, h5, h6, h7⟩
    cases x; cases y
    simp only at h0 h1 h2 h3 h4 h5 h6 h7
    subst h0 h1 h2 h3 h4 h5 h6 h7
    rfl
  · rintro rfl
    exact ⟨rfl, rfl, rfl, rfl, rfl, rfl, rfl, rfl⟩
def volB (x y : DR) : Bool := decide (x.name = y.name ∧ x.set = y.set ∧ x.pub = y.pub ∧ x.prep = y.prep ∧ x.app = y.app ∧ x.number = y.number ∧ x.discs = y.discs ∧ x.time = y.time)
set_option maxRecDepth 100000 in
theorem eqVol (d : Nat) (x y : DR) (W : World) : (Op.equalIn (d + 1 + 1) 23 (.agg x.vcells) (.agg y.vcells)).run Tryz.prog W = .ok (volB x y) W := by
  refine eqAgg (d + 1) _ _ _ W [(9, 0), (9, 1), (9, 2), (9, 3), (9, 4), (3, 5), (3, 6), (3, 7)] _ (by kernel_rfl) (by kernel_rfl) (by kernel_rfl) (by kernel_rfl) ?_
  have h := eqTrip_cons (P := Tryz.prog) (W := W) (d := d + 1) (xs := x.vcells) (ys := y.vcells) (t := 9) (o := 0) (a := .string x.name) (b := .string y.name) (by kernel_rfl) (by kernel_rfl) (eqS d _ _ W)
    (eqTrip_cons (t := 9) (o := 1) (a := .string x.set) (b := .string y.set) (by kernel_rfl) (by kernel_rfl) (eqS d _ _ W)
    (eqTrip_cons (t := 9) (o := 2) (a := .string x.pub) (b := .string y.pub) (by kernel_rfl) (by kernel_rfl) (eqS d _ _ W)
    (eqTrip_cons (t := 9) (o := 3) (a := .string x.prep) (b := .string y.prep) (by kernel_rfl) (by kernel_rfl) (eqS d _ _ W)
    (eqTrip_cons (t := 9) (o := 4) (a := .string x.app) (b := .string y.app) (by kernel_rfl) (by kernel_rfl) (eqS d _ _ W)
    (eqTrip_cons (t := 3) (o := 5) (a := .int .i64 x.number) (b := .int .i64 y.number) (by kernel_rfl) (by kernel_rfl) (eqI d _ _ W)
    (eqTrip_cons (t := 3) (o := 6) (a := .int .i64 x.discs) (b := .int .i64 y.discs) (by kernel_rfl) (by kernel_rfl) (eqI d _ _ W)
    (eqTrip_cons (t := 3) (o := 7) (a := .int .i64 x.time) (b := .int .i64 y.time) (by kernel_rfl) (by kernel_rfl) (eqI d _ _ W) eqTrip_nil)))))))
  refine h.trans ?_
  congr 1
  unfold volB
  rw [Bool.eq_iff_iff, decide_eq_true_eq]
  simp only [Bool.and_eq_true, beq_iff_eq, bl_eq, and_true]
set_option maxRecDepth 100000 in
theorem eqD (x y : DR) (W : World) : (Op.equalIn 10000 27 (.agg x.cells) (.agg y.cells)).run Tryz.prog W = .ok (decide (x = y)) W := by
  refine eqAgg 9999 _ _ _ W [(3, 0), (3, 1), (23, 2), (3, 10), (3, 11), (3, 12), (3, 13), (3, 14), (25, 15)] _ (by kernel_rfl) (by kernel_rfl) (by kernel_rfl) (by kernel_rfl) ?_
  have h := eqTrip_cons (P := Tryz.prog) (W := W) (d := 9999) (xs := x.cells) (ys := y.cells) (t := 3) (o := 0) (a := .int .i64 x.typ) (b := .int .i64 y.typ) (by kernel_rfl) (by kernel_rfl) (eqI 9998 _ _ W)
    (eqTrip_cons (t := 3) (o := 1) (a := .int .i64 x.cat) (b := .int .i64 y.cat) (by kernel_rfl) (by kernel_rfl) (eqI 9998 _ _ W)
    (eqTrip_cons (t := 23) (o := 2) (a := .agg x.vcells) (b := .agg y.vcells) (by kernel_rfl) (by kernel_rfl) (eqVol 9997 _ _ W)
    (eqTrip_cons (t := 3) (o := 10) (a := .int .i64 x.zone) (b := .int .i64 y.zone) (by kernel_rfl) (by kernel_rfl) (eqI 9998 _ _ W)
    (eqTrip_cons (t := 3) (o := 11) (a := .int .i64 x.space) (b := .int .i64 y.space) (by kernel_rfl) (by kernel_rfl) (eqI 9998 _ _ W)
    (eqTrip_cons (t := 3) (o := 12) (a := .int .i64 x.psize) (b := .int .i64 y.psize) (by kernel_rfl) (by kernel_rfl) (eqI 9998 _ _ W)
    (eqTrip_cons (t := 3) (o := 13) (a := .int .i64 x.pl) (b := .int .i64 y.pl) (by kernel_rfl) (by kernel_rfl) (eqI 9998 _ _ W)
    (eqTrip_cons (t := 3) (o := 14) (a := .int .i64 x.pm) (b := .int .i64 y.pm) (by kernel_rfl) (by kernel_rfl) (eqI 9998 _ _ W)
    (eqTrip_cons (t := 25) (o := 15) (a := .agg x.root.cells) (b := .agg y.root.cells) (by kernel_rfl) (by kernel_rfl) (eqRec 9997 _ _ W) eqTrip_nil))))))))
  refine h.trans ?_
  congr 1
  rw [Bool.eq_iff_iff, decide_eq_true_eq]
  simp only [Bool.and_eq_true, beq_iff_eq, and_true, decide_eq_true_eq]
  constructor
  · rintro ⟨h0, h1, h2, h3, h4, h5, h6, h7, h8⟩
    obtain ⟨v0, v1, v2, v3, v4, v5, v6, v7⟩ := of_decide_eq_true h2
    cases x; cases y
    simp only at h0 h1 h3 h4 h5 h6 h7 h8 v0 v1 v2 v3 v4 v5 v6 v7
    subst h0 h1 h3 h4 h5 h6 h7 h8 v0 v1 v2 v3 v4 v5 v6 v7
    rfl
  · rintro rfl
    exact ⟨rfl, rfl, decide_eq_true ⟨rfl, rfl, rfl, rfl, rfl, rfl, rfl, rfl⟩, rfl, rfl, rfl, rfl, rfl, rfl⟩
theorem neqD (x y : DR) (W : World) : (binOp .neq 27 (.agg x.cells) (.agg y.cells)).run Tryz.prog W = .ok (.bool (!decide (x = y))) W := by
  rw [run_neq_struct, eqD]; rfl
theorem eqlD (x y : DR) (W : World) : (binOp .eql 27 (.agg x.cells) (.agg y.cells)).run Tryz.prog W = .ok (.bool (decide (x = y))) W := by
  rw [run_eql_struct, eqD]; rfl
end Go.Proofs.YtjbhokmkmapkoaaGreatDoor
namespace Go.Proofs.YtjbhokmkmapkoaaGreatDoor
set_option linter.unusedSimpArgs false
set_option linter.unusedVariables false
theorem flat_len : ∀ cs : List Int, (cs.flatMap encL).length ≤ 3 * cs.length
  | [] => by simp
  | c :: cs => by
    have h1 := encL_len c
    have h2 := flat_len cs
    rw [List.flatMap_cons, List.length_append, List.length_cons]
    omega
theorem charL_3 {s : ByteArray} {cs : List Int} (h : charL s = some cs) : s.size ≤ 3 * cs.length := by
  have h1 := (charL_text s.size s cs (Nat.le_refl _) h).1
  have h2 := flat_len cs
  have h3 : s.data.toList.length = s.size := Array.length_toList
  rw [h1] at h3
  omega
end Go.Proofs.YtjbhokmkmapkoaaGreatDoor
namespace Go.Proofs.YtjbhokmkmapkoaaGreatDoor
set_option linter.unusedSimpArgs false
set_option linter.unusedVariables false
open Go.RowKit
set_option maxHeartbeats 400000 in
theorem word_any (n : Int) (w : World) : Calls Tryz.prog 47 #[.int .i64 n] w fun e w' => e = .returned (.bool (wordB n)) ∧ w = w' := by
  have HL : Live w [] := trivial
  go_enter Tryz.func47, Tryz.ntmps47
  go_wp2
  all_goals
    go_ret
    exact ⟨ret_b (by rw [Bool.eq_iff_iff]; simp [wordB] <;> omega), rfl⟩
end Go.Proofs.YtjbhokmkmapkoaaGreatDoor
namespace Go.Proofs.YtjbhokmkmapkoaaGreatDoor
set_option linter.unusedSimpArgs false
set_option linter.unusedVariables false
open Go.RowKit
open Go.PlainAid (bt get_bt bt_nonneg bt_le bt_end)
theorem ok_end {s : ByteArray} {n : Nat} {a b : Bool} (h : endB s = true) : okB s n a b = false := by unfold okB; rw [h]; rfl
theorem ok_d {s : ByteArray} {n : Nat} (h : endB s = false) : okB s n true false = (decide (s.size ≤ n) && dsB s) := by unfold okB; rw [h]; rfl
theorem ok_a {s : ByteArray} {n : Nat} (h : endB s = false) : okB s n false false = (decide (s.size ≤ n) && asB s) := by unfold okB; rw [h]; rfl
theorem ok_w {s : ByteArray} {n : Nat} {a : Bool} (h : endB s = false) : okB s n a true = wideB s n := by unfold okB; rw [h]; rfl
end Go.Proofs.YtjbhokmkmapkoaaGreatDoor
namespace Go.Proofs.YtjbhokmkmapkoaaGreatDoor
set_option linter.unusedSimpArgs false
set_option linter.unusedVariables false
open Go.RowKit
open Go.PlainAid (bt get_bt bt_nonneg bt_le bt_end)
/-- A row of known length, or an error. -/
def LenP (n : Nat) (w : World) (e : Ending) (w' : World) : Prop := ∃ sa scap, e = .returned (.tuple #[.slice sa n scap, .int .i64 0]) ∧ Below w.heap.size w w'
theorem LenP.of {s : ByteArray} {cs : List Int} (h : charL s = some cs) {w : World} {e : Ending} {w' : World} (hp : CharsP (charL s) w e w') : LenP cs.length w e w' := by
  unfold CharsP at hp
  rw [h] at hp
  obtain ⟨⟨v, he, ho⟩, hb⟩ := hp
  rcases ho.2 with ⟨h1, h2⟩ | ⟨g, cap, cur, hv, _⟩
  · rw [h2]
    exact ⟨none, 0, he.trans (by rw [h1]), hb⟩
  · exact ⟨_, _, he.trans (by rw [hv]), hb⟩
theorem rcharsYes (s : ByteArray) (n : Nat) (cs : List Int) (hs : s.size ≤ 65536) (h : charL s = some cs) (hn : cs.length = n) (w : World) : Calls Tryz.prog 105 #[.string s] w (LenP n w) := by
  subst hn
  exact (rchars_any s hs w).mono fun _ _ hp => LenP.of h hp
theorem rcharsNo (s : ByteArray) (hs : s.size ≤ 65536) (h : charL s = none) (w : World) : Calls Tryz.prog 105 #[.string s] w fun e w' => e = .returned (.tuple #[.slice none 0 0, .int .i64 3]) ∧ Below w.heap.size w w' := by
  refine (rchars_any s hs w).mono fun _ _ hp => ?_
  unfold CharsP at hp
  rw [h] at hp
  exact hp
theorem charsYes (s : ByteArray) (n : Nat) (cs : List Int) (hs : s.size ≤ 65536) (h : charL s = some cs) (hn : cs.length = n) (w : World) (hT : TabU w) : Calls Tryz.prog 102 #[.string s] w (LenP n w) := by
  subst hn
  exact (chars_any s hs w hT).mono fun _ _ hp => LenP.of h hp
theorem charsNo (s : ByteArray) (hs : s.size ≤ 65536) (h : charL s = none) (w : World) (hT : TabU w) : Calls Tryz.prog 102 #[.string s] w fun e w' => e = .returned (.tuple #[.slice none 0 0, .int .i64 3]) ∧ Below w.heap.size w w' := by
  refine (chars_any s hs w hT).mono fun _ _ hp => ?_
  unfold CharsP at hp
  rw [h] at hp
  exact hp
theorem wideB_some {s : ByteArray} {cs : List Int} {n k : Nat} (h : charL s = some cs) (hk : cs.length = k) : wideB s n = decide (2 * k ≤ n) := by unfold wideB; rw [h]; subst hk; rfl
theorem wideB_none {s : ByteArray} {n : Nat} (h : charL s = none) : wideB s n = false := by unfold wideB; rw [h]
set_option maxHeartbeats 2000000 in
theorem rname_end (s : ByteArray) (hs : s.size ≤ 65536) (n : Nat) (wide strict : Bool) (h : endB s = true) (w : World) : Calls Tryz.prog 50 #[.string s, .bool wide, .bool strict, .int .i64 n] w fun e w' => e = .returned (.bool (okB s n strict wide)) ∧ w = w' := by
  have E := hide (ok_end (n := n) (a := strict) (b := wide) h)
  obtain ⟨h1, hb⟩ := of_decide_eq_true h
  have hbb := get_bt s
  have hq : (bt s (s.size - 1) == 32) = true := by rw [hb]; rfl
  have hp : 0 < s.size := h1
  clear h hb h1
  have HL : Live w [] := trivial
  go_enter Tryz.func50, Tryz.ntmps50
  go_wp2_with fail
  go_ret
  exact ⟨ret_b E.out.symm, rfl⟩
theorem end_q {s : ByteArray} (h : endB s = false) (hp : 0 < s.size) : (bt s (s.size - 1) == 32) = false := by
  have := of_decide_eq_false h
  rw [beq_eq_false_iff_ne]
  intro e
  exact this ⟨hp, e⟩
set_option maxHeartbeats 4000000 in
theorem rname_d (s : ByteArray) (hs : s.size ≤ 65536) (n : Nat) (hn : n ≤ 1000) (strict : Bool) (h : endB s = false) (w : World) : Calls Tryz.prog 50 #[.string s, .bool false, .bool strict, .int .i64 n] w fun e w' => e = .returned (.bool (okB s n strict false)) ∧ w = w' := by
  have hbb := get_bt s
  have RDC := hide (fun W => rdchars_any s hs W)
  have RAC := hide (fun W => rachars_any s hs W)
  have E1 := hide (ok_d (n := n) h)
  have E2 := hide (ok_a (n := n) h)
  have EQ := hide (end_q h)
  clear h
  by_cases hp : 0 < s.size
  case pos =>
    have hq := EQ.out hp
    by_cases hl : s.size ≤ n
    case pos =>
      cases strict
      case true =>
        have HL : Live w [] := trivial
        go_enter Tryz.func50, Tryz.ntmps50
        go_wp2_with (first | (go_at_call 106; (with_reducible refine (RDC.out _).mono ?_); rintro e w' ⟨rfl, rfl⟩) | (go_at_call 107; (with_reducible refine (RAC.out _).mono ?_); rintro e w' ⟨rfl, rfl⟩))
        go_ret
        exact ⟨ret_b (by rw [E1.out, decide_eq_true hl]; rfl), rfl⟩
      case false =>
        have HL : Live w [] := trivial
        go_enter Tryz.func50, Tryz.ntmps50
        go_wp2_with (first | (go_at_call 106; (with_reducible refine (RDC.out _).mono ?_); rintro e w' ⟨rfl, rfl⟩) | (go_at_call 107; (with_reducible refine (RAC.out _).mono ?_); rintro e w' ⟨rfl, rfl⟩))
        go_ret
        exact ⟨ret_b (by rw [E2.out, decide_eq_true hl]; rfl), rfl⟩
    case neg =>
      cases strict
      case true =>
        have HL : Live w [] := trivial
        go_enter Tryz.func50, Tryz.ntmps50
        go_wp2_with (first | (go_at_call 106; (with_reducible refine (RDC.out _).mono ?_); rintro e w' ⟨rfl, rfl⟩) | (go_at_call 107; (with_reducible refine (RAC.out _).mono ?_); rintro e w' ⟨rfl, rfl⟩))
        go_ret
        exact ⟨ret_b (by rw [E1.out, decide_eq_false hl]; rfl), rfl⟩
      case false =>
        have HL : Live w [] := trivial
        go_enter Tryz.func50, Tryz.ntmps50
        go_wp2_with (first | (go_at_call 106; (with_reducible refine (RDC.out _).mono ?_); rintro e w' ⟨rfl, rfl⟩) | (go_at_call 107; (with_reducible refine (RAC.out _).mono ?_); rintro e w' ⟨rfl, rfl⟩))
        go_ret
        exact ⟨ret_b (by rw [E2.out, decide_eq_false hl]; rfl), rfl⟩
  case neg =>
    have hl : s.size ≤ n := by omega
    cases strict
    case true =>
      have HL : Live w [] := trivial
      go_enter Tryz.func50, Tryz.ntmps50
      go_wp2_with (first | (go_at_call 106; (with_reducible refine (RDC.out _).mono ?_); rintro e w' ⟨rfl, rfl⟩) | (go_at_call 107; (with_reducible refine (RAC.out _).mono ?_); rintro e w' ⟨rfl, rfl⟩))
      go_ret
      exact ⟨ret_b (by rw [E1.out, decide_eq_true hl]; rfl), rfl⟩
    case false =>
      have HL : Live w [] := trivial
      go_enter Tryz.func50, Tryz.ntmps50
      go_wp2_with (first | (go_at_call 106; (with_reducible refine (RDC.out _).mono ?_); rintro e w' ⟨rfl, rfl⟩) | (go_at_call 107; (with_reducible refine (RAC.out _).mono ?_); rintro e w' ⟨rfl, rfl⟩))
      go_ret
      exact ⟨ret_b (by rw [E2.out, decide_eq_true hl]; rfl), rfl⟩
set_option maxHeartbeats 4000000 in
theorem rname_w (s : ByteArray) (hs : s.size ≤ 65536) (n m : Nat) (hn : n = 2 * m) (hm : m ≤ 500) (strict : Bool) (h : endB s = false) (w : World) : Calls Tryz.prog 50 #[.string s, .bool true, .bool strict, .int .i64 n] w fun e w' => e = .returned (.bool (okB s n strict true)) ∧ Below w.heap.size w w' := by
  have hbb := get_bt s
  have E1 := hide (ok_w (n := n) (a := strict) h)
  have EQ := hide (end_q h)
  have q2 : (n : Int) / 2 = (m : Int) := by omega
  have n0 : (0 : Int) ≤ (n : Int) := by omega
  have HN := hide hn
  clear h hn
  cases hc : charL s with
  | none =>
    have RCN := hide (fun W => rcharsNo s hs hc W)
    have E2 := hide (wideB_none (n := n) hc)
    clear hc
    by_cases hp : 0 < s.size
    case pos =>
      have hq := EQ.out hp
      have HL : Live w [] := trivial
      go_enter Tryz.func50, Tryz.ntmps50
      go_wp2_with (first | (go_at_call 105; (with_reducible refine (RCN.out _).mono ?_); rintro e w' ⟨rfl, hb⟩; have hz := hb.size; (try simp only [SZ, Nat.reduceAdd] at hz); (first | obtain ⟨HL, hk⟩ := HL.callA hb hz | obtain ⟨HL, hk⟩ := HL.call0A hb hz); (try simp only [addN, Nat.add_zero] at HL hk); have hl := HL; simp only [Live] at hl; (try simp only [Kept] at hk)))
      go_ret
      exact ⟨ret_b (by rw [E1.out, E2.out]), by (exact bl)⟩
    case neg =>
      have HL : Live w [] := trivial
      go_enter Tryz.func50, Tryz.ntmps50
      go_wp2_with (first | (go_at_call 105; (with_reducible refine (RCN.out _).mono ?_); rintro e w' ⟨rfl, hb⟩; have hz := hb.size; (try simp only [SZ, Nat.reduceAdd] at hz); (first | obtain ⟨HL, hk⟩ := HL.callA hb hz | obtain ⟨HL, hk⟩ := HL.call0A hb hz); (try simp only [addN, Nat.add_zero] at HL hk); have hl := HL; simp only [Live] at hl; (try simp only [Kept] at hk)))
      go_ret
      exact ⟨ret_b (by rw [E1.out, E2.out]), by (exact bl)⟩
  | some cs =>
    obtain ⟨k, hk⟩ : ∃ k, cs.length = k := ⟨_, rfl⟩
    have RCY := hide (fun W => rcharsYes s k cs hs hc hk W)
    have E2 := hide (wideB_some (n := n) hc hk)
    have k0 := charL_3 hc
    have k1 : k ≤ s.size := by rw [← hk]; exact (charL_text s.size s cs (Nat.le_refl _) hc).2.2
    clear hc hk k0
    by_cases hp : 0 < s.size
    case pos =>
      have hq := EQ.out hp
      have HL : Live w [] := trivial
      go_enter Tryz.func50, Tryz.ntmps50
      go_wp2_with (first | (go_at_call 105; (with_reducible refine (RCY.out _).mono ?_); rintro e w' ⟨sa, scap, rfl, hb⟩; have hz := hb.size; (try simp only [SZ, Nat.reduceAdd] at hz); (first | obtain ⟨HL, hk⟩ := HL.callA hb hz | obtain ⟨HL, hk⟩ := HL.call0A hb hz); (try simp only [addN, Nat.add_zero] at HL hk); have hl := HL; simp only [Live] at hl; (try simp only [Kept] at hk)))
      go_ret
      exact ⟨ret_b (by rw [E1.out, E2.out, HN.out]; simp <;> omega), by (exact bl)⟩
    case neg =>
      have HL : Live w [] := trivial
      go_enter Tryz.func50, Tryz.ntmps50
      go_wp2_with (first | (go_at_call 105; (with_reducible refine (RCY.out _).mono ?_); rintro e w' ⟨sa, scap, rfl, hb⟩; have hz := hb.size; (try simp only [SZ, Nat.reduceAdd] at hz); (first | obtain ⟨HL, hk⟩ := HL.callA hb hz | obtain ⟨HL, hk⟩ := HL.call0A hb hz); (try simp only [addN, Nat.add_zero] at HL hk); have hl := HL; simp only [Live] at hl; (try simp only [Kept] at hk)))
      go_ret
      exact ⟨ret_b (by rw [E1.out, E2.out, HN.out]; simp <;> omega), by (exact bl)⟩
theorem rname_any (s : ByteArray) (n m : Nat) (hs : s.size ≤ 65536) (wide strict : Bool) (hn : n = 2 * m) (hm : m ≤ 500) (w : World) : Calls Tryz.prog 50 #[.string s, .bool wide, .bool strict, .int .i64 n] w fun e w' => e = .returned (.bool (okB s n strict wide)) ∧ Below w.heap.size w w' := by
  have same : ∀ {e : Ending} {w' : World}, (e = .returned (.bool (okB s n strict wide)) ∧ w = w') → e = .returned (.bool (okB s n strict wide)) ∧ Below w.heap.size w w' := fun ⟨h1, h2⟩ => ⟨h1, by subst h2; exact Below.refl _ _⟩
  cases h : endB s
  · cases wide
    · exact (rname_d s hs n (by omega) strict h w).mono fun _ _ hp => same hp
    · exact rname_w s hs n m hn hm strict h w
  · exact (rname_end s hs n wide strict h w).mono fun _ _ hp => same hp
end Go.Proofs.YtjbhokmkmapkoaaGreatDoor
namespace Go.Proofs.YtjbhokmkmapkoaaGreatDoor
set_option linter.unusedSimpArgs false
set_option linter.unusedVariables false
open Go.RowKit
open Go.PlainAid (bt get_bt bt_nonneg bt_le bt_end)
theorem suf_one (s : ByteArray) : Lib.hasSuffix s.data.toList [32] = endB s := by
  have hl : s.data.toList.length = s.size := Array.length_toList
  unfold Lib.hasSuffix endB
  rw [Bool.eq_iff_iff, List.isSuffixOf_iff_suffix, decide_eq_true_eq]
  constructor
  · rintro ⟨l, e⟩
    have e2 := congrArg List.length e
    simp at e2
    refine ⟨by omega, ?_⟩
    rw [lst s, ← e]
    rw [bt_at l [] 32 _ (by show (ByteArray.mk (l ++ [32]).toArray).size - 1 = _; show (l ++ [32]).toArray.size - 1 = _; simp)]
    rfl
  · rintro ⟨h1, h2⟩
    have hlt : s.size - 1 < s.data.toList.length := by omega
    have e : s.data.toList = s.data.toList.take (s.size - 1) ++ [s.data.toList[s.size - 1]] := by
      conv => lhs; rw [← List.take_append_drop (s.size - 1) s.data.toList]
      rw [List.drop_eq_getElem_cons hlt, List.drop_of_length_le (by omega)]
    have g := bt_of (List.getElem?_eq_getElem hlt)
    rw [← lst s, h2] at g
    have g2 : s.data.toList[s.size - 1] = 32 := by
      apply UInt8.toNat_inj.1
      have : (s.data.toList[s.size - 1].toNat : Int) = ((32 : UInt8).toNat : Int) := by rw [← g]; rfl
      omega
    rw [g2] at e
    exact ⟨_, e.symm⟩
theorem sufB (t : ByteArray) (b : Bool) (hs : t.size ≤ 65536) (hb : endB t = b) (w : World) : Calls Tryz.prog 101 #[.string t, .string ⟨#[32]⟩] w fun e w' => e = .returned (.bool b) ∧ w = w' := by
  refine (Any.strings_HasSuffix Tryz.lays100 t ⟨#[32]⟩ w (by omega)).mono ?_
  rintro e w' ⟨rfl, rfl⟩
  exact ⟨by rw [← hb, ← suf_one t], rfl⟩
set_option maxHeartbeats 2000000 in
theorem allowed_end (s : ByteArray) (hs : s.size ≤ 65536) (a : Int) (n : Nat) (wide strict : Bool) (h : endB s = true) (w : World) : Calls Tryz.prog 48 #[.string s, .agg #[.int .i64 a, .int .i64 n, .bool strict], .bool wide] w fun e w' => e = .returned (.bool (okB s n strict wide)) ∧ Below w.heap.size w w' := by
  have E := hide (ok_end (n := n) (a := strict) (b := wide) h)
  have SB := hide (fun W => sufB s true hs h W)
  clear h
  have HL : Live w [] := trivial
  go_enter Tryz.func48, Tryz.ntmps48
  go_wp2_with (first | (go_at_call 101; (with_reducible refine (SB.out _).mono ?_); rintro e w' ⟨rfl, rfl⟩))
  go_ret
  exact ⟨ret_b E.out.symm, by (exact bl)⟩
set_option maxHeartbeats 4000000 in
theorem allowed_d (s : ByteArray) (hs : s.size ≤ 65536) (a : Int) (n : Nat) (strict : Bool) (h : endB s = false) (w : World) : Calls Tryz.prog 48 #[.string s, .agg #[.int .i64 a, .int .i64 n, .bool strict], .bool false] w fun e w' => e = .returned (.bool (okB s n strict false)) ∧ Below w.heap.size w w' := by
  have DC := hide (fun W => dchars_any s hs W)
  have AC := hide (fun W => achars_any s hs W)
  have E1 := hide (ok_d (n := n) h)
  have E2 := hide (ok_a (n := n) h)
  have SB := hide (fun W => sufB s false hs h W)
  clear h
  by_cases hle : s.size ≤ n
  case pos =>
    cases strict
    case true =>
      have HL : Live w [] := trivial
      go_enter Tryz.func48, Tryz.ntmps48
      go_wp2_with (first | (go_at_call 101; (with_reducible refine (SB.out _).mono ?_); rintro e w' ⟨rfl, rfl⟩) | (go_at_call 103; (with_reducible refine (DC.out _).mono ?_); rintro e w' ⟨rfl, hb⟩; have hz := hb.size; (try simp only [SZ, Nat.reduceAdd] at hz); (first | obtain ⟨HL, hk⟩ := HL.callA hb hz | obtain ⟨HL, hk⟩ := HL.call0A hb hz); (try simp only [addN, Nat.add_zero] at HL hk); have hl := HL; simp only [Live] at hl; (try simp only [Kept] at hk)) | (go_at_call 104; (with_reducible refine (AC.out _).mono ?_); rintro e w' ⟨rfl, hb⟩; have hz := hb.size; (try simp only [SZ, Nat.reduceAdd] at hz); (first | obtain ⟨HL, hk⟩ := HL.callA hb hz | obtain ⟨HL, hk⟩ := HL.call0A hb hz); (try simp only [addN, Nat.add_zero] at HL hk); have hl := HL; simp only [Live] at hl; (try simp only [Kept] at hk)))
      go_ret
      exact ⟨ret_b (by rw [E1.out, decide_eq_true hle]; rfl), by (exact bl)⟩
    case false =>
      have HL : Live w [] := trivial
      go_enter Tryz.func48, Tryz.ntmps48
      go_wp2_with (first | (go_at_call 101; (with_reducible refine (SB.out _).mono ?_); rintro e w' ⟨rfl, rfl⟩) | (go_at_call 103; (with_reducible refine (DC.out _).mono ?_); rintro e w' ⟨rfl, hb⟩; have hz := hb.size; (try simp only [SZ, Nat.reduceAdd] at hz); (first | obtain ⟨HL, hk⟩ := HL.callA hb hz | obtain ⟨HL, hk⟩ := HL.call0A hb hz); (try simp only [addN, Nat.add_zero] at HL hk); have hl := HL; simp only [Live] at hl; (try simp only [Kept] at hk)) | (go_at_call 104; (with_reducible refine (AC.out _).mono ?_); rintro e w' ⟨rfl, hb⟩; have hz := hb.size; (try simp only [SZ, Nat.reduceAdd] at hz); (first | obtain ⟨HL, hk⟩ := HL.callA hb hz | obtain ⟨HL, hk⟩ := HL.call0A hb hz); (try simp only [addN, Nat.add_zero] at HL hk); have hl := HL; simp only [Live] at hl; (try simp only [Kept] at hk)))
      go_ret
      exact ⟨ret_b (by rw [E2.out, decide_eq_true hle]; rfl), by (exact bl)⟩
  case neg =>
    cases strict
    case true =>
      have HL : Live w [] := trivial
      go_enter Tryz.func48, Tryz.ntmps48
      go_wp2_with (first | (go_at_call 101; (with_reducible refine (SB.out _).mono ?_); rintro e w' ⟨rfl, rfl⟩) | (go_at_call 103; (with_reducible refine (DC.out _).mono ?_); rintro e w' ⟨rfl, hb⟩; have hz := hb.size; (try simp only [SZ, Nat.reduceAdd] at hz); (first | obtain ⟨HL, hk⟩ := HL.callA hb hz | obtain ⟨HL, hk⟩ := HL.call0A hb hz); (try simp only [addN, Nat.add_zero] at HL hk); have hl := HL; simp only [Live] at hl; (try simp only [Kept] at hk)) | (go_at_call 104; (with_reducible refine (AC.out _).mono ?_); rintro e w' ⟨rfl, hb⟩; have hz := hb.size; (try simp only [SZ, Nat.reduceAdd] at hz); (first | obtain ⟨HL, hk⟩ := HL.callA hb hz | obtain ⟨HL, hk⟩ := HL.call0A hb hz); (try simp only [addN, Nat.add_zero] at HL hk); have hl := HL; simp only [Live] at hl; (try simp only [Kept] at hk)))
      go_ret
      exact ⟨ret_b (by rw [E1.out, decide_eq_false hle]; rfl), by (exact bl)⟩
    case false =>
      have HL : Live w [] := trivial
      go_enter Tryz.func48, Tryz.ntmps48
      go_wp2_with (first | (go_at_call 101; (with_reducible refine (SB.out _).mono ?_); rintro e w' ⟨rfl, rfl⟩) | (go_at_call 103; (with_reducible refine (DC.out _).mono ?_); rintro e w' ⟨rfl, hb⟩; have hz := hb.size; (try simp only [SZ, Nat.reduceAdd] at hz); (first | obtain ⟨HL, hk⟩ := HL.callA hb hz | obtain ⟨HL, hk⟩ := HL.call0A hb hz); (try simp only [addN, Nat.add_zero] at HL hk); have hl := HL; simp only [Live] at hl; (try simp only [Kept] at hk)) | (go_at_call 104; (with_reducible refine (AC.out _).mono ?_); rintro e w' ⟨rfl, hb⟩; have hz := hb.size; (try simp only [SZ, Nat.reduceAdd] at hz); (first | obtain ⟨HL, hk⟩ := HL.callA hb hz | obtain ⟨HL, hk⟩ := HL.call0A hb hz); (try simp only [addN, Nat.add_zero] at HL hk); have hl := HL; simp only [Live] at hl; (try simp only [Kept] at hk)))
      go_ret
      exact ⟨ret_b (by rw [E2.out, decide_eq_false hle]; rfl), by (exact bl)⟩
set_option maxHeartbeats 4000000 in
theorem allowed_w (s : ByteArray) (hs : s.size ≤ 65536) (a : Int) (n m : Nat) (hn : n = 2 * m) (hm : m ≤ 500) (strict : Bool) (h : endB s = false) (w : World) (hT : TabU w) : Calls Tryz.prog 48 #[.string s, .agg #[.int .i64 a, .int .i64 n, .bool strict], .bool true] w fun e w' => e = .returned (.bool (okB s n strict true)) ∧ Below w.heap.size w w' := by
  have E1 := hide (ok_w (n := n) (a := strict) h)
  have SB := hide (fun W => sufB s false hs h W)
  have q2 : (n : Int) / 2 = (m : Int) := by omega
  have n0 : (0 : Int) ≤ (n : Int) := by omega
  have HN := hide hn
  have hT2 : ∀ o, TabU (w.alloc o) := fun o => hT.below ((Below.refl _ _).alloc (Nat.le_refl _) _)
  have hTa := hT2 (.cells #[.int .i64 a, .int .i64 n, .bool strict] 63)
  clear h hn hT2
  cases hc : charL s with
  | none =>
    have CN := hide (fun W hW => charsNo s hs hc W hW)
    have E2 := hide (wideB_none (n := n) hc)
    clear hc
    have HL : Live w [] := trivial
    go_enter Tryz.func48, Tryz.ntmps48
    go_wp2_with (first | (go_at_call 101; (with_reducible refine (SB.out _).mono ?_); rintro e w' ⟨rfl, rfl⟩) | (go_at_call 102; (with_reducible refine (CN.out _ (by assumption)).mono ?_); rintro e w' ⟨rfl, hb⟩; have hz := hb.size; (try simp only [SZ, Nat.reduceAdd] at hz); (first | obtain ⟨HL, hk⟩ := HL.callA hb hz | obtain ⟨HL, hk⟩ := HL.call0A hb hz); (try simp only [addN, Nat.add_zero] at HL hk); have hl := HL; simp only [Live] at hl; (try simp only [Kept] at hk)))
    go_ret
    exact ⟨ret_b (by rw [E1.out, E2.out]), by (exact bl)⟩
  | some cs =>
    obtain ⟨k, hk⟩ : ∃ k, cs.length = k := ⟨_, rfl⟩
    have CY := hide (fun W hW => charsYes s k cs hs hc hk W hW)
    have E2 := hide (wideB_some (n := n) hc hk)
    have k1 : k ≤ s.size := by rw [← hk]; exact (charL_text s.size s cs (Nat.le_refl _) hc).2.2
    clear hc hk
    have HL : Live w [] := trivial
    go_enter Tryz.func48, Tryz.ntmps48
    go_wp2_with (first | (go_at_call 101; (with_reducible refine (SB.out _).mono ?_); rintro e w' ⟨rfl, rfl⟩) | (go_at_call 102; (with_reducible refine (CY.out _ (by assumption)).mono ?_); rintro e w' ⟨sa, scap, rfl, hb⟩; have hz := hb.size; (try simp only [SZ, Nat.reduceAdd] at hz); (first | obtain ⟨HL, hk⟩ := HL.callA hb hz | obtain ⟨HL, hk⟩ := HL.call0A hb hz); (try simp only [addN, Nat.add_zero] at HL hk); have hl := HL; simp only [Live] at hl; (try simp only [Kept] at hk)))
    go_ret
    exact ⟨ret_b (by rw [E1.out, E2.out, HN.out]; simp <;> omega), by (exact bl)⟩
theorem allowed_any (s : ByteArray) (a : Int) (n m : Nat) (hs : s.size ≤ 65536) (wide strict : Bool) (hn : n = 2 * m) (hm : m ≤ 500) (w : World) (hT : TabU w) : Calls Tryz.prog 48 #[.string s, .agg #[.int .i64 a, .int .i64 n, .bool strict], .bool wide] w fun e w' => e = .returned (.bool (okB s n strict wide)) ∧ Below w.heap.size w w' := by
  cases h : endB s
  · cases wide
    · exact allowed_d s hs a n strict h w
    · exact allowed_w s hs a n m hn hm strict h w hT
  · exact allowed_end s hs a n wide strict h w
end Go.Proofs.YtjbhokmkmapkoaaGreatDoor
