/- Contracts and plain words for the laws of volume descriptors, part 24: V1, V0, V3, V5, I5. No condition. -/
import Derived.Test.YtjbhokmkmapkoaaGreatDoorC22
import Derived.Test.YtjbhokmkmapkoaaGreatDoorC23
import Derived.Deep.MidRow
import Derived.Test.YtjbhokmkmapkoaaGreatDoorC20
import Derived.Test.YtjbhokmkmapkoaaGreatDoorC21
namespace Go.Proofs.YtjbhokmkmapkoaaGreatDoor
set_option linter.unusedSimpArgs false
set_option linter.unusedVariables false
open Go.RowKit
open Go.PlainAid (bt get_bt bt_nonneg bt_le bt_end)
theorem results_cell2 {P : Program} {fn : Func} {p q : Tmp} {ty : TypeId} (h : fn.results = #[.cell p ty, .tmp q]) (tmps : Array Value) (w : World) (g : Nat) (t : TypeId) (cs : Array Value) (fr : Nat × Nat) (d : TypeDesc)
    (hp : tmps.getD p undef = .pointer (some ⟨g, 0, none⟩)) (hg : w.heap[g]? = some (.cells cs t fr)) (v : Value) (hq : tmps.getD q undef = v)
    (hu : P.underlying ty = some d) (hd : (match d with | .struct _ | .array _ _ => true | _ => false) = true) (hi : (P.info? ty).map (·.size) = some cs.size) :
    (results fn tmps).run P w = .ok (.tuple #[.agg cs, v]) w := by
  have hp' : tmps[p]?.getD undef = .pointer (some ⟨g, 0, none⟩) := by simpa using hp
  have hq' : tmps[q]?.getD undef = v := by simpa using hq
  simp [results, h, hp', hq', asAddr, run_loadVar_row w g t ty cs fr d hg hu hd hi]
def DecDP (s : ByteArray) (w : World) (e : Ending) (w' : World) : Prop := e = .returned (.tuple #[.agg (decD s).1.cells, .int .i64 (decD s).2]) ∧ Below w.heap.size w w'
theorem info27 (d : DR) : (Tryz.prog.info? 27).map (·.size) = some d.cells.size := by kernel_rfl
theorem dec_ret {s : ByteArray} {w W : World} {b2 : Nat} {D : DR} {k : Int} (a : Act) (hd : a.defers = []) (h2 : a.tmps.getD 2 undef = .pointer (some ⟨b2, 0, none⟩)) (h3 : a.tmps.getD 3 undef = .int .i64 k) (hB : Blk W b2 D.cells 27) (hD : decD s = (D, k)) (hbel : Below w.heap.size w W) :
    bodyPost Tryz.prog Tryz.f17 (DecDP s w) .ret a W :=
  bodyPost_ret (results_cell2 Tryz.results17 a.tmps W b2 27 D.cells (0, 0) _ h2 hB _ h3 Tryz.underlying27 rfl (info27 D)) hd ⟨by rw [hD], hbel⟩
theorem rdec_ret {s : ByteArray} {w W : World} {b2 : Nat} {D : DR} {k : Int} (a : Act) (hd : a.defers = []) (h2 : a.tmps.getD 2 undef = .pointer (some ⟨b2, 0, none⟩)) (h3 : a.tmps.getD 3 undef = .int .i64 k) (hB : Blk W b2 D.cells 27) (hD : decD s = (D, k)) (hbel : Below w.heap.size w W) :
    bodyPost Tryz.prog Tryz.f18 (DecDP s w) .ret a W :=
  bodyPost_ret (results_cell2 Tryz.results18 a.tmps W b2 27 D.cells (0, 0) _ h2 hB _ h3 Tryz.underlying27 rfl (info27 D)) hd ⟨by rw [hD], hbel⟩
section
variable (s : ByteArray) (b1 b4 p : Nat) (hs : s.size = 2048) (w : World) (hc : w.cell? ⟨b1, 0, none⟩ = some (.string s))
include hs hc
set_option maxHeartbeats 1000000 in
theorem numL4 (hp : p + 4 ≤ 2048) : Calls Tryz.prog 51 #[.int .i64 p, .int .i64 4, .func (.func 53) #[] #[], .pointer (some ⟨b1, 0, none⟩)] w fun e w' => e = .returned (.int .i64 (le4 s p)) ∧ w = w' := by
  have RL := hide (fun W => readL4 s p (by omega) (by omega) W)
  have HL : Live w [] := trivial
  go_enter Tryz.func51, Tryz.ntmps51
  go_wp2_with (go_at_call 53; refine (RL.out _).mono ?_; rintro e w' ⟨rfl, rfl⟩)
  go_ret
  exact ⟨rfl, rfl⟩
set_option maxHeartbeats 1000000 in
theorem numL2 (hp : p + 2 ≤ 2048) : Calls Tryz.prog 51 #[.int .i64 p, .int .i64 2, .func (.func 53) #[] #[], .pointer (some ⟨b1, 0, none⟩)] w fun e w' => e = .returned (.int .i64 (le2 s p)) ∧ w = w' := by
  have RL := hide (fun W => readL2 s p (by omega) (by omega) W)
  have HL : Live w [] := trivial
  go_enter Tryz.func51, Tryz.ntmps51
  go_wp2_with (go_at_call 53; refine (RL.out _).mono ?_; rintro e w' ⟨rfl, rfl⟩)
  go_ret
  exact ⟨rfl, rfl⟩
set_option maxHeartbeats 1000000 in
theorem numB4 (hp : p + 4 ≤ 2048) : Calls Tryz.prog 51 #[.int .i64 p, .int .i64 4, .func (.func 59) #[] #[], .pointer (some ⟨b1, 0, none⟩)] w fun e w' => e = .returned (.int .i64 (be4 s p)) ∧ Below w.heap.size w w' := by
  have RL := hide (fun W => readB4 s p (by omega) (by omega) W)
  have HL : Live w [] := trivial
  go_enter Tryz.func51, Tryz.ntmps51
  go_wp2_with (go_at_call 59; refine (RL.out _).mono ?_; rintro e w' ⟨rfl, hb⟩)
  go_ret
  exact ⟨rfl, by (exact bl)⟩
variable (h4 : w.cell? ⟨b4, 0, none⟩ = some (.func (.func 51) #[] #[.pointer (some ⟨b1, 0, none⟩)]))
include h4
set_option maxHeartbeats 1000000 in
theorem lit4 (hp : p + 4 ≤ 2048) : Calls Tryz.prog 52 #[.int .i64 p, .int .i64 4, .pointer (some ⟨b4, 0, none⟩)] w fun e w' => e = .returned (.int .i64 (le4 s p)) ∧ w = w' := by
  have RL := hide (fun W hW => numL4 s b1 p hs W hW hp)
  have HL : Live w [] := trivial
  go_enter Tryz.func52, Tryz.ntmps52
  go_wp2_with (go_at_call 51; refine (RL.out _ hc).mono ?_; rintro e w' ⟨rfl, rfl⟩)
  go_ret
  exact ⟨rfl, rfl⟩
set_option maxHeartbeats 1000000 in
theorem lit2 (hp : p + 2 ≤ 2048) : Calls Tryz.prog 52 #[.int .i64 p, .int .i64 2, .pointer (some ⟨b4, 0, none⟩)] w fun e w' => e = .returned (.int .i64 (le2 s p)) ∧ w = w' := by
  have RL := hide (fun W hW => numL2 s b1 p hs W hW hp)
  have HL : Live w [] := trivial
  go_enter Tryz.func52, Tryz.ntmps52
  go_wp2_with (go_at_call 51; refine (RL.out _ hc).mono ?_; rintro e w' ⟨rfl, rfl⟩)
  go_ret
  exact ⟨rfl, rfl⟩
end
/-- The state of volumedesc.Decode: the string's block, the result's, the first literal's, the descriptor's. -/
structure DS (w : World) (s : ByteArray) (b2 b4 b6 : Nat) (D : DR) (W : World) : Prop where
  bel : Below w.heap.size w W
  r1 : Blk W w.heap.size #[.string s] 9
  r2 : Blk W b2 DR.zero.cells 27
  f4 : Blk W b4 #[.func (.func 51) #[] #[.pointer (some ⟨w.heap.size, 0, none⟩)]] 76
  d6 : Blk W b6 D.cells 27
  l1 : w.heap.size < b2
  l2 : b2 < b4
  l3 : b4 < b6
section
variable {w : World} {s : ByteArray} {b2 b4 b6 : Nat} {D : DR} {W : World}
theorem DS.below (h : DS w s b2 b4 b6 D W) {W' : World} (hb : Below W.heap.size W W') : DS w s b2 b4 b6 D W' :=
  ⟨h.bel.trans (hb.mono h.bel.size), Blk.below hb h.r1, Blk.below hb h.r2, Blk.below hb h.f4, Blk.below hb h.d6, h.l1, h.l2, h.l3⟩
theorem DS.alloc (h : DS w s b2 b4 b6 D W) (o : Obj) : DS w s b2 b4 b6 D (W.alloc o) :=
  ⟨h.bel.alloc h.bel.size _, h.r1.alloc _, h.r2.alloc _, h.f4.alloc _, h.d6.alloc _, h.l1, h.l2, h.l3⟩
theorem DS.drew (h : DS w s b2 b4 b6 D W) : DS w s b2 b4 b6 D W.drew :=
  ⟨⟨h.bel.os, h.bel.tape, h.bel.output, h.bel.size, h.bel.block⟩, h.r1, h.r2, h.f4, h.d6, h.l1, h.l2, h.l3⟩
theorem DS.set (h : DS w s b2 b4 b6 D W) (D' : DR) (j : Nat) (v : Value) (e : D.cells.setIfInBounds j v = D'.cells) : DS w s b2 b4 b6 D' (W.setCell ⟨b6, j, none⟩ v) :=
  have := h.l1; have := h.l2; have := h.l3
  ⟨h.bel.setCell (p := ⟨b6, j, none⟩) (by simp only; omega) _, Blk.other (by omega) h.r1, Blk.other (by omega) h.r2, Blk.other (by omega) h.f4, Blk.put e h.d6, h.l1, h.l2, h.l3⟩
theorem DS.bl (h : DS w s b2 b4 b6 D W) : b6 < W.heap.size := h.d6.lt
theorem DS.c1 (h : DS w s b2 b4 b6 D W) : W.cell? ⟨w.heap.size, 0, none⟩ = some (.string s) := h.r1.cells 0
theorem DS.c4 (h : DS w s b2 b4 b6 D W) : W.cell? ⟨b4, 0, none⟩ = some (.func (.func 51) #[] #[.pointer (some ⟨w.heap.size, 0, none⟩)]) := h.f4.cells 0
end
end Go.Proofs.YtjbhokmkmapkoaaGreatDoor
namespace Go.Proofs.YtjbhokmkmapkoaaGreatDoor
set_option linter.unusedSimpArgs false
set_option linter.unusedVariables false
open Go.RowKit
open Go.PlainAid (bt get_bt bt_nonneg bt_le bt_end)
theorem dec_len {s : ByteArray} (h : s.size ≠ 2048) : decD s = (DR.zero, 1) := by unfold decD; rw [if_pos h]
theorem dec_std {s : ByteArray} (h : s.size = 2048) (h2 : s.extract 1 7 ≠ stdS) : decD s = (DR.zero, 10) := by unfold decD; rw [if_neg (by omega), if_pos h2]
theorem Blk.setRow {W : World} {n : Nat} {cs C : Array Value} {T : TypeId} (h : Blk W n cs T) : Blk (W.setRow n C) n C T := setRow_heap W n _ _ _ _ h
theorem below_setRow' {B g : Nat} {w0 w : World} (hb : Below B w0 w) (hBg : B ≤ g) (cs : Array Value) : Below B w0 (w.setRow g cs) :=
  hb.trans ⟨rfl, rfl, rfl, by simp [World.setRow], fun k hk => setRow_other w g k cs (by omega)⟩
theorem std_ne {x : ByteArray} (h : x ≠ stdS) : (x.toList == [67, 68, 48, 48, 49, 1]) = false := by
  cases hb : (x.toList == [67, 68, 48, 48, 49, 1])
  · rfl
  · exact absurd (bl_eq.1 ((beq_iff_eq.1 hb).trans (by decide +kernel))) h
theorem ext_pair {s : ByteArray} {p q : Nat} (hq : q = p + 2) (h : p + 2 ≤ s.size) : (s.extract p q).toList = [s[p]'(by omega), s[p + 1]'(by omega)] := by
  subst hq
  rw [Lib.extract_toList]
  have hl : s.data.toList.length = s.size := Array.length_toList
  rw [List.drop_eq_getElem_cons (by omega), List.drop_eq_getElem_cons (by omega)]
  show List.take (p + 2 - p) _ = _
  rw [show p + 2 - p = 2 by omega]
  rfl
theorem esc_two {s : ByteArray} (h : s.size = 2048) : ((s.extract 88 90).toList == [37, 47]) = decide (bt s 88 = 37 ∧ bt s 89 = 47) := by
  have e1 : ((s[88]'(by omega)).toNat : Int) = bt s 88 := get_bt s 88 (by omega)
  have e2 : ((s[88 + 1]'(by omega)).toNat : Int) = bt s 89 := get_bt s 89 (by omega)
  rw [ext_pair (p := 88) rfl (by omega), Bool.eq_iff_iff, beq_iff_eq, decide_eq_true_eq, ← e1, ← e2]
  simp only [List.cons.injEq, and_true]
  constructor
  · rintro ⟨h1, h2⟩; rw [h1, h2]; exact ⟨rfl, rfl⟩
  · rintro ⟨h1, h2⟩; exact ⟨UInt8.toNat_inj.1 (by show _ = 37; omega), UInt8.toNat_inj.1 (by show _ = 47; omega)⟩
theorem idx_esc (x : Int) (c : UInt8) (hx : x = c.toNat) : ∃ k : Int, (∀ W, Calls Tryz.prog 54 #[.string ⟨#[64, 67, 69]⟩, .int .u8 x] W fun e w' => e = .returned (.int .i64 k) ∧ W = w') ∧ (k < 0 ↔ ¬ (x = 64 ∨ x = 67 ∨ x = 69)) := by
  refine ⟨Lib.indexByte [64, 67, 69] c, fun W => by rw [hx]; exact idxA ⟨#[64, 67, 69]⟩ c W, ?_⟩
  have h := Lib.contains_iff_indexByte [64, 67, 69] c
  have h2 : ([64, 67, 69] : List UInt8).contains c = decide (x = 64 ∨ x = 67 ∨ x = 69) := by
    rw [Bool.eq_iff_iff, decide_eq_true_eq, List.contains_iff_mem]
    simp only [List.mem_cons, List.not_mem_nil, or_false, hx]
    constructor
    · rintro (h | h | h) <;> rw [h] <;> decide
    · rintro (h | h | h)
      · exact Or.inl (UInt8.toNat_inj.1 (by show _ = 64; omega))
      · exact Or.inr (Or.inl (UInt8.toNat_inj.1 (by show _ = 67; omega)))
      · exact Or.inr (Or.inr (UInt8.toNat_inj.1 (by show _ = 69; omega)))
  rw [h2] at h
  have h3 := decide_eq_decide.1 h
  omega
def unsB (s : ByteArray) : Bool := decide (2 < bt s 0 ∨ le2 s 128 ≠ 2048 ∨ bt s 881 ≠ 1 ∨ (bt s 0 = 2 ∧ escB s = false))
section
variable {s : ByteArray} (h : s.size = 2048) (h2 : s.extract 1 7 = stdS)
include h h2
theorem dec_255 (ht : bt s 0 = 255) : decD s = ({ DR.zero with typ := 255 }, 0) := by unfold decD; rw [if_neg (by omega), if_neg (by rw [h2]; simp), if_pos ht]
theorem dec_boot (ht : bt s 0 = 0) : decD s = if s.extract 7 30 ≠ torS then (DR.zero, 14) else ({ DR.zero with cat := le4 s 71 }, 0) := by unfold decD; rw [if_neg (by omega), if_neg (by rw [h2]; simp), if_neg (by omega), if_pos ht]
theorem dec_uns (h3 : bt s 0 ≠ 255) (h0 : bt s 0 ≠ 0) (hu : unsB s = true) : decD s = (DR.zero, 14) := by unfold decD; rw [if_neg (by omega), if_neg (by rw [h2]; simp), if_neg h3, if_neg h0, if_pos (of_decide_eq_true hu)]
theorem dec_sup (h3 : bt s 0 ≠ 255) (h0 : bt s 0 ≠ 0) (hu : unsB s = false) : decD s = if goodD s = true then (bodyD s, 0) else (DR.zero, 10) := by unfold decD; rw [if_neg (by omega), if_neg (by rw [h2]; simp), if_neg h3, if_neg h0, if_neg (of_decide_eq_false hu)]
end
theorem tor_ne {x : ByteArray} (h : x ≠ torS) : (x.toList == [69, 76, 32, 84, 79, 82, 73, 84, 79, 32, 83, 80, 69, 67, 73, 70, 73, 67, 65, 84, 73, 79, 78]) = false := by
  cases hb : (x.toList == [69, 76, 32, 84, 79, 82, 73, 84, 79, 32, 83, 80, 69, 67, 73, 70, 73, 67, 65, 84, 73, 79, 78])
  · rfl
  · exact absurd (bl_eq.1 ((beq_iff_eq.1 hb).trans (by decide +kernel))) h
end Go.Proofs.YtjbhokmkmapkoaaGreatDoor
namespace Go.Proofs.YtjbhokmkmapkoaaGreatDoor
set_option linter.unusedSimpArgs false
set_option linter.unusedVariables false
open Go.RowKit
open Go.PlainAid (bt get_bt bt_nonneg bt_le bt_end)
/-- The type is 2. -/
def w2B (s : ByteArray) : Bool := decide (bt s 0 = 2)
def fRaw (s : ByteArray) (k : Nat) : ByteArray := s.extract (fAt k) (fAt k + fSz k)
def fTxS (s : ByteArray) (k : Nat) : ByteArray := txtS (w2B s) (fRaw s k)
def fOkS (s : ByteArray) : Nat → Bool
  | 0 => true
  | k + 1 => fOkS s k && txtB (w2B s) (fRaw s k)
/-- The descriptor behind k fields. -/
def dK (s : ByteArray) (k : Nat) : DR := { DR.zero with typ := bt s 0, name := if 0 < k then fTxS s 0 else ⟨#[]⟩, set := if 1 < k then fTxS s 1 else ⟨#[]⟩, pub := if 2 < k then fTxS s 2 else ⟨#[]⟩, prep := if 3 < k then fTxS s 3 else ⟨#[]⟩, app := if 4 < k then fTxS s 4 else ⟨#[]⟩ }
theorem right_fok (s : ByteArray) : rightD s = fOkS s 5 := by
  unfold rightD
  simp only [fOkS, fRaw, fAt, fSz, w2B, Bool.true_and]
theorem fRaw_size {s : ByteArray} (h : s.size = 2048) {k : Nat} (hk : k < 5) : (fRaw s k).size ≤ 128 := by
  unfold fRaw
  rw [ByteArray.size_extract]
  have : fSz k ≤ 128 := by rcases five hk with rfl | rfl | rfl | rfl | rfl <;> decide
  omega
theorem fAt_le {k : Nat} (hk : k < 5) : fAt k + fSz k ≤ 702 := by rcases five hk with rfl | rfl | rfl | rfl | rfl <;> decide
theorem txtB_t {s x : ByteArray} (h : w2B s = false) : txtB (w2B s) x = true := by rw [h]; rfl
def dT (D : DR) (t : ByteArray) : Nat → DR
  | 0 => { D with name := t }
  | 1 => { D with set := t }
  | 2 => { D with pub := t }
  | 3 => { D with prep := t }
  | _ => { D with app := t }
theorem dT_set (D : DR) (t : ByteArray) (k : Nat) (h : k < 5) : D.cells.setIfInBounds (2 + k) (.string t) = (dT D t k).cells := by
  rcases five h with rfl | rfl | rfl | rfl | rfl <;> rfl
theorem dT_twice (D : DR) (t u : ByteArray) (k : Nat) (h : k < 5) : dT (dT D t k) u k = dT D u k := by
  rcases five h with rfl | rfl | rfl | rfl | rfl <;> rfl
theorem dK_next (s : ByteArray) (k : Nat) (h : k < 5) : dT (dK s k) (fTxS s k) k = dK s (k + 1) := by
  rcases five h with rfl | rfl | rfl | rfl | rfl <;> rfl
theorem fTxS_n {s : ByteArray} (h : w2B s = false) (k : Nat) : fTxS s k = trimS (fRaw s k) := by unfold fTxS; rw [h]; rfl
theorem fTxS_w {s : ByteArray} (h : w2B s = true) (k : Nat) : fTxS s k = ⟨(wtrimS (fRaw s k)).1.toArray⟩ := by unfold fTxS; rw [h]; rfl
theorem fOk_n {s : ByteArray} (h : w2B s = false) (k : Nat) : fOkS s (k + 1) = fOkS s k := by
  show (fOkS s k && txtB (w2B s) (fRaw s k)) = _
  rw [txtB_t h, Bool.and_true]
theorem fOk_w {s : ByteArray} (h : w2B s = true) (k : Nat) : fOkS s (k + 1) = (fOkS s k && decide ((wtrimS (fRaw s k)).2 = 0)) := by
  show (fOkS s k && txtB (w2B s) (fRaw s k)) = _
  rw [h]
  unfold txtB
  rw [Bool.not_true, Bool.false_or]
theorem triple_of (x : Rec × Int × Int) : ∃ r n e, x = (r, n, e) := ⟨x.1, x.2.1, x.2.2, rfl⟩
theorem pair_of (x : List UInt8 × Int) : ∃ l ec, x = (l, ec) := ⟨x.1, x.2, rfl⟩
end Go.Proofs.YtjbhokmkmapkoaaGreatDoor
namespace Go.Proofs.YtjbhokmkmapkoaaGreatDoor
set_option linter.unusedSimpArgs false
set_option linter.unusedVariables false
open Go.RowKit
open Go.PlainAid (bt get_bt bt_nonneg bt_le bt_end)
theorem unucs_len : ∀ (k : Nat) (s : ByteArray) (p : Nat) (out : List UInt8), (unucs k s p out).1.length ≤ out.length + 3 * k
  | 0, _, _, out => by show out.length ≤ _; omega
  | k + 1, s, p, out => by
    unfold unucs
    split
    · show out.length ≤ _; omega
    · split
      · have h := unucs_len k s (p + 2) (out ++ encL (bt s p * 256 + bt s (p + 1)))
        have := encL_len (bt s p * 256 + bt s (p + 1))
        rw [List.length_append] at h
        omega
      · show 0 ≤ _; omega
theorem fromU_len (s : ByteArray) : (fromU s).1.length ≤ 3 * s.size := by
  unfold fromU
  split
  · show 0 ≤ _; omega
  · have := unucs_len s.size s 0 []
    simp only [List.length_nil] at this
    omega
theorem txtS_len (wd : Bool) (s : ByteArray) : (txtS wd s).size ≤ 3 * s.size := by
  unfold txtS
  split
  · have h := fromU_len (s.extract 0 (wtrimK s (wtrim0 s)))
    have e : (s.extract 0 (wtrimK s (wtrim0 s))).size ≤ s.size := by rw [ByteArray.size_extract]; omega
    show (wtrimS s).1.toArray.size ≤ _
    rw [List.size_toArray]
    unfold wtrimS
    omega
  · unfold trimS
    rw [ByteArray.size_extract]
    omega
theorem decR_short (s : ByteArray) : (decR s).1.id.size ≤ s.size ∧ (decR s).1.use.size ≤ s.size := by
  have z : Rec.zero.id.size ≤ s.size ∧ Rec.zero.use.size ≤ s.size := ⟨Nat.zero_le _, Nat.zero_le _⟩
  have e (a b : Nat) : (s.extract a b).size ≤ s.size := by rw [ByteArray.size_extract]; omega
  unfold decR
  split
  · exact z
  · split
    · exact z
    · split
      · exact z
      · split
        · exact z
        · exact ⟨e _ _, e _ _⟩
theorem body_short (s : ByteArray) : ShortD (bodyD s) := by
  have e (a b : Nat) (h : b - a ≤ 128) : (s.extract a b).size ≤ 128 := by rw [ByteArray.size_extract]; omega
  have t (wd : Bool) (a b : Nat) (h : b - a ≤ 128) : (txtS wd (s.extract a b)).size ≤ 1000 := by
    have := txtS_len wd (s.extract a b)
    have := e a b h
    omega
  have r := decR_short (s.extract 156 190)
  have e2 := e 156 190 (by omega)
  have h : (bodyD s).root = (decR (s.extract 156 190)).1 := by simp only [bodyD]
  refine ⟨fun k hk => ?_, ?_, ?_⟩
  · rcases five hk with rfl | rfl | rfl | rfl | rfl
    all_goals exact t _ _ _ (by omega)
  · rw [h]; exact Nat.le_trans r.1 (Nat.le_trans e2 (by omega))
  · rw [h]; exact Nat.le_trans r.2 (Nat.le_trans e2 (by omega))
theorem trip3 (x : Int × Int × Int) : ∃ t z f, x = (t, z, f) := ⟨x.1, x.2.1, x.2.2, rfl⟩
/-- Region k comes first. -/
def firstIs (k : Nat) : Code → Bool
  | .region i _ _ => i == k
  | .seq a _ => firstIs k a
  | _ => false
/-- The code of a sequence from region k on. -/
def tailAt (k : Nat) : Code → Option Code
  | .seq a b => if firstIs k a then some (.seq a b) else tailAt k b
  | _ => none
/-- Values put into a row from a place on. -/
def putAll : List Value → Nat → Array Value → Array Value
  | [], _, cs => cs
  | v :: r, o, cs => putAll r (o + 1) (cs.setIfInBounds o v)
theorem Blk.putAll {n : Nat} {T : TypeId} : ∀ (vs : List Value) (o : Nat) (cs : Array Value) (w : World), Blk w n cs T → Blk (w.setCells n o vs) n (putAll vs o cs) T
  | [], _, _, _, h => h
  | _ :: r, o, _, w, h => Blk.putAll r (o + 1) _ _ (Blk.put rfl h)
theorem Blk.others {n m : Nat} {T : TypeId} (hne : n ≠ m) {cs : Array Value} : ∀ (vs : List Value) (o : Nat) (w : World), Blk w n cs T → Blk (w.setCells m o vs) n cs T
  | [], _, _, h => h
  | _ :: r, o, w, h => Blk.others hne r (o + 1) _ (Blk.other hne h)
theorem Below.puts {B n : Nat} {w0 : World} (hB : B ≤ n) : ∀ (vs : List Value) (o : Nat) (w : World), Below B w0 w → Below B w0 (w.setCells n o vs)
  | [], _, _, h => h
  | v :: r, o, w, h => Below.puts hB r (o + 1) _ (h.setCell (p := ⟨n, o, none⟩) hB v)
theorem Blk.there {w : World} {n o k : Nat} {cs : Array Value} {T : TypeId} (h : Blk w n cs T) (hk : o + k ≤ cs.size) : w.there n o k := fun j hj => by
  refine ⟨?_, h.free _⟩
  rw [h.cells, Array.getElem?_eq_getElem (by omega)]
  rfl
theorem DS.mid {w : World} {s : ByteArray} {b2 b4 b6 : Nat} {D : DR} {W : World} (h : DS w s b2 b4 b6 D W) (D' : DR) (o : Nat) (vs : List Value) (e : putAll vs o D.cells = D'.cells) : DS w s b2 b4 b6 D' (W.setCells b6 o vs) :=
  have := h.l1; have := h.l2; have := h.l3
  ⟨Below.puts (by omega) vs o W h.bel, Blk.others (by omega) vs o W h.r1, Blk.others (by omega) vs o W h.r2, Blk.others (by omega) vs o W h.f4, e ▸ Blk.putAll vs o _ W h.d6, h.l1, h.l2, h.l3⟩
def sRt (D : DR) (r : Rec) : DR := { D with root := r }
def sTm (D : DR) (x : Int) : DR := { D with time := x }
def sZn (D : DR) (x : Int) : DR := { D with zone := x }
def sSp (D : DR) (x : Int) : DR := { D with space := x }
def sDi (D : DR) (x : Int) : DR := { D with discs := x }
def sNu (D : DR) (x : Int) : DR := { D with number := x }
def sPs (D : DR) (x : Int) : DR := { D with psize := x }
def sPl (D : DR) (x : Int) : DR := { D with pl := x }
def sPm (D : DR) (x : Int) : DR := { D with pm := x }
theorem pRt (D : DR) (r : Rec) : putAll r.cells.toList 15 D.cells = (sRt D r).cells := by kernel_rfl
theorem pTm (D : DR) (x : Int) : D.cells.setIfInBounds 9 (.int .i64 x) = (sTm D x).cells := rfl
theorem pZn (D : DR) (x : Int) : D.cells.setIfInBounds 10 (.int .i64 x) = (sZn D x).cells := rfl
theorem pSp (D : DR) (x : Int) : D.cells.setIfInBounds 11 (.int .i64 x) = (sSp D x).cells := rfl
theorem pDi (D : DR) (x : Int) : D.cells.setIfInBounds 8 (.int .i64 x) = (sDi D x).cells := rfl
theorem pNu (D : DR) (x : Int) : D.cells.setIfInBounds 7 (.int .i64 x) = (sNu D x).cells := rfl
theorem pPs (D : DR) (x : Int) : D.cells.setIfInBounds 12 (.int .i64 x) = (sPs D x).cells := rfl
theorem pPl (D : DR) (x : Int) : D.cells.setIfInBounds 13 (.int .i64 x) = (sPl D x).cells := rfl
theorem pPm (D : DR) (x : Int) : D.cells.setIfInBounds 14 (.int .i64 x) = (sPm D x).cells := rfl
theorem body_all {s : ByteArray} {r : Rec} {n e t z f : Int} (hr : decR (s.extract 156 190) = (r, n, e)) (ht : rdT (s.extract 813 830) = (t, z, f)) : sPm (sPl (sPs (sNu (sDi (sSp (sZn (sTm (sRt (dK s 5) r) t) z) (le4 s 80)) (le2 s 120)) (le2 s 124)) (le4 s 132)) (le4 s 140)) (be4 s 148) = bodyD s := by
  unfold bodyD
  rw [hr, ht]
  simp [sRt, sTm, sZn, sSp, sDi, sNu, sPs, sPl, sPm, dK, fTxS, fRaw, w2B, fAt, fSz, DR.zero]
theorem DR.cell_i (D : DR) : D.cells[7]? = some (.int .i64 D.number) ∧ D.cells[8]? = some (.int .i64 D.discs) ∧ D.cells[9]? = some (.int .i64 D.time) ∧ D.cells[10]? = some (.int .i64 D.zone) ∧ D.cells[11]? = some (.int .i64 D.space) ∧ D.cells[12]? = some (.int .i64 D.psize) ∧ D.cells[13]? = some (.int .i64 D.pl) ∧ D.cells[14]? = some (.int .i64 D.pm) := ⟨rfl, rfl, rfl, rfl, rfl, rfl, rfl, rfl⟩
theorem DS.cell {w : World} {s : ByteArray} {b2 b4 b6 : Nat} {D : DR} {W : World} (h : DS w s b2 b4 b6 D W) (j : Nat) {v : Value} (e : D.cells[j]? = some v) : W.cell? ⟨b6, j, none⟩ = some v := (h.d6.cells j).trans e
theorem size27 (D E : DR) : D.cells.size = E.cells.size := rfl
theorem siz27 (D : DR) : 23 = D.cells.size := rfl
theorem one27 (D : DR) : D.cells.all (·.oneCell') = true := by kernel_rfl
theorem wpList_load_rowG {P : Program} {ops : Array Oper} {rest : List Oper} {o : Oper} {a : Act} {w : World} {Q : Exit → Act → World → Prop} (ty : TypeId) (x : Operand) (ho : o.op = .load ty x) (hw : Region.wanted o (yielded ops a.tmps) = true)
    (g : Nat) (hx : a.eval x = .pointer (some ⟨g, 0, none⟩)) (t : TypeId) (cs : Array Value) (fr : Nat × Nat) (d : TypeDesc) (hg : w.heap[g]? = some (.cells cs t fr))
    (hu : P.underlying ty = some d) (hd : (match d with | .struct _ | .array _ _ => true | _ => false) = true) (hi : (P.info? ty).map (·.size) = some cs.size)
    (h : wpList P ops Q rest (a.put o.dst (.agg cs)) w) : wpList P ops Q (o :: rest) a w :=
  wpList_step fun K hK => by
    rw [if_pos hw]
    exact wp_load_row ty x ho g hx t cs fr d hg hu hd hi (hK _ _ h)
/-- Something is wrong, by the five tests. -/
theorem good_of {s : ByteArray} {r : Rec} {n e t z f : Int} (hr : decR (s.extract 156 190) = (r, n, e)) (ht : rdT (s.extract 813 830) = (t, z, f)) : goodD s = (fOkS s 5 && decide (e = 0) && decide (n = 34) && decide (f = 0) && decide (chkD (bodyD s) = 0)) := by
  unfold goodD
  rw [hr, ht, right_fok, Bool.eq_iff_iff]
  simp only [Bool.and_eq_true, decide_eq_true_eq, and_assoc]
end Go.Proofs.YtjbhokmkmapkoaaGreatDoor
namespace Go.Proofs.YtjbhokmkmapkoaaGreatDoor
set_option linter.unusedSimpArgs false
set_option linter.unusedVariables false
open Go.RowKit
open Go.PlainAid (bt get_bt bt_nonneg bt_le bt_end)
theorem rfits20 (n m : Int) (b : Bool) (hb : b = decide (0 ≤ n ∧ n ≤ m)) (w : World) : Calls Tryz.prog 91 #[.int .i64 n, .int .i64 m] w fun e w' => e = .returned (.bool b) ∧ w = w' := by
  have HB := hide hb
  clear hb
  have HL : Live w [] := trivial
  go_enter Tryz.func91, Tryz.ntmps91
  go_wp2
  all_goals
    go_ret
    exact ⟨ret_b (by rw [HB.out, Bool.eq_iff_iff]; simp <;> omega), rfl⟩
theorem rf_word (n : Int) (w : World) : Calls Tryz.prog 91 #[.int .i64 n, .int .i64 4294967295] w fun e w' => e = .returned (.bool (wordB n)) ∧ w = w' := rfits20 n 4294967295 _ rfl w
theorem rf_byte (n : Int) (w : World) : Calls Tryz.prog 91 #[.int .i64 n, .int .i64 255] w fun e w' => e = .returned (.bool (byteB n)) ∧ w = w' := rfits20 n 255 _ rfl w
theorem rf_half (n : Int) (w : World) : Calls Tryz.prog 91 #[.int .i64 n, .int .i64 65535] w fun e w' => e = .returned (.bool (halfB n)) ∧ w = w' := rfits20 n 65535 _ rfl w
set_option maxHeartbeats 400000 in
theorem rb20_4 (n : Int) (h : 0 ≤ n ∧ n ≤ 4294967295) (w : World) : Calls Tryz.prog 92 #[.int .i64 n, .int .i64 4] w fun e w' => e = .returned (.string ⟨(both4 n).toArray⟩) ∧ Below w.heap.size w w' := by
  have HL : Live w [] := trivial
  go_enter Tryz.func92, Tryz.ntmps92
  go_wp2_with (first | (go_at_call 100; (with_reducible refine (rboth4 _ (by omega) _).mono ?_); rintro e w' ⟨rfl, hb⟩; have hz := hb.size; (try simp only [SZ, Nat.reduceAdd] at hz); (first | obtain ⟨HL, hk⟩ := HL.callA hb hz | obtain ⟨HL, hk⟩ := HL.call0A hb hz); (try simp only [addN, Nat.add_zero] at HL hk); have hl := HL; simp only [Live] at hl; (try simp only [Kept] at hk)))
  go_ret
  exact ⟨rfl, by (exact bl)⟩
set_option maxHeartbeats 400000 in
theorem rb20_2 (n : Int) (h : 0 ≤ n ∧ n ≤ 65535) (w : World) : Calls Tryz.prog 92 #[.int .i64 n, .int .i64 2] w fun e w' => e = .returned (.string ⟨(both2 n).toArray⟩) ∧ Below w.heap.size w w' := by
  have HL : Live w [] := trivial
  go_enter Tryz.func92, Tryz.ntmps92
  go_wp2_with (first | (go_at_call 100; (with_reducible refine (rboth2 _ (by omega) _).mono ?_); rintro e w' ⟨rfl, hb⟩; have hz := hb.size; (try simp only [SZ, Nat.reduceAdd] at hz); (first | obtain ⟨HL, hk⟩ := HL.callA hb hz | obtain ⟨HL, hk⟩ := HL.call0A hb hz); (try simp only [addN, Nat.add_zero] at HL hk); have hl := HL; simp only [Live] at hl; (try simp only [Kept] at hk)))
  go_ret
  exact ⟨rfl, by (exact bl)⟩
/-- The bytes, summed as the reference does. -/
theorem renc_bytes {r : Rec} {d : ByteArray} {k : Int} (hi : r.id = selfS) (hu : r.use = ⟨#[]⟩) (ht : TimD r d k) (h : recE r = 0) :
    (⟨#[34, 0]⟩ : ByteArray) ++ ⟨(both4 r.lba).toArray⟩ ++ ⟨(both4 r.len).toArray⟩ ++ d ++ ⟨#[UInt8.ofNat r.flags.toNat, 0, 0]⟩ ++ ⟨(both2 r.seq).toArray⟩ ++ ⟨#[1]⟩ ++ ⟨#[0]⟩ ++ ⟨#[]⟩ = ⟨(encR r).toArray⟩ := by
  obtain ⟨⟨htm, hz⟩, h1, h2, h3, h4⟩ := recE_zero h
  have hsz : recSz r.id.size r.use.size = 34 := by rw [hi, hu]; rfl
  have hi1 : r.id.size = 1 := by rw [hi]; rfl
  have hd : d = recT2 r.time r.zone := by
    rcases ht.2 with ⟨_, _, e⟩ | ⟨e, _⟩
    · exact e
    · rw [htm, hz] at e; cases e
  have hp : padL r = [] := by unfold padL; rw [hi1]; rfl
  apply ByteArray.ext
  apply Array.toList_inj.1
  simp only [ByteArray.data_append, Array.toList_append, encR, segsR, hsz, hi1, hp, hd, List.flatten_cons, List.flatten_nil, List.append_nil, List.append_assoc]
  rw [hi, hu]
  rfl
end Go.Proofs.YtjbhokmkmapkoaaGreatDoor
