/- The map of pointers in rockridge.Read: plain words, and one round of the range over it. -/
import Derived.Test.YtopajpomhflgbaaGreatDoorCM10
import Derived.Sort.KeysCollected
namespace Go.Proofs.YtopajpomhflgbaaGreatDoor
set_option linter.unusedSimpArgs false
set_option linter.unusedVariables false
open Go.RowKit

def kCL : Lit := .string [67, 76]
def kPL : Lit := .string [80, 76]
def dP (rb o : Nat) : DataW Unit := .agg [.lit (.int .i64 rb), .lit (.int .i64 o)]
def D2 (rb : Nat) : DataW Unit := .map [(kCL, dP rb 11), (kPL, dP rb 12)]
theorem d2_put (rb : Nat) : ((DataW.map [] : DataW Unit).put kCL (dP rb 11)).put kPL (dP rb 12) = D2 rb := rfl
theorem Rptr_at {v : Value} {y : DataW Unit × List MemPlace} {rb o : Nat} (h : Rptr v = some y) (e : dP rb o = y.1) : v = .pointer (some ⟨rb, o, none⟩) := by
  unfold Rptr at h
  split at h
  · rename_i b p
    injection h with h
    rw [← h] at e
    unfold dP at e
    simp at e
    obtain ⟨h1, h2⟩ := e
    obtain rfl : rb = b := by omega
    obtain rfl : o = p := by omega
    rfl
  · cases h
theorem d2_has {rb : Nat} {kl : Lit} (h : Maps.has (D2 rb) kl = true) : kl = kCL ∨ kl = kPL := by
  unfold D2 Maps.has at h
  simp only [List.any_cons, List.any_nil, Bool.or_false, Bool.or_eq_true] at h
  rcases h with h | h
  · left
    cases kl <;> simp [kCL, Lit.sameKey] at h ⊢
    exact h.symm
  · right
    cases kl <;> simp [kPL, Lit.sameKey] at h ⊢
    exact h.symm
theorem d2_cl {rb : Nat} (z : DataW Unit) : (D2 rb).atKey kCL z = dP rb 11 := rfl
theorem d2_pl {rb : Nat} (z : DataW Unit) : (D2 rb).atKey kPL z = dP rb 12 := rfl
theorem key_is {P : Program} {k : TypeId} (hk : P.underlying k = some .string) {key : Value} {a b : UInt8} (h : keyOf P k key = some (.string [a, b])) : key = .string ⟨#[a, b]⟩ := by
  obtain ⟨x, rfl, e, _⟩ := Maps.keyOf_str hk h
  injection e with e
  subst e
  rfl
theorem grown_below {w w' : World} (h : Below w.heap.size w w') : w.grownBy w' none := ⟨h.os, h.tape, h.output, h.size, fun k hk _ => h.block k hk⟩
theorem below_grown {w w' : World} {b : Nat} (h : w.grownBy w' (some b)) (B : Nat) (hb : B ≤ b) (hB : B ≤ w.heap.size) : Below B w w' := ⟨h.os, h.tape, h.output, h.size, fun k hk => h.block k (by omega) (by intro e; injection e with e; omega)⟩
theorem below_grown0 {w w' : World} (h : w.grownBy w' none) : Below w.heap.size w w' := ⟨h.os, h.tape, h.output, h.size, fun k hk => h.block k hk (by intro e; cases e)⟩
theorem grown_set (w : World) (b j : Nat) (v : Value) : w.grownBy (w.setCell ⟨b, j, none⟩ v) (some b) := ⟨rfl, rfl, rfl, by simp, fun k _ hk => Below.heap_setCell w _ v k (by intro e; exact hk (by rw [e]))⟩
/-- One step of the range: nothing is left, or one of the two comes. -/
theorem next_d2 {P : Program} {k : TypeId} (hk : P.underlying k = some .string) {w : World} {b r n rb cnt : Nat} {left : Lit → Bool} (h : w.ranges P k Rptr b r n (D2 rb) left cnt) (hl : ∀ kl, left kl = true → Maps.has (D2 rb) kl = true) (ty : TypeId) :
    ((∀ kl, left kl = false) ∧ (Instr.next (.pointer (some ⟨r, 0, none⟩)) false ty).run P w = .ok (.tuple #[.bool false]) w) ∨
    ∃ w' cnt' kl, ((kl = kCL ∧ (Instr.next (.pointer (some ⟨r, 0, none⟩)) false ty).run P w = .ok (.tuple #[.bool true, .string ⟨#[67, 76]⟩, .pointer (some ⟨rb, 11, none⟩)]) w' ∧ (Instr.entry (.pointer (some ⟨r, 0, none⟩))).run P w' = .ok (.tuple #[.string ⟨#[67, 76]⟩, .pointer (some ⟨rb, 11, none⟩)]) w') ∨
        (kl = kPL ∧ (Instr.next (.pointer (some ⟨r, 0, none⟩)) false ty).run P w = .ok (.tuple #[.bool true, .string ⟨#[80, 76]⟩, .pointer (some ⟨rb, 12, none⟩)]) w' ∧ (Instr.entry (.pointer (some ⟨r, 0, none⟩))).run P w' = .ok (.tuple #[.string ⟨#[80, 76]⟩, .pointer (some ⟨rb, 12, none⟩)]) w')) ∧
      left kl = true ∧ w'.ranges P k Rptr b r n (D2 rb) (fun x => left x && !x.sameKey kl) cnt' ∧ w.grownBy w' (some r) ∧ w'.heap.size = w.heap.size ∧ cnt' < cnt := by
  rcases h.next (Maps.string_keyed hk) ty with ⟨h0, hl0, hrun⟩ | ⟨key, v, kl, y, w', cnt', hkey, hlk, hv, hat, hrun, hrg, hlt, hgr, hsz, hen⟩
  · exact Or.inl ⟨hl0, hrun⟩
  · right
    refine ⟨w', cnt', kl, ?_, hlk, hrg, hgr, hsz, hlt⟩
    rcases d2_has (hl kl hlk) with rfl | rfl
    · left
      obtain rfl := key_is hk hkey
      obtain rfl := Rptr_at hv ((d2_cl (.lit (.bool true))).symm.trans (hat _))
      exact ⟨rfl, hrun, hen⟩
    · right
      obtain rfl := key_is hk hkey
      obtain rfl := Rptr_at hv ((d2_pl (.lit (.bool true))).symm.trans (hat _))
      exact ⟨rfl, hrun, hen⟩
theorem RW.grown {w : World} {rb b : Nat} {c : Array Value} {W W1 : World} (h : RW w rb c W) (hg : W.grownBy W1 (some b)) (hz : w.heap.size < b) (hr : rb < b) : RW w rb c W1 :=
  ⟨(hg.block _ h.1.lt (by intro e; injection e with e; omega)).trans h.1, (hg.block _ h.2.1.lt (by intro e; injection e with e; omega)).trans h.2.1, h.2.2.trans (below_grown hg _ (by omega) h.2.2.size)⟩
theorem RW.grown0 {w : World} {rb : Nat} {c : Array Value} {W W1 : World} (h : RW w rb c W) (hg : W.grownBy W1 none) : RW w rb c W1 := h.below (below_grown0 hg)
def cs2 (r : RR) (bC bP : Bool) : Array Value := RR.cells { r with child := if bC then r.child else 0, parent := if bP then r.parent else 0, reloc := false }
theorem cs2_0 (r : RR) : cs2 r false false = rcD r := rfl
theorem cs2_c (r : RR) (bP : Bool) : (cs2 r false bP).setIfInBounds 11 (.int .i64 r.child) = cs2 r true bP := rfl
theorem cs2_p (r : RR) (bC : Bool) : (cs2 r bC false).setIfInBounds 12 (.int .i64 r.parent) = cs2 r bC true := rfl
theorem cs2_e (r : RR) : (cs2 r true true).setIfInBounds 13 (.bool r.reloc) = r.cells := rfl
/-- Where the range over the two pointers stands. -/
def MRel (w : World) (rb b r0 : Nat) (r : RR) (wr : World) : Prop :=
  ∃ (left : Lit → Bool) (cnt : Nat) (bC bP : Bool), (∀ kl, left kl = true → Maps.has (D2 rb) kl = true) ∧ left kCL = !bC ∧ left kPL = !bP ∧ RW w rb (cs2 r bC bP) wr ∧ wr.ranges Tryz.prog 9 Rptr b r0 2 (D2 rb) left cnt
end Go.Proofs.YtopajpomhflgbaaGreatDoor
/- The entries of a node say it: plain, no walk. -/
namespace Go.Proofs.YtopajpomhflgbaaGreatDoor
set_option linter.unusedSimpArgs false
set_option linter.unusedVariables false
open Go.RowKit
open Go.PlainAid (bt get_bt bt_nonneg bt_le)

theorem first_app (A B : List En) (sig : ByteArray) : firstB (A ++ B) sig = (firstB A sig).or (firstB B sig) := by
  unfold firstB
  rw [List.find?_append]
  cases A.find? (fun e => decide (e.sig = sig)) <;> simp
theorem first_off {A : List En} {sig : ByteArray} (h : ∀ e ∈ A, e.sig ≠ sig) : firstB A sig = none := by
  unfold firstB
  rw [List.find?_eq_none.2 (fun x hx => by simpa using h x hx)]
  rfl
theorem first_on (e : En) : firstB [e] e.sig = some e.data := by
  unfold firstB
  simp
theorem join_off {A B : List En} {sig : ByteArray} {nm : Bool} (h : ∀ e ∈ A, e.sig ≠ sig) (d : List UInt8) (s on : Bool) : joinF sig nm (A ++ B) d s on = joinF sig nm B d s on := by
  induction A with
  | nil => rfl
  | cons a r ih =>
    rw [List.cons_append, joinF, if_pos (h a (by simp))]
    exact ih (fun e he => h e (by simp [he]))
theorem join_off0 {A : List En} {sig : ByteArray} {nm : Bool} (h : ∀ e ∈ A, e.sig ≠ sig) (d : List UInt8) (s on : Bool) : joinF sig nm A d s on = (d, s, !on) := by
  have := join_off (B := []) (nm := nm) h d s on
  rw [List.append_nil] at this
  rw [this]; rfl
theorem en1_sig (r : RR) : ∀ e ∈ en1 r, e.sig = sPX := by unfold en1; split <;> simp
theorem en2_sig (r : RR) : ∀ e ∈ en2 r, e.sig = sNM := by unfold en2; split <;> simp
theorem en3_sig (r : RR) : ∀ e ∈ en3 r, e.sig = sSL := by unfold en3; split <;> simp
theorem en4_sig (r : RR) : ∀ e ∈ en4 r, e.sig = sTF := by unfold en4; split <;> simp
theorem en5_sig (r : RR) : ∀ e ∈ en5 r, e.sig = sCL := by unfold en5; split <;> simp
theorem en6_sig (r : RR) : ∀ e ∈ en6 r, e.sig = sPL := by unfold en6; split <;> simp
theorem en7_sig (r : RR) : ∀ e ∈ en7 r, e.sig = sRE := by unfold en7; split <;> simp
theorem cat2_size (a : List UInt8) (b : ByteArray) : (cat2 a b).size = a.length + b.size := by
  show (a ++ b.data.toList).toArray.size = _
  rw [List.size_toArray, List.length_append, Array.length_toList]
  rfl
theorem cat2_bt (x : UInt8) (b : ByteArray) : bt (cat2 [x] b) 0 = x.toNat := bt_mid [] _ x 0 rfl
theorem cat2_tl (x : UInt8) (b : ByteArray) : tlB (cat2 [x] b) = b.data.toList := by
  unfold tlB
  rw [← ByteArray.toList_eq, Lib.extract_toList, cat2_size]
  show List.take _ b.data.toList = _
  rw [List.take_of_length_le]
  rw [Array.length_toList]
  show b.size ≤ _
  simp
theorem join_hit {e : En} {B : List En} {sig : ByteArray} {nm : Bool} {b : ByteArray} (hs : e.sig = sig) (hd : e.data = cat2 [0] b) (d : List UInt8) (s on : Bool) : joinF sig nm (e :: B) d s on = (d ++ b.data.toList, true, true) := by
  rw [joinF, if_neg (by simpa using hs), if_neg (by rw [hd, cat2_size]; simp), if_neg (by rw [hd, cat2_bt]; simp), if_neg (by rw [hd, cat2_bt]; decide), hd, cat2_tl]
theorem ents_len (r : RR) : (ents r).length ≤ 7 := by
  have := en_lens r
  unfold ents
  simp only [List.length_append]
  omega
theorem ents_size (r : RR) (h : chk r = 0) : ∀ e ∈ ents r, e.data.size ≤ 1000000 := by
  obtain ⟨z1, z2, z3, z4, z5, z6, z7, z8, z9⟩ := chk_zero h
  obtain ⟨y1, y2, y3, y4⟩ := chk_more h
  intro e he
  unfold ents at he
  simp only [List.mem_append] at he
  rcases he with (((((he | he) | he) | he) | he) | he) | he
  · unfold en1 at he; split at he
    · simp at he; rw [he]; show (pxS r).size ≤ _; rw [pxS_size]; omega
    · simp at he
  · unfold en2 at he; split at he
    · rename_i hn
      simp at he; rw [he]; show (cat2 [0] r.name).size ≤ _; rw [cat2_size]; have := name_size (y4 hn); simp; omega
    · simp at he
  · unfold en3 at he; split at he
    · simp at he
    · rename_i hn
      simp at he; rw [he]; show (cat2 [0] (compsB r.target)).size ≤ _; rw [cat2_size]; have := comps_size2 (z2 (by simpa using hn)); simp; omega
  · unfold en4 at he; split at he
    · rename_i hn
      simp at he; rw [he]; show (cat2 [2] (Dt.recT r.time)).size ≤ _; rw [cat2_size, Dt.recT_size _ (z9 hn)]; simp
    · simp at he
  · unfold en5 at he; split at he
    · simp at he
    · simp at he; rw [he]; show 8 ≤ _; omega
  · unfold en6 at he; split at he
    · simp at he
    · simp at he; rw [he]; show 8 ≤ _; omega
  · unfold en7 at he; split at he
    · simp at he; rw [he]; show 0 ≤ _; omega
    · simp at he
theorem le4_bothS (n : Int) (h : 0 ≤ n ∧ n ≤ 4294967295) : le4 (bothS n) 0 = n := by
  have := le4_both [] [] n h
  simpa using this
theorem first_en1 (r : RR) : firstB (ents r) sPX = firstB (en1 r) sPX := by
  unfold ents
  simp only [first_app, first_off (A := en2 r) (sig := sPX) (fun e he => by rw [en2_sig r e he]; decide), first_off (A := en3 r) (sig := sPX) (fun e he => by rw [en3_sig r e he]; decide), first_off (A := en4 r) (sig := sPX) (fun e he => by rw [en4_sig r e he]; decide), first_off (A := en5 r) (sig := sPX) (fun e he => by rw [en5_sig r e he]; decide), first_off (A := en6 r) (sig := sPX) (fun e he => by rw [en6_sig r e he]; decide), first_off (A := en7 r) (sig := sPX) (fun e he => by rw [en7_sig r e he]; decide), Option.or_none, Option.none_or]
theorem first_en2 (r : RR) : firstB (ents r) sNM = firstB (en2 r) sNM := by
  unfold ents
  simp only [first_app, first_off (A := en1 r) (sig := sNM) (fun e he => by rw [en1_sig r e he]; decide), first_off (A := en3 r) (sig := sNM) (fun e he => by rw [en3_sig r e he]; decide), first_off (A := en4 r) (sig := sNM) (fun e he => by rw [en4_sig r e he]; decide), first_off (A := en5 r) (sig := sNM) (fun e he => by rw [en5_sig r e he]; decide), first_off (A := en6 r) (sig := sNM) (fun e he => by rw [en6_sig r e he]; decide), first_off (A := en7 r) (sig := sNM) (fun e he => by rw [en7_sig r e he]; decide), Option.or_none, Option.none_or]
theorem first_en3 (r : RR) : firstB (ents r) sSL = firstB (en3 r) sSL := by
  unfold ents
  simp only [first_app, first_off (A := en1 r) (sig := sSL) (fun e he => by rw [en1_sig r e he]; decide), first_off (A := en2 r) (sig := sSL) (fun e he => by rw [en2_sig r e he]; decide), first_off (A := en4 r) (sig := sSL) (fun e he => by rw [en4_sig r e he]; decide), first_off (A := en5 r) (sig := sSL) (fun e he => by rw [en5_sig r e he]; decide), first_off (A := en6 r) (sig := sSL) (fun e he => by rw [en6_sig r e he]; decide), first_off (A := en7 r) (sig := sSL) (fun e he => by rw [en7_sig r e he]; decide), Option.or_none, Option.none_or]
theorem first_en4 (r : RR) : firstB (ents r) sTF = firstB (en4 r) sTF := by
  unfold ents
  simp only [first_app, first_off (A := en1 r) (sig := sTF) (fun e he => by rw [en1_sig r e he]; decide), first_off (A := en2 r) (sig := sTF) (fun e he => by rw [en2_sig r e he]; decide), first_off (A := en3 r) (sig := sTF) (fun e he => by rw [en3_sig r e he]; decide), first_off (A := en5 r) (sig := sTF) (fun e he => by rw [en5_sig r e he]; decide), first_off (A := en6 r) (sig := sTF) (fun e he => by rw [en6_sig r e he]; decide), first_off (A := en7 r) (sig := sTF) (fun e he => by rw [en7_sig r e he]; decide), Option.or_none, Option.none_or]
theorem first_en5 (r : RR) : firstB (ents r) sCL = firstB (en5 r) sCL := by
  unfold ents
  simp only [first_app, first_off (A := en1 r) (sig := sCL) (fun e he => by rw [en1_sig r e he]; decide), first_off (A := en2 r) (sig := sCL) (fun e he => by rw [en2_sig r e he]; decide), first_off (A := en3 r) (sig := sCL) (fun e he => by rw [en3_sig r e he]; decide), first_off (A := en4 r) (sig := sCL) (fun e he => by rw [en4_sig r e he]; decide), first_off (A := en6 r) (sig := sCL) (fun e he => by rw [en6_sig r e he]; decide), first_off (A := en7 r) (sig := sCL) (fun e he => by rw [en7_sig r e he]; decide), Option.or_none, Option.none_or]
theorem first_en6 (r : RR) : firstB (ents r) sPL = firstB (en6 r) sPL := by
  unfold ents
  simp only [first_app, first_off (A := en1 r) (sig := sPL) (fun e he => by rw [en1_sig r e he]; decide), first_off (A := en2 r) (sig := sPL) (fun e he => by rw [en2_sig r e he]; decide), first_off (A := en3 r) (sig := sPL) (fun e he => by rw [en3_sig r e he]; decide), first_off (A := en4 r) (sig := sPL) (fun e he => by rw [en4_sig r e he]; decide), first_off (A := en5 r) (sig := sPL) (fun e he => by rw [en5_sig r e he]; decide), first_off (A := en7 r) (sig := sPL) (fun e he => by rw [en7_sig r e he]; decide), Option.or_none, Option.none_or]
theorem first_en7 (r : RR) : firstB (ents r) sRE = firstB (en7 r) sRE := by
  unfold ents
  simp only [first_app, first_off (A := en1 r) (sig := sRE) (fun e he => by rw [en1_sig r e he]; decide), first_off (A := en2 r) (sig := sRE) (fun e he => by rw [en2_sig r e he]; decide), first_off (A := en3 r) (sig := sRE) (fun e he => by rw [en3_sig r e he]; decide), first_off (A := en4 r) (sig := sRE) (fun e he => by rw [en4_sig r e he]; decide), first_off (A := en5 r) (sig := sRE) (fun e he => by rw [en5_sig r e he]; decide), first_off (A := en6 r) (sig := sRE) (fun e he => by rw [en6_sig r e he]; decide), Option.or_none, Option.none_or]
theorem says_ents (r : RR) (h : chk r = 0) : Says (ents r) r := by
  obtain ⟨z1, z2, z3, z4, z5, z6, z7, z8, z9⟩ := chk_zero h
  obtain ⟨y1, y2, y3, y4⟩ := chk_more h
  refine ⟨by have := ents_len r; omega, ents_size r h, h, ?_, ?_, ?_, ?_, ?_, ?_, ?_, ?_, ?_, ?_⟩
  · intro e; rw [first_en1]; unfold en1; rw [e, if_pos rfl]; exact first_on ⟨sPX, 1, pxS r⟩
  · intro e; rw [first_en1]; unfold en1; rw [e]; rfl
  · unfold ents
    simp only [List.append_assoc]
    rw [join_off (fun e he => by rw [en1_sig r e he]; decide)]
    have hrest : ∀ e ∈ en3 r ++ (en4 r ++ (en5 r ++ (en6 r ++ en7 r))), e.sig ≠ sNM := by
      intro e he
      simp only [List.mem_append] at he
      rcases he with he | he | he | he | he
      · rw [en3_sig r e he]; decide
      · rw [en4_sig r e he]; decide
      · rw [en5_sig r e he]; decide
      · rw [en6_sig r e he]; decide
      · rw [en7_sig r e he]; decide
    cases en : r.named
    · have e2 : en2 r = [] := by unfold en2; rw [en]; rfl
      rw [e2, List.nil_append, join_off0 hrest, y2 en]
      rfl
    · have e2 : en2 r = [⟨sNM, 1, cat2 [0] r.name⟩] := by unfold en2; rw [en]; rfl
      rw [e2, List.singleton_append, join_hit (e := ⟨sNM, 1, cat2 [0] r.name⟩) (sig := sNM) (b := r.name) rfl rfl]
      rfl
  · intro ei
    unfold ents
    simp only [List.append_assoc]
    rw [join_off (fun e he => by rw [en1_sig r e he]; decide), join_off (fun e he => by rw [en2_sig r e he]; decide)]
    have e3 : en3 r = [⟨sSL, 1, cat2 [0] (compsB r.target)⟩] := by unfold en3; rw [ei]; rfl
    rw [e3, List.singleton_append, join_hit (e := ⟨sSL, 1, cat2 [0] (compsB r.target)⟩) (sig := sSL) (b := compsB r.target) rfl rfl]
    rfl
  · intro ei
    unfold ents
    simp only [List.append_assoc]
    rw [join_off (fun e he => by rw [en1_sig r e he]; decide), join_off (fun e he => by rw [en2_sig r e he]; decide)]
    have e3 : en3 r = [] := by unfold en3; rw [ei]; rfl
    rw [e3, List.nil_append, join_off0]
    · rfl
    · intro e he
      simp only [List.mem_append] at he
      rcases he with he | he | he | he
      · rw [en4_sig r e he]; decide
      · rw [en5_sig r e he]; decide
      · rw [en6_sig r e he]; decide
      · rw [en7_sig r e he]; decide
  · intro e; rw [first_en4]; unfold en4; rw [e, if_pos rfl]; exact first_on ⟨sTF, 1, cat2 [2] (Dt.recT r.time)⟩
  · intro e; rw [first_en4]; unfold en4; rw [e]; rfl
  · rw [SaysB, first_en5]; unfold en5
    by_cases hc : r.child = 0
    · left; rw [if_pos hc]; exact ⟨rfl, hc⟩
    · right; rw [if_neg hc]; exact ⟨bothS r.child, first_on ⟨sCL, 1, bothS r.child⟩, by show 8 ≤ 8; omega, by show 8 ≤ _; omega, le4_bothS _ z7⟩
  · rw [SaysB, first_en6]; unfold en6
    by_cases hc : r.parent = 0
    · left; rw [if_pos hc]; exact ⟨rfl, hc⟩
    · right; rw [if_neg hc]; exact ⟨bothS r.parent, first_on ⟨sPL, 1, bothS r.parent⟩, by show 8 ≤ 8; omega, by show 8 ≤ _; omega, le4_bothS _ z8⟩
  · rw [first_en7]; unfold en7
    cases r.reloc
    · rfl
    · rw [if_pos rfl, first_on ⟨sRE, 1, ⟨#[]⟩⟩]; rfl
end Go.Proofs.YtopajpomhflgbaaGreatDoor
