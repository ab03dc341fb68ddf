/- Contracts of rockridge.numbers, kindBits and the reference's both. -/
import Derived.Test.YtopajpomhflgbaaGreatDoorCY3
import Derived.Test.YtopajpomhflgbaaGreatDoorCKFR
namespace Go.Proofs.YtopajpomhflgbaaGreatDoor
set_option linter.unusedSimpArgs false
set_option linter.unusedVariables false
open Go.RowKit

def numL (ns : List Int) : List UInt8 := ns.flatMap fun n => (bothS n).data.toList
theorem numL_len : ∀ ns : List Int, (numL ns).length = 8 * ns.length
  | [] => rfl
  | n :: r => by
    unfold numL
    rw [List.flatMap_cons, List.length_append]
    have := numL_len r
    unfold numL at this
    rw [this]
    show 8 + _ = 8 * (r.length + 1)
    omega
theorem numL_snoc (ns : List Int) (i : Nat) (n : Int) (h : ns[i]? = some n) : numL (ns.take (i + 1)) = numL (ns.take i) ++ (bothS n).data.toList := by
  obtain ⟨hi, e⟩ := List.getElem?_eq_some_iff.1 h
  unfold numL
  rw [List.take_succ_eq_append_getElem hi, List.flatMap_append, e]
  simp
def kindN (k : Int) : Int := if k = 0 then 4 else if k = 1 then 8 else 10
set_option maxHeartbeats 400000 in
theorem kindBits_any (k : Int) (h : 0 ≤ k ∧ k ≤ 2) (w : World) : Calls Tryz.prog 31 #[.int .i64 k] w fun e w' => e = .returned (.int .i64 (kindN k)) ∧ w = w' := by
  have i0 : ∀ w, (Instr.index 94 (.agg #[.int .i64 4, .int .i64 8, .int .i64 10]) (.int .i64 0)).run Tryz.prog w = .ok (.int .i64 4) w := fun _ => by kernel_rfl
  have i1 : ∀ w, (Instr.index 94 (.agg #[.int .i64 4, .int .i64 8, .int .i64 10]) (.int .i64 1)).run Tryz.prog w = .ok (.int .i64 8) w := fun _ => by kernel_rfl
  have i2 : ∀ w, (Instr.index 94 (.agg #[.int .i64 4, .int .i64 8, .int .i64 10]) (.int .i64 2)).run Tryz.prog w = .ok (.int .i64 10) w := fun _ => by kernel_rfl
  rcases (show k = 0 ∨ k = 1 ∨ k = 2 by omega) with rfl | rfl | rfl
  all_goals
    have HL : Live w [] := trivial
    go_enter Tryz.func31, Tryz.ntmps31
    go_wp2
    go_ret
    exact ⟨rfl, rfl⟩
set_option maxHeartbeats 400000 in
theorem rbothc (n : Int) (h : 0 ≤ n ∧ n ≤ 4294967295) (w : World) : Calls Tryz.prog 34 #[.int .i64 n] w fun e w' => e = .returned (.string (bothS n)) ∧ Below w.heap.size w w' := by
  have HL : Live w [] := trivial
  go_enter Tryz.func34, Tryz.ntmps34
  go_wp2_with (first | (go_at_call 68; (with_reducible refine (rboth_any _ (by omega) _).mono ?_); rintro e w' ⟨rfl, hb⟩; have hz := hb.size; (try simp only [World.size_alloc, World.size_setCell, World.size_drew, Nat.add_assoc, Nat.reduceAdd] at hz); (first | obtain ⟨HL, hk⟩ := HL.call hb hz (by simp only [World.size_alloc, World.size_setCell, World.size_drew, Nat.add_assoc, Nat.reduceAdd]) | obtain ⟨HL, hk⟩ := HL.call0 hb hz (by first | rfl | simp only [World.size_alloc, World.size_setCell, World.size_drew, Nat.add_assoc, Nat.reduceAdd])); (try simp only [addN, Nat.add_zero] at HL hk); have hl := HL; simp only [Live] at hl; (try simp only [Kept] at hk)))
  go_ret
  exact ⟨rfl, by (repeat' (first | (with_reducible exact Below.refl _ _) | (with_reducible refine Below.alloc ?_ ?_ _) | (with_reducible refine Below.setCell ?_ ?_ _) | (with_reducible refine Below.drew ?_) | (with_reducible refine below_drewN' ?_) | (with_reducible refine below_bytesW ?_ ?_) | (with_reducible refine Below.trans ?_ (Below.mono (by assumption) ?_)) | omega | (simp only [World.size_alloc, World.size_setCell, World.size_drew]; omega) | (simp [size_bytesW]; omega) | (simp; omega)))⟩
set_option maxHeartbeats 2000000 in
theorem numbers_any (g c : Nat) (ns : List Int) (w : World) (hn : ns.length ≤ 1000) (hr : ∀ n ∈ ns, 0 ≤ n ∧ n ≤ 4294967295) (hg : g < w.heap.size) (hc : ∀ j n, ns[j]? = some n → w.cell? ⟨g, j, none⟩ = some (.int .i64 n)) :
    Calls Tryz.prog 30 #[.slice (some ⟨g, 0, none⟩) ns.length c] w fun e w' => e = .returned (.string ⟨(numL ns).toArray⟩) ∧ Below w.heap.size w w' := by
  have HC := hide hc
  have HR := hide hr
  clear hc hr
  have hF := BF.fresh w
  have HL : Live w [] := trivial
  go_enter Tryz.func30, Tryz.ntmps30
  go_wp2_with fail
  go_loopw [10] (fun i wr => ∃ k : Nat, k ≤ ns.length ∧ i = .int .i64 k ∧ BF w.heap.size w.heap.size (numL (ns.take k)) wr ∧ Below w.heap.size w wr) (fun i _ => ns.length - (intOf i).toNat)
  case atStart => exact ⟨0, by omega, rfl, hF, by (repeat' (first | (with_reducible exact Below.refl _ _) | (with_reducible refine Below.alloc ?_ ?_ _) | (with_reducible refine Below.setCell ?_ ?_ _) | (with_reducible refine Below.drew ?_) | (with_reducible refine below_drewN' ?_) | (with_reducible refine below_bytesW ?_ ?_) | (with_reducible refine Below.trans ?_ (Below.mono (by assumption) ?_)) | omega | (simp only [World.size_alloc, World.size_setCell, World.size_drew]; omega) | (simp [size_bytesW]; omega) | (simp; omega)))⟩
  case round =>
    obtain ⟨k, hk, rfl, hBF, hbel⟩ := hrel
    have HF := hide hBF
    clear hBF hF
    have hsz := hbel.size
    by_cases hlt : k < ns.length
    · obtain ⟨n, hx⟩ : ∃ n, ns[k]? = some n := ⟨_, List.getElem?_eq_getElem hlt⟩
      have hcell : wr.cell? ⟨g, k, none⟩ = some (.int .i64 n) := (hbel.cell (p := ⟨g, k, none⟩) hg).trans (HC.out k n hx)
      have hnr := HR.out n (List.mem_of_getElem? hx)
      have HS := hide (numL_snoc ns k n hx)
      have hl := numL_len (ns.take k)
      have hl2 : (ns.take k).length ≤ k := List.length_take_le _ _
      clear hx
      go_wp2_with fail
      refine (both_any n hnr wr).mono ?_
      rintro e w1 ⟨rfl, hb1⟩
      have hz1 := hb1.size
      go_wp2_with fail
      refine (wstring w.heap.size w.heap.size _ (bothS n) w1 (HF.out.below hb1) (by show _ + 8 ≤ _; omega) (by omega)).mono ?_
      rintro e w2 ⟨rfl, h2, hb2, hk2⟩
      rw [← HS.out] at h2
      go_wp2
      go_roundw
      case rel => exact ⟨k + 1, by omega, by go_num, h2, (hbel.trans (hb1.mono hsz)).trans hb2⟩
      case measure => simp [intOf]; omega
    · obtain rfl : k = ns.length := by omega
      go_wp2_with fail
      refine (bstring w.heap.size w.heap.size _ _ HF.out (by omega)).mono ?_
      rintro e w5 ⟨rfl, h5, hb5, hk5⟩
      rw [List.take_length]
      go_wp2
      go_ret
      exact ⟨rfl, hbel.trans hb5⟩
end Go.Proofs.YtopajpomhflgbaaGreatDoor
/- The entries that are said of a node, and the literal that gathers them in rockridge.Entries. -/
namespace Go.Proofs.YtopajpomhflgbaaGreatDoor
set_option linter.unusedSimpArgs false
set_option linter.unusedVariables false
open Go.RowKit

/-- An entry. -/
structure En where
  sig : ByteArray
  ver : Int
  data : ByteArray
deriving DecidableEq
def En.cells (e : En) : List Value := [.string e.sig, .int .i64 e.ver, .string e.data]
def entsV (l : List En) : List Value := l.flatMap En.cells
theorem entsV_len : ∀ l : List En, (entsV l).length = l.length * 3
  | [] => rfl
  | e :: r => by
    have := entsV_len r
    unfold entsV at *
    rw [List.flatMap_cons, List.length_append, this, List.length_cons]
    simp [En.cells]; omega
theorem entsV_snoc (l : List En) (e : En) : entsV (l ++ [e]) = entsV l ++ e.cells := by simp [entsV]
theorem entInfo : (Tryz.prog.info? 32).map (fun i => (i.zero, i.size, i.bytes)) = some (some (.agg #[.string ByteArray.empty, .int .i64 0, .string ByteArray.empty]), 3, 40) := by kernel_rfl
def cat2 (a : List UInt8) (b : ByteArray) : ByteArray := ⟨(a ++ b.data.toList).toArray⟩
abbrev sPX : ByteArray := ⟨#[80, 88]⟩
abbrev sNM : ByteArray := ⟨#[78, 77]⟩
abbrev sSL : ByteArray := ⟨#[83, 76]⟩
abbrev sTF : ByteArray := ⟨#[84, 70]⟩
abbrev sCL : ByteArray := ⟨#[67, 76]⟩
abbrev sPL : ByteArray := ⟨#[80, 76]⟩
abbrev sRE : ByteArray := ⟨#[82, 69]⟩
/-- The bytes of attributes. -/
def pxS (r : RR) : ByteArray := ⟨(numL [r.mode + kindN r.kind * 4096, r.links, r.uid, r.gid]).toArray⟩
def en1 (r : RR) : List En := if r.att then [⟨sPX, 1, pxS r⟩] else []
def en2 (r : RR) : List En := if r.named then [⟨sNM, 1, cat2 [0] r.name⟩] else []
def en3 (r : RR) : List En := if r.target.toList.isEmpty then [] else [⟨sSL, 1, cat2 [0] (compsB r.target)⟩]
def en4 (r : RR) : List En := if r.timed then [⟨sTF, 1, cat2 [2] (Dt.recT r.time)⟩] else []
def en5 (r : RR) : List En := if r.child = 0 then [] else [⟨sCL, 1, bothS r.child⟩]
def en6 (r : RR) : List En := if r.parent = 0 then [] else [⟨sPL, 1, bothS r.parent⟩]
def en7 (r : RR) : List En := if r.reloc then [⟨sRE, 1, ⟨#[]⟩⟩] else []
def ents (r : RR) : List En := en1 r ++ en2 r ++ en3 r ++ en4 r ++ en5 r ++ en6 r ++ en7 r

theorem join_flat : ∀ ps : List (List UInt8), Lib.join ps [] = ps.flatten
  | [] => rfl
  | [x] => by rw [Lib.join_one]; simp
  | x :: y :: r => by
    rw [Lib.join_cons]
    simp [Lib.joinTail]
theorem join_at (g c : Nat) (ps : List ByteArray) (w : World) (hg : g < w.heap.size) (hn : ps.length ≤ 1000) (hc : ps.length ≤ c) (hcell : ∀ j x, ps[j]? = some x → w.cell? ⟨g, j, none⟩ = some (.string x)) (hl : (ps.map (·.data.toList)).flatten.length ≤ 100000000) :
    Calls Tryz.prog 29 #[.slice (some ⟨g, 0, none⟩) ps.length c, .string ⟨#[]⟩] w fun e w' => e = .returned (.string ⟨((ps.map (·.data.toList)).flatten).toArray⟩) ∧ Below w.heap.size w w' := by
  have := Any.strings_Join Tryz.lays156 Tryz.Builder_Extra_156 g 0 c ps ⟨#[]⟩ w (by intro j x hx; rw [Nat.zero_add]; exact hcell j x hx) hg (by omega) hc (by rw [show (ByteArray.mk #[]).data.toList = [] from rfl, join_flat]; omega)
  rw [show (ByteArray.mk #[]).data.toList = [] from rfl, join_flat] at this
  exact this
theorem join_none (w : World) : Calls Tryz.prog 29 #[.slice none 0 0, .string ⟨#[]⟩] w fun e w' => e = .returned (.string ⟨#[]⟩) ∧ Below w.heap.size w w' := by
  refine (Any.strings_Join_none Tryz.lays156 Tryz.Builder_Extra_156 none 0 ⟨#[]⟩ w).mono ?_
  rintro e w' ⟨rfl, rfl⟩
  exact ⟨rfl, Below.refl _ _⟩
theorem own_ne {w : World} {B : Nat} {e T : TypeId} {size : Nat} {v : Value} {n : Nat} {xs : List Value} {b : Nat} {cs : Array Value} (hown : w.ownsRow B e size v n xs) (hb : Blk w b cs T) (hTe : T ≠ e) : v.ownBlock ≠ some b := by
  rcases hown.2 with ⟨rfl, _⟩ | ⟨g, cap, cur, rfl, _, hh, _⟩
  · simp [Value.ownBlock]
  · intro he
    have : g = b := by simpa [Value.ownBlock] using he
    subst this
    unfold Blk at hb
    rw [hh] at hb
    injection hb with hb
    injection hb with _ ht
    exact hTe ht.symm
/-- The variable of the entries (block ob) holds a row of these. -/
def EO (ob : Nat) (L : List En) (w : World) : Prop := ∃ v, Blk w ob #[v] 26 ∧ w.ownsRow ob 32 3 v L.length (entsV L)
theorem EO.below {ob : Nat} {L : List En} {w w1 : World} (h : EO ob L w) (hb : Below w.heap.size w w1) : EO ob L w1 := by
  obtain ⟨v, h1, h2⟩ := h
  exact ⟨v, h1.below hb, below_row' h2 hb⟩
theorem EO.lt {ob : Nat} {L : List En} {w : World} (h : EO ob L w) : ob < w.heap.size := by
  obtain ⟨v, h1, h2⟩ := h
  exact h1.lt
/-- What the variable's gathering leaves. -/
def AddP (ob : Nat) (L : List En) (w : World) (e : Ending) (w' : World) : Prop := e = .returned (.tuple #[]) ∧ EO ob L w' ∧ Below ob w w'
set_option maxHeartbeats 400000 in
theorem eadd_no (ob : Nat) (sv dv : Value) (w : World) : Calls Tryz.prog 28 #[.bool false, sv, dv, .pointer (some ⟨ob, 0, none⟩)] w fun e w' => e = .returned (.tuple #[]) ∧ w = w' := by
  have HL : Live w [] := trivial
  go_enter Tryz.func28, Tryz.ntmps28
  go_wp2
  go_end0
  exact ⟨rfl, rfl⟩
set_option maxHeartbeats 4000000 in
theorem eadd_yes (ob : Nat) (L : List En) (sig d : ByteArray) (dv : Value) (w : World) (hL : L.length ≤ 100) (h : EO ob L w)
    (hJ : ∀ W, Below w.heap.size w W → Calls Tryz.prog 29 #[dv, .string ⟨#[]⟩] W fun e w' => e = .returned (.string d) ∧ Below W.heap.size W w') :
    Calls Tryz.prog 28 #[.bool true, .string sig, dv, .pointer (some ⟨ob, 0, none⟩)] w (AddP ob (L ++ [⟨sig, 1, d⟩]) w) := by
  obtain ⟨v, hB, hown⟩ := h
  have JN := hide hJ
  have HO := hide hown
  have hlt := hB.lt
  have hcell : w.cell? ⟨ob, 0, none⟩ = some v := hB.cells 0
  clear hJ hown
  have HL : Live w [] := trivial
  go_enter Tryz.func28, Tryz.ntmps28
  go_upto_region 1 with fail
  have HL : Live w [ob] := ⟨hlt, trivial⟩
  refine wp_region_noPanic ?_
  refine wp_region_held_drew (S := (fun x => True ∧ True)) (by kernel_rfl) (by (try dsimp only); first | assumption | (simp [*, go_sem]; done) | (refine ⟨?_, ?_⟩ <;> simp [*, go_sem])) (fun hHeld => ?_)
  refine wpAnyH_take (i := 1) (oi := { dst := some 9, op := Go.Op.move (Go.Operand.tmp 1), type := 9, pos := "rockridge.go:68", after := #[], guard := none }) (v := ?_) rfl (by kernel_rfl) (by kernel_rfl) (by kernel_rfl) (fun _ _ _ h => h) (Or.inl ⟨by rfl, ?_⟩) (by assumption) ?_
  rotate_left
  · intro w hSw; (try dsimp only at hSw); go_simp; (try with_reducible rfl)
  try simp only [Act.put, List.setIfInBounds_toArray, List.set_cons_zero, List.set_cons_succ]
  refine wpAnyH_take (i := 2) (oi := { dst := some 10, op := Go.Op.move (Go.Operand.tmp 2), type := 46, pos := "rockridge.go:68", after := #[], guard := none }) (v := ?_) rfl (by kernel_rfl) (by kernel_rfl) (by kernel_rfl) (fun _ _ _ h => h) (Or.inl ⟨by rfl, ?_⟩) (by assumption) ?_
  rotate_left
  · intro w hSw; (try dsimp only at hSw); go_simp; (try with_reducible rfl)
  try simp only [Act.put, List.setIfInBounds_toArray, List.set_cons_zero, List.set_cons_succ]
  refine wpAnyH_ready (rs := [0, 3]) (by kernel_rfl) (by simp) ?_
  refine AllReadyH.cons (o := { dst := some 8, op := Go.Op.load 26 (Go.Operand.tmp 3), type := 26, pos := "rockridge.go:68", after := #[], guard := none }) rfl (fun K hK => ?_) (AllReadyH.cons (o := { dst := some 11, op := Go.Op.call { callee := Go.Callee.value (Go.Operand.func 29), args := #[Go.Operand.tmp 10, Go.Operand.const (Go.Value.string { data := #[] })], argTypes := #[46, 9] }, type := 9, pos := "rockridge.go:68", after := #[{ on := 2, ground := Go.Ground.data }], guard := none }) rfl (fun K hK => ?_) AllReadyH.nil)
  focus
    go_simp
    refine hK.out _ _ (by (try dsimp only); first | assumption | (simp [*, go_sem]; done) | (refine ⟨?_, ?_⟩ <;> simp [*, go_sem])) (fun hHeld => ?_)
    clear hK K
    try simp only [Act.put, List.setIfInBounds_toArray, List.set_cons_zero, List.set_cons_succ]
    refine wpAnyH_ready (rs := [3]) (by kernel_rfl) (by simp) ?_
    refine AllReadyH.cons (o := { dst := some 11, op := Go.Op.call { callee := Go.Callee.value (Go.Operand.func 29), args := #[Go.Operand.tmp 10, Go.Operand.const (Go.Value.string { data := #[] })], argTypes := #[46, 9] }, type := 9, pos := "rockridge.go:68", after := #[{ on := 2, ground := Go.Ground.data }], guard := none }) rfl (fun K hK => ?_) AllReadyH.nil
    go_simp
    (first | (go_at_call 29; (with_reducible refine (JN.out _ (by first | assumption | exact (Below.refl _ _).drew)).mono ?_); rintro e w' ⟨rfl, hb⟩; have hz := hb.size; (try simp only [World.size_alloc, World.size_setCell, World.size_drew, Nat.add_assoc, Nat.reduceAdd] at hz); (first | obtain ⟨HL, hk⟩ := HL.call hb hz (by simp only [World.size_alloc, World.size_setCell, World.size_drew, Nat.add_assoc, Nat.reduceAdd]) | obtain ⟨HL, hk⟩ := HL.call0 hb hz (by first | rfl | simp only [World.size_alloc, World.size_setCell, World.size_drew, Nat.add_assoc, Nat.reduceAdd])); (try simp only [addN, Nat.add_zero] at HL hk); have hl := HL; simp only [Live] at hl; (try simp only [Kept] at hk)))
    go_wp2_with fail
    refine hK.out _ _ (by (try dsimp only); first | assumption | (simp [*, go_sem]; done) | (refine ⟨?_, ?_⟩ <;> simp [*, go_sem])) (fun hHeld => ?_)
    clear hK K
    try simp only [Act.put, List.setIfInBounds_toArray, List.set_cons_zero, List.set_cons_succ]
    refine wpAnyH_take (i := 4) (oi := { dst := some 12, op := Go.Op.build 32 #[(0, Go.Operand.tmp 9), (1, Go.Operand.const (Go.Value.int Go.IntKind.i64 1)), (2, Go.Operand.tmp 11)], type := 32, pos := "rockridge.go:68", after := #[{ on := 1, ground := Go.Ground.data }, { on := 3, ground := Go.Ground.data }], guard := none }) (v := ?_) rfl (by kernel_rfl) (by kernel_rfl) (by kernel_rfl) (fun _ _ _ h => h) (Or.inl ⟨by rfl, ?_⟩) (by assumption) ?_
    rotate_left
    · intro w hSw; (try dsimp only at hSw); go_simp; (try with_reducible rfl)
    try simp only [Act.put, List.setIfInBounds_toArray, List.set_cons_zero, List.set_cons_succ]
    refine wpAnyH_ready (rs := [5]) (by kernel_rfl) (by simp) ?_
    refine AllReadyH.cons (o := { dst := some 13, op := Go.Op.buildSlice 26 1 #[(0, Go.Operand.tmp 12)], type := 26, pos := "rockridge.go:68", after := #[{ on := 4, ground := Go.Ground.data }], guard := none }) rfl (fun K hK => ?_) AllReadyH.nil
    go_simp
    refine hK.out _ _ (by (try dsimp only); first | assumption | (simp [*, go_sem]; done) | (refine ⟨?_, ?_⟩ <;> simp [*, go_sem])) (fun hHeld => ?_)
    clear hK K
    try simp only [Act.put, List.setIfInBounds_toArray, List.set_cons_zero, List.set_cons_succ]
    refine wpAnyH_ready (rs := [6]) (by kernel_rfl) (by simp) ?_
    refine AllReadyH.cons (o := { dst := some 14, op := Go.Op.call { callee := Go.Callee.builtin Go.Builtin.append, args := #[Go.Operand.tmp 8, Go.Operand.tmp 13], argTypes := #[26, 26] }, type := 26, pos := "rockridge.go:68", after := #[{ on := 0, ground := Go.Ground.data }, { on := 5, ground := Go.Ground.data }, { on := 3, ground := Go.Ground.chain }], guard := none }) rfl (fun K hK => ?_) AllReadyH.nil
    refine step_append_blk _ (by rfl) _ _ _ (by rfl) ob 32 entInfo Tryz.underlying26 (by rfl) (by decide) v L.length (entsV L) ((below_row' HO.out.drew hb).alloc _) w'.heap.size #[.string sig, .int .i64 1, .string d] (Blk.newAt rfl) (by rfl) (by rfl) rfl (by simp [Value.oneCell']) (by unfold maxLen; omega) (by omega) (by rw [World.size_alloc]; have := hb.size; simp at this; omega) ?_; intro v2 w2 hown2 hb2 hot2 hz2; obtain ⟨g2, cp2, rfl⟩ := Go.Joins.ownsRow_form hown2 (by omega); have hB2 : Blk w2 ob #[v] 26 := (hot2 ob (by rw [World.size_alloc]; have := hb.size; simp at this; omega) (own_ne (HO.out) hB (by decide))).trans (((hB.drew).below hb).alloc _); have hc2 : w2.cell? ⟨ob, 0, none⟩ = some v := hB2.cells 0; have hf2 := hB2.free 0; have hl2 := hB2.lt
    refine hK.out _ _ (by (try dsimp only); first | assumption | (simp [*, go_sem]; done) | (refine ⟨?_, ?_⟩ <;> simp [*, go_sem])) (fun hHeld => ?_)
    clear hK K
    try simp only [Act.put, List.setIfInBounds_toArray, List.set_cons_zero, List.set_cons_succ]
    refine wpAnyH_ready (rs := [7]) (by kernel_rfl) (by simp) ?_
    refine AllReadyH.cons (o := { dst := none, op := Go.Op.store 26 (Go.Operand.tmp 3) (Go.Operand.tmp 14), type := 0, pos := "rockridge.go:68", after := #[{ on := 6, ground := Go.Ground.data }, { on := 6, ground := Go.Ground.chain }, { on := 0, ground := Go.Ground.phase }, { on := 1, ground := Go.Ground.phase }, { on := 2, ground := Go.Ground.phase }, { on := 3, ground := Go.Ground.phase }, { on := 4, ground := Go.Ground.phase }, { on := 5, ground := Go.Ground.phase }, { on := 6, ground := Go.Ground.phase }], guard := none }) rfl (fun K hK => ?_) AllReadyH.nil
    go_simp
    refine hK.out _ _ (by (try dsimp only); first | assumption | (simp [*, go_sem]; done) | (refine ⟨?_, ?_⟩ <;> simp [*, go_sem])) (fun hHeld => ?_)
    clear hK K
    try simp only [Act.put, List.setIfInBounds_toArray, List.set_cons_zero, List.set_cons_succ]
    refine wpAnyH_done (by kernel_rfl) ?_ _
    refine NoPanic.normal ?_
  rotate_left 1
  focus
    go_simp
    (first | (go_at_call 29; (with_reducible refine (JN.out _ (by first | assumption | exact (Below.refl _ _).drew)).mono ?_); rintro e w' ⟨rfl, hb⟩; have hz := hb.size; (try simp only [World.size_alloc, World.size_setCell, World.size_drew, Nat.add_assoc, Nat.reduceAdd] at hz); (first | obtain ⟨HL, hk⟩ := HL.call hb hz (by simp only [World.size_alloc, World.size_setCell, World.size_drew, Nat.add_assoc, Nat.reduceAdd]) | obtain ⟨HL, hk⟩ := HL.call0 hb hz (by first | rfl | simp only [World.size_alloc, World.size_setCell, World.size_drew, Nat.add_assoc, Nat.reduceAdd])); (try simp only [addN, Nat.add_zero] at HL hk); have hl := HL; simp only [Live] at hl; (try simp only [Kept] at hk)))
    go_wp2_with fail
    refine hK.out _ _ (by (try dsimp only); first | assumption | (simp [*, go_sem]; done) | (refine ⟨?_, ?_⟩ <;> simp [*, go_sem])) (fun hHeld => ?_)
    clear hK K
    try simp only [Act.put, List.setIfInBounds_toArray, List.set_cons_zero, List.set_cons_succ]
    refine wpAnyH_take (i := 4) (oi := { dst := some 12, op := Go.Op.build 32 #[(0, Go.Operand.tmp 9), (1, Go.Operand.const (Go.Value.int Go.IntKind.i64 1)), (2, Go.Operand.tmp 11)], type := 32, pos := "rockridge.go:68", after := #[{ on := 1, ground := Go.Ground.data }, { on := 3, ground := Go.Ground.data }], guard := none }) (v := ?_) rfl (by kernel_rfl) (by kernel_rfl) (by kernel_rfl) (fun _ _ _ h => h) (Or.inl ⟨by rfl, ?_⟩) (by assumption) ?_
    rotate_left
    · intro w hSw; (try dsimp only at hSw); go_simp; (try with_reducible rfl)
    try simp only [Act.put, List.setIfInBounds_toArray, List.set_cons_zero, List.set_cons_succ]
    refine wpAnyH_ready (rs := [0, 5]) (by kernel_rfl) (by simp) ?_
    refine AllReadyH.cons (o := { dst := some 8, op := Go.Op.load 26 (Go.Operand.tmp 3), type := 26, pos := "rockridge.go:68", after := #[], guard := none }) rfl (fun K hK => ?_) (AllReadyH.cons (o := { dst := some 13, op := Go.Op.buildSlice 26 1 #[(0, Go.Operand.tmp 12)], type := 26, pos := "rockridge.go:68", after := #[{ on := 4, ground := Go.Ground.data }], guard := none }) rfl (fun K hK => ?_) AllReadyH.nil)
    focus
      go_simp
      refine hK.out _ _ (by (try dsimp only); first | assumption | (simp [*, go_sem]; done) | (refine ⟨?_, ?_⟩ <;> simp [*, go_sem])) (fun hHeld => ?_)
      clear hK K
      try simp only [Act.put, List.setIfInBounds_toArray, List.set_cons_zero, List.set_cons_succ]
      refine wpAnyH_ready (rs := [5]) (by kernel_rfl) (by simp) ?_
      refine AllReadyH.cons (o := { dst := some 13, op := Go.Op.buildSlice 26 1 #[(0, Go.Operand.tmp 12)], type := 26, pos := "rockridge.go:68", after := #[{ on := 4, ground := Go.Ground.data }], guard := none }) rfl (fun K hK => ?_) AllReadyH.nil
      go_simp
      refine hK.out _ _ (by (try dsimp only); first | assumption | (simp [*, go_sem]; done) | (refine ⟨?_, ?_⟩ <;> simp [*, go_sem])) (fun hHeld => ?_)
      clear hK K
      try simp only [Act.put, List.setIfInBounds_toArray, List.set_cons_zero, List.set_cons_succ]
      refine wpAnyH_ready (rs := [6]) (by kernel_rfl) (by simp) ?_
      refine AllReadyH.cons (o := { dst := some 14, op := Go.Op.call { callee := Go.Callee.builtin Go.Builtin.append, args := #[Go.Operand.tmp 8, Go.Operand.tmp 13], argTypes := #[26, 26] }, type := 26, pos := "rockridge.go:68", after := #[{ on := 0, ground := Go.Ground.data }, { on := 5, ground := Go.Ground.data }, { on := 3, ground := Go.Ground.chain }], guard := none }) rfl (fun K hK => ?_) AllReadyH.nil
      refine step_append_blk _ (by rfl) _ _ _ (by rfl) ob 32 entInfo Tryz.underlying26 (by rfl) (by decide) v L.length (entsV L) ((below_row' HO.out.drew hb).alloc _) w'.heap.size #[.string sig, .int .i64 1, .string d] (Blk.newAt rfl) (by rfl) (by rfl) rfl (by simp [Value.oneCell']) (by unfold maxLen; omega) (by omega) (by rw [World.size_alloc]; have := hb.size; simp at this; omega) ?_; intro v2 w2 hown2 hb2 hot2 hz2; obtain ⟨g2, cp2, rfl⟩ := Go.Joins.ownsRow_form hown2 (by omega); have hB2 : Blk w2 ob #[v] 26 := (hot2 ob (by rw [World.size_alloc]; have := hb.size; simp at this; omega) (own_ne (HO.out) hB (by decide))).trans (((hB.drew).below hb).alloc _); have hc2 : w2.cell? ⟨ob, 0, none⟩ = some v := hB2.cells 0; have hf2 := hB2.free 0; have hl2 := hB2.lt
      refine hK.out _ _ (by (try dsimp only); first | assumption | (simp [*, go_sem]; done) | (refine ⟨?_, ?_⟩ <;> simp [*, go_sem])) (fun hHeld => ?_)
      clear hK K
      try simp only [Act.put, List.setIfInBounds_toArray, List.set_cons_zero, List.set_cons_succ]
      refine wpAnyH_ready (rs := [7]) (by kernel_rfl) (by simp) ?_
      refine AllReadyH.cons (o := { dst := none, op := Go.Op.store 26 (Go.Operand.tmp 3) (Go.Operand.tmp 14), type := 0, pos := "rockridge.go:68", after := #[{ on := 6, ground := Go.Ground.data }, { on := 6, ground := Go.Ground.chain }, { on := 0, ground := Go.Ground.phase }, { on := 1, ground := Go.Ground.phase }, { on := 2, ground := Go.Ground.phase }, { on := 3, ground := Go.Ground.phase }, { on := 4, ground := Go.Ground.phase }, { on := 5, ground := Go.Ground.phase }, { on := 6, ground := Go.Ground.phase }], guard := none }) rfl (fun K hK => ?_) AllReadyH.nil
      go_simp
      refine hK.out _ _ (by (try dsimp only); first | assumption | (simp [*, go_sem]; done) | (refine ⟨?_, ?_⟩ <;> simp [*, go_sem])) (fun hHeld => ?_)
      clear hK K
      try simp only [Act.put, List.setIfInBounds_toArray, List.set_cons_zero, List.set_cons_succ]
      refine wpAnyH_done (by kernel_rfl) ?_ _
      refine NoPanic.normal ?_
    rotate_left 1
    focus
      go_simp
      refine hK.out _ _ (by (try dsimp only); first | assumption | (simp [*, go_sem]; done) | (refine ⟨?_, ?_⟩ <;> simp [*, go_sem])) (fun hHeld => ?_)
      clear hK K
      try simp only [Act.put, List.setIfInBounds_toArray, List.set_cons_zero, List.set_cons_succ]
      refine wpAnyH_ready (rs := [0]) (by kernel_rfl) (by simp) ?_
      refine AllReadyH.cons (o := { dst := some 8, op := Go.Op.load 26 (Go.Operand.tmp 3), type := 26, pos := "rockridge.go:68", after := #[], guard := none }) rfl (fun K hK => ?_) AllReadyH.nil
      go_simp
      refine hK.out _ _ (by (try dsimp only); first | assumption | (simp [*, go_sem]; done) | (refine ⟨?_, ?_⟩ <;> simp [*, go_sem])) (fun hHeld => ?_)
      clear hK K
      try simp only [Act.put, List.setIfInBounds_toArray, List.set_cons_zero, List.set_cons_succ]
      refine wpAnyH_ready (rs := [6]) (by kernel_rfl) (by simp) ?_
      refine AllReadyH.cons (o := { dst := some 14, op := Go.Op.call { callee := Go.Callee.builtin Go.Builtin.append, args := #[Go.Operand.tmp 8, Go.Operand.tmp 13], argTypes := #[26, 26] }, type := 26, pos := "rockridge.go:68", after := #[{ on := 0, ground := Go.Ground.data }, { on := 5, ground := Go.Ground.data }, { on := 3, ground := Go.Ground.chain }], guard := none }) rfl (fun K hK => ?_) AllReadyH.nil
      refine step_append_blk _ (by rfl) _ _ _ (by rfl) ob 32 entInfo Tryz.underlying26 (by rfl) (by decide) v L.length (entsV L) ((below_row' HO.out.drew hb).alloc _) w'.heap.size #[.string sig, .int .i64 1, .string d] (Blk.newAt rfl) (by rfl) (by rfl) rfl (by simp [Value.oneCell']) (by unfold maxLen; omega) (by omega) (by rw [World.size_alloc]; have := hb.size; simp at this; omega) ?_; intro v2 w2 hown2 hb2 hot2 hz2; obtain ⟨g2, cp2, rfl⟩ := Go.Joins.ownsRow_form hown2 (by omega); have hB2 : Blk w2 ob #[v] 26 := (hot2 ob (by rw [World.size_alloc]; have := hb.size; simp at this; omega) (own_ne (HO.out) hB (by decide))).trans (((hB.drew).below hb).alloc _); have hc2 : w2.cell? ⟨ob, 0, none⟩ = some v := hB2.cells 0; have hf2 := hB2.free 0; have hl2 := hB2.lt
      refine hK.out _ _ (by (try dsimp only); first | assumption | (simp [*, go_sem]; done) | (refine ⟨?_, ?_⟩ <;> simp [*, go_sem])) (fun hHeld => ?_)
      clear hK K
      try simp only [Act.put, List.setIfInBounds_toArray, List.set_cons_zero, List.set_cons_succ]
      refine wpAnyH_ready (rs := [7]) (by kernel_rfl) (by simp) ?_
      refine AllReadyH.cons (o := { dst := none, op := Go.Op.store 26 (Go.Operand.tmp 3) (Go.Operand.tmp 14), type := 0, pos := "rockridge.go:68", after := #[{ on := 6, ground := Go.Ground.data }, { on := 6, ground := Go.Ground.chain }, { on := 0, ground := Go.Ground.phase }, { on := 1, ground := Go.Ground.phase }, { on := 2, ground := Go.Ground.phase }, { on := 3, ground := Go.Ground.phase }, { on := 4, ground := Go.Ground.phase }, { on := 5, ground := Go.Ground.phase }, { on := 6, ground := Go.Ground.phase }], guard := none }) rfl (fun K hK => ?_) AllReadyH.nil
      go_simp
      refine hK.out _ _ (by (try dsimp only); first | assumption | (simp [*, go_sem]; done) | (refine ⟨?_, ?_⟩ <;> simp [*, go_sem])) (fun hHeld => ?_)
      clear hK K
      try simp only [Act.put, List.setIfInBounds_toArray, List.set_cons_zero, List.set_cons_succ]
      refine wpAnyH_done (by kernel_rfl) ?_ _
      refine NoPanic.normal ?_
    rotate_left 1
  rotate_left 2
  all_goals
    go_wp2
    go_end0
    refine ⟨rfl, ⟨_, hB2.put rfl, ?_⟩, ?_⟩
    · rw [List.length_append, entsV_snoc]
      exact ownsRow_setCell_other hown2 (own_ne hown2 hB2 (by decide)) _
    · exact (((((Below.refl ob w).drew.trans (hb.mono (by simp; omega))).alloc (by have := hb.size; simp at this; omega) _).trans hb2).setCell (p := ⟨ob, 0, none⟩) (Nat.le_refl _) _)
end Go.Proofs.YtopajpomhflgbaaGreatDoor
/- Contract of rockridge.Entries. -/
namespace Go.Proofs.YtopajpomhflgbaaGreatDoor
set_option linter.unusedSimpArgs false
set_option linter.unusedVariables false
open Go.RowKit

theorem num4 (g : Nat) (a b c d : Int) (w : World) (hg : g < w.heap.size) (ha : 0 ≤ a ∧ a ≤ 4294967295) (hb : 0 ≤ b ∧ b ≤ 4294967295) (hc : 0 ≤ c ∧ c ≤ 4294967295) (hd : 0 ≤ d ∧ d ≤ 4294967295)
    (h0 : w.cell? ⟨g, 0, none⟩ = some (.int .i64 a)) (h1 : w.cell? ⟨g, 1, none⟩ = some (.int .i64 b)) (h2 : w.cell? ⟨g, 2, none⟩ = some (.int .i64 c)) (h3 : w.cell? ⟨g, 3, none⟩ = some (.int .i64 d)) :
    Calls Tryz.prog 30 #[.slice (some ⟨g, 0, none⟩) 4 4] w fun e w' => e = .returned (.string ⟨(numL [a, b, c, d]).toArray⟩) ∧ Below w.heap.size w w' :=
  numbers_any g 4 [a, b, c, d] w (by simp) (by intro n hn; simp at hn; rcases hn with rfl | rfl | rfl | rfl <;> assumption) hg (by
    intro j n h
    match j, h with
    | 0, h => simp at h; subst h; exact h0
    | 1, h => simp at h; subst h; exact h1
    | 2, h => simp at h; subst h; exact h2
    | 3, h => simp at h; subst h; exact h3
    | k + 4, h => simp at h)
theorem num1 (g : Nat) (a : Int) (w : World) (hg : g < w.heap.size) (ha : 0 ≤ a ∧ a ≤ 4294967295) (h0 : w.cell? ⟨g, 0, none⟩ = some (.int .i64 a)) :
    Calls Tryz.prog 30 #[.slice (some ⟨g, 0, none⟩) 1 1] w fun e w' => e = .returned (.string (bothS a)) ∧ Below w.heap.size w w' := by
  have := numbers_any g 1 [a] w (by simp) (by intro n hn; simp at hn; subst hn; exact ha) hg (by
    intro j n h
    match j, h with
    | 0, h => simp at h; subst h; exact h0
    | k + 1, h => simp at h)
  have e : (⟨(numL [a]).toArray⟩ : ByteArray) = bothS a := by unfold numL; simp
  rw [e] at this
  exact this
/-- Entries says of the node, or the error. -/
def EntP (r : RR) (w : World) (e : Ending) (w' : World) : Prop :=
  (if chk r = 0 then ∃ v, e = .returned (.tuple #[v, .int .i64 0]) ∧ w'.ownsRow w.heap.size 32 3 v (ents r).length (entsV (ents r))
    else e = .returned (.tuple #[.slice none 0 0, .int .i64 (chk r)])) ∧ Below w.heap.size w w'
theorem EntP.no {r : RR} {w : World} {e : Ending} {w' : World} (h : chk r ≠ 0) (he : e = .returned (.tuple #[.slice none 0 0, .int .i64 (chk r)])) (hb : Below w.heap.size w w') : EntP r w e w' := by
  unfold EntP; rw [if_neg h]; exact ⟨he, hb⟩
theorem EntP.yes {r : RR} {w : World} {e : Ending} {w' : World} {v : Value} {B : Nat} (h : chk r = 0) (he : e = .returned (.tuple #[v, .int .i64 0])) (ho : w'.ownsRow B 32 3 v (ents r).length (entsV (ents r))) (hB : w.heap.size ≤ B) (hb : Below w.heap.size w w') : EntP r w e w' := by
  unfold EntP; rw [if_pos h]; exact ⟨⟨v, he, Go.Joins.ownsRow_le ho hB⟩, hb⟩
theorem check_lit (r : RR) (hn : r.name.size ≤ 60000) (ht : r.target.size ≤ 60000) (w : World) (hT : TabV w) : Calls Tryz.prog 27 #[.agg #[.bool r.att, .int .i64 r.kind, .int .i64 r.mode, .int .i64 r.links, .int .i64 r.uid, .int .i64 r.gid, .bool r.named, .string r.name, .string r.target, .bool r.timed, .int .i64 r.time, .int .i64 r.child, .int .i64 r.parent, .bool r.reloc]] w fun e w' => e = .returned (.int .i64 (chk r)) ∧ Below w.heap.size w w' := check_any r hn ht w hT
theorem chk_cases (r : RR) : chk r = 0 ∨ chk r = 1 ∨ chk r = 2 ∨ chk r = 4 := by
  unfold chk
  split
  · simp
  · split
    · simp
    · split <;> simp
theorem chk_zero {r : RR} (h : chk r = 0) : (r.att = true → 0 ≤ r.kind ∧ r.kind ≤ 2) ∧ (r.target.toList.isEmpty = false → targetB r.target = true) ∧ (0 ≤ r.mode ∧ r.mode ≤ 4095) ∧ (0 ≤ r.links ∧ r.links ≤ 4294967295) ∧ (0 ≤ r.uid ∧ r.uid ≤ 4294967295) ∧ (0 ≤ r.gid ∧ r.gid ≤ 4294967295) ∧ (0 ≤ r.child ∧ r.child ≤ 4294967295) ∧ (0 ≤ r.parent ∧ r.parent ≤ 4294967295) ∧ (r.timed = true → 315532800 ≤ r.time ∧ r.time ≤ 4102444799) := by
  have h1 : bad3 r = false := by
    cases hb : bad3 r
    · rfl
    · simp [chk, hb] at h
  have h2 : bad4 r = false := by
    cases hb : bad4 r
    · rfl
    · unfold chk at h; rw [hb] at h; split at h <;> simp at h
  have h3 : bad5 r = false := by
    cases hb : bad5 r
    · rfl
    · unfold chk at h; rw [hb] at h; split at h
      · simp at h
      · split at h <;> simp at h
  have h4 : bad6 r = false := by
    cases hb : bad6 r
    · rfl
    · unfold chk at h; rw [hb] at h; split at h
      · simp at h
      · split at h <;> simp at h
  simp only [bad3, bad4, bad5, bad6, wordsB, wordB, timeB, Bool.and_eq_false_iff, Bool.or_eq_false_iff, Bool.not_eq_false', Bool.and_eq_true, decide_eq_true_eq] at h1 h2 h3 h4
  obtain ⟨hm, ⟨⟨⟨w1, w2⟩, w3⟩, w4⟩, w5⟩ := h3
  refine ⟨fun e => ?_, fun e => ?_, hm, w1, w2, w3, w4, w5, fun e => ?_⟩
  · rcases h1 with h1 | h1
    · rw [e] at h1; cases h1
    · exact h1
  · rcases h2.2 with h2 | h2
    · rw [e] at h2; cases h2
    · exact h2
  · rcases h4 with h4 | h4
    · rw [e] at h4; cases h4
    · exact h4
theorem EO.alloc {ob : Nat} {L : List En} {w : World} (h : EO ob L w) (o : Obj) : EO ob L (w.alloc o) := h.below ((Below.refl _ _).alloc (Nat.le_refl _) _)
theorem EO.drew {ob : Nat} {L : List En} {w : World} (h : EO ob L w) : EO ob L w.drew := h
theorem eadd0 (ob : Nat) (L : List En) (sig : ByteArray) (w : World) (hL : L.length ≤ 100) (h : EO ob L w) :
    Calls Tryz.prog 28 #[.bool true, .string sig, .slice none 0 0, .pointer (some ⟨ob, 0, none⟩)] w (AddP ob (L ++ [⟨sig, 1, ⟨#[]⟩⟩]) w) :=
  eadd_yes ob L sig ⟨#[]⟩ _ w hL h (fun W _ => join_none W)
theorem eadd1 (ob : Nat) (L : List En) (sig x : ByteArray) (g : Nat) (w : World) (hL : L.length ≤ 100) (h : EO ob L w) (hg : g < w.heap.size) (h0 : w.cell? ⟨g, 0, none⟩ = some (.string x)) (hx : x.size ≤ 1000000) :
    Calls Tryz.prog 28 #[.bool true, .string sig, .slice (some ⟨g, 0, none⟩) 1 1, .pointer (some ⟨ob, 0, none⟩)] w (AddP ob (L ++ [⟨sig, 1, x⟩]) w) :=
  eadd_yes ob L sig x _ w hL h (fun W hb => by
    have := join_at g 1 [x] W (Nat.lt_of_lt_of_le hg hb.size) (by simp) (by simp) (by
      intro j y hy
      match j, hy with
      | 0, hy => simp at hy; subst hy; exact (hb.cell (p := ⟨g, 0, none⟩) hg).trans h0
      | k + 1, hy => simp at hy) (by simp [Array.length_toList]; exact Nat.le_trans hx (by omega))
    have e : (⟨(([x].map (·.data.toList)).flatten).toArray⟩ : ByteArray) = x := by simp
    rw [e] at this
    exact this)
theorem eadd2 (ob : Nat) (L : List En) (sig a x : ByteArray) (g : Nat) (w : World) (hL : L.length ≤ 100) (h : EO ob L w) (hg : g < w.heap.size) (h0 : w.cell? ⟨g, 0, none⟩ = some (.string a)) (h1 : w.cell? ⟨g, 1, none⟩ = some (.string x)) (ha : a.size ≤ 100) (hx : x.size ≤ 1000000) :
    Calls Tryz.prog 28 #[.bool true, .string sig, .slice (some ⟨g, 0, none⟩) 2 2, .pointer (some ⟨ob, 0, none⟩)] w (AddP ob (L ++ [⟨sig, 1, cat2 a.data.toList x⟩]) w) :=
  eadd_yes ob L sig (cat2 a.data.toList x) _ w hL h (fun W hb => by
    have := join_at g 2 [a, x] W (Nat.lt_of_lt_of_le hg hb.size) (by simp) (by simp) (by
      intro j y hy
      match j, hy with
      | 0, hy => simp at hy; subst hy; exact (hb.cell (p := ⟨g, 0, none⟩) hg).trans h0
      | 1, hy => simp at hy; subst hy; exact (hb.cell (p := ⟨g, 1, none⟩) hg).trans h1
      | k + 2, hy => simp at hy) (by
        have e1 : a.data.toList.length = a.size := Array.length_toList
        have e2 : x.data.toList.length = x.size := Array.length_toList
        simp only [List.map_cons, List.map_nil, List.flatten_cons, List.flatten_nil, List.length_append, List.length_nil, e1, e2]; omega)
    have e : (⟨(([a, x].map (·.data.toList)).flatten).toArray⟩ : ByteArray) = cat2 a.data.toList x := by simp [cat2]
    rw [e] at this
    exact this)
theorem en_lens (r : RR) : (en1 r).length ≤ 1 ∧ (en2 r).length ≤ 1 ∧ (en3 r).length ≤ 1 ∧ (en4 r).length ≤ 1 ∧ (en5 r).length ≤ 1 ∧ (en6 r).length ≤ 1 ∧ (en7 r).length ≤ 1 := by
  refine ⟨?_, ?_, ?_, ?_, ?_, ?_, ?_⟩
  · unfold en1; split <;> simp
  · unfold en2; split <;> simp
  · unfold en3; split <;> simp
  · unfold en4; split <;> simp
  · unfold en5; split <;> simp
  · unfold en6; split <;> simp
  · unfold en7; split <;> simp
theorem comps_size {s : ByteArray} (h : targetB s = true) : (compsB s).size ≤ 30000 := by
  have hlen := target_len h
  have hst := strip_size s
  have hps : ∀ p ∈ words (strip s), p.size ≤ 200 := fun p hp => by have := piece_size slash 0 _ _ p hp; omega
  have hwl := words_len (strip s)
  have hmx : (words (strip s)).length ≤ 129 := by rw [hwl]; have := Lib.countB_le slash (by decide) (strip s).size (strip s) (Nat.le_refl _); omega
  have := comps_len (words (strip s)) (absB s) hps
  show (compsL _ _).toArray.size ≤ _
  rw [List.size_toArray]
  omega
end Go.Proofs.YtopajpomhflgbaaGreatDoor
