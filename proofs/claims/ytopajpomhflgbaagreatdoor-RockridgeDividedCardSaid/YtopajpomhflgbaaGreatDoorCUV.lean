/- Contracts of strings.Builder's Write and WriteString, with what else they keep, and of the literal in rockridge.Components. -/
import Derived.Test.YtopajpomhflgbaaGreatDoorCT
import Derived.Test.YtopajpomhflgbaaGreatDoorCLN
import Derived.Test.YtopajpomhflgbaaGreatDoorCShelf
import Derived.Shelf.Strings.BuilderK
import Derived.Lib.FrozenHead2
import Derived.Lib.BufferWrite
import Derived.Test.YtopajpomhflgbaaGreatDoorCJJ
import Derived.Test.YtopajpomhflgbaaGreatDoorCHI
namespace Go.Proofs.YtopajpomhflgbaaGreatDoor
set_option linter.unusedSimpArgs false
set_option linter.unusedVariables false
open Go.RowKit

/-- A builder in a block of its own that holds some bytes. -/
def BF (B b : Nat) (l : List UInt8) (w : World) : Prop := Lib.IsBuilderF 64 5 B b (Lib.byteCells l) w
theorem rowF_below {W w1 : World} {B : Nat} {e : TypeId} {size : Nat} {v : Value} {n : Nat} {xs : List Value} (h : W.ownsRowF B e size v n xs) (hb : Below W.heap.size W w1) : w1.ownsRowF B e size v n xs := by
  refine ⟨h.1, ?_⟩
  rcases h.2 with h2 | ⟨g, cap, cur, fz, hv, hg, hh, r⟩
  · exact Or.inl h2
  · exact Or.inr ⟨g, cap, cur, fz, hv, hg, some_below hb hh, r⟩
theorem BF.below {W w1 : World} {B b : Nat} {l : List UInt8} (h : BF B b l W) (hb : Below W.heap.size W w1) : BF B b l w1 := by
  rcases h with ⟨h1, v, h2, h3, h4⟩ | ⟨h1, v, h2, h3, h4⟩
  · exact Or.inl ⟨h1, v, some_below hb h2, rowF_below h3 hb, h4⟩
  · exact Or.inr ⟨h1, v, some_below hb h2, rowF_below h3 hb, h4⟩
theorem BF.lt {W : World} {B b : Nat} {l : List UInt8} (h : BF B b l W) : b < W.heap.size := by
  rcases h with h | h
  · exact h.lt
  · exact h.lt
theorem BF.ge {W : World} {B b : Nat} {l : List UInt8} (h : BF B b l W) : B ≤ b := by
  rcases h with h | h
  · exact h.1
  · exact h.1
theorem BF.alloc {W : World} {B b : Nat} {l : List UInt8} (h : BF B b l W) (o : Obj) : BF B b l (W.alloc o) := h.below ((Below.refl _ _).alloc (Nat.le_refl _) _)
theorem BF.drew {W : World} {B b : Nat} {l : List UInt8} (h : BF B b l W) : BF B b l W.drew := h
theorem BF.fresh (w : World) : BF w.heap.size w.heap.size [] (w.alloc (.cells #[.pointer none, .slice none 0 0] 64)) := Lib.IsBuilderF.of (Lib.fresh_isBuilder 64 5 w)
/-- Every block that is not the builder's and no row of bytes stands as it stood. -/
abbrev OK8 (b : Nat) (w w' : World) : Prop := Lib.OthersKept 5 (some b) w w'
/-- What a writer leaves. -/
def BWP (B b : Nat) (l : List UInt8) (w w' : World) : Prop := BF B b l w' ∧ Below B w w' ∧ OK8 b w w'
set_option maxHeartbeats 1000000 in
theorem ccheck (B b : Nat) (l : List UInt8) (w : World) (h : BF B b l w) : Calls Tryz.prog 73 #[.pointer (some ⟨b, 0, none⟩)] w fun e w' => e = .returned (.tuple #[]) ∧
    (Lib.BuilderAtF 64 5 B b (.pointer (some ⟨b, 0, none⟩)) (Lib.byteCells l) w' ∧ Below B w w' ∧ OK8 b w w' ∧ (∀ p : Addr, p.block ≠ b → w'.cell? p = w.cell? p) ∧ w'.heap.size = w.heap.size) := by
  rcases h with h | h
  · refine (Any.Builder_copyCheck_fresh { Tryz.lays166 with } Tryz.Builder_Extra_166.toX72 b w h.cell0 h.shape h.frozen0).mono ?_
    rintro e w' ⟨rfl, rfl⟩
    exact ⟨rfl, h.used _, (Below.refl B w).setCell (p := ⟨b, 0, none⟩) h.1 _, (Lib.OthersKept.refl _ _ w).setCell ⟨b, 0, none⟩ rfl _, fun p hp => World.cell?_setCell_other w _ p _ (fun e => hp (by subst e; rfl)), World.size_setCell _ _ _⟩
  · refine (Any.Builder_copyCheck_used { Tryz.lays166 with } Tryz.Builder_Extra_166.toX72 b w h.cell0).mono ?_
    rintro e w' ⟨rfl, rfl⟩
    exact ⟨rfl, h, Below.refl B _, Lib.OthersKept.refl _ _ _, fun p _ => rfl, rfl⟩
theorem wstring (B b : Nat) (l : List UInt8) (s : ByteArray) (w : World) (h : BF B b l w) (hlen : l.length + s.size ≤ 140737488355328) (hBw : B ≤ w.heap.size) :
    Calls Tryz.prog 42 #[.pointer (some ⟨b, 0, none⟩), .string s] w fun e w' => e = .returned (.tuple #[.int .i64 s.size, .nilIface]) ∧ BWP B b (l ++ s.data.toList) w w' :=
  (Any.Builder_WriteString_k Tryz.lays166 Tryz.Builder_Extra_166 B b (Lib.byteCells l) s w h (by rw [Lib.byteCells_length]; exact hlen) hBw).mono fun e w' ⟨he, h1, h2, h3⟩ =>
    ⟨he, Or.inr (by rw [Lib.strCells_eq, ← Lib.byteCells_append] at h1; exact h1), h2, h3⟩
theorem bstring (B b : Nat) (l : List UInt8) (w : World) (h : BF B b l w) (hBw : B ≤ w.heap.size) :
    Calls Tryz.prog 45 #[.pointer (some ⟨b, 0, none⟩)] w fun e w' => e = .returned (.string ⟨l.toArray⟩) ∧ BWP B b l w w' :=
  (Any.Builder_String_any_k Tryz.lays169 Tryz.Builder_Extra_169 B b l w h hBw).mono fun e w' ⟨he, h1, h2, h3⟩ => ⟨he, h1, h2, h3⟩
theorem byteInfo : (Tryz.prog.info? 5).map (fun i => (i.zero, i.size, i.bytes)) = some (some (.int .u8 0), 1, 1) := by kernel_rfl
set_option maxHeartbeats 2000000 in
set_option maxRecDepth 100000 in
theorem wbytes (B b : Nat) (l m : List UInt8) (g n c : Nat) (w : World) (h : BF B b l w) (hlen : l.length + m.length ≤ 140737488355328) (hBw : B ≤ w.heap.size) (hn : m.length = n) (hg : g ≠ b)
    (hc : ∀ j u, (Lib.byteCells m)[j]? = some u → w.cell? ((⟨g, 0, none⟩ : Addr).add j) = some u) :
    Calls Tryz.prog 41 #[.pointer (some ⟨b, 0, none⟩), .slice (some ⟨g, 0, none⟩) n c] w fun e w' => e = .returned (.tuple #[.int .i64 n, .nilIface]) ∧ BWP B b (l ++ m) w w' := by
  subst hn
  obtain ⟨i0, hi, hz0, hz1, hz2⟩ := info_parts byteInfo
  go_enter Tryz.func41, Tryz.ntmps41
  go_wp2_with (go_at_call 73; refine (ccheck B b l _ h).mono ?_)
  rintro e w1 ⟨rfl, h1, hb1, hk1, hcell, hsz⟩
  obtain ⟨hB, v, hbk, hown, hne⟩ := h1
  rw [Lib.byteCells_length] at hown
  have c0 : w1.cell? ⟨b, 0, none⟩ = some (.pointer (some ⟨b, 0, none⟩)) := by rw [Lib.cell_of_heap hbk]; rfl
  have c1 : w1.cell? ⟨b, 1, none⟩ = some v := by rw [Lib.cell_of_heap hbk]; rfl
  have hcc : ∀ j u, (Lib.byteCells m)[j]? = some u → w1.cell? ((⟨g, 0, none⟩ : Addr).add j) = some u := fun j u hj => (hcell _ (by unfold Addr.add; split <;> exact hg)).trans (hc j u hj)
  have HC := hide hcc
  clear hc hcc hcell hsz
  go_wp2_with (at_builtin; refine wpList_append_ownF _ rfl _ _ 62 rfl B 5 i0 (.int .u8 0) 1 1 Tryz.underlying62 hi hz0 hz1 hz2 rfl (by decide) _ _ _ rfl hown ⟨g, 0, none⟩ m.length c (Lib.byteCells m) rfl (by rw [Lib.byteCells_length]; omega) HC.out (Lib.byteCells_one _) ?c3 ?c4 ?c5 ?_)
  case c3 => unfold maxLen; omega
  case c4 => omega
  case c5 => have := hb1.size; omega
  intro v' w2 hown' hgrow _
  have hlt : b < w1.heap.size := by
    rcases Nat.lt_or_ge b w1.heap.size with h' | h'
    · exact h'
    · simp [Array.getElem?_eq_none h'] at hbk
  have hb2 : w2.heap[b]? = some (.cells #[.pointer (some ⟨b, 0, none⟩), v] 64 (0, 0)) := by
    rw [hgrow.block b hlt (fun e => hne e.symm)]
    exact hbk
  have d0 : w2.cell? ⟨b, 0, none⟩ = some (.pointer (some ⟨b, 0, none⟩)) := by rw [Lib.cell_of_heap hb2]; rfl
  have d1 : w2.cell? ⟨b, 1, none⟩ = some v := by rw [Lib.cell_of_heap hb2]; rfl
  have f1 : w2.frozen? ⟨b, 1, none⟩ = false := Lib.frozen_of_heap hb2 1
  obtain ⟨ao, n', cap, rfl⟩ : ∃ ao n' cap, v' = .slice ao n' cap := by
    rcases hown'.2 with ⟨hv, _⟩ | ⟨g, cap, cur, fz, hv, _⟩
    · exact ⟨_, _, _, hv⟩
    · exact ⟨_, _, _, hv⟩
  go_wp2
  go_ret2
  refine ⟨rfl, Or.inr ?_, ?_, (hk1.grown hgrow (Lib.ownsRowF_kind hown)).setCell ⟨b, 1, none⟩ rfl _⟩
  · refine Lib.BuilderAtF.put (T := 64) (e := 5) hB hb2 (bs' := Lib.byteCells (l ++ m)) ?_ Tryz.Builder_Extra_166.neB5
    rw [Lib.byteCells_length, List.length_append, Lib.byteCells_append]
    exact hown'
  · exact (hb1.grown hgrow (by have := hb1.size; omega) (fun k hk => (hown.lt k hk).1)).setCell (p := ⟨b, 1, none⟩) hB _
/-- A component: its flags, its length and its name. -/
def comp (f : Int) (name : List UInt8) : List UInt8 := u8 f :: UInt8.ofNat name.length :: name
theorem OK8.trans' {b : Nat} {w w1 w2 : World} (h1 : OK8 b w w1) (h2 : OK8 b w1 w2) : OK8 b w w2 := Lib.OthersKept.trans h1 h2
theorem u8_nat {v : Int} (h : 0 ≤ v ∧ v ≤ 255) : ((u8 v).toNat : Int) = v := by unfold u8; rw [UInt8.toNat_ofNat']; omega
theorem ofNat_nat {n : Nat} (h : n ≤ 255) : (((UInt8.ofNat n).toNat : Nat) : Int) = n := by rw [UInt8.toNat_ofNat']; omega
set_option maxHeartbeats 1000000 in
theorem add_any (B b : Nat) (l : List UInt8) (f : Int) (name : ByteArray) (w : World) (h : BF B b l w) (hf : 0 ≤ f ∧ f ≤ 255) (hn : name.size ≤ 255) (hl : l.length ≤ 100000000) (hBw : B ≤ w.heap.size) :
    Calls Tryz.prog 40 #[.int .u8 f, .string name, .pointer (some ⟨b, 0, none⟩)] w fun e w' => e = .returned (.tuple #[]) ∧ BWP B b (l ++ comp f name.data.toList) w w' := by
  have hw : IntKind.u8.wrap (name.size : Int) = name.size := by rw [IntKind.wrap_u8]; omega
  have hblt := h.lt
  have hbge := h.ge
  have HL : Live w [] := trivial
  go_enter Tryz.func40, Tryz.ntmps40
  go_wp2_with fail
  refine (wbytes B b l [u8 f, UInt8.ofNat name.size] w.heap.size 2 2 _ (h.alloc _) (by simp; omega) (by simp; omega) rfl (by omega) ?_).mono ?_
  · have eb : Lib.byteCells [u8 f, UInt8.ofNat name.size] = (#[Value.int .u8 f, Value.int .u8 (name.size : Int)] : Array Value).toList := by
      simp only [Lib.byteCells, List.map_cons, List.map_nil, u8_nat hf, ofNat_nat hn]
    rw [eb]
    exact World.news_of_block (heap_alloc_new w _)
  rintro e w1 ⟨rfl, h1, hb1, hk1⟩
  have hs1 := hb1.size
  go_wp2_with fail
  refine (wstring B b _ name _ h1 (by simp; omega) (by simp at hs1; omega)).mono ?_
  rintro e w2 ⟨rfl, h2, hb2, hk2⟩
  go_wp2
  go_end0
  have e : l ++ [u8 f, UInt8.ofNat name.size] ++ name.data.toList = l ++ comp f name.data.toList := by simp [comp, Array.length_toList]
  rw [e] at h2
  refine ⟨rfl, h2, ?_, ?_⟩
  · exact (((Below.refl B w).alloc (by omega) _).trans hb1).trans hb2
  · exact (((Lib.OthersKept.refl _ _ w).alloc _).trans hk1).trans hk2
end Go.Proofs.YtopajpomhflgbaaGreatDoor
/- Contract of rockridge.Components: the bytes of a target's components. -/
namespace Go.Proofs.YtopajpomhflgbaaGreatDoor
set_option linter.unusedSimpArgs false
set_option linter.unusedVariables false
open Go.RowKit

def absB (s : ByteArray) : Bool := Lib.hasPrefix s.data.toList [47]
def compOf (p : ByteArray) : List UInt8 := if p = ⟨#[]⟩ then [] else if p = dot then comp 2 [] else if p = dots then comp 4 [] else comp 0 p.data.toList
def compsL (abs : Bool) (ws : List ByteArray) : List UInt8 := (if abs then comp 8 [] else []) ++ ws.flatMap compOf
/-- The components of a target. -/
def compsB (s : ByteArray) : ByteArray := ⟨(compsL (absB s) (words (strip s))).toArray⟩
theorem Blk.ok8 {w w1 : World} {n b : Nat} {cs : Array Value} {T : TypeId} (h : Blk w n cs T) (hk : OK8 b w w1) (hT : T ≠ 5) (hne : n ≠ b) : Blk w1 n cs T :=
  hk n _ h (by intro e; exact hne (Option.some.inj e)) (fun c fz e => by injection e with _ e2; exact hT e2)
theorem comps_take (ws : List ByteArray) (abs : Bool) (i : Nat) (p : ByteArray) (hp : ws[i]? = some p) : compsL abs (ws.take (i + 1)) = compsL abs (ws.take i) ++ compOf p := by
  obtain ⟨hi, e⟩ := List.getElem?_eq_some_iff.1 hp
  unfold compsL
  rw [List.take_succ_eq_append_getElem hi, List.flatMap_append, e, List.append_assoc]
  simp
theorem comp_len (f : Int) (l : List UInt8) : (comp f l).length = l.length + 2 := by simp [comp]
theorem compOf_len (p : ByteArray) : (compOf p).length ≤ p.size + 2 := by
  unfold compOf
  split
  · simp
  · split
    · rw [comp_len]; simp
    · split
      · rw [comp_len]; simp
      · rw [comp_len]; simp
theorem comps_len (ws : List ByteArray) (abs : Bool) (h : ∀ p ∈ ws, p.size ≤ 200) : (compsL abs ws).length ≤ 2 + 202 * ws.length := by
  have h2 : ∀ l : List ByteArray, (∀ p ∈ l, p.size ≤ 200) → (l.flatMap compOf).length ≤ 202 * l.length := by
    intro l
    induction l with
    | nil => intro _; simp
    | cons a r ih =>
      intro h
      have h1 := compOf_len a
      have h3 := h a (by simp)
      have h4 := ih (fun p hp => h p (by simp [hp]))
      simp only [List.flatMap_cons, List.length_append, List.length_cons]
      omega
  unfold compsL
  rw [List.length_append]
  have := h2 ws h
  split
  · rw [comp_len, List.length_nil]; omega
  · rw [List.length_nil]; omega
theorem cutC (s : ByteArray) (w : World) : Calls Tryz.prog 43 #[.string s, .string ⟨#[47]⟩] w fun e w' => e = .returned (.tuple #[.string (strip s), .bool (absB s)]) ∧ w = w' :=
  (Any.strings_CutPrefix Tryz.lays103 s ⟨#[47]⟩ w).mono fun e w' ⟨he, hw⟩ => ⟨he, hw.symm⟩
theorem target_len {s : ByteArray} (h : targetB s = true) : 1 ≤ s.size ∧ s.size ≤ 128 := by
  by_cases h1 : 1 ≤ s.size ∧ s.size ≤ 128
  · exact h1
  · rw [target_short h1] at h; cases h
set_option maxHeartbeats 1000000 in
theorem comps_no (s : ByteArray) (hs : s.size ≤ 60000) (h : targetB s = false) (w : World) (hT : TabV w) : Calls Tryz.prog 15 #[.string s] w fun e w' => e = .returned (.tuple #[.string ⟨#[]⟩, .int .i64 4]) ∧ Below w.heap.size w w' := by
  have TG := hide (fun W hW => target_any s hs W hW)
  rw [h] at TG
  have HL : Live w [] := trivial
  go_enter Tryz.func15, Tryz.ntmps15
  go_wp2_with (first | (go_at_call 39; (with_reducible refine (TG.out _ hT).mono ?_); rintro e w' ⟨rfl, hb⟩; have hz := hb.size; (try simp only [World.size_alloc, World.size_setCell, World.size_drew, Nat.add_assoc, Nat.reduceAdd] at hz); (first | obtain ⟨HL, hk⟩ := HL.call hb hz (by simp only [World.size_alloc, World.size_setCell, World.size_drew, Nat.add_assoc, Nat.reduceAdd]) | obtain ⟨HL, hk⟩ := HL.call0 hb hz (by first | rfl | simp only [World.size_alloc, World.size_setCell, World.size_drew, Nat.add_assoc, Nat.reduceAdd])); (try simp only [addN, Nat.add_zero] at HL hk); have hl := HL; simp only [Live] at hl; (try simp only [Kept] at hk)))
  go_ret2
  exact ⟨rfl, by (repeat' (first | (with_reducible exact Below.refl _ _) | (with_reducible refine Below.alloc ?_ ?_ _) | (with_reducible refine Below.setCell ?_ ?_ _) | (with_reducible refine Below.drew ?_) | (with_reducible refine below_drewN' ?_) | (with_reducible refine below_bytesW ?_ ?_) | (with_reducible refine Below.trans ?_ (Below.mono (by assumption) ?_)) | omega | (simp only [World.size_alloc, World.size_setCell, World.size_drew]; omega) | (simp [size_bytesW]; omega) | (simp; omega)))⟩
set_option maxHeartbeats 4000000 in
theorem comps_yes (s : ByteArray) (h : targetB s = true) (w : World) (hT : TabV w) : Calls Tryz.prog 15 #[.string s] w fun e w' => e = .returned (.tuple #[.string (compsB s), .int .i64 0]) ∧ Below w.heap.size w w' := by
  have hlen := target_len h
  have TG := hide (fun W hW => target_any s (by omega) W hW)
  rw [h] at TG
  have CU := hide (fun W => cutC s W)
  have hst := strip_size s
  have hps : ∀ p ∈ words (strip s), p.size ≤ 128 := fun p hp => by have := piece_size slash 0 _ _ p hp; omega
  have hwl := words_len (strip s)
  have hmx : (words (strip s)).length ≤ 129 := by rw [hwl]; have := Lib.countB_le slash (by decide) (strip s).size (strip s) (Nat.le_refl _); omega
  have SP := hide (fun W hW => splitC (strip s) (by omega) W hW)
  simp only [← hwl] at SP
  have hE : compsB s = ⟨(compsL (absB s) (words (strip s))).toArray⟩ := rfl
  clear hwl h
  have HE := hide hE
  clear hE
  generalize words (strip s) = ws at *
  cases hab : absB s
  all_goals
    rw [hab] at CU HE
    have HL : Live w [] := trivial
    go_enter Tryz.func15, Tryz.ntmps15
    go_wp2_with fail
    refine (TG.out _ hT).mono ?_
    rintro e w1 ⟨rfl, hb1⟩
    have hz1 := hb1.size
    have hF := BF.fresh w1
    go_wp2_with (go_at_call 43; (with_reducible refine (CU.out _).mono ?_); rintro e w' ⟨rfl, rfl⟩)
    first
      | (refine (add_any w1.heap.size w1.heap.size [] 8 ⟨#[]⟩ _ hF (by omega) (by decide) (by simp) (by simp)).mono ?_
         rintro e W2 ⟨rfl, h2, hb2, hk2⟩
         have h2 : BF w1.heap.size w1.heap.size (compsL true (ws.take 0)) W2 := by simpa [compsL] using h2
         have hB2 : Below w.heap.size w W2 := ((hb1.trans ((Below.refl _ _).alloc hz1 _)).trans (hb2.mono hz1)))
      | (obtain ⟨W2, hW2⟩ : ∃ W2, W2 = w1.alloc (.cells #[.pointer none, .slice none 0 0] 64) := ⟨_, rfl⟩
         rw [← hW2] at hF ⊢
         have h2 : BF w1.heap.size w1.heap.size (compsL false (ws.take 0)) W2 := by simpa [compsL] using hF
         have hB2 : Below w.heap.size w W2 := by rw [hW2]; exact (hb1.trans ((Below.refl _ _).alloc hz1 _))
         clear hW2)
    have hT2 := hT.below hB2
    have hlt2 := h2.lt
    go_wp2_with fail
    refine (SP.out _ hT2).mono ?_
    rintro e w3 ⟨rfl, rfl⟩
    go_wp2_with fail
    go_loopw [25] (fun c wr => ∃ i : Nat, i ≤ ws.length ∧ c = .int .i64 i ∧ BF w1.heap.size w1.heap.size (compsL _ (ws.take i)) wr ∧ Below w.heap.size w wr ∧ Blk wr W2.heap.size (ws.map Value.string).toArray 9) (fun c _ => ws.length - (intOf c).toNat)
    case atStart => exact ⟨0, by omega, rfl, h2.alloc _, hB2.alloc (by have := hB2.size; omega) _, Blk.newAt rfl⟩
    case round =>
      obtain ⟨i, hi, rfl, hBF, hbel, hB⟩ := hrel
      have HF := hide hBF
      clear hBF
      have hsz := hbel.size
      have hBl := HF.out.lt
      by_cases hlt : i < ws.length
      · obtain ⟨p, hp⟩ : ∃ p, ws[i]? = some p := ⟨_, List.getElem?_eq_getElem hlt⟩
        have hcell : wr.cell? ⟨W2.heap.size, i, none⟩ = some (.string p) := by rw [hB.cells]; simp [hp]
        have hpm : p.size ≤ 128 := hps p (List.mem_of_getElem? hp)
        have HBD := hide (show ∀ ab, (compsL ab (ws.take i)).length ≤ 100000000 from fun ab => by
          have := comps_len (ws.take i) ab (fun q hq => by have := hps q (List.mem_of_mem_take hq); omega)
          have h3 : (ws.take i).length ≤ i := List.length_take_le _ _
          omega)
        have HT := hide (fun ab => comps_take ws ab i p hp)
        clear hp
        by_cases d0 : p = ⟨#[]⟩
        · have HE2 := hide (show ∀ ab, compsL ab (ws.take (i + 1)) = compsL ab (ws.take i) from fun ab => by rw [HT.out]; simp [compOf, d0])
          subst d0
          go_wp2
          go_roundw
          case rel => exact ⟨i + 1, by omega, by go_num, by rw [HE2.out]; exact HF.out, hbel, hB⟩
          case measure => simp [intOf]; omega
        have g0 : (p.toList == []) = false := eq_list d0
        have g0' : p.toList.isEmpty = false := by rw [List.isEmpty_eq_false_iff]; intro e; rw [e] at g0; simp at g0
        by_cases d1 : p = dot
        · have HE2 := hide (show ∀ ab, compsL ab (ws.take i) ++ comp 2 [] = compsL ab (ws.take (i + 1)) from fun ab => by rw [HT.out]; simp [compOf, d1, dot])
          subst d1
          unfold dot at hcell
          go_wp2_with fail
          refine (add_any w1.heap.size w1.heap.size _ 2 ⟨#[]⟩ _ HF.out (by omega) (by first | decide | omega) (HBD.out _) (by have := hb1.size; omega)).mono ?_
          rintro e w4 ⟨rfl, h4, hb4, hk4⟩
          rw [HE2.out] at h4
          go_wp2
          go_roundw
          case rel => exact ⟨i + 1, by omega, by go_num, h4, hbel.trans (hb4.mono hz1), hB.ok8 hk4 (by decide) (by omega)⟩
          case measure => simp [intOf]; omega
        by_cases d2 : p = dots
        · have HE2 := hide (show ∀ ab, compsL ab (ws.take i) ++ comp 4 [] = compsL ab (ws.take (i + 1)) from fun ab => by rw [HT.out]; simp [compOf, d2, dots, dot])
          subst d2
          unfold dots at hcell
          go_wp2_with fail
          refine (add_any w1.heap.size w1.heap.size _ 4 ⟨#[]⟩ _ HF.out (by omega) (by first | decide | omega) (HBD.out _) (by have := hb1.size; omega)).mono ?_
          rintro e w4 ⟨rfl, h4, hb4, hk4⟩
          rw [HE2.out] at h4
          go_wp2
          go_roundw
          case rel => exact ⟨i + 1, by omega, by go_num, h4, hbel.trans (hb4.mono hz1), hB.ok8 hk4 (by decide) (by omega)⟩
          case measure => simp [intOf]; omega
        have g1 : (p.toList == [46]) = false := eq_list d1
        have g2 : (p.toList == [46, 46]) = false := eq_list d2
        have HE2 := hide (show ∀ ab, compsL ab (ws.take i) ++ comp 0 p.data.toList = compsL ab (ws.take (i + 1)) from fun ab => by rw [HT.out]; simp [compOf, d0, d1, d2])
        clear d0 d1 d2
        go_wp2_with fail
        refine (add_any w1.heap.size w1.heap.size _ 0 p _ HF.out (by omega) (by first | decide | omega) (HBD.out _) (by have := hb1.size; omega)).mono ?_
        rintro e w4 ⟨rfl, h4, hb4, hk4⟩
        rw [HE2.out] at h4
        go_wp2
        go_roundw
        case rel => exact ⟨i + 1, by omega, by go_num, h4, hbel.trans (hb4.mono hz1), hB.ok8 hk4 (by decide) (by omega)⟩
        case measure => simp [intOf]; omega
      · obtain rfl : i = ws.length := by omega
        go_wp2_with fail
        refine (bstring w1.heap.size w1.heap.size _ _ HF.out (by omega)).mono ?_
        rintro e w5 ⟨rfl, h5, hb5, hk5⟩
        go_wp2
        go_ret2
        exact ⟨ret2_s (by rw [HE.out]; try rw [List.take_length]), hbel.trans (hb5.mono hz1)⟩
end Go.Proofs.YtopajpomhflgbaaGreatDoor
