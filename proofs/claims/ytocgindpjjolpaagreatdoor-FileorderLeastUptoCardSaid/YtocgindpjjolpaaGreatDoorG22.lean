/- Contracts and plain words for the laws of this chapter, part 22: Rs, Rt1, Qa, Qb, Qc. No condition. -/
import Derived.Test.YtocgindpjjolpaaGreatDoorG15
import Derived.Test.YtocgindpjjolpaaGreatDoorG21
import Derived.Test.YtocgindpjjolpaaGreatDoorG6
import Derived.Great.Walk
import Derived.Test.YtocgindpjjolpaaGreatDoorG0
import Derived.Test.YtocgindpjjolpaaGreatDoorG8
import Derived.Test.YtocgindpjjolpaaGreatDoorG10
import Derived.Test.YtocgindpjjolpaaGreatDoorG20
import Derived.Test.YtocgindpjjolpaaGreatDoorG12
namespace Go.Proofs.YtocgindpjjolpaaGreatDoor
set_option linter.unusedSimpArgs false
set_option linter.unusedVariables false
open Go.RowKit Go.Shelf
theorem best1_any (fs : List ByteArray) (p : ByteArray) (fv : Value) (fb : Nat) (hl : fs.length ≤ 100000) (w : World) (hb : Blk w fb #[fv] 26) (hf : SlR w w.heap.size fv fs) :
    Calls Tryz.prog 61 #[.string p, .pointer (some ⟨fb, 0, none⟩)] w fun e w' => e = .returned (.bool (!(hasS fs p))) ∧ w = w' := by
  have CN := hide (contains_any fs p fv w.heap.size hl w hf)
  have c0 := hb.cells 0
  obtain ⟨A, c, rfl, -⟩ := hf
  clear hb
  have HL : Live w [] := trivial
  go_enter Tryz.func61, Tryz.ntmps61
  go_wp2_with (go_at_call 32; refine CN.out.mono ?_; rintro e w3 ⟨rfl, rfl⟩)
  go_ret
  exact ⟨rfl, rfl⟩
def IdxS (fs acc : List ByteArray) (w : World) (e : Ending) (w' : World) : Prop := ∃ i : Int, e = .returned (.int .i64 i) ∧ decide (0 ≤ i) = !(acc.all (hasS fs)) ∧ w = w'
set_option maxHeartbeats 1000000 in
theorem idxS_any (fs acc : List ByteArray) (fv av : Value) (fb : Nat) (hl : fs.length ≤ 100000) (hn : acc.length ≤ 100000) (w : World) (hb : Blk w fb #[fv] 26) (hf : SlR w w.heap.size fv fs) (ha : SlR w w.heap.size av acc) :
    Calls Tryz.prog 85 #[av, .func (.func 61) #[] #[.pointer (some ⟨fb, 0, none⟩)]] w (IdxS fs acc w) := by
  have BN := hide (fun p => best1_any fs p fv fb hl w hb hf)
  obtain ⟨A, c, rfl, ha⟩ := ha
  have HC := hide ha
  clear ha hb hf
  have HL : Live w [] := trivial
  go_enter Tryz.func85, Tryz.ntmps85
  go_wp2_with fail
  go_loop [8] (fun i => ∃ k : Nat, k ≤ acc.length ∧ i = .int .i64 k ∧ (acc.take k).all (hasS fs) = true) (fun i => acc.length - (intOf i).toNat)
  case atStart => exact ⟨0, by omega, rfl, rfl⟩
  case round =>
    obtain ⟨k, hk, rfl, ha⟩ := hrel
    have HA := hide ha
    clear ha
    by_cases hlt : k < acc.length
    · obtain ⟨x, hx⟩ : ∃ x, acc[k]? = some x := ⟨_, List.getElem?_eq_getElem hlt⟩
      obtain ⟨g, o, rfl, hg, hcl⟩ := HC.out (by omega)
      have hcell := hcl k x hx
      have HX := hide hx
      have BX := hide (BN.out x)
      clear hx hcl
      cases hb : hasS fs x
      · have HB := hide hb
        rw [hb] at BX
        go_wp2_with (go_at_call 61; refine BX.out.mono ?_; rintro e w3 ⟨rfl, rfl⟩)
        go_ret
        exact ⟨k, rfl, by
          have : acc.all (hasS fs) = false := by rw [List.all_eq_false]; exact ⟨x, List.mem_of_getElem? HX.out, by rw [HB.out]; simp⟩
          rw [this]; simp, rfl⟩
      · have HB := hide hb
        rw [hb] at BX
        go_wp2_with (go_at_call 61; refine BX.out.mono ?_; rintro e w3 ⟨rfl, rfl⟩)
        go_round
        case rel => exact ⟨k + 1, by omega, by go_num, by
          obtain ⟨hi, e⟩ := List.getElem?_eq_some_iff.1 HX.out
          rw [List.take_succ_eq_append_getElem hi, List.all_append, HA.out, e]; simp [HB.out]⟩
        case measure => simp [intOf]; omega
    · obtain rfl : k = acc.length := by omega
      go_wp2
      go_ret
      exact ⟨-1, rfl, by have := HA.out; rw [List.take_length] at this; rw [this]; rfl, rfl⟩
theorem contF_any (fs acc : List ByteArray) (fv av : Value) (fb : Nat) (hl : fs.length ≤ 100000) (hn : acc.length ≤ 100000) (w : World) (hb : Blk w fb #[fv] 26) (hf : SlR w w.heap.size fv fs) (ha : SlR w w.heap.size av acc) :
    Calls Tryz.prog 60 #[av, .func (.func 61) #[] #[.pointer (some ⟨fb, 0, none⟩)]] w fun e w' => e = .returned (.bool (!(acc.all (hasS fs)))) ∧ w = w' := by
  have IW := hide (idxS_any fs acc fv av fb hl hn w hb hf ha)
  obtain ⟨A, c, rfl, -⟩ := ha
  clear hb hf
  have HL : Live w [] := trivial
  go_enter Tryz.func60, Tryz.ntmps60
  go_wp2_with fail
  refine IW.out.mono ?_
  rintro e w' ⟨ix, rfl, hix, rfl⟩
  have HIX := hide hix
  clear hix
  go_wp2
  go_ret
  exact ⟨ret_b HIX.out, rfl⟩
theorem wpListIn_load_row {F : Fence} {n : Nat} {P : Program} {ops : Array Oper} {rest : List Oper} {o : Oper} {a : Act} {w : World} {Q : Exit → Act → World → Prop} (hgd : o.guard = none) (ty : TypeId) (x : Operand) (ho : o.op = .load ty x)
    (g : Nat) (hx : a.eval x = .pointer (some ⟨g, 0, none⟩)) (t : TypeId) (cs : Array Value) (fr : Nat × Nat) (d : TypeDesc) (hg : w.heap[g]? = some (.cells cs t fr))
    (hu : P.underlying ty = some d) (hd : (match d with | .struct _ | .array _ _ => true | _ => false) = true) (hi : (P.info? ty).map (·.size) = some cs.size)
    (h : wpListIn F n P ops Q rest (a.put o.dst (.agg cs)) w) : wpListIn F n P ops Q (o :: rest) a w := by
  refine wpListIn_plain hgd fun K hK => ?_
  unfold Oper.wpIn
  refine ⟨?_, ?_⟩
  · simp [Oper.about, ho]
  · rw [Oper.semAt_plain F _ _ (by rw [ho]; intro c hc'; cases hc')]
    rw [exec_load_row ty x ho g hx t cs fr d hg hu hd hi]
    exact hK _ _ h
theorem ordersL_lt {n : Nat} : ∀ (k : Nat) (l : List Nat), (∀ i ∈ l, i < n) → ∀ x ∈ ordersL n k l, x.length = n ∧ ∀ i ∈ x, i < n
  | 0, l, hl, x, hx => by
    rw [ordersL] at hx
    split at hx
    · rename_i h
      rw [List.mem_singleton] at hx
      subst hx
      exact ⟨h, hl⟩
    · cases hx
  | k + 1, l, hl, x, hx => by
    rw [ordersL] at hx
    split at hx
    · rename_i h
      rw [List.mem_singleton] at hx
      subst hx
      exact ⟨h, hl⟩
    · obtain ⟨i, hi, hx⟩ := List.mem_flatMap.1 hx
      split at hx
      · cases hx
      · refine ordersL_lt k _ (fun j hj => ?_) x hx
        rcases List.mem_append.1 hj with h1 | h1
        · exact hl j h1
        · rw [List.mem_singleton] at h1
          rw [h1]
          exact List.mem_range.1 hi
theorem namesAt_len (fs : List ByteArray) (l : List Nat) : (namesAt fs l).length = l.length := List.length_map _
theorem namesAt_take {fs : List ByteArray} {l : List Nat} {k i : Nat} {s : ByteArray} (h : l[k]? = some i) (hs : fs[i]? = some s) : namesAt fs (l.take (k + 1)) = namesAt fs (l.take k) ++ [s] := by
  unfold namesAt
  rw [List.take_add_one, h, List.map_append]
  simp [hs]
theorem namesAt_mem {fs : List ByteArray} {l : List Nat} {p : ByteArray} (h : ∀ i ∈ l, i < fs.length) (hp : p ∈ namesAt fs l) : p ∈ fs := by
  obtain ⟨i, hi, rfl⟩ := List.mem_map.1 hp
  rw [List.getElem?_eq_getElem (h i hi)]
  exact List.getElem_mem _
theorem placeL_ok {t : Tr} (hsz : t.sz ≤ 120000) : ∀ (l : List ByteArray) (a : Int) (out r : List Ext), placeL t l a out = some r → (∀ f ∈ out, extOK f) → (∀ p ∈ l, p.size ≤ 2000000) → 0 ≤ a → (∀ f ∈ r, extOK f) ∧ r.length = out.length + l.length
  | [], a, out, r, h, ho, _, _ => by
    rw [placeL] at h
    injection h with h
    subst h
    exact ⟨ho, rfl⟩
  | p :: l, a, out, r, h, ho, hp, ha => by
    rw [placeL] at h
    split at h
    · cases h
    · rename_i hn
      have hln := lenP_le hsz (by decide) p
      have hb := blocks_rng (n := (lenP t p : Int)) (by omega)
      obtain ⟨h1, h2⟩ := placeL_ok hsz l _ _ r h (fun f hf => by
        rcases List.mem_append.1 hf with h1 | h1
        · exact ho f h1
        · rw [List.mem_singleton] at h1
          subst h1
          exact ⟨⟨by show _ ≤ a; omega, by show a ≤ _; omega⟩, ⟨by show _ ≤ (lenP t p : Int); omega, by show (lenP t p : Int) ≤ _; omega⟩, hp p (List.mem_cons_self ..)⟩) (fun q hq => hp q (List.mem_cons_of_mem _ hq)) (by omega)
      refine ⟨h1, ?_⟩
      rw [h2, List.length_append, List.length_cons, List.length_cons, List.length_nil]
      omega
theorem placeT_ok {t : Tr} (hsz : t.sz ≤ 120000) {o : List ByteArray} {s : Int} (hp : ∀ p ∈ o, p.size ≤ 2000000) : (∀ f ∈ (placeT t o s).1, extOK f) ∧ (placeT t o s).1.length ≤ o.length := by
  by_cases h : validB t = true ∧ 0 ≤ s ∧ sameB o (filesT t) = true
  · rw [placeT_yes h]
    cases hq : placeL t o s [] with
    | none => exact ⟨fun f hf => absurd hf (by simp), Nat.zero_le _⟩
    | some r =>
      obtain ⟨h1, h2⟩ := placeL_ok hsz o s [] r hq (by simp) hp h.2.1
      exact ⟨h1, by show r.length ≤ _; rw [h2]; simp⟩
  · rw [placeT_no h]
    exact ⟨fun f hf => absurd hf (by simp), Nat.zero_le _⟩
theorem bestF_err {t : Tr} {acc fs : List ByteArray} {x : List Nat} {suf : List (List Nat)} {b : List ByteArray} {m : Int} (h : (placeT t (namesAt fs x) 0).2 ≠ 0) : bestF t acc fs (x :: suf) b m = ([], (placeT t (namesAt fs x) 0).2) := by
  rw [bestF, if_pos h]
theorem bestF_new {t : Tr} {acc fs : List ByteArray} {x : List Nat} {suf : List (List Nat)} {b : List ByteArray} {m : Int} (h : ¬ (placeT t (namesAt fs x) 0).2 ≠ 0) (h2 : m < 0 ∨ (costT (placeT t (namesAt fs x) 0).1 acc).1 < m) :
    bestF t acc fs (x :: suf) b m = bestF t acc fs suf (namesAt fs x) (costT (placeT t (namesAt fs x) 0).1 acc).1 := by
  rw [bestF, if_neg h, if_pos h2]
theorem bestF_old {t : Tr} {acc fs : List ByteArray} {x : List Nat} {suf : List (List Nat)} {b : List ByteArray} {m : Int} (h : ¬ (placeT t (namesAt fs x) 0).2 ≠ 0) (h2 : ¬ (m < 0 ∨ (costT (placeT t (namesAt fs x) 0).1 acc).1 < m)) :
    bestF t acc fs (x :: suf) b m = bestF t acc fs suf b m := by
  rw [bestF, if_neg h, if_neg h2]
theorem drop_at {α : Type} {xs pre suf : List α} {x : α} (h : xs = pre ++ x :: suf) : xs.drop pre.length = x :: suf ∧ xs.drop (pre ++ [x]).length = suf := by
  subst h
  refine ⟨List.drop_left' rfl, ?_⟩
  rw [show pre ++ x :: suf = (pre ++ [x]) ++ suf by simp]
  exact List.drop_left' rfl
end Go.Proofs.YtocgindpjjolpaaGreatDoor
namespace Go.Proofs.YtocgindpjjolpaaGreatDoor
set_option linter.unusedSimpArgs false
set_option linter.unusedVariables false
def exD : ByteArray := ⟨(List.replicate 3000 120).toArray⟩
def exF (n d : ByteArray) (wt : Int) : Hd := ⟨n, 1, d, eS, 0, 0, 0, 315532800, wt, 0⟩
def exA : ByteArray := ⟨#[97]⟩
def exBn : ByteArray := ⟨#[98]⟩
def exCn : ByteArray := ⟨#[99]⟩
def exDn : ByteArray := ⟨#[100]⟩
def exDB : ByteArray := ⟨#[100, 47, 98]⟩
def exY : ByteArray := ⟨#[121]⟩
def exN : ByteArray := ⟨#[48, 49, 50, 51, 52, 53, 54, 55, 56, 57]⟩
def exDir : Hd := ⟨exDn, 0, eS, eS, 0, 0, 0, 315532800, 0, 0⟩
def exH : Hd := ⟨eS, 0, eS, eS, 0, 0, 0, 315532800, 0, 0⟩
def exTd (d : ByteArray) : Tr := ⟨exH, [], .node (exF exA d 0) [] .nil (.node (exF exCn exY 0) [] .nil (.node exDir [] (.node (exF exBn exN 5) [] .nil .nil) .nil))⟩
def exT : Tr := exTd exD
theorem ex_files : filesT exT = [exA, exCn, exDB] := by decide +kernel
theorem ex_byW : byW exT = [exDB, exA, exCn] := by decide +kernel
theorem ex_byA : byA exT [exCn] = [exCn, exDB, exA] := by decide +kernel
theorem ex_place : placeT exT [exDB, exA, exCn] 20 = ([⟨exDB, 20, 10⟩, ⟨exA, 21, 3000⟩, ⟨exCn, 23, 1⟩], 0) := by decide +kernel
theorem ex_cost : costT [⟨exDB, 20, 10⟩, ⟨exA, 21, 3000⟩, ⟨exCn, 23, 1⟩] [exCn, exA] = (26, 0) := by decide +kernel
theorem ex_best : bestT exT [exCn, exA] = ([exCn, exA, exDB], 0) := by decide +kernel
theorem ex_sz : exT.sz ≤ 5000 := by decide +kernel
end Go.Proofs.YtocgindpjjolpaaGreatDoor
namespace Go.Proofs.YtocgindpjjolpaaGreatDoor
set_option linter.unusedSimpArgs false
set_option linter.unusedVariables false
open Go.RowKit Go.Shelf
theorem Builder_Extra_105 : Builder.Extra Tryz.prog Tryz.lays105_ren := {
  sizeBuilder := by kernel_rfl
  liesBuilder := by kernel_rfl
  t5 := Tryz.underlying5
  a5 := Tryz.isAgg5
  z5 := Tryz.sizeOf5
  v5 := Tryz.zeroValue5
  infoByte := by kernel_rfl
  cellsByte := by kernel_rfl
  sizeByte := by kernel_rfl
  neB5 := by decide }
theorem repX (w : World) : Calls Tryz.prog 74 #[.string ⟨#[120]⟩, .int .i64 3000] w fun e w' => e = .returned (.string exD) ∧ Below w.heap.size w w' := by
  have h := Any.strings_Repeat Tryz.lays105 Builder_Extra_105 ⟨#[120]⟩ 3000 w (by omega) (by decide)
  refine h.mono fun e w' ⟨h1, h2⟩ => ⟨?_, h2⟩
  rw [h1]
  have e : Lib.repeatL [120] 3000 = List.replicate 3000 120 := by
    have := Lib.repeatL_replicate 120 1 3000
    rwa [Nat.mul_one] at this
  show Ending.returned (.string ⟨(Lib.repeatL [120] 3000).toArray⟩) = _
  rw [e]
  rfl
abbrev nilV : Value := .slice none 0 0
theorem built_file (n d : ByteArray) (wt : Int) : Tryz.prog.built 25 [(0, .string n), (1, .int .i64 1), (2, .string d), (7, .int .i64 315532800), (8, .int .i64 wt)] = some ((exF n d wt).cells nilV nilV) := by kernel_rfl
theorem built_dir (g : Nat) : Tryz.prog.built 25 [(0, .string ⟨#[100]⟩), (7, .int .i64 315532800), (10, .slice (some ⟨g, 0, none⟩) 1 1)] = some (exDir.cells (.slice (some ⟨g, 0, none⟩) 1 1) nilV) := by kernel_rfl
theorem built_root (g : Nat) : Tryz.prog.built 25 [(7, .int .i64 315532800), (10, .slice (some ⟨g, 0, none⟩) 3 3)] = some (exH.cells (.slice (some ⟨g, 0, none⟩) 3 3) nilV) := by kernel_rfl
def row3 (d : ByteArray) (g : Nat) : Array Value := ⟨((exF exA d 0).cells nilV nilV).toList ++ (((exF exCn exY 0).cells nilV nilV).toList ++ (exDir.cells (.slice (some ⟨g, 0, none⟩) 1 1) nilV).toList)⟩
theorem built_row3 (d : ByteArray) (g : Nat) : Tryz.prog.builtSlice 25 3 [(0, .agg ((exF ⟨#[97]⟩ d 0).cells nilV nilV)), (1, .agg ((exF ⟨#[99]⟩ ⟨#[121]⟩ 0).cells nilV nilV)), (2, .agg (exDir.cells (.slice (some ⟨g, 0, none⟩) 1 1) nilV))] = some (row3 d g) := by kernel_rfl
theorem kid0 (W : World) (B : Nat) : KidR W B nilV .nil := ⟨none, 0, rfl, fun h => absurd h (Nat.lt_irrefl _)⟩
theorem str0 (W : World) (B : Nat) : StR W B nilV [] := ⟨none, 0, rfl, fun h => absurd h (Nat.lt_irrefl _)⟩
theorem row3_get (d : ByteArray) (g i : Nat) : (row3 d g)[i]? = (((exF exA d 0).cells nilV nilV).toList ++ (((exF exCn exY 0).cells nilV nilV).toList ++ (exDir.cells (.slice (some ⟨g, 0, none⟩) 1 1) nilV).toList))[i]? := by rw [← Array.getElem?_toList]; rfl
theorem c12 (h : Hd) (kv sv : Value) : (h.cells kv sv).toList.length = 12 := rfl
theorem row3_0 {d : ByteArray} {g j : Nat} {u : Value} (h : ((exF exA d 0).cells nilV nilV).toList[j]? = some u) : (row3 d g)[0 + j]? = some u := by
  have hj := (List.getElem?_eq_some_iff.1 h).1
  rw [row3_get, Nat.zero_add, List.getElem?_append_left hj]
  exact h
theorem row3_1 {d : ByteArray} {g j : Nat} {u : Value} (h : ((exF exCn exY 0).cells nilV nilV).toList[j]? = some u) : (row3 d g)[0 + 12 + j]? = some u := by
  have hj := (List.getElem?_eq_some_iff.1 h).1
  rw [row3_get, List.getElem?_append_right (by rw [c12]; omega), c12, show 0 + 12 + j - 12 = j by omega, List.getElem?_append_left hj]
  exact h
theorem row3_2 {d : ByteArray} {g j : Nat} {u : Value} (h : (exDir.cells (.slice (some ⟨g, 0, none⟩) 1 1) nilV).toList[j]? = some u) : (row3 d g)[0 + 12 + 12 + j]? = some u := by
  rw [row3_get, List.getElem?_append_right (by rw [c12]; omega), c12, show 0 + 12 + 12 + j - 12 = 12 + j by omega, List.getElem?_append_right (by rw [c12]; omega), c12, show 12 + j - 12 = j by omega]
  exact h
theorem rangeAt_of {w : World} {g o : Nat} {l : List Value} (h : ∀ j u, l[j]? = some u → w.cell? ⟨g, o + j, none⟩ = some u) : w.rangeAt g o l := h
theorem wpList_build3 {ops : Array Oper} {rest : List Oper} {o : Oper} {a : Act} {w : World} {Q : Exit → Act → World → Prop} (hg : o.guard = none) (x y z : Operand) (ho : o.op = .buildSlice 22 3 #[(0, x), (1, y), (2, z)]) {vx vy vz : Value} (hx : a.eval x = vx) (hy : a.eval y = vy) (hz : a.eval z = vz)
    (cells : Array Value) (hf : Tryz.prog.builtSlice 25 3 [(0, vx), (1, vy), (2, vz)] = some cells)
    (h : wpList Tryz.prog ops Q rest (a.put o.dst (.slice (some ⟨w.heap.size, 0, none⟩) 3 3)) (w.alloc (.cells cells 25))) : wpList Tryz.prog ops Q (o :: rest) a w := by
  refine Great.wpList_buildSliceTo hg 22 25 3 _ ho _ rfl _ rfl Tryz.underlying22 cells ?_ h
  rw [← hf, ← hx, ← hy, ← hz]
  simp
theorem ex_treeD {d : ByteArray} {W : World} {g1 g2 B : Nat} (h1 : Blk W g1 ((exF exBn exN 5).cells nilV nilV) 25) (h2 : Blk W g2 (row3 d g1) 25) (l1 : g1 < B) (l2 : g2 < B) : TreeR W B (.agg (exH.cells (.slice (some ⟨g2, 0, none⟩) 3 3) nilV)) (exTd d) := by
  refine ⟨_, _, rfl, str0 _ _, some ⟨g2, 0, none⟩, 3, rfl, fun _ => ⟨g2, 0, rfl, l2, ⟨_, _, rangeAt_of fun j u hj => ?_, str0 _ _, kid0 _ _⟩, ⟨_, _, rangeAt_of fun j u hj => ?_, str0 _ _, kid0 _ _⟩, ⟨_, _, rangeAt_of fun j u hj => ?_, str0 _ _, some ⟨g1, 0, none⟩, 1, rfl, fun _ => ⟨g1, 0, rfl, l1, ⟨_, _, rangeAt_of fun j u hj => ?_, str0 _ _, kid0 _ _⟩, trivial⟩⟩, trivial⟩⟩
  · exact (h2.cells _).trans (row3_0 hj)
  · exact (h2.cells _).trans (row3_1 hj)
  · exact (h2.cells _).trans (row3_2 hj)
  · rw [Nat.zero_add]
    exact (h1.cells j).trans (by rw [← Array.getElem?_toList]; exact hj)
theorem setRow_size (w : World) (b : Nat) (cs : Array Value) : (w.setRow b cs).heap.size = w.heap.size := by simp [World.setRow]
theorem exT_is : exT = exTd exD := rfl
set_option maxRecDepth 100000 in
set_option maxHeartbeats 2000000 in
theorem file_any (n d : ByteArray) (wt : Int) (w : World) : Calls Tryz.prog 73 #[.string n, .string d, .int .i64 wt] w fun e w' => e = .returned (.agg ((exF n d wt).cells nilV nilV)) ∧ Below w.heap.size w w' := by
  have HL : Live w [] := trivial
  go_enter Tryz.func73, Tryz.ntmps73
  go_upto_region 1 with fail
  have hbel1 : Below w.heap.size w (w.alloc (.cells zeroN 25)) := (Below.refl _ _).alloc (Nat.le_refl _) _
  have HB := hide (show Blk (w.alloc (.cells zeroN 25)) w.heap.size zeroN 25 from Blk.newAt rfl)
  unfold zeroN at hbel1
  generalize hW : w.alloc (.cells #[.string ⟨#[]⟩, .int .i64 0, .string ⟨#[]⟩, .string ⟨#[]⟩, .int .i64 0, .int .i64 0, .int .i64 0, .int .i64 0, .int .i64 0, .int .i64 0, .slice none 0 0, .slice none 0 0] 25) = W1 at *
  (try rw [show w.alloc (.cells zeroN 25) = W1 from hW] at HB)
  clear hW
  obtain ⟨b, hb⟩ : ∃ b, b = w.heap.size := ⟨_, rfl⟩
  have hbw : w.heap.size ≤ b := by omega
  rw [← hb] at HB ⊢
  clear hb
  have hz := hbel1.size
  go_wp2_with ((with_reducible show wpList _ _ _ _ _ _); (first | (refine wpList_build_is rfl 25 #[(0, .tmp 7), (1, .const (.int .i64 1)), (2, .tmp 8), (7, .const (.int .i64 315532800)), (8, .tmp 9)] rfl _ rfl _ (built_file n d wt) ?_) | (refine wpList_store_row rfl 25 (.tmp 6) (.tmp 10) rfl b ((exF n d wt).cells nilV nilV) rfl rfl 25 zeroN HB.out (infN rfl) rfl (nodeLit _ _ _ _ _ _ _) ?_)))
  show bodyPost Tryz.prog Tryz.f73 _ .ret _ _
  refine bodyPost_ret (results_cell_row Tryz.results73 _ _ b 25 ((exF n d wt).cells nilV nilV) (0, 0) _ rfl (setRow_heap _ _ _ _ _ _ HB.out) Tryz.underlying25 rfl (infN rfl)) rfl ?_
  exact ⟨rfl, hbel1.trans ((FrO.setRow (O := fun j => j = b) rfl).below hz fun j hj => by omega)⟩
set_option maxRecDepth 100000 in
set_option maxHeartbeats 400000 in
theorem tree_any (w : World) : Calls Tryz.prog 45 #[] w fun e w' => ∃ v, e = .returned v ∧ TreeR w' w'.heap.size v exT ∧ Below w.heap.size w w' := by
  suffices H : ∀ (T : Tr) (d : ByteArray), T = exTd d → (∀ w : World, Calls Tryz.prog 74 #[.string ⟨#[120]⟩, .int .i64 3000] w fun e w' => e = .returned (.string d) ∧ Below w.heap.size w w') → Calls Tryz.prog 45 #[] w fun e w' => ∃ v, e = .returned v ∧ TreeR w' w'.heap.size v T ∧ Below w.heap.size w w' from H exT exD exT_is repX
  intro T d hTd RX0
  have RX := hide RX0
  subst hTd
  have hTE := hide (fun (W : World) (g1 g2 B : Nat) h1 h2 h3 h4 => ex_treeD (d := d) (W := W) (g1 := g1) (g2 := g2) (B := B) h1 h2 h3 h4)
  have HL : Live w [] := trivial
  go_enter Tryz.func45, Tryz.ntmps45
  go_upto_region 2 with fail
  have hbel1 : Below w.heap.size w (w.alloc (.cells zeroN 25)) := (Below.refl _ _).alloc (Nat.le_refl _) _
  have HB := hide (show Blk (w.alloc (.cells zeroN 25)) w.heap.size zeroN 25 from Blk.newAt rfl)
  unfold zeroN at hbel1
  generalize hW : w.alloc (.cells #[.string ⟨#[]⟩, .int .i64 0, .string ⟨#[]⟩, .string ⟨#[]⟩, .int .i64 0, .int .i64 0, .int .i64 0, .int .i64 0, .int .i64 0, .int .i64 0, .slice none 0 0, .slice none 0 0] 25) = W1 at *
  (try rw [show w.alloc (.cells zeroN 25) = W1 from hW] at HB)
  clear hW
  obtain ⟨b, hb⟩ : ∃ b, b = w.heap.size := ⟨_, rfl⟩
  have hbw : w.heap.size ≤ b := by omega
  rw [← hb] at HB ⊢
  clear hb
  have hz := hbel1.size
  go_wp2_with (first | (go_at_call 74; refine (RX.out _).mono ?_; rintro e w2 ⟨rfl, hb2⟩; have HB2 := hide (hbel1.trans (hb2.mono hz)); have HBW := hide (Blk.below hb2 HB.out)) | (go_at_call 73; refine (file_any _ _ _ _).mono ?_; rintro e w5 ⟨rfl, hb3⟩; replace HB2 := hide (HB2.out.trans (hb3.mono HB2.out.size)); replace HBW := hide (Blk.below hb3 HBW.out); clear hb3) | ((with_reducible show wpList _ _ _ (Oper.mk (some 9) _ _ _ _ _ :: _) _ _); refine wpList_buildNode rfl (.tmp 8) rfl (exF ⟨#[98]⟩ ⟨#[48, 49, 50, 51, 52, 53, 54, 55, 56, 57]⟩ 5) nilV nilV rfl ?_) | ((with_reducible show wpList _ _ _ (Oper.mk (some 10) _ _ _ _ _ :: _) _ _); refine wpList_build_is rfl 25 #[(0, .const (.string ⟨#[100]⟩)), (7, .const (.int .i64 315532800)), (10, .tmp 9)] rfl _ rfl _ (built_dir w5.heap.size) ?_) | ((with_reducible show wpList _ _ _ (Oper.mk (some 11) _ _ _ _ _ :: _) _ _); refine wpList_build3 rfl (.tmp 4) (.tmp 6) (.tmp 10) rfl rfl rfl rfl (row3 d w5.heap.size) (built_row3 d w5.heap.size) ?_) | ((with_reducible show wpList _ _ _ (Oper.mk (some 12) _ _ _ _ _ :: _) _ _); refine wpList_build_is rfl 25 #[(7, .const (.int .i64 315532800)), (10, .tmp 11)] rfl _ rfl _ (built_root (w5.heap.size + 1)) ?_) | ((with_reducible show wpList _ _ _ (Oper.mk none (Op.store _ _ _) _ _ _ _ :: _) _ _); refine wpList_store_row rfl 25 (.tmp 0) (.tmp 12) rfl b (exH.cells (.slice (some ⟨w5.heap.size + 1, 0, none⟩) 3 3) nilV) rfl rfl 25 zeroN ((HBW.out.alloc _).alloc _) (infN rfl) rfl (nodeLit _ _ _ _ _ _ _) ?_))
  have hbw5 := HBW.out.lt
  have HBX := hide ((HBW.out.alloc (.cells ((exF ⟨#[98]⟩ ⟨#[48, 49, 50, 51, 52, 53, 54, 55, 56, 57]⟩ 5).cells nilV nilV) 25)).alloc (.cells (row3 d w5.heap.size) 25))
  have hbel6 : Below w.heap.size w ((w5.alloc (.cells ((exF ⟨#[98]⟩ ⟨#[48, 49, 50, 51, 52, 53, 54, 55, 56, 57]⟩ 5).cells nilV nilV) 25)).alloc (.cells (row3 d w5.heap.size) 25)) := (HB2.out.alloc HB2.out.size _).alloc (by rw [World.size_alloc]; have := HB2.out.size; omega) _
  show bodyPost Tryz.prog Tryz.f45 _ .ret _ _
  refine bodyPost_ret (results_cell_row Tryz.results45 _ _ b 25 (exH.cells (.slice (some ⟨w5.heap.size + 1, 0, none⟩) 3 3) nilV) (0, 0) _ rfl (setRow_heap _ _ _ _ _ _ HBX.out) Tryz.underlying25 rfl (infN rfl)) rfl ?_
  refine ⟨_, rfl, hTE.out _ w5.heap.size _ _ ?_ ?_ ?_ ?_, hbel6.trans ((FrO.setRow (O := fun j => j = b) rfl).below hbel6.size fun j hj => by omega)⟩
  · exact (setRow_other _ _ _ _ (by omega)).trans ((Blk.newAt rfl).alloc _)
  · exact (setRow_other _ _ _ _ (by omega)).trans (Blk.newAt (World.size_alloc _ _))
  · rw [setRow_size, World.size_alloc, World.size_alloc]; omega
  · rw [setRow_size, World.size_alloc, World.size_alloc]; omega
end Go.Proofs.YtocgindpjjolpaaGreatDoor
namespace Go.Proofs.YtocgindpjjolpaaGreatDoor
set_option linter.unusedSimpArgs false
set_option linter.unusedVariables false
open Go.RowKit
theorem infE3 : (Tryz.prog.info? 69).map (·.size) = some 3 := by kernel_rfl
theorem exec_ext_neq {o : Oper} {ev : Operand → Value} {w : World} (x y : Ext) (a b : Operand) (ho : o.op = .binOp .neq 69 a b 69) (ha : ev a = .agg (extA x)) (hb : ev b = .agg (extA y)) (nq : Bool) (hq : (!decide (x = y)) = nq) : (execOp ev o).run Tryz.prog w = .ok (.value (.bool nq)) w := by
  subst hq
  obtain ⟨p, s, n⟩ := x
  obtain ⟨p2, s2, n2⟩ := y
  unfold execOp
  simp only [ho, ha, hb]
  by_cases h1 : p = p2
  · have q1 : (p.toList == p2.toList) = true := seq_y h1
    by_cases h2 : s = s2
    · have q2 : (s == s2) = true := by simpa using h2
      by_cases h3 : n = n2
      · have q3 : (n == n2) = true := by simpa using h3
        have e : decide (Ext.mk p s n = Ext.mk p2 s2 n2) = true := decide_eq_true (by rw [h1, h2, h3])
        rw [e]
        go_simp
      · have q3 : (n == n2) = false := by simpa using h3
        have e : decide (Ext.mk p s n = Ext.mk p2 s2 n2) = false := decide_eq_false (fun e => h3 (congrArg Ext.len e))
        rw [e]
        go_simp
    · have q2 : (s == s2) = false := by simpa using h2
      have e : decide (Ext.mk p s n = Ext.mk p2 s2 n2) = false := decide_eq_false (fun e => h2 (congrArg Ext.start e))
      rw [e]
      go_simp
  · have q1 : (p.toList == p2.toList) = false := seq_n h1
    have e : decide (Ext.mk p s n = Ext.mk p2 s2 n2) = false := decide_eq_false (fun e => h1 (congrArg Ext.path e))
    rw [e]
    go_simp
def twoE (x y : Ext) (g o g2 o2 : Nat) (z : World) : Prop := z.rangeAt g o (extA x).toList ∧ z.rangeAt g2 o2 (extA y).toList
theorem SlF.row {w wr : World} {B : Nat} {A : Option Addr} {L : List Ext} {k : Nat} {x : Ext} (h : 0 < L.length → ∃ g o, A = some ⟨g, o, none⟩ ∧ g < B ∧ ∀ j f, L[j]? = some f → w.rangeAt g (o + j * 3) (extC f)) (hb : Below B w wr) (hx : L[k]? = some x) :
    ∃ g o, A = some ⟨g, o, none⟩ ∧ g < B ∧ wr.rangeAt g (o + k * 3) (extA x).toList := by
  obtain ⟨g, o, e, hg, hc⟩ := h (Nat.lt_of_le_of_lt (Nat.zero_le _) (List.getElem?_eq_some_iff.1 hx).1)
  exact ⟨g, o, e, hg, range_below hb hg (hc k x hx)⟩
set_option maxRecDepth 100000 in
set_option maxHeartbeats 2000000 in
theorem feq_any (L M : List Ext) (v v2 : Value) (hL : L.length ≤ 1000000) (hM : M.length ≤ 1000000) (w : World) (ha : SlF w w.heap.size v L) (hb : SlF w w.heap.size v2 M) : Calls Tryz.prog 46 #[v, v2] w fun e w' => e = .returned (.bool (decide (L = M))) ∧ Below w.heap.size w w' := by
  obtain ⟨A, c, rfl, ha⟩ := ha
  obtain ⟨A2, c2, rfl, hb⟩ := hb
  have HA := hide ha
  have HB := hide hb
  clear ha hb
  have HL : Live w [] := trivial
  go_enter Tryz.func46, Tryz.ntmps46
  by_cases hlen : L.length = M.length
  case neg =>
    have HZ := hide (show decide (L = M) = false from decide_eq_false (fun e => hlen (by rw [e])))
    have q : ((L.length : Int) != (M.length : Int)) = true := by simp; omega
    have HQ := hide hlen
    clear hlen
    go_wp2_with fail
    go_ret
    exact ⟨ret_b HZ.out.symm, Below.refl _ _⟩
  case pos =>
  have HLN := hide hlen
  have q : ((L.length : Int) != (M.length : Int)) = false := by simp; omega
  clear hlen
  go_wp2_with fail
  go_loopw [13] (fun i wr => ∃ k : Nat, i = .int .i64 (k : Int) ∧ k ≤ L.length ∧ (L = M ↔ L.drop k = M.drop k) ∧ Below w.heap.size w wr) (fun i _ => L.length - (intOf i).toNat)
  case atStart => exact ⟨0, rfl, by omega, Iff.rfl, Below.refl _ _⟩
  case round =>
    obtain ⟨k, rfl, hk, hiff, hbel⟩ := hrel
    have HI := hide hiff
    clear hiff
    by_cases hlt : k < L.length
    case neg =>
      have HZ := hide (show decide (L = M) = true from decide_eq_true (HI.out.2 (by rw [List.drop_of_length_le (by omega), List.drop_of_length_le (by have := HLN.out; omega)])))
      go_wp2_with fail
      go_ret
      exact ⟨ret_b HZ.out.symm, hbel⟩
    case pos =>
    have hltM : k < M.length := by have := HLN.out; omega
    obtain ⟨x, hx⟩ : ∃ x, L[k]? = some x := ⟨_, List.getElem?_eq_getElem hlt⟩
    obtain ⟨y, hy⟩ : ∃ y, M[k]? = some y := ⟨_, List.getElem?_eq_getElem hltM⟩
    obtain ⟨g, o, rfl, hg, hc⟩ := SlF.row HA.out hbel hx
    obtain ⟨g2, o2, rfl, hg2, hc2⟩ := SlF.row HB.out hbel hy
    have hkeep : twoE x y g (o + k * 3) g2 (o2 + k * 3) wr ∧ True := ⟨⟨hc, hc2⟩, trivial⟩
    have hkeepd : twoE x y g (o + k * 3) g2 (o2 + k * 3) wr.drew ∧ True := ⟨⟨hc, hc2⟩, trivial⟩
    have HD := hide (drop_eq_cons hx hy)
    clear hx hy hc hc2
    go_upto_region 6 with fail
    obtain ⟨nq, hnq⟩ : ∃ nq, (!decide (x = y)) = nq := ⟨_, rfl⟩
    have HNQ := hide hnq
    clear hnq
    go_cut [24] (fun v wx => v = .bool nq ∧ wx = wr.drew)
    case first =>
      refine wp_region_noPanic ?_
      refine wp_region_held_drew (S := (fun z => twoE x y g (o + k * 3) g2 (o2 + k * 3) z ∧ True)) (by kernel_rfl) kp (fun hHeld => ?_)
      refine tkZ 0 ⟨some 16, .move (.tmp 0), 37, "slices.go:25", #[], none⟩ ?_
      refine tkZ 1 ⟨some 17, .move (.tmp 5), 3, "slices.go:25", #[], none⟩ ?_
      refine tkZ 2 ⟨some 18, .indexAddr 37 (.tmp 16) (.tmp 17), 0, "slices.go:25", #[⟨0, .data⟩, ⟨1, .data⟩], none⟩ ?_
      refine tkZ 3 ⟨some 19, .load 69 (.tmp 18), 69, "slices.go:25", #[⟨2, .data⟩], none⟩ ?_ (by intro w hSw; (try dsimp only at hSw); refine (exec_load_mid 69 (.tmp 18) (by rfl) g (o + k * 3) (by rfl) (extA x) _ hSw.1.1 Tryz.underlying69 (by rfl) (by exact infE3)).trans ?_; with_reducible rfl)
      refine tkZ 4 ⟨some 20, .move (.tmp 1), 37, "slices.go:25", #[], none⟩ ?_
      refine tkZ 5 ⟨some 21, .move (.tmp 5), 3, "slices.go:25", #[], none⟩ ?_
      refine tkZ 6 ⟨some 22, .indexAddr 37 (.tmp 20) (.tmp 21), 0, "slices.go:25", #[⟨4, .data⟩, ⟨5, .data⟩], none⟩ ?_
      refine tkZ 7 ⟨some 23, .load 69 (.tmp 22), 69, "slices.go:25", #[⟨6, .data⟩], none⟩ ?_ (by intro w hSw; (try dsimp only at hSw); refine (exec_load_mid 69 (.tmp 22) (by rfl) g2 (o2 + k * 3) (by rfl) (extA y) _ hSw.1.2 Tryz.underlying69 (by rfl) (by exact infE3)).trans ?_; with_reducible rfl)
      refine tkZ 8 ⟨some 24, .binOp .neq 69 (.tmp 19) (.tmp 23) 69, 4, "slices.go:25", #[⟨3, .data⟩, ⟨7, .data⟩], none⟩ ?_ (by intro w hSw; (try dsimp only at hSw); refine (exec_ext_neq x y (.tmp 19) (.tmp 23) (by rfl) (by rfl) (by rfl) nq HNQ.out).trans ?_; with_reducible rfl)
      refine wpAnyH_done (by kernel_rfl) ?_ _
      refine NoPanic.normal ?_
      go_wp2_with fail
      go_meet
      exact ⟨rfl, rfl⟩
    case rest =>
    obtain ⟨rfl, rfl⟩ := hcut
    clear hkeep hkeepd
    cases nq
    · have hxy : x = y := by simpa using HNQ.out
      have HE := hide (show (L = M ↔ L.drop (k + 1) = M.drop (k + 1)) by rw [HI.out, HD.out]; simp [hxy])
      clear hxy HD
      go_wp2_with fail
      go_roundw
      case rel => exact ⟨k + 1, by go_num, by omega, HE.out, hbel.drew⟩
      case measure => simp [intOf]; omega
    · have hxy : ¬ x = y := by simpa using HNQ.out
      have HE := hide (show decide (L = M) = false from decide_eq_false (fun e => hxy (HD.out.1 (HI.out.1 e)).1))
      clear hxy HD
      go_wp2_with fail
      go_ret
      exact ⟨ret_b HE.out.symm, hbel.drew⟩
end Go.Proofs.YtocgindpjjolpaaGreatDoor
