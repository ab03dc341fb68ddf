/- Contracts and plain words for the laws of this chapter, part 22: Rs, Rt1, Qa, Qb, X9. No condition. -/
import Derived.Test.YtocgindpjjolpaaGreatDoorO15
import Derived.Test.YtocgindpjjolpaaGreatDoorO21
import Derived.Test.YtocgindpjjolpaaGreatDoorO6
import Derived.Great.Walk
import Derived.Test.YtocgindpjjolpaaGreatDoorO0
import Derived.Test.YtocgindpjjolpaaGreatDoorO8
import Derived.Test.YtocgindpjjolpaaGreatDoorO10
import Derived.Test.YtocgindpjjolpaaGreatDoorO12
namespace Go.Proofs.YtocgindpjjolpaaGreatDoor
set_option linter.unusedSimpArgs false
set_option linter.unusedVariables false
open Go.RowKit Go.Shelf
theorem best1_any (fs : List ByteArray) (p : ByteArray) (fv : Value) (fb : Nat) (hl : fs.length ≤ 100000) (w : World) (hb : Blk w fb #[fv] 26) (hf : SlR w w.heap.size fv fs) :
    Calls Tryz.prog 61 #[.string p, .pointer (some ⟨fb, 0, none⟩)] w fun e w' => e = .returned (.bool (!(hasS fs p))) ∧ w = w' := by
  have CN := hide (contains_any fs p fv w.heap.size hl w hf)
  have c0 := hb.cells 0
  obtain ⟨A, c, rfl, -⟩ := hf
  clear hb
  have HL : Live w [] := trivial
  go_enter Tryz.func61, Tryz.ntmps61
  go_wp2_with (go_at_call 32; refine CN.out.mono ?_; rintro e w3 ⟨rfl, rfl⟩)
  go_ret
  exact ⟨rfl, rfl⟩
def IdxS (fs acc : List ByteArray) (w : World) (e : Ending) (w' : World) : Prop := ∃ i : Int, e = .returned (.int .i64 i) ∧ decide (0 ≤ i) = !(acc.all (hasS fs)) ∧ w = w'
set_option maxHeartbeats 1000000 in
theorem idxS_any (fs acc : List ByteArray) (fv av : Value) (fb : Nat) (hl : fs.length ≤ 100000) (hn : acc.length ≤ 100000) (w : World) (hb : Blk w fb #[fv] 26) (hf : SlR w w.heap.size fv fs) (ha : SlR w w.heap.size av acc) :
    Calls Tryz.prog 85 #[av, .func (.func 61) #[] #[.pointer (some ⟨fb, 0, none⟩)]] w (IdxS fs acc w) := by
  have BN := hide (fun p => best1_any fs p fv fb hl w hb hf)
  obtain ⟨A, c, rfl, ha⟩ := ha
  have HC := hide ha
  clear ha hb hf
  have HL : Live w [] := trivial
  go_enter Tryz.func85, Tryz.ntmps85
  go_wp2_with fail
  go_loop [8] (fun i => ∃ k : Nat, k ≤ acc.length ∧ i = .int .i64 k ∧ (acc.take k).all (hasS fs) = true) (fun i => acc.length - (intOf i).toNat)
  case atStart => exact ⟨0, by omega, rfl, rfl⟩
  case round =>
    obtain ⟨k, hk, rfl, ha⟩ := hrel
    have HA := hide ha
    clear ha
    by_cases hlt : k < acc.length
    · obtain ⟨x, hx⟩ : ∃ x, acc[k]? = some x := ⟨_, List.getElem?_eq_getElem hlt⟩
      obtain ⟨g, o, rfl, hg, hcl⟩ := HC.out (by omega)
      have hcell := hcl k x hx
      have HX := hide hx
      have BX := hide (BN.out x)
      clear hx hcl
      cases hb : hasS fs x
      · have HB := hide hb
        rw [hb] at BX
        go_wp2_with (go_at_call 61; refine BX.out.mono ?_; rintro e w3 ⟨rfl, rfl⟩)
        go_ret
        exact ⟨k, rfl, by
          have : acc.all (hasS fs) = false := by rw [List.all_eq_false]; exact ⟨x, List.mem_of_getElem? HX.out, by rw [HB.out]; simp⟩
          rw [this]; simp, rfl⟩
      · have HB := hide hb
        rw [hb] at BX
        go_wp2_with (go_at_call 61; refine BX.out.mono ?_; rintro e w3 ⟨rfl, rfl⟩)
        go_round
        case rel => exact ⟨k + 1, by omega, by go_num, by
          obtain ⟨hi, e⟩ := List.getElem?_eq_some_iff.1 HX.out
          rw [List.take_succ_eq_append_getElem hi, List.all_append, HA.out, e]; simp [HB.out]⟩
        case measure => simp [intOf]; omega
    · obtain rfl : k = acc.length := by omega
      go_wp2
      go_ret
      exact ⟨-1, rfl, by have := HA.out; rw [List.take_length] at this; rw [this]; rfl, rfl⟩
theorem contF_any (fs acc : List ByteArray) (fv av : Value) (fb : Nat) (hl : fs.length ≤ 100000) (hn : acc.length ≤ 100000) (w : World) (hb : Blk w fb #[fv] 26) (hf : SlR w w.heap.size fv fs) (ha : SlR w w.heap.size av acc) :
    Calls Tryz.prog 60 #[av, .func (.func 61) #[] #[.pointer (some ⟨fb, 0, none⟩)]] w fun e w' => e = .returned (.bool (!(acc.all (hasS fs)))) ∧ w = w' := by
  have IW := hide (idxS_any fs acc fv av fb hl hn w hb hf ha)
  obtain ⟨A, c, rfl, -⟩ := ha
  clear hb hf
  have HL : Live w [] := trivial
  go_enter Tryz.func60, Tryz.ntmps60
  go_wp2_with fail
  refine IW.out.mono ?_
  rintro e w' ⟨ix, rfl, hix, rfl⟩
  have HIX := hide hix
  clear hix
  go_wp2
  go_ret
  exact ⟨ret_b HIX.out, rfl⟩
theorem wpListIn_load_row {F : Fence} {n : Nat} {P : Program} {ops : Array Oper} {rest : List Oper} {o : Oper} {a : Act} {w : World} {Q : Exit → Act → World → Prop} (hgd : o.guard = none) (ty : TypeId) (x : Operand) (ho : o.op = .load ty x)
    (g : Nat) (hx : a.eval x = .pointer (some ⟨g, 0, none⟩)) (t : TypeId) (cs : Array Value) (fr : Nat × Nat) (d : TypeDesc) (hg : w.heap[g]? = some (.cells cs t fr))
    (hu : P.underlying ty = some d) (hd : (match d with | .struct _ | .array _ _ => true | _ => false) = true) (hi : (P.info? ty).map (·.size) = some cs.size)
    (h : wpListIn F n P ops Q rest (a.put o.dst (.agg cs)) w) : wpListIn F n P ops Q (o :: rest) a w := by
  refine wpListIn_plain hgd fun K hK => ?_
  unfold Oper.wpIn
  refine ⟨?_, ?_⟩
  · simp [Oper.about, ho]
  · rw [Oper.semAt_plain F _ _ (by rw [ho]; intro c hc'; cases hc')]
    rw [exec_load_row ty x ho g hx t cs fr d hg hu hd hi]
    exact hK _ _ h
theorem ordersL_lt {n : Nat} : ∀ (k : Nat) (l : List Nat), (∀ i ∈ l, i < n) → ∀ x ∈ ordersL n k l, x.length = n ∧ ∀ i ∈ x, i < n
  | 0, l, hl, x, hx => by
    rw [ordersL] at hx
    split at hx
    · rename_i h
      rw [List.mem_singleton] at hx
      subst hx
      exact ⟨h, hl⟩
    · cases hx
  | k + 1, l, hl, x, hx => by
    rw [ordersL] at hx
    split at hx
    · rename_i h
      rw [List.mem_singleton] at hx
      subst hx
      exact ⟨h, hl⟩
    · obtain ⟨i, hi, hx⟩ := List.mem_flatMap.1 hx
      split at hx
      · cases hx
      · refine ordersL_lt k _ (fun j hj => ?_) x hx
        rcases List.mem_append.1 hj with h1 | h1
        · exact hl j h1
        · rw [List.mem_singleton] at h1
          rw [h1]
          exact List.mem_range.1 hi
theorem namesAt_len (fs : List ByteArray) (l : List Nat) : (namesAt fs l).length = l.length := List.length_map _
theorem namesAt_take {fs : List ByteArray} {l : List Nat} {k i : Nat} {s : ByteArray} (h : l[k]? = some i) (hs : fs[i]? = some s) : namesAt fs (l.take (k + 1)) = namesAt fs (l.take k) ++ [s] := by
  unfold namesAt
  rw [List.take_add_one, h, List.map_append]
  simp [hs]
theorem namesAt_mem {fs : List ByteArray} {l : List Nat} {p : ByteArray} (h : ∀ i ∈ l, i < fs.length) (hp : p ∈ namesAt fs l) : p ∈ fs := by
  obtain ⟨i, hi, rfl⟩ := List.mem_map.1 hp
  rw [List.getElem?_eq_getElem (h i hi)]
  exact List.getElem_mem _
theorem placeL_ok {t : Tr} (hsz : t.sz ≤ 120000) : ∀ (l : List ByteArray) (a : Int) (out r : List Ext), placeL t l a out = some r → (∀ f ∈ out, extOK f) → (∀ p ∈ l, p.size ≤ 2000000) → 0 ≤ a → (∀ f ∈ r, extOK f) ∧ r.length = out.length + l.length
  | [], a, out, r, h, ho, _, _ => by
    rw [placeL] at h
    injection h with h
    subst h
    exact ⟨ho, rfl⟩
  | p :: l, a, out, r, h, ho, hp, ha => by
    rw [placeL] at h
    split at h
    · cases h
    · rename_i hn
      have hln := lenP_le hsz (by decide) p
      have hb := blocks_rng (n := (lenP t p : Int)) (by omega)
      obtain ⟨h1, h2⟩ := placeL_ok hsz l _ _ r h (fun f hf => by
        rcases List.mem_append.1 hf with h1 | h1
        · exact ho f h1
        · rw [List.mem_singleton] at h1
          subst h1
          exact ⟨⟨by show _ ≤ a; omega, by show a ≤ _; omega⟩, ⟨by show _ ≤ (lenP t p : Int); omega, by show (lenP t p : Int) ≤ _; omega⟩, hp p (List.mem_cons_self ..)⟩) (fun q hq => hp q (List.mem_cons_of_mem _ hq)) (by omega)
      refine ⟨h1, ?_⟩
      rw [h2, List.length_append, List.length_cons, List.length_cons, List.length_nil]
      omega
theorem placeT_ok {t : Tr} (hsz : t.sz ≤ 120000) {o : List ByteArray} {s : Int} (hp : ∀ p ∈ o, p.size ≤ 2000000) : (∀ f ∈ (placeT t o s).1, extOK f) ∧ (placeT t o s).1.length ≤ o.length := by
  by_cases h : validB t = true ∧ 0 ≤ s ∧ sameB o (filesT t) = true
  · rw [placeT_yes h]
    cases hq : placeL t o s [] with
    | none => exact ⟨fun f hf => absurd hf (by simp), Nat.zero_le _⟩
    | some r =>
      obtain ⟨h1, h2⟩ := placeL_ok hsz o s [] r hq (by simp) hp h.2.1
      exact ⟨h1, by show r.length ≤ _; rw [h2]; simp⟩
  · rw [placeT_no h]
    exact ⟨fun f hf => absurd hf (by simp), Nat.zero_le _⟩
theorem bestF_err {t : Tr} {acc fs : List ByteArray} {x : List Nat} {suf : List (List Nat)} {b : List ByteArray} {m : Int} (h : (placeT t (namesAt fs x) 0).2 ≠ 0) : bestF t acc fs (x :: suf) b m = ([], (placeT t (namesAt fs x) 0).2) := by
  rw [bestF, if_pos h]
theorem bestF_new {t : Tr} {acc fs : List ByteArray} {x : List Nat} {suf : List (List Nat)} {b : List ByteArray} {m : Int} (h : ¬ (placeT t (namesAt fs x) 0).2 ≠ 0) (h2 : m < 0 ∨ (costT (placeT t (namesAt fs x) 0).1 acc).1 < m) :
    bestF t acc fs (x :: suf) b m = bestF t acc fs suf (namesAt fs x) (costT (placeT t (namesAt fs x) 0).1 acc).1 := by
  rw [bestF, if_neg h, if_pos h2]
theorem bestF_old {t : Tr} {acc fs : List ByteArray} {x : List Nat} {suf : List (List Nat)} {b : List ByteArray} {m : Int} (h : ¬ (placeT t (namesAt fs x) 0).2 ≠ 0) (h2 : ¬ (m < 0 ∨ (costT (placeT t (namesAt fs x) 0).1 acc).1 < m)) :
    bestF t acc fs (x :: suf) b m = bestF t acc fs suf b m := by
  rw [bestF, if_neg h, if_neg h2]
theorem drop_at {α : Type} {xs pre suf : List α} {x : α} (h : xs = pre ++ x :: suf) : xs.drop pre.length = x :: suf ∧ xs.drop (pre ++ [x]).length = suf := by
  subst h
  refine ⟨List.drop_left' rfl, ?_⟩
  rw [show pre ++ x :: suf = (pre ++ [x]) ++ suf by simp]
  exact List.drop_left' rfl
end Go.Proofs.YtocgindpjjolpaaGreatDoor
namespace Go.Proofs.YtocgindpjjolpaaGreatDoor
set_option linter.unusedSimpArgs false
set_option linter.unusedVariables false
def exD : ByteArray := ⟨(List.replicate 3000 120).toArray⟩
def exF (n d : ByteArray) (wt : Int) : Hd := ⟨n, 1, d, eS, 0, 0, 0, 315532800, wt, 0⟩
def exA : ByteArray := ⟨#[97]⟩
def exBn : ByteArray := ⟨#[98]⟩
def exCn : ByteArray := ⟨#[99]⟩
def exDn : ByteArray := ⟨#[100]⟩
def exDB : ByteArray := ⟨#[100, 47, 98]⟩
def exY : ByteArray := ⟨#[121]⟩
def exN : ByteArray := ⟨#[48, 49, 50, 51, 52, 53, 54, 55, 56, 57]⟩
def exDir : Hd := ⟨exDn, 0, eS, eS, 0, 0, 0, 315532800, 0, 0⟩
def exH : Hd := ⟨eS, 0, eS, eS, 0, 0, 0, 315532800, 0, 0⟩
def exTd (d : ByteArray) : Tr := ⟨exH, [], .node (exF exA d 0) [] .nil (.node (exF exCn exY 0) [] .nil (.node exDir [] (.node (exF exBn exN 5) [] .nil .nil) .nil))⟩
def exT : Tr := exTd exD
theorem ex_files : filesT exT = [exA, exCn, exDB] := by decide +kernel
theorem ex_byW : byW exT = [exDB, exA, exCn] := by decide +kernel
theorem ex_byA : byA exT [exCn] = [exCn, exDB, exA] := by decide +kernel
theorem ex_place : placeT exT [exDB, exA, exCn] 20 = ([⟨exDB, 20, 10⟩, ⟨exA, 21, 3000⟩, ⟨exCn, 23, 1⟩], 0) := by decide +kernel
theorem ex_cost : costT [⟨exDB, 20, 10⟩, ⟨exA, 21, 3000⟩, ⟨exCn, 23, 1⟩] [exCn, exA] = (26, 0) := by decide +kernel
theorem ex_best : bestT exT [exCn, exA] = ([exCn, exA, exDB], 0) := by decide +kernel
theorem ex_sz : exT.sz ≤ 5000 := by decide +kernel
end Go.Proofs.YtocgindpjjolpaaGreatDoor
namespace Go.Proofs.YtocgindpjjolpaaGreatDoor
set_option linter.unusedSimpArgs false
set_option linter.unusedVariables false
open Go.RowKit Go.Shelf
theorem Builder_Extra_105 : Builder.Extra Tryz.prog Tryz.lays105_ren := {
  sizeBuilder := by kernel_rfl
  liesBuilder := by kernel_rfl
  t5 := Tryz.underlying5
  a5 := Tryz.isAgg5
  z5 := Tryz.sizeOf5
  v5 := Tryz.zeroValue5
  infoByte := by kernel_rfl
  cellsByte := by kernel_rfl
  sizeByte := by kernel_rfl
  neB5 := by decide }
theorem repX (w : World) : Calls Tryz.prog 74 #[.string ⟨#[120]⟩, .int .i64 3000] w fun e w' => e = .returned (.string exD) ∧ Below w.heap.size w w' := by
  have h := Any.strings_Repeat Tryz.lays105 Builder_Extra_105 ⟨#[120]⟩ 3000 w (by omega) (by decide)
  refine h.mono fun e w' ⟨h1, h2⟩ => ⟨?_, h2⟩
  rw [h1]
  have e : Lib.repeatL [120] 3000 = List.replicate 3000 120 := by
    have := Lib.repeatL_replicate 120 1 3000
    rwa [Nat.mul_one] at this
  show Ending.returned (.string ⟨(Lib.repeatL [120] 3000).toArray⟩) = _
  rw [e]
  rfl
abbrev nilV : Value := .slice none 0 0
theorem built_file (n d : ByteArray) (wt : Int) : Tryz.prog.built 25 [(0, .string n), (1, .int .i64 1), (2, .string d), (7, .int .i64 315532800), (8, .int .i64 wt)] = some ((exF n d wt).cells nilV nilV) := by kernel_rfl
theorem built_dir (g : Nat) : Tryz.prog.built 25 [(0, .string ⟨#[100]⟩), (7, .int .i64 315532800), (10, .slice (some ⟨g, 0, none⟩) 1 1)] = some (exDir.cells (.slice (some ⟨g, 0, none⟩) 1 1) nilV) := by kernel_rfl
theorem built_root (g : Nat) : Tryz.prog.built 25 [(7, .int .i64 315532800), (10, .slice (some ⟨g, 0, none⟩) 3 3)] = some (exH.cells (.slice (some ⟨g, 0, none⟩) 3 3) nilV) := by kernel_rfl
def row3 (d : ByteArray) (g : Nat) : Array Value := ⟨((exF exA d 0).cells nilV nilV).toList ++ (((exF exCn exY 0).cells nilV nilV).toList ++ (exDir.cells (.slice (some ⟨g, 0, none⟩) 1 1) nilV).toList)⟩
theorem built_row3 (d : ByteArray) (g : Nat) : Tryz.prog.builtSlice 25 3 [(0, .agg ((exF ⟨#[97]⟩ d 0).cells nilV nilV)), (1, .agg ((exF ⟨#[99]⟩ ⟨#[121]⟩ 0).cells nilV nilV)), (2, .agg (exDir.cells (.slice (some ⟨g, 0, none⟩) 1 1) nilV))] = some (row3 d g) := by kernel_rfl
theorem kid0 (W : World) (B : Nat) : KidR W B nilV .nil := ⟨none, 0, rfl, fun h => absurd h (Nat.lt_irrefl _)⟩
theorem str0 (W : World) (B : Nat) : StR W B nilV [] := ⟨none, 0, rfl, fun h => absurd h (Nat.lt_irrefl _)⟩
theorem row3_get (d : ByteArray) (g i : Nat) : (row3 d g)[i]? = (((exF exA d 0).cells nilV nilV).toList ++ (((exF exCn exY 0).cells nilV nilV).toList ++ (exDir.cells (.slice (some ⟨g, 0, none⟩) 1 1) nilV).toList))[i]? := by rw [← Array.getElem?_toList]; rfl
theorem c12 (h : Hd) (kv sv : Value) : (h.cells kv sv).toList.length = 12 := rfl
theorem row3_0 {d : ByteArray} {g j : Nat} {u : Value} (h : ((exF exA d 0).cells nilV nilV).toList[j]? = some u) : (row3 d g)[0 + j]? = some u := by
  have hj := (List.getElem?_eq_some_iff.1 h).1
  rw [row3_get, Nat.zero_add, List.getElem?_append_left hj]
  exact h
theorem row3_1 {d : ByteArray} {g j : Nat} {u : Value} (h : ((exF exCn exY 0).cells nilV nilV).toList[j]? = some u) : (row3 d g)[0 + 12 + j]? = some u := by
  have hj := (List.getElem?_eq_some_iff.1 h).1
  rw [row3_get, List.getElem?_append_right (by rw [c12]; omega), c12, show 0 + 12 + j - 12 = j by omega, List.getElem?_append_left hj]
  exact h
theorem row3_2 {d : ByteArray} {g j : Nat} {u : Value} (h : (exDir.cells (.slice (some ⟨g, 0, none⟩) 1 1) nilV).toList[j]? = some u) : (row3 d g)[0 + 12 + 12 + j]? = some u := by
  rw [row3_get, List.getElem?_append_right (by rw [c12]; omega), c12, show 0 + 12 + 12 + j - 12 = 12 + j by omega, List.getElem?_append_right (by rw [c12]; omega), c12, show 12 + j - 12 = j by omega]
  exact h
theorem rangeAt_of {w : World} {g o : Nat} {l : List Value} (h : ∀ j u, l[j]? = some u → w.cell? ⟨g, o + j, none⟩ = some u) : w.rangeAt g o l := h
theorem wpList_build3 {ops : Array Oper} {rest : List Oper} {o : Oper} {a : Act} {w : World} {Q : Exit → Act → World → Prop} (hg : o.guard = none) (x y z : Operand) (ho : o.op = .buildSlice 22 3 #[(0, x), (1, y), (2, z)]) {vx vy vz : Value} (hx : a.eval x = vx) (hy : a.eval y = vy) (hz : a.eval z = vz)
    (cells : Array Value) (hf : Tryz.prog.builtSlice 25 3 [(0, vx), (1, vy), (2, vz)] = some cells)
    (h : wpList Tryz.prog ops Q rest (a.put o.dst (.slice (some ⟨w.heap.size, 0, none⟩) 3 3)) (w.alloc (.cells cells 25))) : wpList Tryz.prog ops Q (o :: rest) a w := by
  refine Great.wpList_buildSliceTo hg 22 25 3 _ ho _ rfl _ rfl Tryz.underlying22 cells ?_ h
  rw [← hf, ← hx, ← hy, ← hz]
  simp
theorem ex_treeD {d : ByteArray} {W : World} {g1 g2 B : Nat} (h1 : Blk W g1 ((exF exBn exN 5).cells nilV nilV) 25) (h2 : Blk W g2 (row3 d g1) 25) (l1 : g1 < B) (l2 : g2 < B) : TreeR W B (.agg (exH.cells (.slice (some ⟨g2, 0, none⟩) 3 3) nilV)) (exTd d) := by
  refine ⟨_, _, rfl, str0 _ _, some ⟨g2, 0, none⟩, 3, rfl, fun _ => ⟨g2, 0, rfl, l2, ⟨_, _, rangeAt_of fun j u hj => ?_, str0 _ _, kid0 _ _⟩, ⟨_, _, rangeAt_of fun j u hj => ?_, str0 _ _, kid0 _ _⟩, ⟨_, _, rangeAt_of fun j u hj => ?_, str0 _ _, some ⟨g1, 0, none⟩, 1, rfl, fun _ => ⟨g1, 0, rfl, l1, ⟨_, _, rangeAt_of fun j u hj => ?_, str0 _ _, kid0 _ _⟩, trivial⟩⟩, trivial⟩⟩
  · exact (h2.cells _).trans (row3_0 hj)
  · exact (h2.cells _).trans (row3_1 hj)
  · exact (h2.cells _).trans (row3_2 hj)
  · rw [Nat.zero_add]
    exact (h1.cells j).trans (by rw [← Array.getElem?_toList]; exact hj)
theorem setRow_size (w : World) (b : Nat) (cs : Array Value) : (w.setRow b cs).heap.size = w.heap.size := by simp [World.setRow]
theorem exT_is : exT = exTd exD := rfl
set_option maxRecDepth 100000 in
set_option maxHeartbeats 2000000 in
theorem file_any (n d : ByteArray) (wt : Int) (w : World) : Calls Tryz.prog 73 #[.string n, .string d, .int .i64 wt] w fun e w' => e = .returned (.agg ((exF n d wt).cells nilV nilV)) ∧ Below w.heap.size w w' := by
  have HL : Live w [] := trivial
  go_enter Tryz.func73, Tryz.ntmps73
  go_upto_region 1 with fail
  have hbel1 : Below w.heap.size w (w.alloc (.cells zeroN 25)) := (Below.refl _ _).alloc (Nat.le_refl _) _
  have HB := hide (show Blk (w.alloc (.cells zeroN 25)) w.heap.size zeroN 25 from Blk.newAt rfl)
  unfold zeroN at hbel1
  generalize hW : w.alloc (.cells #[.string ⟨#[]⟩, .int .i64 0, .string ⟨#[]⟩, .string ⟨#[]⟩, .int .i64 0, .int .i64 0, .int .i64 0, .int .i64 0, .int .i64 0, .int .i64 0, .slice none 0 0, .slice none 0 0] 25) = W1 at *
  (try rw [show w.alloc (.cells zeroN 25) = W1 from hW] at HB)
  clear hW
  obtain ⟨b, hb⟩ : ∃ b, b = w.heap.size := ⟨_, rfl⟩
  have hbw : w.heap.size ≤ b := by omega
  rw [← hb] at HB ⊢
  clear hb
  have hz := hbel1.size
  go_wp2_with ((with_reducible show wpList _ _ _ _ _ _); (first | (refine wpList_build_is rfl 25 #[(0, .tmp 7), (1, .const (.int .i64 1)), (2, .tmp 8), (7, .const (.int .i64 315532800)), (8, .tmp 9)] rfl _ rfl _ (built_file n d wt) ?_) | (refine wpList_store_row rfl 25 (.tmp 6) (.tmp 10) rfl b ((exF n d wt).cells nilV nilV) rfl rfl 25 zeroN HB.out (infN rfl) rfl (nodeLit _ _ _ _ _ _ _) ?_)))
  show bodyPost Tryz.prog Tryz.f73 _ .ret _ _
  refine bodyPost_ret (results_cell_row Tryz.results73 _ _ b 25 ((exF n d wt).cells nilV nilV) (0, 0) _ rfl (setRow_heap _ _ _ _ _ _ HB.out) Tryz.underlying25 rfl (infN rfl)) rfl ?_
  exact ⟨rfl, hbel1.trans ((FrO.setRow (O := fun j => j = b) rfl).below hz fun j hj => by omega)⟩
set_option maxRecDepth 100000 in
set_option maxHeartbeats 400000 in
theorem tree_any (w : World) : Calls Tryz.prog 45 #[] w fun e w' => ∃ v, e = .returned v ∧ TreeR w' w'.heap.size v exT ∧ Below w.heap.size w w' := by
  suffices H : ∀ (T : Tr) (d : ByteArray), T = exTd d → (∀ w : World, Calls Tryz.prog 74 #[.string ⟨#[120]⟩, .int .i64 3000] w fun e w' => e = .returned (.string d) ∧ Below w.heap.size w w') → Calls Tryz.prog 45 #[] w fun e w' => ∃ v, e = .returned v ∧ TreeR w' w'.heap.size v T ∧ Below w.heap.size w w' from H exT exD exT_is repX
  intro T d hTd RX0
  have RX := hide RX0
  subst hTd
  have hTE := hide (fun (W : World) (g1 g2 B : Nat) h1 h2 h3 h4 => ex_treeD (d := d) (W := W) (g1 := g1) (g2 := g2) (B := B) h1 h2 h3 h4)
  have HL : Live w [] := trivial
  go_enter Tryz.func45, Tryz.ntmps45
  go_upto_region 2 with fail
  have hbel1 : Below w.heap.size w (w.alloc (.cells zeroN 25)) := (Below.refl _ _).alloc (Nat.le_refl _) _
  have HB := hide (show Blk (w.alloc (.cells zeroN 25)) w.heap.size zeroN 25 from Blk.newAt rfl)
  unfold zeroN at hbel1
  generalize hW : w.alloc (.cells #[.string ⟨#[]⟩, .int .i64 0, .string ⟨#[]⟩, .string ⟨#[]⟩, .int .i64 0, .int .i64 0, .int .i64 0, .int .i64 0, .int .i64 0, .int .i64 0, .slice none 0 0, .slice none 0 0] 25) = W1 at *
  (try rw [show w.alloc (.cells zeroN 25) = W1 from hW] at HB)
  clear hW
  obtain ⟨b, hb⟩ : ∃ b, b = w.heap.size := ⟨_, rfl⟩
  have hbw : w.heap.size ≤ b := by omega
  rw [← hb] at HB ⊢
  clear hb
  have hz := hbel1.size
  go_wp2_with (first | (go_at_call 74; refine (RX.out _).mono ?_; rintro e w2 ⟨rfl, hb2⟩; have HB2 := hide (hbel1.trans (hb2.mono hz)); have HBW := hide (Blk.below hb2 HB.out)) | (go_at_call 73; refine (file_any _ _ _ _).mono ?_; rintro e w5 ⟨rfl, hb3⟩; replace HB2 := hide (HB2.out.trans (hb3.mono HB2.out.size)); replace HBW := hide (Blk.below hb3 HBW.out); clear hb3) | ((with_reducible show wpList _ _ _ (Oper.mk (some 9) _ _ _ _ _ :: _) _ _); refine wpList_buildNode rfl (.tmp 8) rfl (exF ⟨#[98]⟩ ⟨#[48, 49, 50, 51, 52, 53, 54, 55, 56, 57]⟩ 5) nilV nilV rfl ?_) | ((with_reducible show wpList _ _ _ (Oper.mk (some 10) _ _ _ _ _ :: _) _ _); refine wpList_build_is rfl 25 #[(0, .const (.string ⟨#[100]⟩)), (7, .const (.int .i64 315532800)), (10, .tmp 9)] rfl _ rfl _ (built_dir w5.heap.size) ?_) | ((with_reducible show wpList _ _ _ (Oper.mk (some 11) _ _ _ _ _ :: _) _ _); refine wpList_build3 rfl (.tmp 4) (.tmp 6) (.tmp 10) rfl rfl rfl rfl (row3 d w5.heap.size) (built_row3 d w5.heap.size) ?_) | ((with_reducible show wpList _ _ _ (Oper.mk (some 12) _ _ _ _ _ :: _) _ _); refine wpList_build_is rfl 25 #[(7, .const (.int .i64 315532800)), (10, .tmp 11)] rfl _ rfl _ (built_root (w5.heap.size + 1)) ?_) | ((with_reducible show wpList _ _ _ (Oper.mk none (Op.store _ _ _) _ _ _ _ :: _) _ _); refine wpList_store_row rfl 25 (.tmp 0) (.tmp 12) rfl b (exH.cells (.slice (some ⟨w5.heap.size + 1, 0, none⟩) 3 3) nilV) rfl rfl 25 zeroN ((HBW.out.alloc _).alloc _) (infN rfl) rfl (nodeLit _ _ _ _ _ _ _) ?_))
  have hbw5 := HBW.out.lt
  have HBX := hide ((HBW.out.alloc (.cells ((exF ⟨#[98]⟩ ⟨#[48, 49, 50, 51, 52, 53, 54, 55, 56, 57]⟩ 5).cells nilV nilV) 25)).alloc (.cells (row3 d w5.heap.size) 25))
  have hbel6 : Below w.heap.size w ((w5.alloc (.cells ((exF ⟨#[98]⟩ ⟨#[48, 49, 50, 51, 52, 53, 54, 55, 56, 57]⟩ 5).cells nilV nilV) 25)).alloc (.cells (row3 d w5.heap.size) 25)) := (HB2.out.alloc HB2.out.size _).alloc (by rw [World.size_alloc]; have := HB2.out.size; omega) _
  show bodyPost Tryz.prog Tryz.f45 _ .ret _ _
  refine bodyPost_ret (results_cell_row Tryz.results45 _ _ b 25 (exH.cells (.slice (some ⟨w5.heap.size + 1, 0, none⟩) 3 3) nilV) (0, 0) _ rfl (setRow_heap _ _ _ _ _ _ HBX.out) Tryz.underlying25 rfl (infN rfl)) rfl ?_
  refine ⟨_, rfl, hTE.out _ w5.heap.size _ _ ?_ ?_ ?_ ?_, hbel6.trans ((FrO.setRow (O := fun j => j = b) rfl).below hbel6.size fun j hj => by omega)⟩
  · exact (setRow_other _ _ _ _ (by omega)).trans ((Blk.newAt rfl).alloc _)
  · exact (setRow_other _ _ _ _ (by omega)).trans (Blk.newAt (World.size_alloc _ _))
  · rw [setRow_size, World.size_alloc, World.size_alloc]; omega
  · rw [setRow_size, World.size_alloc, World.size_alloc]; omega
end Go.Proofs.YtocgindpjjolpaaGreatDoor
namespace Go.Proofs.YtocgindpjjolpaaGreatDoor
set_option linter.unusedSimpArgs false
set_option linter.unusedVariables false
open Go.RowKit
theorem rsplitS (s : ByteArray) (hs : s.size ≤ 2000000) (w : World) : Calls Tryz.prog 66 #[.string s, .int .u8 47] w fun e w' => ∃ v, e = .returned v ∧ StrsR w' w.heap.size v (words s) ∧ Below w.heap.size w w' :=
  (rsplit_any s hs w).mono fun e w' ⟨v, h1, h2, h3⟩ => ⟨v, h1, by
    have e := words_strs s
    have el : (words s).length = (partsL s.data.toList []).length := by
      have := congrArg List.length e
      unfold strsOf at this
      simpa using this
    unfold StrsR strV
    rw [e, el]
    exact h2, h3⟩
set_option maxRecDepth 100000 in
set_option maxHeartbeats 4000000 in
theorem rget_any (t : Tr) (p : ByteArray) (hsz : t.sz ≤ 120000) (hp : p.size ≤ 2000000) (v : Value) (w : World) (hv : TreeR w w.heap.size v t) : Calls Tryz.prog 35 #[v, .string p] w fun e w' => ∃ r, e = .returned (.tuple #[r, .int .i64 (getT t p).2]) ∧ TreeR w' w'.heap.size r (getT t p).1 ∧ Below w.heap.size w w' := by
  have VN := hide (fun W hW => rvalid_any t (Or.inl hsz) v W hW)
  have HV := hide hv
  obtain ⟨A, c, A2, c2, rfl, hkl, hstl⟩ := hv.openL
  clear hv hkl hstl
  have HL : Live w [] := trivial
  go_enter Tryz.func35, Tryz.ntmps35
  go_upto_region 1 with fail
  have HB := hide (show Blk ((w.alloc (.cells (t.h.cells (.slice A t.ks.len c) (.slice A2 t.ss.length c2)) 25)).alloc (.cells zeroN 25)) w.heap.size (t.h.cells (.slice A t.ks.len c) (.slice A2 t.ss.length c2)) 25 from (Blk.newAt rfl).alloc _)
  have HR := hide (show Blk ((w.alloc (.cells (t.h.cells (.slice A t.ks.len c) (.slice A2 t.ss.length c2)) 25)).alloc (.cells zeroN 25)) (w.heap.size + 1) zeroN 25 from Blk.newAt (by rw [World.size_alloc]))
  have hbel1 : Below w.heap.size w ((w.alloc (.cells (t.h.cells (.slice A t.ks.len c) (.slice A2 t.ss.length c2)) 25)).alloc (.cells zeroN 25)) := ((Below.refl _ _).alloc (Nat.le_refl _) _).alloc (by rw [World.size_alloc]; omega) _
  obtain ⟨W1, hW1⟩ : ∃ W1, W1 = (w.alloc (.cells (t.h.cells (.slice A t.ks.len c) (.slice A2 t.ss.length c2)) 25)).alloc (.cells zeroN 25) := ⟨_, rfl⟩
  rw [← hW1] at HB HR hbel1
  unfold zeroN at hW1
  rw [← hW1]
  clear hW1
  obtain ⟨r, hr⟩ : ∃ r, r = w.heap.size + 1 := ⟨_, rfl⟩
  rw [← hr] at HR ⊢
  obtain ⟨b, hb⟩ : ∃ b, b = w.heap.size := ⟨_, rfl⟩
  rw [← hb] at HB ⊢
  have hlo : b ≠ r ∧ w.heap.size ≤ b ∧ w.heap.size ≤ r := by omega
  obtain ⟨hbr, hwb, hwr⟩ := hlo
  clear hb hr
  have HV1 := hide (HV.out.own_below hbel1)
  have BZ := hide built_zero
  cases hvb : validB t
  case false =>
    have HZ := hide (getT_no (p := p) hvb)
    rw [hvb] at VN
    clear hvb
    go_wp2_with (first | (refine wpList_load_row rfl 25 (.tmp 2) rfl b rfl 25 (t.h.cells (.slice A t.ks.len c) (.slice A2 t.ss.length c2)) (0, 0) _ HB.out Tryz.underlying25 rfl (infN rfl) ?_) | (go_at_call 31; refine (VN.out _ HV1.out).mono ?_; rintro e w3 ⟨rfl, hb3⟩; have HR3 := hide (Blk.below hb3 HR.out)) | (refine wpList_build_is rfl 25 #[] rfl [] (by simp) _ BZ.out ?_) | (refine wpList_store_row rfl 25 (.tmp 4) (.tmp 12) rfl r zeroN rfl rfl 25 zeroN HR3.out (infN rfl) rfl (by kernel_rfl) ?_))
    refine bodyPost_ret (results_cell2 rfl _ _ r 25 zeroN (0, 0) _ rfl (setRow_heap _ _ _ _ _ _ HR3.out) (.int .i64 1) rfl Tryz.underlying25 rfl (infN rfl)) rfl ?_
    exact ⟨_, by rw [HZ.out], by rw [HZ.out]; exact zero_reads _ _, (hbel1.trans (hb3.mono hbel1.size)).trans ((FrO.setRow (O := fun j => j = r) rfl).below (by have := hbel1.size; have := hb3.size; omega) fun j hj => by subst hj; exact hwr)⟩
  case true =>
  have HP2 := hide (getT_yes (p := p) hvb)
  rw [hvb] at VN
  clear hvb
  by_cases hpe : p = eS
  case pos =>
    have HZ := hide (show getT t p = (t, 0) from HP2.out.1 t (by unfold partsP; rw [if_pos hpe]; rfl))
    subst hpe
    go_wp2_with (first | (refine wpList_load_row rfl 25 (.tmp 2) rfl b rfl 25 (t.h.cells (.slice A t.ks.len c) (.slice A2 t.ss.length c2)) (0, 0) _ HB.out Tryz.underlying25 rfl (infN rfl) ?_) | (refine wpList_load_row rfl 25 (.tmp 2) rfl b rfl 25 (t.h.cells (.slice A t.ks.len c) (.slice A2 t.ss.length c2)) (0, 0) _ HB3.out Tryz.underlying25 rfl (infN rfl) ?_) | (go_at_call 31; refine (VN.out _ HV1.out).mono ?_; rintro e w3 ⟨rfl, hb3⟩; have HR3 := hide (Blk.below hb3 HR.out); have HB3 := hide (Blk.below hb3 HB.out)) | (refine wpList_store_row rfl 25 (.tmp 4) (.tmp 15) rfl r (t.h.cells (.slice A t.ks.len c) (.slice A2 t.ss.length c2)) rfl rfl 25 zeroN HR3.out (infN rfl) rfl (nodeLit _ _ _ _ _ _ _) ?_))
    refine bodyPost_ret (results_cell2 rfl _ _ r 25 (t.h.cells (.slice A t.ks.len c) (.slice A2 t.ss.length c2)) (0, 0) _ rfl (setRow_heap _ _ _ _ _ _ HR3.out) (.int .i64 0) rfl Tryz.underlying25 rfl (infN rfl)) rfl ?_
    have hbel9 := (hbel1.trans (hb3.mono hbel1.size)).trans ((FrO.setRow (O := fun j => j = r) (cs := t.h.cells (.slice A t.ks.len c) (.slice A2 t.ss.length c2)) rfl).below (B := w.heap.size) (by have := hbel1.size; have := hb3.size; omega) fun j hj => by subst hj; exact hwr)
    exact ⟨_, by rw [HZ.out], by rw [HZ.out]; exact HV.out.own_below hbel9, hbel9⟩
  case neg =>
  have hpp : partsP p = words p := by unfold partsP; rw [if_neg hpe]
  rw [hpp] at HP2
  have q1 : (p.toList == []) = false := by
    rw [beq_eq_false_iff_ne]
    exact fun e => hpe (nil_list e)
  have hwl := words_len p
  have hmx : (words p).length ≤ 2000001 := by rw [hwl]; have := Lib.countB_le slash (by decide) p.size p (Nat.le_refl _); omega
  have SP := hide (fun W => rsplitS p hp W)
  clear hpe hpp hwl
  go_upto_region 6 with (first | (refine wpList_load_row rfl 25 (.tmp 2) rfl b rfl 25 (t.h.cells (.slice A t.ks.len c) (.slice A2 t.ss.length c2)) (0, 0) _ HB.out Tryz.underlying25 rfl (infN rfl) ?_) | (go_at_call 31; refine (VN.out _ HV1.out).mono ?_; rintro e w3 ⟨rfl, hb3⟩) | (go_at_call 66; refine (SP.out _).mono ?_; rintro e w4 ⟨r4, rfl, hr4, hb4⟩; have HSL := hide (SlR.of hr4); obtain ⟨A5, c5, rfl⟩ := own_slice hr4))
  have hbel3 := hbel1.trans (hb3.mono hbel1.size)
  have hbel4 := hbel3.trans (hb4.mono hbel3.size)
  have HB4 := hide (Blk.below hb4 (Blk.below hb3 HB.out))
  have HR4 := hide (Blk.below hb4 (Blk.below hb3 HR.out))
  have hsb : ∀ g, (Value.slice A5 (words p).length c5).ownBlock = some g → b ≠ g := fun g e => by have := (hr4.lt g e).1; have := (Blk.below hb3 HB.out).lt; omega
  have HSB := hide hsb
  clear HB HR HV1 hbel1 hb3 hb4 hr4 VN SP hbel3 hsb
  generalize words p = ps at *
  go_wp2_with fail
  go_loopw [7] (fun i wr => ∃ (k : Nat) (x : Tr) (kv sv : Value), i = .int .i64 (k : Int) ∧ k ≤ ps.length ∧ Blk wr b (x.h.cells kv sv) 25 ∧ Blk wr r zeroN 25 ∧ TreeR w w.heap.size (.agg (x.h.cells kv sv)) x ∧ x.sz ≤ 120000 ∧ findT t ps = findT x (ps.drop k) ∧ FrO (fun j => j = b) w4 wr) (fun i _ => ps.length - (intOf i).toNat)
  case atStart => exact ⟨0, t, _, _, rfl, by omega, HB4.out, HR4.out, HV.out, hsz, rfl, FrO.of (Below.refl _ _)⟩
  case round =>
    clear HB4 HR4 HV
    obtain ⟨k, x, kv, sv, rfl, hk, hB, hRz, htx, hxs, hfd, hfr⟩ := hrel
    have HB := hide hB
    have HR := hide hRz
    have HTX := hide htx
    have HF := hide hfd
    have HFR := hide hfr
    obtain ⟨A3, c3, A4, c4, ecells, hkl, -⟩ := htx.openL
    injection ecells with ecells
    have ekv : kv = .slice A3 x.ks.len c3 := by have := congrArg (fun a : Array Value => a[10]?) ecells; simpa [Hd.cells] using this
    have esv : sv = .slice A4 x.ss.length c4 := by have := congrArg (fun a : Array Value => a[11]?) ecells; simpa [Hd.cells] using this
    subst ekv; subst esv
    have HKL := hide hkl
    have hbel : Below w.heap.size w wr := hbel4.trans (hfr.below hbel4.size fun j hj => by subst hj; exact hwb)
    clear hB hRz htx hfd hfr ecells hkl
    by_cases hlt : k < ps.length
    case neg =>
      obtain rfl : k = ps.length := by omega
      have HZ := hide (show getT t p = (x, 0) from HP2.out.1 x (by rw [HF.out, List.drop_length, findT_nil]))
      go_wp2_with (first | (refine wpList_load_row rfl 25 (.tmp 2) rfl b rfl 25 (x.h.cells (.slice A3 x.ks.len c3) (.slice A4 x.ss.length c4)) (0, 0) _ HB.out Tryz.underlying25 rfl (infN rfl) ?_) | (refine wpList_store_row rfl 25 (.tmp 4) (.tmp 38) rfl r (x.h.cells (.slice A3 x.ks.len c3) (.slice A4 x.ss.length c4)) rfl rfl 25 zeroN HR.out (infN rfl) rfl (nodeLit _ _ _ _ _ _ _) ?_))
      refine bodyPost_ret (results_cell2 rfl _ _ r 25 (x.h.cells (.slice A3 x.ks.len c3) (.slice A4 x.ss.length c4)) (0, 0) _ rfl (setRow_heap _ _ _ _ _ _ HR.out) (.int .i64 0) rfl Tryz.underlying25 rfl (infN rfl)) rfl ?_
      have hbel9 := hbel.trans ((FrO.setRow (O := fun j => j = r) (cs := x.h.cells (.slice A3 x.ks.len c3) (.slice A4 x.ss.length c4)) rfl).below (B := w.heap.size) hbel.size fun j hj => by subst hj; exact hwr)
      exact ⟨_, by rw [HZ.out], by rw [HZ.out]; exact HTX.out.own_below hbel9, hbel9⟩
    case pos =>
    obtain ⟨n, hn⟩ : ∃ n, ps[k]? = some n := ⟨_, List.getElem?_eq_getElem hlt⟩
    obtain ⟨A6, c6, e6, hsl⟩ := HSL.out
    obtain ⟨sg, so, esg, hsg, hsc⟩ := hsl (by omega)
    injection e6 with e7 e8 e9
    subst e7; subst e9
    subst esg
    have hnb : sg ≠ b := fun e => HSB.out sg rfl e.symm
    have s1 : wr.cell? ⟨sg, so + k, none⟩ = some (.string n) := (World.cell?_of_block (HFR.out.block sg hsg hnb)).trans (hsc k n hn)
    have hdrop : ps.drop k = n :: ps.drop (k + 1) := by
      obtain ⟨h1, e1⟩ := List.getElem?_eq_some_iff.1 hn
      rw [List.drop_eq_getElem_cons h1, e1]
    have HDR := hide hdrop
    have hkl2 : x.ks.len ≤ 120000 := by have := x.ks.len_sz; unfold Tr.sz at hxs; omega
    have RK := hide (fun W hW => rkid_any x n (by omega) (.agg (x.h.cells (.slice A3 x.ks.len c3) (.slice A4 x.ss.length c4))) W hW)
    have HTD := hide (show TreeR wr.drew wr.drew.heap.size (.agg (x.h.cells (.slice A3 x.ks.len c3) (.slice A4 x.ss.length c4))) x from (HTX.out.own_below hbel).own_below ((Below.refl _ _).drew))
    have hkeepd : Blk wr.drew b (x.h.cells (.slice A3 x.ks.len c3) (.slice A4 x.ss.length c4)) 25 ∧ wr.drew.cell? ⟨sg, so + k, none⟩ = some (.string n) := ⟨HB.out, s1⟩
    have hkeep : Blk wr b (x.h.cells (.slice A3 x.ks.len c3) (.slice A4 x.ss.length c4)) 25 ∧ wr.cell? ⟨sg, so + k, none⟩ = some (.string n) := ⟨HB.out, s1⟩
    clear hdrop hn hsc hsl
    go_upto_region 9 with fail
    refine wp_region_noPanic ?_
    refine wp_region_held_drew (S := (fun z => Blk z b (x.h.cells (.slice A3 x.ks.len c3) (.slice A4 x.ss.length c4)) 25 ∧ z.cell? ⟨sg, so + k, none⟩ = some (.string n))) (by kernel_rfl) kp (fun hHeld => ?_)
    refine tkZ 0 ⟨some 24, .load 25 (.tmp 2), 25, "ref.go:208", #[], none⟩ ?_ (by intro w hSw; (try dsimp only at hSw); refine (exec_load_row 25 (.tmp 2) (by rfl) b (by rfl) 25 (x.h.cells (.slice A3 x.ks.len c3) (.slice A4 x.ss.length c4)) (0, 0) _ hSw.1 Tryz.underlying25 (by rfl) (infN rfl)).trans ?_; with_reducible rfl)
    refine tkZ 1 ⟨some 25, .move (.tmp 6), 26, "ref.go:208", #[], none⟩ ?_
    refine tkZ 2 ⟨some 26, .move (.tmp 7), 3, "ref.go:208", #[], none⟩ ?_
    refine tkZ 3 ⟨some 27, .indexAddr 26 (.tmp 25) (.tmp 26), 0, "ref.go:208", #[⟨1, .data⟩, ⟨2, .data⟩], none⟩ ?_
    refine tkZ 4 ⟨some 28, .load 9 (.tmp 27), 9, "ref.go:208", #[⟨3, .data⟩], none⟩ ?_ (by intro w hSw; (try dsimp only at hSw); have c1 := hSw.2; go_simp; (try with_reducible rfl))
    refine rqS [5] (rqC ⟨some 29, .call ⟨.value (.func 67), #[.tmp 24, .tmp 28], #[25, 9]⟩, 3, "ref.go:208", #[⟨0, .data⟩, ⟨4, .data⟩], none⟩ (fun K hK => ?_) rq0)
    go_simp
    (go_at_call 67; (with_reducible refine (RK.out _ HTD.out).mono ?_); rintro e w8 ⟨rfl, hb8⟩; have hkeep8 : Blk w8 b (x.h.cells (.slice A3 x.ks.len c3) (.slice A4 x.ss.length c4)) 25 ∧ w8.cell? ⟨sg, so + k, none⟩ = some (.string n) := ⟨Blk.below hb8 hkeepd.1, (hb8.cell (p := ⟨sg, so + k, none⟩) (cell_lt hkeepd.2)).trans hkeepd.2⟩)
    go_wp2_with fail
    refine hK.out _ _ kp (fun hHeld => ?_)
    clear hK K
    try simp only [PT]
    refine tkZ 6 ⟨some 8, .assign (.tmp 29), 3, "ref.go:208", #[⟨5, .data⟩, ⟨5, .chain⟩, ⟨0, .phase⟩, ⟨1, .phase⟩, ⟨2, .phase⟩, ⟨3, .phase⟩, ⟨4, .phase⟩, ⟨5, .phase⟩], none⟩ ?_
    refine wpAnyH_done (by kernel_rfl) ?_ _
    refine NoPanic.normal ?_
    have hbr8 : Below wr.heap.size wr w8 := (Below.refl wr.heap.size wr).drew.trans hb8
    have HB8 := hide (Blk.below hbr8 HB.out)
    have HR8 := hide (Blk.below hbr8 HR.out)
    have HFR8 := hide (HFR.out.trans (FrO.of (O := fun j => j = b) hbr8) (fun j h => Or.inl h))
    have hbel8 := hbel.trans (hbr8.mono hbel.size)
    clear hkeep hkeepd hkeep8 hHeld s1 HB HR HFR hb8 hbr8 RK
    cases hki : kidI x.ks n with
    | none =>
      have HZ := hide (show getT t p = (Tr.zero, 6) from HP2.out.2 (by rw [HF.out, HDR.out, findT_miss (kid_none hki)]))
      clear hki
      go_wp2_with (first | (refine wpList_build_is rfl 25 #[] rfl [] (by simp) _ BZ.out ?_) | (refine wpList_store_row rfl 25 (.tmp 4) (.tmp 32) rfl r zeroN rfl rfl 25 zeroN HR8.out (infN rfl) rfl (by kernel_rfl) ?_))
      refine bodyPost_ret (results_cell2 rfl _ _ r 25 zeroN (0, 0) _ rfl (setRow_heap _ _ _ _ _ _ HR8.out) (.int .i64 6) rfl Tryz.underlying25 rfl (infN rfl)) rfl ?_
      exact ⟨_, by rw [HZ.out], by rw [HZ.out]; exact zero_reads _ _, hbel8.trans ((FrO.setRow (O := fun j => j = r) rfl).below hbel8.size fun j hj => by subst hj; exact hwr)⟩
    | some i =>
      have hil := kidI_lt hki
      obtain ⟨kk, hk1, hk2, -⟩ := kid_some hki
      have HZ := hide (show findT t ps = findT kk (ps.drop (k + 1)) by rw [HF.out, HDR.out, findT_hit hk2])
      obtain ⟨g, o', hA, hg, hfo⟩ := HKL.out (by omega)
      subst hA
      obtain ⟨hsk, kv', sv', h3, h4, h5⟩ := hfo.at hk1
      have XR := hide (show w8.rangeAt g (o' + i * 12) (kk.h.cells kv' sv').toList by
        have h := range_below hbel8 hg h3
        rw [show o' + 0 * 12 + i * 12 = o' + i * 12 by omega] at h
        exact h)
      have HTK := hide (show TreeR w w.heap.size (.agg (kk.h.cells kv' sv')) kk from ⟨kv', sv', rfl, h4, h5⟩)
      obtain ⟨A7, c7, rfl⟩ : ∃ A7 c7, kv' = .slice A7 kk.ks.len c7 := by obtain ⟨A, c, e, _⟩ := h5; exact ⟨A, c, e⟩
      obtain ⟨A8, c8, rfl⟩ : ∃ A8 c8, sv' = .slice A8 kk.ss.length c8 := by obtain ⟨A, c, e, _⟩ := h4; exact ⟨A, c, e⟩
      have d10 : w8.cell? ⟨b, 10, none⟩ = some (.slice (some ⟨g, o', none⟩) x.ks.len c3) := HB8.out.cells 10
      have hks6 : kk.sz ≤ 120000 := by unfold Tr.sz at hxs; omega
      have hkv : kidV (some i) = (i : Int) := rfl
      rw [hkv]
      clear hki hk1 hk2 HF HDR h3 h4 h5 hfo hsk HKL hkv
      go_wp2_with (first | (refine wpList_load_midA rfl 25 (.tmp 36) rfl g (o' + i * 12) rfl (kk.h.cells (.slice A7 kk.ks.len c7) (.slice A8 kk.ss.length c8)) _ XR.out Tryz.underlying25 rfl (infNl rfl) ?_) | (refine wpList_store_row rfl 25 (.tmp 2) (.tmp 37) rfl b (kk.h.cells (.slice A7 kk.ks.len c7) (.slice A8 kk.ss.length c8)) rfl rfl 25 (x.h.cells (.slice (some ⟨g, o', none⟩) x.ks.len c3) (.slice A4 x.ss.length c4)) HB8.out (infN rfl) rfl (nodeLit _ _ _ _ _ _ _) ?_))
      have HBn := hide (show Blk (w8.setRow b (kk.h.cells (.slice A7 kk.ks.len c7) (.slice A8 kk.ss.length c8))) b (kk.h.cells (.slice A7 kk.ks.len c7) (.slice A8 kk.ss.length c8)) 25 from setRow_heap _ _ _ _ _ _ HB8.out)
      have HRn := hide (show Blk (w8.setRow b (kk.h.cells (.slice A7 kk.ks.len c7) (.slice A8 kk.ss.length c8))) r zeroN 25 from (setRow_other _ _ _ _ (Ne.symm hbr)).trans HR8.out)
      have HFn := hide (HFR8.out.trans (FrO.setRow (O := fun j => j = b) (w := w8) (cs := kk.h.cells (.slice A7 kk.ks.len c7) (.slice A8 kk.ss.length c8)) rfl) (fun j h => Or.inl h))
      clear HB8 HR8 HFR8 XR d10
      go_roundw
      case rel => exact ⟨k + 1, kk, _, _, by go_num, by omega, HBn.out, HRn.out, HTK.out, hks6, HZ.out, HFn.out⟩
      case measure => simp [intOf]; omega
end Go.Proofs.YtocgindpjjolpaaGreatDoor
