/- Contracts and plain words for the laws of this chapter, part 38: Lg, Le, Lh0, X20, X21, X28, Lh. No condition. -/
import Derived.Test.YtocgindpjjolpaaGreatDoorG26
import Derived.Test.YtocgindpjjolpaaGreatDoorG37
import Derived.Test.YtocgindpjjolpaaGreatDoorG23
import Derived.Test.YtocgindpjjolpaaGreatDoorG34
import Derived.Test.YtocgindpjjolpaaGreatDoorG12
import Derived.Test.YtocgindpjjolpaaGreatDoorG36
import Derived.Test.YtocgindpjjolpaaGreatDoorG22
import Derived.Lib.Overlaps
import Derived.Lib.AppendZeros
import Derived.Laws.Externs
import Derived.Laws.CopyRow
import Derived.Shelf.Spec.SlicesInsert
import Derived.Test.YtocgindpjjolpaaGreatDoorG16
namespace Go.Proofs.YtocgindpjjolpaaGreatDoor
set_option linter.unusedSimpArgs false
set_option linter.unusedVariables false
open Go.RowKit
theorem bestF_len {t : Tr} {acc fs : List ByteArray} : ∀ (ls : List (List Nat)) (b : List ByteArray) (m : Int), (∀ l ∈ ls, l.length ≤ 100000) → b.length ≤ 100000 → (bestF t acc fs ls b m).1.length ≤ 100000
  | [], b, _, _, hb => hb
  | l :: ls, b, m, h, hb => by
    have hl := h l (List.mem_cons_self ..)
    have hr := fun b m hb => bestF_len (t := t) (acc := acc) (fs := fs) ls b m (fun x hx => h x (List.mem_cons_of_mem _ hx)) hb
    rw [bestF]
    split
    · exact Nat.zero_le _
    · split
      · exact hr _ _ (by rw [namesAt_len]; exact hl)
      · exact hr _ _ hb
theorem best_len (t : Tr) (acc : List ByteArray) : (bestT t acc).1.length ≤ 100000 := by
  unfold bestT
  split
  · exact Nat.zero_le _
  · split
    · exact Nat.zero_le _
    · split
      · exact Nat.zero_le _
      · rename_i h6 _
        refine bestF_len _ _ _ (fun l hl => ?_) (Nat.zero_le _)
        have := (orders_ok hl).2.2
        omega
set_option maxRecDepth 100000 in
set_option maxHeartbeats 8000000 in
theorem law_searches (v : Value) (t : Tr) (va : Value) (acc : List ByteArray) (w : World) (hT : TabV w) (hv : TreeR w w.heap.size v t) (hz : t.sz ≤ 20971520) (ha : SlR w w.heap.size va acc) (hao : ∀ p ∈ acc, p.size ≤ 2000000) :
    Calls Tryz.prog 6 #[v, va] w fun e w' => e = .returned (.bool true) ∧ Below w.heap.size w w' := by
  have AW := hide (fun W (h : Below w.heap.size w W) => awake_any W (hT.below h))
  have HTV := hide hT
  obtain ⟨cn, rfl, hzc⟩ := Nd.cells hv
  have HV := hide hv
  have HA := hide ha
  obtain ⟨aA, cA, rfl, -⟩ := ha
  have HAO := hide hao
  clear hv hao hT
  have HL : Live w [] := trivial
  go_enter Tryz.func6, Tryz.ntmps6
  go_upto_region 1 with fail
  have HN1 := hide (Nd.new HV.out hzc)
  have hbel1 : Below w.heap.size w (w.alloc (.cells cn 25)) := (Below.refl _ _).alloc (Nat.le_refl _) _
  generalize w.alloc (.cells cn 25) = W1 at *
  obtain ⟨b, hb⟩ : ∃ b, b = w.heap.size := ⟨_, rfl⟩
  rw [← hb] at HN1 ⊢
  clear hb HV hzc
  have HA1 := hide (HA.out.later2 hbel1)
  have A1 := hide (AW.out W1 hbel1)
  clear AW HA
  go_upto_region 3 with (go_at_call 11; refine A1.out.mono ?_; rintro e w2 ⟨rfl, hb2⟩)
  have HN2 := hide (HN1.out.below hb2)
  have HA2 := hide (HA1.out.later2 hb2)
  have hbel2 := hbel1.trans (hb2.mono hbel1.size)
  clear HN1 HA1 A1 hb2
  have FF := hide (few47_any t acc.length (by omega) (.agg cn) (.slice aA acc.length cA) w2 HN2.out.2.1 ⟨_, _, rfl⟩)
  cases hf : few47 t acc.length with
  | false =>
    rw [hf] at FF
    clear hf
    go_wp2_with (first | ((with_reducible show wpList _ _ _ (Oper.mk (some 11) _ _ _ _ _ :: _) _ _); refine wpList_load_row rfl 25 (.tmp 2) rfl b rfl 25 cn (0, 0) _ HN2.out.1 Tryz.underlying25 rfl (infN HN2.out.2.2) ?_) | (go_at_call 12; refine FF.out.mono ?_; rintro e w3 ⟨rfl, hb3⟩))
    go_ret
    exact ⟨rfl, hbel2.trans (hb3.mono hbel2.size)⟩
  | true =>
  obtain ⟨hs1, hs2⟩ := few47_sz hf
  have hct : t.count ≤ 40 := few47_ct hf
  rw [hf] at FF
  clear hf
  have BN := hide (fun W (hW : Below w2.heap.size w2 W) => best_any t acc (by omega) (by omega) HAO.out (.agg cn) (.slice aA acc.length cA) W ((HTV.out.below hbel2).below hW) (HN2.out.2.1.later hW) (HA2.out.later2 hW))
  have RB := hide (fun W (hW : Below w2.heap.size w2 W) => rbest_any t acc hs1 hct hs2 (.agg cn) (.slice aA acc.length cA) W (HN2.out.2.1.later hW) (HA2.out.later2 hW))
  have hbl : (bestT t acc).1.length ≤ 100000 := best_len t acc
  have q2 : ((bestT t acc).2 == (bestT t acc).2) = true := by simp
  generalize bestT t acc = bt at *
  go_upto_region 7 with (first | ((with_reducible show wpList _ _ _ (Oper.mk (some 11) _ _ _ _ _ :: _) _ _); refine wpList_load_row rfl 25 (.tmp 2) rfl b rfl 25 cn (0, 0) _ HN2.out.1 Tryz.underlying25 rfl (infN HN2.out.2.2) ?_) | (go_at_call 12; refine FF.out.mono ?_; rintro e w3 ⟨rfl, hb3⟩; have HB3 := hide hb3; have HN3 := hide (HN2.out.below hb3); clear hb3) | ((with_reducible show wpList _ _ _ (Oper.mk (some 16) _ _ _ _ _ :: _) _ _); refine wpList_load_row rfl 25 (.tmp 2) rfl b rfl 25 cn (0, 0) _ HN3.out.1 Tryz.underlying25 rfl (infN HN3.out.2.2) ?_) | (go_at_call 29; refine (BN.out w3 HB3.out).mono ?_; rintro e w4 ⟨r4, rfl, hr4, hb4⟩; have HR4 := hide (SlR.of hr4); have HB4 := hide (HB3.out.trans (hb4.mono HB3.out.size)); have HN4 := hide (HN2.out.below HB4.out); clear hr4 hb4) | ((with_reducible show wpList _ _ _ (Oper.mk (some 22) _ _ _ _ _ :: _) _ _); refine wpList_load_row rfl 25 (.tmp 2) rfl b rfl 25 cn (0, 0) _ HN4.out.1 Tryz.underlying25 rfl (infN HN4.out.2.2) ?_) | (go_at_call 30; refine (RB.out w4 HB4.out).mono ?_; rintro e w5 ⟨r5, rfl, hr5, hb5⟩))
  have hb25 := HB4.out.trans (hb5.mono HB4.out.size)
  have hbel5 := hbel2.trans (hb25.mono hbel2.size)
  have HE := hide (by have h := sequal_any bt.1 bt.1 r4 r5 w5.heap.size hbl hbl w5 (HR4.out.later2 hb5) hr5; rw [decide_eq_true rfl] at h; exact h : Calls Tryz.prog 15 #[r4, r5] w5 fun e w' => e = .returned (.bool true) ∧ Below w5.heap.size w5 w')
  clear hr5 hb5
  go_wp2_with (go_at_call 15; refine HE.out.mono ?_; rintro e w6 ⟨rfl, hb6⟩)
  go_ret
  exact ⟨rfl, hbel5.trans (hb6.mono hbel5.size)⟩
end Go.Proofs.YtocgindpjjolpaaGreatDoor
namespace Go.Proofs.YtocgindpjjolpaaGreatDoor
set_option linter.unusedSimpArgs false
set_option linter.unusedVariables false
open Go.RowKit Go.Shelf Go.Sort
theorem sidx_any (L : List ByteArray) (s : ByteArray) (hL : L.length ≤ 100000) (hm : s ∈ L) (v : Value) (B : Nat) (w : World) (hv : SlR w B v L) : Calls Tryz.prog 33 #[v, .string s] w fun e w' => e = .returned (.int .i64 ((idxN L s : Nat) : Int)) ∧ w = w' := by
  obtain ⟨A, c, rfl, h⟩ := hv
  have h0 : 0 < L.length := List.length_pos_of_mem hm
  obtain ⟨h1, h2⟩ := idxN_mem hm
  obtain ⟨g, o, rfl, -, hc⟩ := h h0
  have e := Lib.idxOfS_hit L L.length (idxN L s) s h1 (Nat.le_refl _) (by rw [List.getD_eq_getElem?_getD, h2]; rfl) (fun j hj => by
    have hj2 : j < L.length := by omega
    rw [List.getD_eq_getElem?_getD, List.getElem?_eq_getElem hj2]
    have h3 := List.not_of_lt_findIdx (p := fun q => decide (q = s)) hj
    exact fun e => absurd (h3.symm.trans (decide_eq_true (show L[j] = s from e))) (by decide))
  refine (Any.slices_Index_string Tryz.lays109 g o L.length c L s w (Nat.le_refl _) (by omega) (SlR.cellsD (B := 0) hc)).mono fun e' w' ⟨h3, h4⟩ => ⟨?_, h4.symm⟩
  rw [h3, e]
end Go.Proofs.YtocgindpjjolpaaGreatDoor
namespace Go.Proofs.YtocgindpjjolpaaGreatDoor
set_option linter.unusedSimpArgs false
set_option linter.unusedVariables false
open Go.RowKit Go.Shelf
def SlB8 (w : World) (B : Nat) (v : Value) (l : List Nat) : Prop := (∃ A c, v = .slice A l.length c ∧ (0 < l.length → ∃ g o, A = some ⟨g, o, none⟩ ∧ g < B ∧ ∀ (j : Nat) (x : Nat), l[j]? = some x → w.cell? ⟨g, o + j, none⟩ = some (.int .u8 (x : Int)))) ∧ ∀ x ∈ l, x ≤ 255
theorem exts_extB {t : Tr} {l : List ByteArray} {r : List Ext} (h : placeT t l 0 = (r, 0)) : r.all extB = true := by
  unfold placeT at h
  split at h
  · cases hq : placeL t l 0 [] with
    | none => rw [hq] at h; exact absurd (congrArg Prod.snd h) (by simp)
    | some r2 =>
      rw [hq] at h
      have e : r2 = r := congrArg Prod.fst h
      rw [← e]
      exact placeL_extB hq (Int.le_refl _) rfl
  · exact absurd (congrArg Prod.snd h) (by simp)
theorem at47_ne {t : Tr} : ∀ {l : List ByteArray} {a : Int} {p : ByteArray}, p ∈ l → at47 (extsL t l a) p ≠ []
  | q :: l, a, p, h => by
    unfold at47
    rw [extsL]
    by_cases e : q = p
    · rw [List.filter_cons_of_pos (by simp [e])]
      exact List.cons_ne_nil _ _
    · rw [List.filter_cons_of_neg (by simp [e])]
      rcases List.mem_cons.1 h with h | h
      · exact absurd h.symm e
      · exact at47_ne h
theorem costL_some {fs : List Ext} : ∀ (l : List ByteArray) (s : Int × Int), (∀ p ∈ l, at47 fs p ≠ []) → ∃ r, costL fs l s = some r
  | [], s, _ => ⟨s, rfl⟩
  | p :: l, s, h => by
    rw [costL, if_neg (h p (List.mem_cons_self ..))]
    exact costL_some l _ fun q hq => h q (List.mem_cons_of_mem _ hq)
theorem cost_ok {t : Tr} {l acc : List ByteArray} (h : placeT t l 0 = (extsL t l 0, 0)) (hl : l.length ≤ 1024) (ha : acc.length ≤ 1024) (hm : ∀ p ∈ acc, p ∈ l) : (costT (extsL t l 0) acc).2 = 0 := by
  unfold costT
  obtain ⟨r, hr⟩ := costL_some (fs := extsL t l 0) acc (0, 0) (fun p hp => at47_ne (hm p hp))
  rw [if_neg (by rw [exts_len]; omega), if_pos (exts_extB h), hr]
set_option maxRecDepth 100000 in
set_option maxHeartbeats 4000000 in
theorem least1_any (t : Tr) (acc l : List ByteArray) (hsz : t.sz ≤ 100000) (hfl : (filesT t).length ≤ 40) (hvd : validB t = true) (hall : ∀ p ∈ acc, p ∈ filesT t) (hac : acc.length ≤ 70) (hp : l.Perm (filesT t)) (lv va : Value) (bn bm : Nat) (cn : Array Value) (w : World) (hT : TabV w) (hN : Nd w bn cn t) (hM : Blk w bm #[va] 26) (hA : SlR w w.heap.size va acc) (hL : SlR w w.heap.size lv l) :
    Calls Tryz.prog 37 #[lv, .pointer (some ⟨bn, 0, none⟩), .pointer (some ⟨bm, 0, none⟩)] w fun e w' => e = .returned (.tuple #[.int .i64 (costO t acc l), .bool true]) ∧ Below w.heap.size w w' := by
  have HFS := fun p (h : p ∈ filesT t) => Nat.le_trans (files_mem h).2.1 (show t.sz ≤ 2000000 by omega)
  have hps : ∀ p ∈ l, p.size ≤ 2000000 := fun p h => HFS p (hp.mem_iff.1 h)
  have hll : l.length ≤ 40 := by rw [hp.length_eq]; exact hfl
  have hpl : placeT t l 0 = (extsL t l 0, 0) := gaps_place hvd (fun p => lenP_le hsz (by omega) p) hfl hp (Int.le_refl _) (by decide)
  have hcc : (costT (extsL t l 0) acc).2 = 0 := cost_ok hpl (by omega) (by omega) (fun p h => hp.mem_iff.2 (hall p h))
  have HCO := hide (show costO t acc l = (costT (extsL t l 0) acc).1 by unfold costO; rw [hpl])
  have HEX := show (∀ f ∈ extsL t l 0, extOK f) ∧ (extsL t l 0).length ≤ l.length by have h1 := placeT_ok (t := t) (by omega) (s := 0) hps; rw [hpl] at h1; exact h1
  have PL := hide (place_any t l 0 (by omega) (by omega) hps (by decide) (.agg cn) lv w hT hN.2.1 hL)
  rw [hpl] at PL
  have CO := hide (fun W (hW : Below w.heap.size w W) vf (hf : SlF W W.heap.size vf (extsL t l 0)) => cost_any (extsL t l 0) acc HEX.1 (fun p h => HFS p (hall p h)) (by have := HEX.2; omega) (by omega) vf va W hf (hA.later2 hW))
  have HM := hide hM
  have HN := hide hN
  obtain ⟨aL, cL, rfl, -⟩ := hL
  obtain ⟨aA, cA, rfl, -⟩ := hA
  clear hT hN hM hps hpl HFS HEX hall hp
  generalize extsL t l 0 = ex at *
  obtain ⟨cc, hcc2⟩ : ∃ cc, costT ex acc = (cc, 0) := ⟨(costT ex acc).1, Prod.ext rfl hcc⟩
  rw [hcc2] at CO HCO
  clear hcc hcc2
  have c0 := HM.out.cells 0
  have HL : Live w [] := trivial
  go_enter Tryz.func37, Tryz.ntmps37
  go_wp2_with (first | ((with_reducible show wpList _ _ _ (Oper.mk (some 11) _ _ _ _ _ :: _) _ _); refine wpList_load_row rfl 25 (.tmp 1) rfl bn rfl 25 cn (0, 0) _ HN.out.1 Tryz.underlying25 rfl (infN HN.out.2.2) ?_) | (go_at_call 22; refine PL.out.mono ?_; rintro e w1 ⟨r1, rfl, hr1, hb1⟩; have HB1 := hide hb1; have HF1 := hide (SlF.of (own_base hr1 (Nat.le_refl _))); have c1 : w1.cell? ⟨bm, 0, none⟩ = some (.slice aA acc.length cA) := (Blk.below hb1 HM.out).cells 0; clear hr1 hb1) | (go_at_call 27; refine (CO.out w1 HB1.out _ HF1.out).mono ?_; rintro e w2 ⟨rfl, hb2⟩))
  go_ret2
  exact ⟨by rw [HCO.out]; rfl, HB1.out.trans (hb2.mono HB1.out.size)⟩
set_option maxHeartbeats 4000000 in
theorem least2_any (fs : List ByteArray) (a b : ByteArray) (hfl : fs.length ≤ 40) (ha : a ∈ fs) (hb : b ∈ fs) (fv : Value) (ab : Nat) (w : World) (hB : Blk w ab #[fv] 26) (hF : SlR w w.heap.size fv fs) :
    Calls Tryz.prog 40 #[.string a, .string b, .pointer (some ⟨ab, 0, none⟩)] w fun e w' => e = .returned (.int .i64 ((idxN fs a : Int) - (idxN fs b : Int))) ∧ Below w.heap.size w w' := by
  have LX1 := hide (fun W (hW : Below w.heap.size w W) => sidx_any fs a (by omega) ha fv W.heap.size W (hF.later2 hW))
  have LX2 := hide (fun W (hW : Below w.heap.size w W) => sidx_any fs b (by omega) hb fv W.heap.size W (hF.later2 hW))
  have hia := (idxN_mem ha).1
  have hib := (idxN_mem hb).1
  have HB := hide hB
  obtain ⟨aF, cF, rfl, -⟩ := hF
  clear hB ha hb
  have hk0 : Below w.heap.size w w ∧ True := ⟨Below.refl _ _, trivial⟩
  have hk0d : Below w.heap.size w w.drew ∧ True := ⟨(Below.refl w.heap.size w).drew, trivial⟩
  have habl := HB.out.lt
  have hcb : w.cell? ⟨ab, 0, none⟩ = some (.slice aF fs.length cF) := HB.out.cells 0
  have HCB := hide hcb
  generalize idxN fs a = ia at *
  generalize idxN fs b = ib at *
  have hwr : IntKind.i64.wrap ((ia : Int) - (ib : Int)) = (ia : Int) - (ib : Int) := IntWalk.i64_in _ (by omega)
  clear hcb
  obtain ⟨w0, hw0⟩ : ∃ w0, w0 = w := ⟨_, rfl⟩
  rw [← hw0] at LX1 LX2 HB hk0 hk0d HCB habl ⊢
  clear hw0
  have HL : Live w [] := trivial
  go_enter Tryz.func40, Tryz.ntmps40
  go_upto_region 1 with fail
  refine wp_region_noPanic ?_
  refine wp_region_held_drew (S := (fun z => Below w0.heap.size w0 z ∧ True)) (by kernel_rfl) kp (fun hHeld => ?_)
  refine tkZ 0 ⟨some 6, .load 26 (.tmp 2), 26, "law.go:166", #[], none⟩ ?_ (by intro w hSw; (try dsimp only at hSw); have c1 := (hSw.1.cell (p := ⟨ab, 0, none⟩) habl).trans HCB.out; go_simp; (try with_reducible rfl))
  refine tkZ 1 ⟨some 7, .move (.tmp 0), 9, "law.go:166", #[], none⟩ ?_
  refine tkZ 3 ⟨some 9, .load 26 (.tmp 2), 26, "law.go:166", #[], none⟩ ?_ (by intro w hSw; (try dsimp only at hSw); have c1 := (hSw.1.cell (p := ⟨ab, 0, none⟩) habl).trans HCB.out; go_simp; (try with_reducible rfl))
  refine tkZ 4 ⟨some 10, .move (.tmp 1), 9, "law.go:166", #[], none⟩ ?_
  refine rqS [2] (rqC ⟨some 8, .call ⟨.value (.func 33), #[.tmp 6, .tmp 7], #[26, 9]⟩, 3, "law.go:166", #[⟨0, .data⟩, ⟨1, .data⟩], none⟩ (fun K hK => ?_) rq0)
  go_simp
  (first | (go_at_call 33; (with_reducible refine (LX1.out _ hHeld.1).mono ?_); rintro e w8 ⟨rfl, rfl⟩) | (go_at_call 33; (with_reducible refine (LX2.out _ hHeld.1).mono ?_); rintro e w9 ⟨rfl, rfl⟩))
  go_wp2_with fail
  refine hK.out _ _ kp (fun hHeld => ?_)
  clear hK K
  try simp only [PT]
  refine rqS [5] (rqC ⟨some 11, .call ⟨.value (.func 33), #[.tmp 9, .tmp 10], #[26, 9]⟩, 3, "law.go:166", #[⟨3, .data⟩, ⟨4, .data⟩, ⟨2, .chain⟩], none⟩ (fun K hK => ?_) rq0)
  go_simp
  (first | (go_at_call 33; (with_reducible refine (LX1.out _ hHeld.1).mono ?_); rintro e w8 ⟨rfl, rfl⟩) | (go_at_call 33; (with_reducible refine (LX2.out _ hHeld.1).mono ?_); rintro e w9 ⟨rfl, rfl⟩))
  go_wp2_with fail
  refine hK.out _ _ kp (fun hHeld => ?_)
  clear hK K
  try simp only [PT]
  refine tkZ 6 ⟨some 12, .binOp .sub 3 (.tmp 8) (.tmp 11) 3, 3, "law.go:166", #[⟨2, .data⟩, ⟨5, .data⟩], none⟩ ?_
  refine tkZ 7 ⟨some 5, .assign (.tmp 12), 3, "law.go:166", #[⟨6, .data⟩, ⟨5, .chain⟩, ⟨0, .phase⟩, ⟨1, .phase⟩, ⟨2, .phase⟩, ⟨3, .phase⟩, ⟨4, .phase⟩, ⟨5, .phase⟩, ⟨6, .phase⟩], none⟩ ?_
  refine wpAnyH_done (by kernel_rfl) ?_ _
  refine NoPanic.normal ?_
  go_wp2_with fail
  go_ret
  exact ⟨rfl, hHeld.1⟩
theorem cmpP_step {f : ByteArray → Int} {l m : List ByteArray} {k : Nat} {a b : ByteArray} (ha : l[k]? = some a) (hb : m[k]? = some b) : cmpP f (l.drop k) (m.drop k) = if f a - f b = 0 then cmpP f (l.drop (k + 1)) (m.drop (k + 1)) else f a - f b := by
  obtain ⟨h1, e1⟩ := List.getElem?_eq_some_iff.1 ha
  obtain ⟨h2, e2⟩ := List.getElem?_eq_some_iff.1 hb
  rw [List.drop_eq_getElem_cons h1, List.drop_eq_getElem_cons h2, cmpP, e1, e2]
set_option maxRecDepth 100000 in
set_option maxHeartbeats 4000000 in
theorem compare_any (fs l m : List ByteArray) (hfl : fs.length ≤ 40) (hl : ∀ p ∈ l, p ∈ fs) (hm : ∀ p ∈ m, p ∈ fs) (hlm : l.length = m.length) (hl4 : l.length ≤ 40) (lv mv fv : Value) (ab : Nat) (w : World) (hB : Blk w ab #[fv] 26) (hF : SlR w w.heap.size fv fs) (hL : SlR w w.heap.size lv l) (hM : SlR w w.heap.size mv m) :
    Calls Tryz.prog 39 #[lv, mv, .func (.func 40) #[] #[.pointer (some ⟨ab, 0, none⟩)]] w fun e w' => e = .returned (.int .i64 (cmpP (fun p => (idxN fs p : Int)) l m)) ∧ Below w.heap.size w w' := by
  have L2 := hide (fun a b (ha : a ∈ fs) (hb : b ∈ fs) W (hW : Below w.heap.size w W) => least2_any fs a b hfl ha hb fv ab W (Blk.below hW hB) (hF.later2 hW))
  have HLM := hide (And.intro hl hm)
  obtain ⟨aL, cL, rfl, hlr⟩ := hL
  obtain ⟨aM, cM, rfl, hmr⟩ := hM
  have HLR := hide hlr
  have HMR := hide hmr
  have HLE := hide hlm
  clear hB hF hl hm hlr hmr hlm
  have HL : Live w [] := trivial
  go_enter Tryz.func39, Tryz.ntmps39
  go_wp2_with fail
  go_loopw [13] (fun iv wr => ∃ k : Nat, iv = .int .i64 (k : Int) ∧ k ≤ l.length ∧ cmpP (fun p => (idxN fs p : Int)) l m = cmpP (fun p => (idxN fs p : Int)) (l.drop k) (m.drop k) ∧ Below w.heap.size w wr) (fun iv _ => l.length - (intOf iv).toNat)
  case atStart => exact ⟨0, rfl, Nat.zero_le _, rfl, Below.refl _ _⟩
  case round =>
    obtain ⟨k, rfl, hk, hcm, hbr⟩ := hrel
    have HCM := hide hcm
    have HBr := hide hbr
    have hle := HLE.out
    clear hcm
    by_cases hlt : k < l.length
    · obtain ⟨a, ha⟩ : ∃ a, l[k]? = some a := ⟨_, List.getElem?_eq_getElem hlt⟩
      obtain ⟨b, hb⟩ : ∃ b, m[k]? = some b := ⟨_, List.getElem?_eq_getElem (by omega)⟩
      have hkm : ¬ m.length ≤ k := by omega
      have hkm2 : k < m.length := by omega
      have haf := HLM.out.1 a (List.mem_of_getElem? ha)
      have hbf := HLM.out.2 b (List.mem_of_getElem? hb)
      obtain ⟨gl, ol, rfl, hgl, hcl⟩ := HLR.out (by omega)
      obtain ⟨gm, om, rfl, hgm, hcmm⟩ := HMR.out (by omega)
      have c1 : wr.cell? ⟨gl, ol + k, none⟩ = some (.string a) := (hbr.cell (p := ⟨gl, ol + k, none⟩) hgl).trans (hcl k a ha)
      have c2 : wr.cell? ⟨gm, om + k, none⟩ = some (.string b) := (hbr.cell (p := ⟨gm, om + k, none⟩) hgm).trans (hcmm k b hb)
      have HST := hide (cmpP_step (f := fun p => (idxN fs p : Int)) ha hb)
      have LC := hide (L2.out a b haf hbf wr hbr)
      clear ha hb haf hbf hcl hcmm hbr hle
      by_cases hd : (idxN fs a : Int) - (idxN fs b : Int) = 0
      · have HX := hide (show cmpP (fun p => (idxN fs p : Int)) l m = cmpP (fun p => (idxN fs p : Int)) (l.drop (k + 1)) (m.drop (k + 1)) by rw [HCM.out, HST.out]; exact if_pos hd)
        rw [hd] at LC
        clear hd
        go_wp2_with (go_at_call 40; refine LC.out.mono ?_; rintro e w5 ⟨rfl, hb5⟩)
        go_roundw
        case rel => exact ⟨k + 1, by go_num, by omega, HX.out, HBr.out.trans (hb5.mono HBr.out.size)⟩
        case measure => simp [intOf]; omega
      · have HX := hide (show cmpP (fun p => (idxN fs p : Int)) l m = (idxN fs a : Int) - (idxN fs b : Int) by rw [HCM.out, HST.out]; exact if_neg hd)
        generalize (idxN fs a : Int) - (idxN fs b : Int) = df at *
        have hdn : (df != 0) = true := by simp; exact hd
        clear hd
        go_wp2_with (go_at_call 40; refine LC.out.mono ?_; rintro e w5 ⟨rfl, hb5⟩)
        go_ret
        exact ⟨by rw [HX.out]; rfl, HBr.out.trans (hb5.mono HBr.out.size)⟩
    · obtain rfl : k = l.length := by omega
      have HX := hide (show cmpP (fun p => (idxN fs p : Int)) l m = 0 by rw [HCM.out, List.drop_length, hle, List.drop_length]; rfl)
      have hne : ¬ l.length < m.length := by omega
      clear hle
      go_wp2_with fail
      go_ret
      exact ⟨by rw [HX.out]; rfl, HBr.out⟩
end Go.Proofs.YtocgindpjjolpaaGreatDoor
namespace Go.Proofs.YtocgindpjjolpaaGreatDoor
set_option linter.unusedSimpArgs false
set_option linter.unusedVariables false
open Go.RowKit
theorem RowS.drop {w : World} {lo : Nat} : ∀ {f : Fo} {xs : List Value} {O : Nat → Prop} (i : Nat), RowS w lo f xs O → RowS w lo (f.dropAt i) (xs.take (i * 12) ++ xs.drop ((i + 1) * 12)) O
  | .nil, xs, _, i, h => by
    have h' : xs = [] := h
    subst h'
    simp [Fo.dropAt, RowS]
  | .node h ss ks nx, xs, O, 0, ⟨kv, sv, xs', O1, On, e, hs, hk, hn, h3, h4⟩ => by
    subst e
    have e2 : ((h.cells kv sv).toList ++ xs').take (0 * 12) ++ ((h.cells kv sv).toList ++ xs').drop ((0 + 1) * 12) = xs' := rfl
    rw [e2]
    exact hn.sub h4
  | .node h ss ks nx, xs, O, i + 1, ⟨kv, sv, xs', O1, On, e, hs, hk, hn, h3, h4⟩ => by
    subst e
    have e1 : (h.cells kv sv).toList.length = 12 := rfl
    refine ⟨kv, sv, xs'.take (i * 12) ++ xs'.drop ((i + 1) * 12), O1, On, ?_, hs, hk, RowS.drop i hn, h3, h4⟩
    rw [List.take_append, List.drop_append, e1, List.take_of_length_le (by rw [e1]; omega), List.drop_of_length_le (by rw [e1]; omega), show (i + 1) * 12 - 12 = i * 12 by omega, show (i + 1 + 1) * 12 - 12 = (i + 1) * 12 by omega, List.nil_append, List.append_assoc]
theorem RowS.one {w : World} {lo : Nat} : ∀ {f : Fo} {xs : List Value} {O : Nat → Prop}, RowS w lo f xs O → ∀ u ∈ xs, u.oneCell' = true
  | .nil, xs, _, h => by
    have h' : xs = [] := h
    subst h'
    simp
  | .node h ss ks nx, xs, O, ⟨kv, sv, xs', O1, On, e, hs, ⟨xk, Ok, hk, _⟩, hn, h3, h4⟩ => by
    subst e
    obtain ⟨A, c, rfl⟩ := own_slice hk
    obtain ⟨A2, c2, rfl⟩ := own_slice hs
    intro u hu
    rcases List.mem_append.1 hu with hu | hu
    · exact List.all_eq_true.1 ((Array.all_toList ..).trans (nodeLit h A ks.len c A2 ss.length c2)) u hu
    · exact RowS.one hn u hu
theorem Left.at {w : World} {B : Nat} {A : Option Addr} {f : Fo} {i : Nat} {k : Tr} (h : Left w B A f 0) (hi : f.list[i]? = some k) : ∃ g o kv sv, A = some ⟨g, o, none⟩ ∧ g < B ∧ w.rangeAt g (o + i * 12) (k.h.cells kv sv).toList ∧ StR w B sv k.ss ∧ KidR w B kv k.ks := by
  have hil : i < f.len := by rw [← Fo.list_len]; exact (List.getElem?_eq_some_iff.1 hi).1
  obtain ⟨g, o, e, hg, hf⟩ := h (by omega)
  obtain ⟨_, kv, sv, h1, h2, h3⟩ := hf.at hi
  exact ⟨g, o, kv, sv, e, hg, by rw [show o + i * 12 = o + 0 * 12 + i * 12 by omega]; exact h1, h2, h3⟩
theorem own_cell {w : World} {B : Nat} {T : TypeId} {g n k cap i : Nat} {v : Value} {xs : List Value} (h : w.ownsRow B T k (.slice (some ⟨g, 0, none⟩) n cap) n xs) : (w.setCell ⟨g, i, none⟩ v).ownsRow B T k (.slice (some ⟨g, 0, none⟩) n cap) n (xs.set i v) := by
  refine ⟨by rw [List.length_set]; exact h.1, ?_⟩
  rcases h.2 with ⟨h0, _⟩ | ⟨g', cap', cur, hv, hg, hh, hnc, hcm, hcs, htake⟩
  · cases h0
  · cases hv
    refine Or.inr ⟨g, cap, cur.setIfInBounds i v, rfl, hg, Blk.put (T := T) rfl hh, hnc, hcm, by rw [Array.size_setIfInBounds, hcs], ?_⟩
    rw [← htake, Array.toList_setIfInBounds]
    apply List.ext_getElem?
    intro j
    rw [List.getElem?_take, List.getElem?_set, List.getElem?_set, List.getElem?_take, List.length_take]
    by_cases hij : i = j
    · subst hij
      by_cases hin : i < n * k
      · have hle : n * k ≤ cur.size := by rw [hcs]; exact Nat.mul_le_mul_right _ hnc
        simp only [hin, if_true, Array.length_toList, Nat.min_eq_left hle]
        rw [if_pos (by omega)]
      · simp [hin]
        omega
    · simp [hij]
end Go.Proofs.YtocgindpjjolpaaGreatDoor
namespace Go.Proofs.YtocgindpjjolpaaGreatDoor
set_option linter.unusedSimpArgs false
set_option linter.unusedVariables false
open Go.RowKit Go.Shelf
theorem bestF_err0 {t : Tr} {acc fs : List ByteArray} : ∀ (ls : List (List Nat)) (b : List ByteArray) (m : Int), (bestF t acc fs ls b m).2 ≠ 0 → (bestF t acc fs ls b m).1 = []
  | [], b, m, h => absurd rfl h
  | l :: ls, b, m, h => by
    rw [bestF] at h ⊢
    split
    · rfl
    · rename_i h1
      rw [if_neg h1] at h
      split
      · rename_i h2
        rw [if_pos h2] at h
        exact bestF_err0 ls _ _ h
      · rename_i h2
        rw [if_neg h2] at h
        exact bestF_err0 ls _ _ h
theorem best_err0 {t : Tr} {acc : List ByteArray} (h : (bestT t acc).2 ≠ 0) : (bestT t acc).1 = [] := by
  unfold bestT at h ⊢
  split
  · rfl
  · rename_i h1
    rw [if_neg h1] at h
    split
    · rfl
    · rename_i h2
      rw [if_neg h2] at h
      split
      · rfl
      · rename_i h3
        rw [if_neg h3] at h
        exact bestF_err0 _ _ _ h
theorem best_valid {t : Tr} {acc : List ByteArray} (h : (bestT t acc).2 = 0) : validB t = true := by
  cases hv : validB t with
  | true => rfl
  | false => rw [bestT_no hv] at h; exact absurd h (by decide)
theorem swap_perm {o : List ByteArray} {j : Nat} {x y : ByteArray} (hx : o[j]? = some x) (hy : o[j + 1]? = some y) : ((o.set j y).set (j + 1) x).Perm o := by
  obtain ⟨h1, e1⟩ := List.getElem?_eq_some_iff.1 hx
  obtain ⟨h2, e2⟩ := List.getElem?_eq_some_iff.1 hy
  have e : o = o.take j ++ x :: y :: o.drop (j + 2) := by
    conv => lhs; rw [← List.take_append_drop j o, List.drop_eq_getElem_cons h1, List.drop_eq_getElem_cons h2, e1, e2]
  have hl : (o.take j).length = j := by rw [List.length_take]; omega
  generalize o.take j = p at *
  generalize o.drop (j + 2) = q at *
  subst e
  have s1 : (p ++ x :: y :: q).set j y = p ++ y :: y :: q := by rw [List.set_append_right _ _ (by omega), hl, Nat.sub_self]; rfl
  have s2 : (p ++ y :: y :: q).set (j + 1) x = p ++ y :: x :: q := by rw [List.set_append_right _ _ (by omega), hl, show j + 1 - j = 1 by omega]; rfl
  rw [s1, s2]
  exact List.Perm.append_left p (List.Perm.swap _ _ _)
set_option maxRecDepth 100000 in
set_option maxHeartbeats 8000000 in
theorem law_least (v : Value) (t : Tr) (va : Value) (acc : List ByteArray) (vs : Value) (sw : List Nat) (w : World) (hT : TabV w) (hv : TreeR w w.heap.size v t) (hz : t.sz ≤ 20971520) (ha : SlR w w.heap.size va acc) (hao : ∀ p ∈ acc, p.size ≤ 2000000) (hs : SlB8 w w.heap.size vs sw) :
    Calls Tryz.prog 9 #[v, va, vs] w fun e w' => e = .returned (.bool true) ∧ Below w.heap.size w w' := by
  have AW := hide (fun W (h : Below w.heap.size w W) => awake_any W (hT.below h))
  have HTV := hide hT
  obtain ⟨cn, rfl, hzc⟩ := Nd.cells hv
  have HV := hide hv
  have HA := hide ha
  obtain ⟨aA, cA, rfl, -⟩ := ha
  have HAO := hide hao
  obtain ⟨⟨aS, cS, rfl, hsr⟩, hs255⟩ := hs
  have HSR := hide hsr
  have HS5 := hide hs255
  clear hv hao hT hsr hs255
  have HL : Live w [] := trivial
  go_enter Tryz.func9, Tryz.ntmps9
  go_upto_region 1 with fail
  have hbA : Below w.heap.size w (w.alloc (.cells cn 25)) := Below.one w _
  have HN0 := hide (Nd.new HV.out hzc)
  have hbB : Below (w.alloc (.cells cn 25)).heap.size (w.alloc (.cells cn 25)) ((w.alloc (.cells cn 25)).alloc (.cells #[.slice aA acc.length cA] 26)) := Below.one _ _
  have HN1 := hide (HN0.out.below hbB)
  have HM1 := hide (show Blk ((w.alloc (.cells cn 25)).alloc (.cells #[.slice aA acc.length cA] 26)) (w.heap.size + 1) #[.slice aA acc.length cA] 26 from Blk.newAt (World.size_alloc _ _))
  have hbel1 := hbA.trans (hbB.mono hbA.size)
  clear HN0 hbA hbB
  generalize (w.alloc (.cells cn 25)).alloc (.cells #[.slice aA acc.length cA] 26) = W1 at *
  obtain ⟨bm, hbm⟩ : ∃ bm, bm = w.heap.size + 1 := ⟨_, rfl⟩
  rw [← hbm] at HM1 ⊢
  obtain ⟨b, hb⟩ : ∃ b, b = w.heap.size := ⟨_, rfl⟩
  rw [← hb] at HN1 ⊢
  clear hb hbm HV hzc
  have HA1 := hide (HA.out.later2 hbel1)
  have A1 := hide (AW.out W1 hbel1)
  clear AW HA
  go_upto_region 3 with (go_at_call 11; refine A1.out.mono ?_; rintro e w2 ⟨rfl, hb2⟩)
  have HN2 := hide (HN1.out.below hb2)
  have HM2 := hide (Blk.below hb2 HM1.out)
  have HA2 := hide (HA1.out.later2 hb2)
  have hbel2 := hbel1.trans (hb2.mono hbel1.size)
  have m2 : w2.cell? ⟨bm, 0, none⟩ = some (.slice aA acc.length cA) := HM2.out.cells 0
  clear HN1 HM1 HA1 A1 hb2
  have FF := hide (few47_any t acc.length (by omega) (.agg cn) (.slice aA acc.length cA) w2 HN2.out.2.1 ⟨_, _, rfl⟩)
  cases hf : few47 t acc.length with
  | false =>
    rw [hf] at FF
    clear hf
    go_wp2_with (first | ((with_reducible show wpList _ _ _ (Oper.mk (some 21) _ _ _ _ _ :: _) _ _); refine wpList_load_row rfl 25 (.tmp 3) rfl b rfl 25 cn (0, 0) _ HN2.out.1 Tryz.underlying25 rfl (infN HN2.out.2.2) ?_) | (go_at_call 12; refine FF.out.mono ?_; rintro e w3 ⟨rfl, hb3⟩))
    go_ret
    exact ⟨rfl, hbel2.trans (hb3.mono hbel2.size)⟩
  | true =>
  obtain ⟨hs1, hs2⟩ := few47_sz hf
  have hct : t.count ≤ 40 := few47_ct hf
  rw [hf] at FF
  clear hf
  by_cases h40 : 40 < sw.length
  · go_wp2_with (first | ((with_reducible show wpList _ _ _ (Oper.mk (some 21) _ _ _ _ _ :: _) _ _); refine wpList_load_row rfl 25 (.tmp 3) rfl b rfl 25 cn (0, 0) _ HN2.out.1 Tryz.underlying25 rfl (infN HN2.out.2.2) ?_) | (go_at_call 12; refine FF.out.mono ?_; rintro e w3 ⟨rfl, hb3⟩))
    go_ret
    exact ⟨rfl, hbel2.trans (hb3.mono hbel2.size)⟩
  have BN := hide (fun W (hW : Below w2.heap.size w2 W) => best_any t acc (by omega) (by omega) HAO.out (.agg cn) (.slice aA acc.length cA) W ((HTV.out.below hbel2).below hW) (HN2.out.2.1.later hW) (HA2.out.later2 hW))
  obtain ⟨bs, be, hbt⟩ : ∃ bs be, bestT t acc = (bs, be) := ⟨_, _, rfl⟩
  rw [hbt] at BN
  have HBT := hide hbt
  have hfl : (filesT t).length ≤ 40 := by have h1 := files_len t; omega
  clear hbt
  by_cases he0 : be = 0
  case neg =>
    have hbs : bs = [] := by
      have h1 := best_err0 (t := t) (acc := acc) (by rw [HBT.out]; exact he0)
      rw [HBT.out] at h1
      exact h1
    subst hbs
    have hen : (be != 0) = true := by simp; exact he0
    clear he0
    go_wp2_with (first | ((with_reducible show wpList _ _ _ (Oper.mk (some 21) _ _ _ _ _ :: _) _ _); refine wpList_load_row rfl 25 (.tmp 3) rfl b rfl 25 cn (0, 0) _ HN2.out.1 Tryz.underlying25 rfl (infN HN2.out.2.2) ?_) | (go_at_call 12; refine FF.out.mono ?_; rintro e w3 ⟨rfl, hb3⟩; have HB3 := hide hb3; have HN3 := hide (HN2.out.below hb3); have m3 : w3.cell? ⟨bm, 0, none⟩ = some (.slice aA acc.length cA) := (Blk.below hb3 HM2.out).cells 0; clear hb3) | ((with_reducible show wpList _ _ _ (Oper.mk (some 31) _ _ _ _ _ :: _) _ _); refine wpList_load_row rfl 25 (.tmp 3) rfl b rfl 25 cn (0, 0) _ HN3.out.1 Tryz.underlying25 rfl (infN HN3.out.2.2) ?_) | (go_at_call 29; refine (BN.out w3 HB3.out).mono ?_; rintro e w4 ⟨r4, rfl, hr4, hb4⟩; obtain ⟨A4, c4, e4⟩ := own_slice hr4; subst e4))
    go_ret
    exact ⟨rfl, hbel2.trans ((HB3.out.trans (hb4.mono HB3.out.size)).mono hbel2.size)⟩
  case pos =>
  subst he0
  have hvd := best_valid (t := t) (acc := acc) (by rw [HBT.out])
  obtain ⟨hall, hbp, hleast⟩ := best_least (t := t) (acc := acc) (b := bs) (fun o ho => by rw [gaps_place hvd (fun p => lenP_le hs1 (by omega) p) hfl ho (Int.le_refl _) (by decide)]) HBT.out
  have HLE := hide hleast
  have HBP := hide hbp
  have HALL := hide (fun p (hp : p ∈ acc) => hasS_iff.1 (List.all_eq_true.1 hall p hp))
  have HVD := hide hvd
  have FN := hide (fun W (hW : Below w2.heap.size w2 W) => files_any t (by omega) (.agg cn) W ((HTV.out.below hbel2).below hW) (HN2.out.2.1.later hW))
  clear hleast hbp hall hvd HBT
  go_upto_region 9 with (first | ((with_reducible show wpList _ _ _ (Oper.mk (some 21) _ _ _ _ _ :: _) _ _); refine wpList_load_row rfl 25 (.tmp 3) rfl b rfl 25 cn (0, 0) _ HN2.out.1 Tryz.underlying25 rfl (infN HN2.out.2.2) ?_) | (go_at_call 12; refine FF.out.mono ?_; rintro e w3 ⟨rfl, hb3⟩; have HB3 := hide hb3; have HN3 := hide (HN2.out.below hb3); have m3 : w3.cell? ⟨bm, 0, none⟩ = some (.slice aA acc.length cA) := (Blk.below hb3 HM2.out).cells 0; clear hb3) | ((with_reducible show wpList _ _ _ (Oper.mk (some 31) _ _ _ _ _ :: _) _ _); refine wpList_load_row rfl 25 (.tmp 3) rfl b rfl 25 cn (0, 0) _ HN3.out.1 Tryz.underlying25 rfl (infN HN3.out.2.2) ?_) | (go_at_call 29; refine (BN.out w3 HB3.out).mono ?_; rintro e w4 ⟨r4, rfl, hr4, hb4⟩; have HR4 := hide (SlR.of hr4); have HB4 := hide (HB3.out.trans (hb4.mono HB3.out.size)); have HN4 := hide (HN2.out.below HB4.out); obtain ⟨A4, c4, e4⟩ := own_slice hr4; subst e4; clear hr4 hb4) | ((with_reducible show wpList _ _ _ (Oper.mk (some 41) _ _ _ _ _ :: _) _ _); refine wpList_load_row rfl 25 (.tmp 3) rfl b rfl 25 cn (0, 0) _ HN4.out.1 Tryz.underlying25 rfl (infN HN4.out.2.2) ?_) | (go_at_call 16; refine (FN.out w4 HB4.out).mono ?_; rintro e w5 ⟨r5, rfl, hr5, hb5⟩; have HR5 := hide (SlR.of hr5); have HB5 := hide hb5; obtain ⟨A5, c5, e5⟩ := own_slice hr5; subst e5; clear hr5 hb5))
  have hb6 : Below w5.heap.size w5 (w5.alloc (.cells #[.slice A5 (filesT t).length c5] 26)) := Below.one _ _
  have HAB := hide (show Blk (w5.alloc (.cells #[.slice A5 (filesT t).length c5] 26)) w5.heap.size #[.slice A5 (filesT t).length c5] 26 from Blk.newAt rfl)
  have hb26 := HB4.out.trans ((HB5.out.trans (hb6.mono HB5.out.size)).mono HB4.out.size)
  have HN6 := hide (HN2.out.below hb26)
  have HM6 := hide (Blk.below hb26 HM2.out)
  have HA6 := hide (HA2.out.later2 hb26)
  have HF6 := hide (HR5.out.later2 hb6)
  have HB6 := hide ((HR4.out.later2 HB5.out).later2 hb6)
  have hbel6 := hbel2.trans (hb26.mono hbel2.size)
  have HT6 := hide (HTV.out.below hbel6)
  clear FF BN FN HN2 HN3 HN4 HM2 HA2 HR4 HR5 HB3 HB4 HB5 HTV hb6 hb26 m2 m3 hbel1 hbel2
  generalize w5.alloc (.cells #[.slice A5 (filesT t).length c5] 26) = W6 at *
  obtain ⟨ab, hab⟩ : ∃ ab, ab = w5.heap.size := ⟨_, rfl⟩
  rw [← hab] at HAB ⊢
  clear hab
  have L1 := hide (fun (l : List ByteArray) lv W (hW : Below W6.heap.size W6 W) (hp : l.Perm (filesT t)) (hl : SlR W W.heap.size lv l) => least1_any t acc l hs1 hfl HVD.out HALL.out hs2 hp lv (.slice aA acc.length cA) b bm cn W (HT6.out.below hW) (HN6.out.below hW) (Blk.below hW HM6.out) (HA6.out.later2 hW) hl)
  have L1B := hide (L1.out bs (.slice A4 bs.length c4) W6 (Below.refl _ _) HBP.out HB6.out)
  have CLN := hide (fun W (hW : Below W6.heap.size W6 W) => cloneS_any bs (.slice A4 bs.length c4) W.heap.size (by have := HBP.out.length_eq; omega) W (HB6.out.later2 hW))
  go_upto_region 12 with (first | (go_at_call 37; refine L1B.out.mono ?_; rintro e w7 ⟨rfl, hb7⟩; have HB7 := hide hb7) | (go_at_call 38; refine (CLN.out w7 HB7.out).mono ?_; rintro e w8 ⟨r8, rfl, hr8, hb8⟩; have HR8 := hide hr8; have HB8 := hide hb8; obtain ⟨A8, c8, e8⟩ := own_slice hr8; subst e8; clear hr8 hb8))
  have hb67 := HB7.out
  have hz7 := hb67.size
  have hn := HBP.out.length_eq
  have HNN := hide hn
  have hnb : ((bs.length : Int) != ((filesT t).length : Int)) = false := by rw [hn]; simp
  have hne : ((bs.length : Int) == ((filesT t).length : Int)) = true := by rw [hn]; simp
  have hn40 : bs.length ≤ 40 := by omega
  clear hn L1B CLN
  go_wp2_with fail
  go_loopw [54] (fun iv wr => ∃ (k : Nat) (o : List ByteArray), iv = .int .i64 (k : Int) ∧ k ≤ sw.length ∧ o.Perm (filesT t) ∧ wr.ownsRow w7.heap.size 9 1 (.slice A8 bs.length c8) bs.length (strV o) ∧ Below w7.heap.size w7 wr) (fun iv _ => sw.length - (intOf iv).toNat)
  case atStart => exact ⟨0, bs, rfl, Nat.zero_le _, HBP.out, HR8.out, HB8.out⟩
  case round =>
    obtain ⟨k, o, rfl, hk, hop, hown, hbr⟩ := hrel
    have HO := hide hown
    have HOP := hide hop
    have HBr := hide hbr
    have h6r := hb67.trans (hbr.mono hz7)
    have a6 : wr.cell? ⟨ab, 0, none⟩ = some (.slice A5 (filesT t).length c5) := (Blk.below h6r HAB.out).cells 0
    clear hown hop hbr
    by_cases hlt : k < sw.length
    · obtain ⟨x, hx⟩ : ∃ x, sw[k]? = some x := ⟨_, List.getElem?_eq_getElem hlt⟩
      have hx5 := HS5.out x (List.mem_of_getElem? hx)
      obtain ⟨gs, os, rfl, hgs, hcs⟩ := HSR.out (by omega)
      have s6 : wr.cell? ⟨gs, os + k, none⟩ = some (.int .u8 (x : Int)) := ((hbel6.trans (h6r.mono hbel6.size)).cell (p := ⟨gs, os + k, none⟩) hgs).trans (hcs k x hx)
      clear hx hcs
      by_cases hn2 : bs.length < 2
      · go_wp2_with fail
        go_ret
        exact ⟨rfl, hbel6.trans (h6r.mono hbel6.size)⟩
      · go_upto_region 17 with fail
        obtain ⟨j, hj⟩ : ∃ j, j = x % (bs.length - 1) := ⟨_, rfl⟩
        have hjz : (x : Int) % ((bs.length : Int) - 1) = (j : Int) := by rw [hj, show ((bs.length : Int) - 1) = ((bs.length - 1 : Nat) : Int) by omega]; first | rfl | exact (Int.natCast_emod _ _).symm | exact (Int.natCast_mod _ _).symm
        have hj1 : j + 1 < bs.length := by have := Nat.mod_lt x (show bs.length - 1 > 0 by omega); omega
        rw [hjz]
        clear hj hjz
        have hol : o.length = bs.length := by rw [HOP.out.length_eq, HNN.out]
        obtain ⟨y1, hy1⟩ : ∃ y, o[j]? = some y := ⟨_, List.getElem?_eq_getElem (by omega)⟩
        obtain ⟨y2, hy2⟩ : ∃ y, o[j + 1]? = some y := ⟨_, List.getElem?_eq_getElem (by omega)⟩
        obtain ⟨g8, cap, cur, e8, hg8, hcur⟩ : ∃ g cap cur, Value.slice A8 bs.length c8 = .slice (some ⟨g, 0, none⟩) bs.length cap ∧ w7.heap.size ≤ g ∧ wr.heap[g]? = some (.cells cur 9 (0, 0)) := by
          rcases HO.out.2 with ⟨e, h0⟩ | ⟨g, cap, cur, e, h1, h2, -⟩
          · omega
          · exact ⟨g, cap, cur, e, h1, h2⟩
        injection e8 with e81 e82 e83
        subst e81; subst e83
        obtain ⟨g9, e9, hg9, hcl⟩ := own_newsG HO.out (by omega)
        have e9' : g8 = g9 := by injection e9 with e9; injection e9
        subst e9'
        have l1 : wr.cell? ⟨g8, j, none⟩ = some (.string y1) := hcl j _ (by unfold strV; rw [List.getElem?_map, hy1]; rfl)
        have l2 : wr.cell? ⟨g8, j + 1, none⟩ = some (.string y2) := hcl (j + 1) _ (by unfold strV; rw [List.getElem?_map, hy2]; rfl)
        have f1 : wr.frozen? ⟨g8, j, none⟩ = false := Blk.free (show Blk wr g8 cur 9 from hcur) j
        have f2 : wr.frozen? ⟨g8, j + 1, none⟩ = false := Blk.free (show Blk wr g8 cur 9 from hcur) (j + 1)
        have jw : IntKind.i64.wrap ((j : Int) + 1) = (j : Int) + 1 := IntWalk.i64_in _ (by omega)
        have j0 : (0 : Int) ≤ (j : Int) + 1 := by omega
        have jl : (j : Int) + 1 < (bs.length : Int) := by omega
        have jl0 : (j : Int) < (bs.length : Int) := by omega
        have jn : ((j : Int) + 1).toNat = j + 1 := by omega
        have aE := agg_w
        have zE : ∀ w, (Go.sizeOf 9).run Tryz.prog w = .ok 1 w := fun w => by exact siz_w w
        have mixed : Tryz.prog.follows .mixedOrders = true := by kernel_rfl
        have HSW := hide (swap_perm hy1 hy2)
        have HY := hide (And.intro hy1 hy2)
        clear hcl e9 hcur hg9 hy1 hy2 e82
        go_big_region_o
        have HR9 := hide (show (((wr.setCell ⟨g8, j, none⟩ (.string y2)).setCell ⟨g8, j + 1, none⟩ (.string y1)).drew).ownsRow w7.heap.size 9 1 (.slice (some ⟨g8, 0, none⟩) bs.length c8) bs.length (strV ((o.set j y2).set (j + 1) y1)) by
          have h := own_cell (i := j + 1) (v := .string y1) (own_cell (i := j) (v := .string y2) HO.out)
          have e : strV ((o.set j y2).set (j + 1) y1) = ((strV o).set j (.string y2)).set (j + 1) (.string y1) := by unfold strV; rw [List.map_set, List.map_set]
          rw [e]
          exact h)
        have hb9 : Below w7.heap.size w7 ((wr.setCell ⟨g8, j, none⟩ (.string y2)).setCell ⟨g8, j + 1, none⟩ (.string y1)).drew := ((HBr.out.setCell hg8 _).setCell hg8 _).drew
        have hsl : ((o.set j y2).set (j + 1) y1).length = bs.length := by rw [List.length_set, List.length_set]; exact hol
        have hpm := HSW.out.trans HOP.out
        generalize ((wr.setCell ⟨g8, j, none⟩ (.string y2)).setCell ⟨g8, j + 1, none⟩ (.string y1)).drew = W9 at *
        generalize (o.set j y2).set (j + 1) y1 = o2 at *
        have h69 := hb67.trans (hb9.mono hz7)
        have HS9 := hide (SlR.of (show StrsR W9 w7.heap.size (.slice (some ⟨g8, 0, none⟩) o2.length c8) o2 by unfold StrsR; rw [hsl]; exact HR9.out))
        rw [hsl] at HS9
        have L19 := hide (L1.out o2 (.slice (some ⟨g8, 0, none⟩) bs.length c8) W9 h69 hpm HS9.out)
        obtain ⟨hl1, hl2⟩ := HLE.out o2 hpm
        have HPM := hide hpm
        have hlt2 : decide (costO t acc o2 < costO t acc bs) = false := decide_eq_false (by omega)
        clear l1 l2 f1 f2 j0 jl jl0 jn jw aE zE HSW HY a6 s6 hpm
        by_cases hce : costO t acc o2 = costO t acc bs
        · have hcm := hl2 hce
          have CF := hide (fun W (hW : Below W9.heap.size W9 W) => compare_any (filesT t) o2 bs hfl (fun p hp => (HPM.out.mem_iff (a := p)).1 hp) (fun p hp => (HBP.out.mem_iff (a := p)).1 hp) hsl (by omega) (.slice (some ⟨g8, 0, none⟩) bs.length c8) (.slice A4 bs.length c4) (.slice A5 (filesT t).length c5) ab W (Blk.below (h69.trans (hW.mono h69.size)) HAB.out) (HF6.out.later2 (h69.trans (hW.mono h69.size))) (HS9.out.later2 hW) (HB6.out.later2 (h69.trans (hW.mono h69.size))))
          have hcq : (costO t acc o2 == costO t acc bs) = true := by rw [hce]; simp
          have hneg : decide (cmpP (fun p => (idxN (filesT t) p : Int)) o2 bs < 0) = false := decide_eq_false (by omega)
          generalize cmpP (fun p => (idxN (filesT t) p : Int)) o2 bs = cv at *
          clear hl1 hl2 hce hcm
          go_wp2_with (first | (go_at_call 37; refine L19.out.mono ?_; rintro e w10 ⟨rfl, hb10⟩; have HB10 := hide hb10; clear hb10) | (go_at_call 39; refine (CF.out w10 HB10.out).mono ?_; rintro e w11 ⟨rfl, hb11⟩))
          have hb911 := HB10.out.trans (hb11.mono HB10.out.size)
          go_roundw
          case rel => exact ⟨k + 1, o2, by go_num, by omega, HPM.out, below_row' HR9.out hb911, hb9.trans (hb911.mono hb9.size)⟩
          case measure => simp [intOf]; omega
        · have hcq : (costO t acc o2 == costO t acc bs) = false := by rw [beq_eq_false_iff_ne]; exact hce
          clear hl1 hl2 hce
          go_wp2_with (go_at_call 37; refine L19.out.mono ?_; rintro e w10 ⟨rfl, hb10⟩)
          go_roundw
          case rel => exact ⟨k + 1, o2, by go_num, by omega, HPM.out, below_row' HR9.out hb10, hb9.trans (hb10.mono hb9.size)⟩
          case measure => simp [intOf]; omega
    · obtain rfl : k = sw.length := by omega
      have hno : ¬ ((sw.length : Int) < (sw.length : Int)) := by omega
      go_wp2_with fail
      go_ret
      exact ⟨rfl, hbel6.trans (h6r.mono hbel6.size)⟩
end Go.Proofs.YtocgindpjjolpaaGreatDoor
