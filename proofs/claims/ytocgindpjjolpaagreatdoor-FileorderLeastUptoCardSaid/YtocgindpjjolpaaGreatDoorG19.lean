/- Contracts and plain words for the laws of this chapter, part 19: Fw6, Rx, Pl2, Fp3. No condition. -/
import Derived.Test.YtocgindpjjolpaaGreatDoorG18
import Derived.Test.YtocgindpjjolpaaGreatDoorG14
import Derived.Test.YtocgindpjjolpaaGreatDoorG12
import Derived.Test.YtocgindpjjolpaaGreatDoorG13
namespace Go.Proofs.YtocgindpjjolpaaGreatDoor
set_option linter.unusedSimpArgs false
set_option linter.unusedVariables false
open Go.RowKit Go.Sort
theorem byW_len (t : Tr) : (byW t).length = (filesT t).length := srt_len _ _
theorem files_len (t : Tr) : (filesT t).length ≤ t.count := Nat.le_trans (List.length_filter_le _ _) (paths_count t)
theorem addA_no {all out : List ByteArray} {p : ByteArray} (h : hasS all p = false) : addA all out p = out := by unfold addA; rw [h]; rfl
theorem addA_in {all out : List ByteArray} {p : ByteArray} (h : hasS out p = true) : addA all out p = out := by unfold addA; rw [h, Bool.not_true, Bool.and_false]; rfl
theorem addA_add {all out : List ByteArray} {p : ByteArray} (h1 : hasS all p = true) (h2 : hasS out p = false) : addA all out p = out ++ [p] := by unfold addA; rw [h1, h2]; rfl
theorem addA_len (all out : List ByteArray) (p : ByteArray) : (addA all out p).length ≤ out.length + 1 := by
  unfold addA
  split
  · rw [List.length_append]; exact Nat.le_refl _
  · omega
theorem foldA_len (all : List ByteArray) : ∀ (l out : List ByteArray), (l.foldl (addA all) out).length ≤ out.length + l.length
  | [], out => Nat.le_refl _
  | p :: l, out => by
    rw [List.foldl_cons, List.length_cons]
    have h1 := foldA_len all l (addA all out p)
    have h2 := addA_len all out p
    omega
theorem fold_next {all ls : List ByteArray} {k : Nat} {p : ByteArray} (h : ls[k]? = some p) : (ls.take (k + 1)).foldl (addA all) [] = addA all ((ls.take k).foldl (addA all) []) p := by
  rw [List.take_add_one, h, List.foldl_append]
  rfl
set_option maxRecDepth 100000 in
set_option maxHeartbeats 4000000 in
theorem byAccess_any (t : Tr) (acc : List ByteArray) (hsz : t.sz ≤ 120000) (hac : acc.length ≤ 70) (v va : Value) (w : World) (hT : TabV w) (hv : TreeR w w.heap.size v t) (ha : SlR w w.heap.size va acc) : Calls Tryz.prog 20 #[v, va] w fun e w' => ∃ r, e = .returned r ∧ StrsR w' w.heap.size r (byA t acc) ∧ Below w.heap.size w w' := by
  have FN := hide (fun W hTW hW => byWeight_any t hsz v W hTW hW)
  have hfl : (byW t).length ≤ 6000 := by rw [byW_len]; have h1 := files_len t; have h2 := t.count_sz; omega
  have HBA := hide (show byA t acc = (acc ++ byW t).foldl (addA (byW t)) [] from rfl)
  obtain ⟨cn, rfl, hzc⟩ := Nd.cells hv
  have HV := hide hv
  have HA := hide ha
  obtain ⟨aA, aC, rfl, -⟩ := ha
  clear hv
  have HL : Live w [] := trivial
  go_enter Tryz.func20, Tryz.ntmps20
  go_upto_region 1 with fail
  have HN1 := hide (Nd.new HV.out hzc)
  have hbel1 : Below w.heap.size w (w.alloc (.cells cn 25)) := (Below.refl _ _).alloc (Nat.le_refl _) _
  have HT1 := hide (hT.below hbel1)
  generalize w.alloc (.cells cn 25) = W1 at *
  obtain ⟨b, hb⟩ : ∃ b, b = w.heap.size := ⟨_, rfl⟩
  rw [← hb] at HN1 ⊢
  clear hb HV hzc hT
  have FA := hide (FN.out W1 HT1.out HN1.out.2.1)
  clear FN
  generalize byW t = fs at *
  go_upto_region 2 with (first | ((with_reducible show wpList _ _ _ (Oper.mk (some 9) _ _ _ _ _ :: _) _ _); refine wpList_load_row rfl 25 (.tmp 2) rfl b rfl 25 cn (0, 0) _ HN1.out.1 Tryz.underlying25 rfl (infN HN1.out.2.2) ?_) | (go_at_call 18; refine (FA.out).mono ?_; rintro e w3 ⟨r3, rfl, hr3, hb3⟩; have HR3 := hide hr3; have hbel3 := hbel1.trans (hb3.mono hbel1.size); obtain ⟨A, cp, hvs⟩ := own_slice hr3; subst hvs; clear hr3 hb3))
  clear FA HN1 HT1
  have HP3 := hide (SlR.of HR3.out)
  obtain ⟨A', c', ev, hps⟩ := HP3.out
  injection ev with ev1 ev2 ev3
  subst ev1; subst ev3
  have HRD := hide hps
  clear hps HR3
  have HA3 := hide (HA.out.below hbel3)
  have CL := hide (fun W (hW : Below w3.heap.size w3 W) => cloneS_any acc (.slice aA acc.length aC) w.heap.size (by omega) W ((HA3.out).below (hW.mono hbel3.size)))
  clear HA
  go_upto_region 3 with fail
  go_wp2_with (first | (go_at_call 38; (with_reducible refine (CL.out _ (Below.refl _ _)).mono ?_); rintro e w4 ⟨r4, rfl, hr4, hb4⟩; have HR4 := hide hr4; have HB4 := hide hb4; obtain ⟨A4, cp4, hvs4⟩ := own_slice hr4; subst hvs4; clear hr4 hb4) | (at_builtin; refine wpList_append_opt _ rfl _ _ 26 rfl w3.heap.size 9 strInfo Tryz.underlying26 rfl (by decide) (.slice A4 acc.length cp4) acc.length (strV acc) HR4.out A fs.length cp (strV fs) rfl rfl (by simp [strV]) (fun h => by obtain ⟨g, o, e, hg, hc⟩ := HRD.out h; exact ⟨⟨g, o, none⟩, e, fun j u hu => by unfold strV at hu; rw [List.getElem?_map] at hu; cases hs : fs[j]? with | none => rw [hs] at hu; cases hu | some s => rw [hs] at hu; injection hu with hu; subst hu; rw [Addr.add_lit]; exact (HB4.out.cell (p := ⟨g, o + j, none⟩) hg).trans (hc j s hs)⟩) (by intro u hu; unfold strV at hu; obtain ⟨x, -, rfl⟩ := List.mem_map.1 hu; rfl) (by unfold maxLen; omega) (by omega) HB4.out.size ?_; intro v5 w5 hown5 hnb5 hg5; have HR5 := hide hown5; have HG5 := hide hg5; obtain ⟨A5, cp5, hvs5⟩ := own_slice hown5; subst hvs5; clear hown5 hg5 hnb5))
  have hb5 : Below w3.heap.size w3 w5 := HB4.out.grown HG5.out HB4.out.size (fun q hq => (HR4.out.lt q hq).1)
  have HL5 := hide (show StrsR w5 w3.heap.size (.slice A5 (acc.length + fs.length) cp5) (acc ++ fs) from by unfold StrsR; rw [List.length_append]; have h := HR5.out; rw [show strV acc ++ strV fs = strV (acc ++ fs) from (List.map_append ..).symm] at h; exact h)
  have HQ5 := hide (SlR.of HL5.out)
  obtain ⟨A6, c6, ev6, hps6⟩ := HQ5.out
  rw [List.length_append] at ev6
  injection ev6 with ev7 ev8 ev9
  subst ev7; subst ev9
  have HRL := hide hps6
  have HSA := hide ((HP3.out.below hb5).mono hb5.size)
  have hbel5 := hbel3.trans (hb5.mono hbel3.size)
  clear hps6 HR5 HG5 HQ5 CL HB4 HR4 HA3
  have hll : (acc ++ fs).length = acc.length + fs.length := List.length_append
  have CT := hide (fun p W (hW : Below w5.heap.size w5 W) => contains_any fs p (.slice A fs.length cp) w5.heap.size (by omega) W (HSA.out.below hW))
  generalize acc ++ fs = ls at *
  go_loopw [6, 16] (fun ov i wr => ∃ (k : Nat), i = .int .i64 (k : Int) ∧ k ≤ ls.length ∧ wr.ownsRow w5.heap.size 9 1 ov ((ls.take k).foldl (addA fs) []).length (strV ((ls.take k).foldl (addA fs) [])) ∧ Below w5.heap.size w5 wr) (fun _ i _ => ls.length - (intOf i).toNat)
  case atStart => exact ⟨0, rfl, Nat.zero_le _, World.ownsRow_nil _ _ _ _, Below.refl _ _⟩
  case round =>
    obtain ⟨k, rfl, hk, hown, hbelr⟩ := hrel
    have HO := hide hown
    have HB := hide hbelr
    have hszr := hbelr.size
    obtain ⟨ao, cap, rfl⟩ := own_slice hown
    clear hown hbelr
    by_cases hlt : k < ls.length
    · obtain ⟨p, hp⟩ : ∃ p, ls[k]? = some p := ⟨ls[k], List.getElem?_eq_getElem hlt⟩
      obtain ⟨g, o, rfl, hg, hcl⟩ := HRL.out (by omega)
      have c0 : wr.cell? ⟨g, o + k, none⟩ = some (.string p) := (HB.out.cell (p := ⟨g, o + k, none⟩) hg).trans (hcl k p hp)
      have HNX := hide (fold_next (all := fs) hp)
      have hlo : ((ls.take k).foldl (addA fs) []).length ≤ 6100 := by
        have := foldA_len fs (ls.take k) []
        rw [List.length_take] at this
        simp only [List.length_nil, Nat.zero_add] at this
        omega
      have CF := hide (CT.out p wr HB.out)
      have HSO := hide (SlR.of (show StrsR wr w5.heap.size (.slice ao ((ls.take k).foldl (addA fs) []).length cap) ((ls.take k).foldl (addA fs) []) from HO.out))
      have CO := hide (contains_any ((ls.take k).foldl (addA fs) []) p (.slice ao ((ls.take k).foldl (addA fs) []).length cap) wr.heap.size (by omega) wr HSO.out)
      have hkl : (k : Int) < (acc.length : Int) + (fs.length : Int) := by omega
      clear hcl hp HSO
      cases hF : hasS fs p with
      | false =>
        rw [hF] at CF
        have HNX2 := hide (show (ls.take (k + 1)).foldl (addA fs) [] = (ls.take k).foldl (addA fs) [] by rw [HNX.out]; exact addA_no hF)
        clear hF HNX
        generalize (ls.take k).foldl (addA fs) [] = out at *
        go_wp2_with (go_at_call 32; (with_reducible refine CF.out.mono ?_); rintro e w' ⟨rfl, rfl⟩)
        go_roundw
        case rel => exact ⟨k + 1, by go_num, by omega, by rw [HNX2.out]; exact HO.out, HB.out⟩
        case measure => simp [intOf]; omega
      | true =>
      rw [hF] at CF
      cases hO2 : hasS ((ls.take k).foldl (addA fs) []) p with
      | true =>
        rw [hO2] at CO
        have HNX2 := hide (show (ls.take (k + 1)).foldl (addA fs) [] = (ls.take k).foldl (addA fs) [] by rw [HNX.out]; exact addA_in hO2)
        clear hF HNX hO2
        generalize (ls.take k).foldl (addA fs) [] = out at *
        go_wp2_with (first | (go_at_call 32; (with_reducible refine CF.out.mono ?_); rintro e w' ⟨rfl, rfl⟩) | (go_at_call 32; (with_reducible refine CO.out.mono ?_); rintro e w' ⟨rfl, rfl⟩))
        go_roundw
        case rel => exact ⟨k + 1, by go_num, by omega, by rw [HNX2.out]; exact HO.out, HB.out⟩
        case measure => simp [intOf]; omega
      | false =>
        rw [hO2] at CO
        have HNX2 := hide (show (ls.take (k + 1)).foldl (addA fs) [] = (ls.take k).foldl (addA fs) [] ++ [p] by rw [HNX.out]; exact addA_add hF hO2)
        clear hF HNX hO2
        generalize (ls.take k).foldl (addA fs) [] = out at *
        go_wp2_with (first | (go_at_call 32; (with_reducible refine CF.out.mono ?_); rintro e w' ⟨rfl, rfl⟩) | (go_at_call 32; (with_reducible refine CO.out.mono ?_); rintro e w' ⟨rfl, rfl⟩) | (at_builtin; refine wpList_append_blk _ rfl _ _ 26 rfl w5.heap.size 9 strInfo Tryz.underlying26 rfl (by decide) (.slice ao out.length cap) _ _ (HO.out.alloc _) wr.heap.size #[.string p] (Blk.newAt rfl) rfl rfl rfl (by simp [Value.oneCell']) (by unfold maxLen; omega) (by omega) (by rw [World.size_alloc]; omega) ?_; intro v6 w6 hown6 hnb6 hg6))
        have hbel6 : Below w5.heap.size w5 w6 := (HB.out.alloc hszr _).grown hg6 (by rw [World.size_alloc]; omega) (fun q hq => (HO.out.lt q hq).1)
        go_roundw
        case rel => exact ⟨k + 1, by go_num, by omega, by rw [HNX2.out, List.length_append, ← strV_snoc]; exact hown6, hbel6⟩
        case measure => simp [intOf]; omega
    · obtain rfl : k = ls.length := by omega
      have HO2 := HO.out
      rw [List.take_length] at HO2
      have HO3 := hide HO2
      clear HO2
      rw [List.take_length]
      have hkl : ¬ ((acc.length : Int) + (fs.length : Int) < (acc.length : Int) + (fs.length : Int)) := by omega
      go_wp2_with fail
      go_ret
      exact ⟨_, rfl, by rw [HBA.out]; exact own_base HO3.out hbel5.size, hbel5.trans (HB.out.mono hbel5.size)⟩
end Go.Proofs.YtocgindpjjolpaaGreatDoor
namespace Go.Proofs.YtocgindpjjolpaaGreatDoor
set_option linter.unusedSimpArgs false
set_option linter.unusedVariables false
open Go.RowKit Go.Shelf Go.Sort
def sortB (l : List ByteArray) : List ByteArray := ((l.map fun s => s.data.toList).mergeSort fun x y => decide (x ≤ y)).map fun x => ⟨x.toArray⟩
theorem sortB_len (l : List ByteArray) : (sortB l).length = l.length := by unfold sortB; rw [List.length_map, List.length_mergeSort, List.length_map]
theorem sortB_perm (l : List ByteArray) : (sortB l).Perm l := by
  unfold sortB
  have h := (List.mergeSort_perm (l.map fun s : ByteArray => s.data.toList) fun x y => decide (x ≤ y)).map fun x => (⟨x.toArray⟩ : ByteArray)
  rw [List.map_map] at h
  have e : l.map ((fun x : List UInt8 => (⟨x.toArray⟩ : ByteArray)) ∘ fun s : ByteArray => s.data.toList) = l := by
    conv => rhs; rw [← List.map_id l]
    rfl
  rw [e] at h
  exact h
theorem sortB_eq {l m : List ByteArray} : sortB l = sortB m ↔ l.Perm m := by
  constructor
  · intro h
    exact (sortB_perm l).symm.trans (h ▸ sortB_perm m)
  · intro h
    unfold sortB
    congr 1
    have hp : (l.map fun s : ByteArray => s.data.toList).Perm (m.map fun s => s.data.toList) := h.map _
    have hs : ∀ k : List (List UInt8), (k.mergeSort fun x y => decide (x ≤ y)).Pairwise fun x y => decide (x ≤ y) = true := fun k => List.pairwise_mergeSort (le := fun x y : List UInt8 => decide (x ≤ y)) (fun a b c h1 h2 => decide_eq_true (List.le_trans (of_decide_eq_true h1) (of_decide_eq_true h2))) (fun a b => by
      rcases List.le_total a b with h | h
      · rw [decide_eq_true h]; rfl
      · rw [decide_eq_true h, Bool.or_true]) k
    refine List.Perm.eq_of_pairwise (le := fun x y : List UInt8 => decide (x ≤ y) = true) (fun a b _ _ h1 h2 => ?_) (hs _) (hs _) (((List.mergeSort_perm _ _).trans hp).trans (List.mergeSort_perm _ _).symm)
    exact List.le_antisymm (of_decide_eq_true h1) (of_decide_eq_true h2)
theorem strV_encStr (l : List ByteArray) : strV l = (l.map fun s => s.data.toList).map encStr := by
  unfold strV
  rw [List.map_map]
  rfl
theorem strV_sort (l : List ByteArray) : strV (sortB l) = ((l.map fun s => s.data.toList).mergeSort fun x y => decide (x ≤ y)).map encStr := by
  rw [strV_encStr]
  unfold sortB
  rw [List.map_map, List.map_map]
  rfl
theorem sortS_any (B : Nat) (l : List ByteArray) (hl : l.length ≤ 100000) (v : Value) (w : World) (h : w.ownsRow B 9 1 v l.length (strV l)) : Calls Tryz.prog 41 #[v] w fun e w' => e = .returned (.tuple #[]) ∧ w'.ownsRow B 9 1 v l.length (strV (sortB l)) ∧ w.grownBy w' v.ownBlock := by
  rcases h.2 with ⟨rfl, h0⟩ | ⟨gb, cap, cur, rfl, hbase, hgb, r1, r2, r3, r4⟩
  · obtain rfl := List.length_eq_zero_iff.1 h0
    exact (Any.slices_Sort_string_none Tryz.lays190 none 0 w).mono fun e w' ⟨h1, h2⟩ => by subst h2; exact ⟨h1, by rw [show sortB [] = [] from List.length_eq_zero_iff.1 (sortB_len [])]; exact h, World.grownBy.refl _ _⟩
  · rw [strV_encStr, Nat.mul_one] at r4
    have hll : (l.map fun s : ByteArray => s.data.toList).length = l.length := List.length_map _
    have hH : Holds encStr w gb 0 (l.map fun s : ByteArray => s.data.toList).toArray := holds_of_block hgb (by rw [hll]; exact r4)
    have cS := Any.slices_Sort_string Tryz.lays190 gb 0 cap (l.map fun s : ByteArray => s.data.toList) w hH (Array.getElem?_eq_some_iff.1 hgb).1 (by rw [hll]; omega)
    rw [hll] at cS
    refine cS.mono fun e w' ⟨h1, n, os, h2⟩ => ?_
    subst h2
    refine ⟨h1, ?_, grownBy_sorted _⟩
    have h3 := ownsRow_sorted (n := n) (os := os) (ss := l.map fun s : ByteArray => s.data.toList) (ts := (l.map fun s : ByteArray => s.data.toList).mergeSort fun x y => decide (x ≤ y)) (by simp) hbase hgb (by rw [hll]; exact r1) r2 r3
    rw [strV_sort]
    rw [hll] at h3
    exact h3
set_option maxHeartbeats 2000000 in
theorem collect_any (L : List ByteArray) (hL : L.length ≤ 100000) (g : Nat) (lb : Array Value) (eg : ∀ args w, (callFunc g args).run Tryz.prog w = .ok (.enter g args) w) (n1 : Nat) (w : World) (hn : n1 ≤ w.heap.size)
    (hf : Feeds Tryz.prog g lb (fun _ x v _ => v = .string x) (fun _ j => n1 ≤ j) (fun _ A B => Below A.heap.size A B) L w) :
    Calls Tryz.prog 71 #[.func (.func g) #[] lb] w fun e w' => ∃ r, e = .returned r ∧ StrsR w' w.heap.size r L ∧ Below w.heap.size w w' := by
  have AP := hide (appendSeq_any L hL g lb eg n1 w hn hf)
  clear hf eg
  have HL : Live w [] := trivial
  go_enter Tryz.func71, Tryz.ntmps71
  go_wp2_with (go_at_call 103; (with_reducible refine AP.out.mono ?_); rintro e w2 ⟨r, rfl, hr, hb⟩)
  go_ret
  exact ⟨_, rfl, hr, hb⟩
set_option maxHeartbeats 2000000 in
theorem sorted_any (L : List ByteArray) (hL : L.length ≤ 100000) (g : Nat) (lb : Array Value) (eg : ∀ args w, (callFunc g args).run Tryz.prog w = .ok (.enter g args) w) (n1 : Nat) (w : World) (hn : n1 ≤ w.heap.size)
    (hf : Feeds Tryz.prog g lb (fun _ x v _ => v = .string x) (fun _ j => n1 ≤ j) (fun _ A B => Below A.heap.size A B) L w) :
    Calls Tryz.prog 42 #[.func (.func g) #[] lb] w fun e w' => ∃ r, e = .returned r ∧ StrsR w' w.heap.size r (sortB L) ∧ Below w.heap.size w w' := by
  have AP := hide (collect_any L hL g lb eg n1 w hn hf)
  have SO := hide (fun v W h => sortS_any w.heap.size L hL v W h)
  clear hf eg
  have HL : Live w [] := trivial
  go_enter Tryz.func42, Tryz.ntmps42
  go_wp2_with (first | (go_at_call 71; (with_reducible refine AP.out.mono ?_); rintro e w2 ⟨r2, rfl, hr2, hb2⟩; have HR2 := hide hr2; have HB2 := hide hb2; obtain ⟨A2, c2, hv2⟩ := own_slice hr2; subst hv2; clear hr2 hb2) | (go_at_call 41; refine (SO.out (.slice A2 L.length c2) w2 (show w2.ownsRow w.heap.size 9 1 (.slice A2 L.length c2) L.length (strV L) from HR2.out)).mono ?_; rintro e w3 ⟨rfl, hr3, hg3⟩; have HR3 := hide hr3; have HG3 := hide hg3; clear hr3 hg3))
  go_ret
  refine ⟨_, rfl, ?_, HB2.out.grown HG3.out HB2.out.size (fun q hq => (HR2.out.lt q hq).1)⟩
  unfold StrsR
  rw [sortB_len]
  exact HR3.out
theorem sortedV_any (L : List ByteArray) (hL : L.length ≤ 100000) (sv : Value) (w0 w : World) (hs : SlR w0 w0.heap.size sv L) (hb : Below w0.heap.size w0 w) (c : Nat) (hc : w0.heap.size ≤ c) (hB : Blk w c #[sv] 26) :
    Calls Tryz.prog 42 #[.func (.func 72) #[] #[.pointer (some ⟨c, 0, none⟩)]] w fun e w' => ∃ r, e = .returned r ∧ StrsR w' w.heap.size r (sortB L) ∧ Below w.heap.size w w' := by
  have hcl := hB.lt
  exact sorted_any L hL _ _ (enters_of Tryz.func72 (by kernel_rfl) rfl) (c + 1) w (by omega) (values_feed L hL c (c + 1) sv w (by omega) (by omega) (hB.cells 0) ((hs.below hb).mono (by omega)))
end Go.Proofs.YtocgindpjjolpaaGreatDoor
namespace Go.Proofs.YtocgindpjjolpaaGreatDoor
set_option linter.unusedSimpArgs false
set_option linter.unusedVariables false
def okF : Fo → Nat → Prop
  | .nil, _ => True
  | .node h ss ks nx, l => oneE ⟨h, ss, ks⟩ (l + 1) = 0 ∧ okF ks (l + 1) ∧ okF nx l
theorem okF_of : ∀ {f : Fo} {p : ByteArray} {l : Nat}, chkF f p l = none → okF f l
  | .nil, _, _, _ => trivial
  | .node h ss ks nx, p, l, e => by
    obtain ⟨h1, h2, h3⟩ := chkF_none e
    exact ⟨h1, okF_of h2, okF_of h3⟩
/-! Names without a slash. -/
theorem nameB_slash {n : ByteArray} (h : nameB n = true) : ∀ c ∈ n.data.toList, c ≠ 47 := by
  have h2 : hasC n 47 = false := by
    unfold nameB at h
    rw [Bool.and_eq_true, Bool.and_eq_true] at h
    simpa using h.1.2
  intro c hc e
  subst e
  have h3 : hasC n 47 = true := by
    unfold hasC
    simpa using hc
  rw [h2] at h3
  cases h3
theorem names_noSl : ∀ {f : Fo} {l : Nat} {pre m : List ByteArray}, okF f l → 1 ≤ l → NoSls pre → m ∈ nlF f pre → NoSls m
  | .nil, _, _, _, _, _, _, h => by cases h
  | .node h ss ks nx, l, pre, m, ⟨h1, h2, h3⟩, hl, hp, hm => by
    have hpre : NoSls (pre ++ [h.name]) := by
      intro n hn
      rw [List.mem_append, List.mem_singleton] at hn
      rcases hn with hn | rfl
      · exact hp n hn
      · exact nameB_slash (oneE_name h1 (by omega))
    rw [nlF, List.mem_append, List.mem_cons] at hm
    rcases hm with (rfl | hm) | hm
    · exact hpre
    · exact names_noSl h2 (by omega) hpre hm
    · exact names_noSl h3 hl hp hm
theorem nlF_nodup : ∀ {f : Fo} {l : Nat} {pre : List ByteArray}, SortedN f.names → okF f l → (nlF f pre).Nodup
  | .nil, _, _, _, _ => List.nodup_nil
  | .node h ss ks nx, l, pre, hs, ⟨h1, h2, h3⟩ => by
    rw [nlF]
    refine List.nodup_append.2 ⟨List.nodup_cons.2 ⟨fun hm => ?_, nlF_nodup (kidsE_sorted (oneE_kids h1)) h2⟩, nlF_nodup (List.Pairwise.of_cons hs) h3, ?_⟩
    · obtain ⟨n, r, e, -⟩ := nlF_mem hm
      have := congrArg List.length e
      simp only [List.length_append, List.length_cons] at this
      omega
    · intro a ha b hb e
      subst e
      obtain ⟨n, r, e2, hn⟩ := nlF_mem hb
      have e3 : ∃ r', a = pre ++ h.name :: r' := by
        rcases List.mem_cons.1 ha with rfl | ha
        · exact ⟨[], rfl⟩
        · obtain ⟨n', r', e4, -⟩ := nlF_mem ha
          exact ⟨n' :: r', by rw [e4, List.append_assoc]; rfl⟩
      obtain ⟨r', e3⟩ := e3
      rw [e2] at e3
      have e5 := List.append_cancel_left e3
      injection e5 with e5 _
      have := List.rel_of_pairwise_cons hs hn
      rw [e5, blt_irrefl] at this
      cases this
theorem valid_ok {t : Tr} (h : validB t = true) : SortedN t.ks.names ∧ okF t.ks 1 := by
  obtain ⟨-, h1, h2⟩ := valid_chk h
  exact ⟨kidsE_sorted (oneE_kids h1), okF_of h2⟩
theorem no_sls_nil : NoSls [] := fun n hn => by cases hn
theorem join_ne {m : List ByteArray} (hm : m ≠ []) (hs : NoSls m) (hn : ∀ n ∈ m, n ≠ eS) : joinP m ≠ eS := fun e => by
  have h := words_join hm hs
  rw [e, words_nil2] at h
  exact hn eS (by rw [← h]; exact List.mem_singleton.2 rfl) rfl
theorem nlF_names : ∀ {f : Fo} {l : Nat} {pre m : List ByteArray}, okF f l → 1 ≤ l → (∀ n ∈ pre, n ≠ eS) → m ∈ nlF f pre → ∀ n ∈ m, n ≠ eS
  | .nil, _, _, _, _, _, _, h => by cases h
  | .node h ss ks nx, l, pre, m, ⟨h1, h2, h3⟩, hl, hp, hm => by
    have hpre : ∀ n ∈ pre ++ [h.name], n ≠ eS := fun n hn => by
      rcases List.mem_append.1 hn with hn | hn
      · exact hp n hn
      · rw [List.mem_singleton] at hn
        subst hn
        intro e
        have := oneE_name h1 (by omega)
        have e2 : nameB h.name = true := this
        rw [e, nameB_empty] at e2
        cases e2
    rw [nlF, List.mem_append, List.mem_cons] at hm
    rcases hm with (rfl | hm) | hm
    · exact hpre
    · exact nlF_names h2 (by omega) hpre hm
    · exact nlF_names h3 hl hp hm
theorem paths_nodup {t : Tr} (h : validB t = true) : (pathsT t).Nodup := by
  obtain ⟨hs, ho⟩ := valid_ok h
  rw [pathsT_names h]
  have hn : ∀ m ∈ nlF t.ks [], m ≠ [] ∧ NoSls m ∧ ∀ n ∈ m, n ≠ eS := fun m hm => by
    obtain ⟨n, r, e, -⟩ := nlF_mem hm
    exact ⟨by rw [e]; simp, names_noSl ho (Nat.le_refl _) no_sls_nil hm, nlF_names ho (Nat.le_refl _) (fun n hn => by cases hn) hm⟩
  refine List.nodup_cons.2 ⟨fun hm => ?_, ?_⟩
  · obtain ⟨m, hm, e⟩ := List.mem_map.1 hm
    obtain ⟨h1, h2, h3⟩ := hn m hm
    exact join_ne h1 h2 h3 e
  · have : ∀ l : List (List ByteArray), (∀ m ∈ l, m ≠ [] ∧ NoSls m) → l.Nodup → (l.map joinP).Nodup := by
      intro l
      induction l with
      | nil => intro _ _; exact List.nodup_nil
      | cons a l ih =>
        intro hl hnd
        rw [List.map_cons]
        refine List.nodup_cons.2 ⟨fun hm => ?_, ih (fun m hm => hl m (List.mem_cons_of_mem _ hm)) (List.nodup_cons.1 hnd).2⟩
        obtain ⟨b, hb, e⟩ := List.mem_map.1 hm
        obtain ⟨a1, a2⟩ := hl a List.mem_cons_self
        obtain ⟨b1, b2⟩ := hl b (List.mem_cons_of_mem _ hb)
        have := join_inj b1 a1 b2 a2 e
        subst this
        exact (List.nodup_cons.1 hnd).1 hb
    exact this _ (fun m hm => ⟨(hn m hm).1, (hn m hm).2.1⟩) (nlF_nodup hs ho)
theorem files_nodup (t : Tr) : (filesT t).Nodup := by
  cases h : validB t with
  | true => exact (paths_nodup h).filter _
  | false =>
    unfold filesT pathsT
    rw [h]
    exact List.nodup_nil
theorem perm_sub {α : Type} : ∀ {l m : List α}, l.Nodup → (∀ x ∈ l, x ∈ m) → m.length ≤ l.length → l.Perm m
  | [], m, _, _, hl => by
    rw [List.length_eq_zero_iff.1 (Nat.le_zero.1 hl)]
  | a :: l, m, hn, hs, hl => by
    obtain ⟨s, u, rfl⟩ := List.append_of_mem (hs a List.mem_cons_self)
    obtain ⟨h1, h2⟩ := List.nodup_cons.1 hn
    have ih : l.Perm (s ++ u) := perm_sub h2 (fun x hx => by
      have h3 := hs x (List.mem_cons_of_mem _ hx)
      rcases List.mem_append.1 h3 with h4 | h4
      · exact List.mem_append.2 (Or.inl h4)
      · rcases List.mem_cons.1 h4 with rfl | h5
        · exact absurd hx h1
        · exact List.mem_append.2 (Or.inr h5)) (by simp only [List.length_append, List.length_cons] at hl ⊢; omega)
    exact (ih.cons a).trans List.perm_middle.symm
theorem sameB_iff {l m : List ByteArray} (hm : m.Nodup) : sameB l m = true ↔ l.Perm m := by
  unfold sameB
  rw [Bool.and_eq_true, Bool.and_eq_true, decide_eq_true_iff, List.all_eq_true, nodB_iff]
  constructor
  · rintro ⟨⟨h1, h2⟩, h3⟩
    exact perm_sub h3 (fun x hx => hasS_iff.1 (h2 x hx)) (by omega)
  · intro h
    exact ⟨⟨h.length_eq, fun x hx => hasS_iff.2 (h.mem_iff.1 hx)⟩, h.nodup_iff.2 hm⟩
end Go.Proofs.YtocgindpjjolpaaGreatDoor
