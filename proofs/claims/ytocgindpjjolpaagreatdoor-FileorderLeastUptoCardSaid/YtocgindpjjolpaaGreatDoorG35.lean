/- Contracts and plain words for the laws of this chapter, part 35: K11. No condition. -/
import Derived.Test.YtocgindpjjolpaaGreatDoorG33
import Derived.Test.YtocgindpjjolpaaGreatDoorG34
import Derived.Test.YtocgindpjjolpaaGreatDoorG14
namespace Go.Proofs.YtocgindpjjolpaaGreatDoor
set_option linter.unusedSimpArgs false
set_option linter.unusedVariables false
open Go.RowKit
theorem strsInfo : (Tryz.prog.info? 26).map (fun i => (i.zero, i.size, i.bytes)) = some (some (.slice none 0 0), 1, 24) := by kernel_rfl
def RowSS (w : World) (B : Nat) (v : Value) (LL : List (List ByteArray)) : Prop := ∃ vs : List Value, w.ownsRow B 26 1 v LL.length vs ∧ ∀ (j : Nat) (x : Value) (l : List ByteArray), vs[j]? = some x → LL[j]? = some l → StrsR w 0 x l
theorem RowSS.nil (w : World) (B : Nat) : RowSS w B (.slice none 0 0) [] := ⟨[], World.ownsRow_nil _ _ _ _, fun j x l h _ => by simp at h⟩
theorem RowSS.below {w w' : World} {B : Nat} {v : Value} {LL : List (List ByteArray)} (h : RowSS w B v LL) (hb : Below w.heap.size w w') : RowSS w' B v LL := by
  obtain ⟨vs, h1, h2⟩ := h
  exact ⟨vs, below_row' h1 hb, fun j x l hx hl => below_row' (h2 j x l hx hl) hb⟩
theorem RowSS.slice {w : World} {B : Nat} {v : Value} {LL : List (List ByteArray)} (h : RowSS w B v LL) : ∃ A c, v = .slice A LL.length c := by
  obtain ⟨vs, h1, h2⟩ := h
  obtain ⟨A, c, rfl⟩ := own_slice h1
  exact ⟨A, c, rfl⟩
theorem strs_grown {w w' : World} {B n : Nat} {x v : Value} {l : List ByteArray} {xs : List Value} (h : StrsR w 0 x l) (hr : w.ownsRow B 26 1 v n xs) (hg : w.grownBy w' v.ownBlock) : StrsR w' 0 x l := by
  unfold StrsR at h ⊢
  refine own_keep h fun g cs hx hcs => hg.block g (Array.getElem?_eq_some_iff.1 hcs).1 fun e => ?_
  rcases hr.2 with ⟨rfl, -⟩ | ⟨g2, cap, cur, rfl, -, hcur, -⟩
  · cases e
  · have e2 : g = g2 := by injection e
    subst e2
    rw [hcs] at hcur
    injection hcur with hcur
    injection hcur with h1 h2 h3
    exact absurd h2 (by decide)
theorem rowSS_app {w w' : World} {B : Nat} {v v' : Value} {vs us : List Value} {LL MM : List (List ByteArray)} (h1 : w.ownsRow B 26 1 v LL.length vs) (e1 : ∀ (j : Nat) (x : Value) (l : List ByteArray), vs[j]? = some x → LL[j]? = some l → StrsR w 0 x l)
    (e2 : ∀ (j : Nat) (x : Value) (l : List ByteArray), us[j]? = some x → MM[j]? = some l → StrsR w 0 x l) (h2 : w'.ownsRow B 26 1 v' (LL.length + MM.length) (vs ++ us)) (hg : w.grownBy w' v.ownBlock) : RowSS w' B v' (LL ++ MM) := by
  refine ⟨vs ++ us, by rw [List.length_append]; exact h2, fun j x l hx hl => strs_grown ?_ h1 hg⟩
  have hvl : vs.length = LL.length := by have := h1.1; omega
  by_cases hj : j < vs.length
  · rw [List.getElem?_append_left hj] at hx
    rw [List.getElem?_append_left (by omega)] at hl
    exact e1 j x l hx hl
  · rw [List.getElem?_append_right (by omega)] at hx hl
    rw [hvl] at hx
    exact e2 _ x l hx hl
theorem own_news {w : World} {B n c : Nat} {T : TypeId} {A : Option Addr} {xs : List Value} (h : w.ownsRow B T 1 (.slice A n c) n xs) : 0 < n → ∃ ad, A = some ad ∧ ∀ (j : Nat) (u : Value), xs[j]? = some u → w.cell? (ad.add j) = some u := fun hn => by
  rcases h.2 with ⟨e, h0⟩ | ⟨g, cap, cur, e, -, hcur, -, -, -, htk⟩
  · omega
  · injection e with e1 e2 e3
    refine ⟨_, e1, fun j u hu => ?_⟩
    rw [Addr.add_lit, Nat.zero_add]
    rw [← htk, List.getElem?_take, Array.getElem?_toList] at hu
    split at hu
    · exact (Blk.cells (show Blk w g cur T from hcur) j).trans hu
    · cases hu
theorem row_of_blk {w : World} {B g n : Nat} {T : TypeId} {cs : Array Value} (h : Blk w g cs T) (hB : B ≤ g) (hn : cs.size = n) (hm : n ≤ maxLen) : w.ownsRow B T 1 (.slice (some ⟨g, 0, none⟩) n n) n cs.toList := by
  refine ⟨by rw [Array.length_toList, Nat.mul_one]; exact hn, Or.inr ⟨g, n, cs, rfl, hB, h, Nat.le_refl _, hm, by omega, ?_⟩⟩
  rw [Nat.mul_one, ← hn, ← Array.length_toList]
  exact List.take_length
def ordS (fs : List ByteArray) (k : Nat) (l : List ByteArray) (p : ByteArray) : List (List ByteArray) := if hasS l p then [] else ordersS fs k (l ++ [p])
theorem ordersS_leaf {fs l : List ByteArray} (k : Nat) (h : l.length = fs.length) : ordersS fs k l = [l] := by cases k <;> rw [ordersS, if_pos h]
theorem ordersS_go {fs l : List ByteArray} {k : Nat} (h : l.length ≠ fs.length) : ordersS fs (k + 1) l = fs.flatMap (ordS fs k l) := by rw [ordersS, if_neg h]; rfl
theorem ordersS_len (fs : List ByteArray) (h0 : 0 < fs.length) : ∀ (k : Nat) (l : List ByteArray), (ordersS fs k l).length ≤ fs.length ^ k
  | 0, l => by
    rw [ordersS]
    split <;> simp
  | k + 1, l => by
    have h1 : 1 ≤ fs.length ^ (k + 1) := Nat.pow_pos h0
    rw [ordersS]
    split
    · exact h1
    · have hm : ∀ m : List ByteArray, (m.flatMap fun p => if hasS l p then [] else ordersS fs k (l ++ [p])).length ≤ m.length * fs.length ^ k := by
        intro m
        induction m with
        | nil => simp
        | cons p m ih =>
          have h2 : (if hasS l p then ([] : List (List ByteArray)) else ordersS fs k (l ++ [p])).length ≤ fs.length ^ k := by
            split
            · simp
            · exact ordersS_len fs h0 k _
          rw [List.flatMap_cons, List.length_append, List.length_cons, Nat.succ_mul]
          omega
      have := hm fs
      rw [Nat.pow_succ, Nat.mul_comm]
      exact this
theorem ord_bound (fs : List ByteArray) (h0 : 0 < fs.length) (h6 : fs.length ≤ 6) (k : Nat) (hk : k ≤ 6) (l : List ByteArray) : ∀ m : List ByteArray, (m.flatMap (ordS fs k l)).length ≤ m.length * 46656
  | [] => by simp
  | p :: m => by
    have ih := ord_bound fs h0 h6 k hk l m
    have h1 : (ordS fs k l p).length ≤ 46656 := by
      unfold ordS
      split
      · simp
      · exact Nat.le_trans (ordersS_len fs h0 k _) (Nat.le_trans (Nat.pow_le_pow_left h6 k) (Nat.le_trans (Nat.pow_le_pow_right (by decide) hk) (by decide)))
    rw [List.flatMap_cons, List.length_append, List.length_cons, Nat.succ_mul]
    omega
theorem blk_grown {w w' : World} {g : Nat} {cs : Array Value} {T : TypeId} {row : Option Nat} (h : Blk w g cs T) (hg : w.grownBy w' row) (hne : some g ≠ row) : Blk w' g cs T := (hg.block g h.lt hne).trans h
theorem rowSS_one {w : World} {B : Nat} {v : Value} {us : List Value} {MM : List (List ByteArray)} (h1 : w.ownsRow B 26 1 v MM.length us) (h2 : ∀ (j : Nat) (x : Value) (l : List ByteArray), us[j]? = some x → MM[j]? = some l → StrsR w 0 x l) : ∀ u ∈ us, u.oneCell' = true := fun u hu => by
  have hl : us.length = MM.length := by have := h1.1; omega
  obtain ⟨j, hj, e⟩ := List.mem_iff_getElem.1 hu
  have h := h2 j u (MM[j]'(by omega)) (by rw [List.getElem?_eq_getElem hj, e]) (List.getElem?_eq_getElem (by omega))
  obtain ⟨A, c, rfl⟩ := own_slice h
  rfl
set_option maxRecDepth 100000 in
set_option maxHeartbeats 8000000 in
theorem rorders_any (fs : List ByteArray) (hf0 : 0 < fs.length) (hf6 : fs.length ≤ 6) : ∀ (k : Nat) (l : List ByteArray) (fv lv : Value) (w : World), l.length + k = fs.length → SlR w w.heap.size fv fs → StrsR w 0 lv l →
    Calls Tryz.prog 63 #[fv, lv] w fun e w' => ∃ r, e = .returned r ∧ RowSS w' w.heap.size r (ordersS fs k l) ∧ Below w.heap.size w w'
  | 0, l, fv, lv, w, hl, hF, hL => by
    have HLL := hide hL
    obtain ⟨aF, cF, rfl, -⟩ := hF
    obtain ⟨aL, cL, rfl⟩ := own_slice hL
    have HO := hide (ordersS_leaf (fs := fs) (l := l) 0 (by omega))
    have hq : ((l.length : Int) == (fs.length : Int)) = true := by rw [beq_iff_eq]; omega
    have HL : Live w [] := trivial
    go_enter Tryz.func63, Tryz.ntmps63
    go_wp2_with fail
    go_ret
    refine ⟨_, rfl, ?_, Below.one _ _⟩
    rw [HO.out]
    refine ⟨[.slice aL l.length cL], row_of_blk (cs := #[.slice aL l.length cL]) (Blk.newAt rfl) (Nat.le_refl _) rfl (by unfold maxLen; decide), fun j x l' hx hl' => ?_⟩
    match j with
    | 0 =>
      have e1 : Value.slice aL l.length cL = x := by simpa using hx
      have e2 : l = l' := by simpa using hl'
      subst e1; subst e2
      exact below_row' HLL.out (Below.one _ _)
    | j + 1 => simp at hx
  | k + 1, l, fv, lv, w, hl, hF, hL => by
    have IH := hide (rorders_any fs hf0 hf6 k)
    have HFs := hide hF
    have HLs := hide hL
    obtain ⟨aF, cF, rfl, hfr⟩ := hF
    obtain ⟨aL, cL, rfl⟩ := own_slice hL
    have HFR := hide hfr
    have HO := hide (ordersS_go (fs := fs) (l := l) (k := k) (by omega))
    have HOL := hide (fun m => ordersS_len fs hf0 m)
    have hq : ((l.length : Int) == (fs.length : Int)) = false := by rw [beq_eq_false_iff_ne]; omega
    clear hfr hL
    have HL : Live w [] := trivial
    go_enter Tryz.func63, Tryz.ntmps63
    go_wp2_with fail
    go_loopw [5, 6] (fun ov iv wr => ∃ i : Nat, iv = .int .i64 (i : Int) ∧ i ≤ fs.length ∧ RowSS wr w.heap.size ov ((fs.take i).flatMap (ordS fs k l)) ∧ Below w.heap.size w wr) (fun _ iv _ => fs.length - (intOf iv).toNat)
    case atStart => exact ⟨0, rfl, Nat.zero_le _, by rw [List.take_zero]; exact RowSS.nil _ _, Below.refl _ _⟩
    case round =>
      obtain ⟨i, rfl, hi, hrow, hbr⟩ := hrel
      have hszr := hbr.size
      have HBr := hide hbr
      by_cases hlt : i < fs.length
      · have hol : ((fs.take i).flatMap (ordS fs k l)).length ≤ 6 * 46656 := by
          have h1 := ord_bound fs hf0 hf6 k (by omega) l (fs.take i)
          rw [List.length_take] at h1
          omega
        obtain ⟨p, hp⟩ : ∃ p, fs[i]? = some p := ⟨_, List.getElem?_eq_getElem hlt⟩
        obtain ⟨g, o, rfl, hg, hcl⟩ := HFR.out hf0
        have c0 : wr.cell? ⟨g, o + i, none⟩ = some (.string p) := (hbr.cell (p := ⟨g, o + i, none⟩) hg).trans (hcl i p hp)
        have HA := hide (has_any l p (.slice aL l.length cL) wr.heap.size (by omega) wr ((SlR.of HLs.out).later2 hbr))
        have HCW := hide (hcl i p hp)
        have HNX := hide (show (fs.take (i + 1)).flatMap (ordS fs k l) = (fs.take i).flatMap (ordS fs k l) ++ ordS fs k l p by rw [List.take_add_one, hp, List.flatMap_append]; simp)
        generalize (fs.take i).flatMap (ordS fs k l) = out at *
        have HRW := hide hrow
        cases hh : hasS l p with
        | true =>
          rw [hh] at HA
          have HE := hide (show ordS fs k l p = [] by unfold ordS; rw [hh]; rfl)
          clear hh hp hcl hrow hbr
          go_wp2_with (go_at_call 55; refine HA.out.mono ?_; rintro e w9 ⟨rfl, rfl⟩)
          go_roundw
          case rel => exact ⟨i + 1, by go_num, by omega, by rw [HNX.out, HE.out, List.append_nil]; exact HRW.out, HBr.out⟩
          case measure => simp [intOf]; omega
        | false =>
          rw [hh] at HA
          have HE := hide (show ordS fs k l p = ordersS fs k (l ++ [p]) by unfold ordS; rw [hh]; rfl)
          clear hh hp hcl hrow hbr
          go_upto_region 8 with (go_at_call 55; refine HA.out.mono ?_; rintro e w9 ⟨rfl, rfl⟩)
          obtain ⟨ao, co, rfl⟩ := HRW.out.slice
          obtain ⟨vs, hvs1, hvs2⟩ := HRW.out
          have HV1 := hide hvs1
          have HV2 := hide hvs2
          clear hvs1 hvs2
          have HC0 := hide c0
          clear c0
          have hgr : g < w.heap.size := hg
          have HLr := hide (below_row' HLs.out HBr.out)
          have hS : ∀ z, Below wr.heap.size wr z → (Below w.heap.size w z ∧ True) := fun z hz => ⟨HBr.out.trans (hz.mono hszr), trivial⟩
          have hk0 : Below w.heap.size w wr ∧ True := hS _ (Below.refl _ _)
          have hk0d : Below w.heap.size w wr.drew ∧ True := hS _ (Below.refl wr.heap.size wr).drew
          have hbA : Below wr.heap.size wr (wr.alloc (.cells #[] 9)).drew := (Below.one wr _).drew
          have hbB : Below wr.heap.size wr ((wr.alloc (.cells #[] 9)).alloc (.cells #[.string p] 9)).drew := ((Below.one wr _).alloc (Below.one wr _).size _).drew
          have hbD : Below wr.heap.size wr ((wr.alloc (.cells #[.string p] 9)).alloc (.cells #[] 9)).drew := ((Below.one wr _).alloc (Below.one wr _).size _).drew
          have hbC : Below wr.heap.size wr (wr.alloc (.cells #[.string p] 9)).drew := (Below.one wr _).drew
          have hkA := hS _ hbA
          have hkB := hS _ hbB
          have hkC := hS _ hbC
          have hkD := hS _ hbD
          have HEA := hide (show (wr.alloc (.cells #[] 9)).drew.ownsRow wr.heap.size 9 1 (.slice (some ⟨wr.heap.size, 0, none⟩) 0 0) 0 [] from row_of_blk (cs := #[]) (show Blk (wr.alloc (.cells #[] 9)) wr.heap.size #[] 9 from Blk.newAt rfl) (Nat.le_refl _) rfl (Nat.zero_le _))
          have HEB := hide (show ((wr.alloc (.cells #[] 9)).alloc (.cells #[.string p] 9)).drew.ownsRow wr.heap.size 9 1 (.slice (some ⟨wr.heap.size, 0, none⟩) 0 0) 0 [] from row_of_blk (cs := #[]) (show Blk ((wr.alloc (.cells #[] 9)).alloc (.cells #[.string p] 9)) wr.heap.size #[] 9 from (show Blk (wr.alloc (.cells #[] 9)) wr.heap.size #[] 9 from Blk.newAt rfl).alloc _) (Nat.le_refl _) rfl (Nat.zero_le _))
          have HED := hide (show ((wr.alloc (.cells #[.string p] 9)).alloc (.cells #[] 9)).drew.ownsRow wr.heap.size 9 1 (.slice (some ⟨wr.heap.size + 1, 0, none⟩) 0 0) 0 [] from row_of_blk (cs := #[]) (show Blk ((wr.alloc (.cells #[.string p] 9)).alloc (.cells #[] 9)) (wr.heap.size + 1) #[] 9 from Blk.newAt (World.size_alloc _ _)) (by omega) rfl (Nat.zero_le _))
          have HPB := hide (show Blk ((wr.alloc (.cells #[] 9)).alloc (.cells #[.string p] 9)).drew (wr.heap.size + 1) #[.string p] 9 from (show Blk ((wr.alloc (.cells #[] 9)).alloc (.cells #[.string p] 9)) (wr.heap.size + 1) #[.string p] 9 from Blk.newAt (World.size_alloc _ _)))
          have HPD := hide (show Blk ((wr.alloc (.cells #[.string p] 9)).alloc (.cells #[] 9)).drew wr.heap.size #[.string p] 9 from (show Blk ((wr.alloc (.cells #[.string p] 9)).alloc (.cells #[] 9)) wr.heap.size #[.string p] 9 from (show Blk (wr.alloc (.cells #[.string p] 9)) wr.heap.size #[.string p] 9 from Blk.newAt rfl).alloc _))
          have ORC := hide (fun W v' (hW : Below wr.heap.size wr W) (hv' : StrsR W 0 v' (l ++ [p])) => IH.out (l ++ [p]) (.slice (some ⟨g, o, none⟩) fs.length cF) v' W (by rw [List.length_append, List.length_singleton]; omega) (HFs.out.later2 (HBr.out.trans (hW.mono hszr))) hv')
          have hpk : fs.length ^ k ≤ 46656 := Nat.le_trans (Nat.pow_le_pow_left hf6 k) (Nat.le_trans (Nat.pow_le_pow_right (by decide) (show k ≤ 6 by omega)) (by decide))
          have hml : (ordersS fs k (l ++ [p])).length ≤ 46656 := Nat.le_trans (HOL.out k (l ++ [p])) hpk
          generalize ordersS fs k (l ++ [p]) = MM at *
          clear HA
          refine wp_region_noPanic ?_
          refine wp_region_held_drew (S := (fun z => Below w.heap.size w z ∧ True)) (by kernel_rfl) kp (fun hHeld => ?_)
          refine tkZ 0 ⟨some 27, .move (.tmp 5), 63, "ref.go:190", #[], none⟩ ?_
          refine tkZ 1 ⟨some 28, .move (.tmp 0), 26, "ref.go:190", #[], none⟩ ?_
          refine tkZ 3 ⟨some 30, .move (.tmp 1), 26, "ref.go:190", #[], none⟩ ?_
          refine tkZ 5 ⟨some 32, .move (.tmp 0), 26, "ref.go:190", #[], none⟩ ?_
          refine tkZ 6 ⟨some 33, .move (.tmp 6), 3, "ref.go:190", #[], none⟩ ?_
          refine tkZ 7 ⟨some 34, .indexAddr 26 (.tmp 32) (.tmp 33), 0, "ref.go:190", #[⟨5, .data⟩, ⟨6, .data⟩], none⟩ ?_
          refine tkZ 8 ⟨some 35, .load 9 (.tmp 34), 9, "ref.go:190", #[⟨7, .data⟩], none⟩ ?_ (by intro w hSw; (try dsimp only at hSw); have c1 := (hSw.1.cell (p := ⟨g, o + i, none⟩) hgr).trans HCW.out; go_simp; (try with_reducible rfl))
          refine rqS [2, 9] (rqC ⟨some 29, .buildSlice 26 0 #[], 26, "ref.go:190", #[], none⟩ (fun K hK => ?_) (rqC ⟨some 36, .buildSlice 26 1 #[(0, .tmp 35)], 26, "ref.go:190", #[⟨8, .data⟩], none⟩ (fun K hK => ?_) rq0))
          focus
            go_simp
            refine hK.out _ _ kp (fun hHeld => ?_)
            clear hK K
            try simp only [PT]
            refine rqS [4, 9] (rqC ⟨some 31, .call ⟨.builtin .append, #[.tmp 29, .tmp 30], #[26, 26]⟩, 26, "ref.go:190", #[⟨2, .data⟩, ⟨3, .data⟩], none⟩ (fun K hK => ?_) (rqC ⟨some 36, .buildSlice 26 1 #[(0, .tmp 35)], 26, "ref.go:190", #[⟨8, .data⟩], none⟩ (fun K hK => ?_) rq0))
            focus
              (first | (refine step_append_opt _ (by rfl) _ _ 26 (by rfl) wr.heap.size 9 strInfo Tryz.underlying26 (by rfl) (by decide) _ 0 [] HEA.out aL l.length cL (strV l) (by rfl) (by rfl) (by simp [strV]) (own_news (below_row' HLr.out hbA)) (by intro u hu; unfold strV at hu; obtain ⟨x, -, rfl⟩ := List.mem_map.1 hu; rfl) (by unfold maxLen; omega) (by omega) (by have := (hbA).size; omega) ?_; intro v4 w4 hown4 hnb4 hg4; have hb4 := Below.grown hbA hg4 ((hbA).size) (fun j hj => (HEA.out.lt j hj).1)) | (refine step_append_opt _ (by rfl) _ _ 26 (by rfl) wr.heap.size 9 strInfo Tryz.underlying26 (by rfl) (by decide) _ 0 [] HEB.out aL l.length cL (strV l) (by rfl) (by rfl) (by simp [strV]) (own_news (below_row' HLr.out hbB)) (by intro u hu; unfold strV at hu; obtain ⟨x, -, rfl⟩ := List.mem_map.1 hu; rfl) (by unfold maxLen; omega) (by omega) (by have := (hbB).size; omega) ?_; intro v4 w4 hown4 hnb4 hg4; have hb4 := Below.grown hbB hg4 ((hbB).size) (fun j hj => (HEB.out.lt j hj).1); have HP4 := hide (blk_grown HPB.out hg4 (fun e => by have e2 : wr.heap.size + 1 = wr.heap.size := Option.some.inj e; omega))) | (refine step_append_opt _ (by rfl) _ _ 26 (by rfl) wr.heap.size 9 strInfo Tryz.underlying26 (by rfl) (by decide) _ 0 [] HED.out aL l.length cL (strV l) (by rfl) (by rfl) (by simp [strV]) (own_news (below_row' HLr.out hbD)) (by intro u hu; unfold strV at hu; obtain ⟨x, -, rfl⟩ := List.mem_map.1 hu; rfl) (by unfold maxLen; omega) (by omega) (by have := (hbD).size; omega) ?_; intro v4 w4 hown4 hnb4 hg4; have hb4 := Below.grown hbD hg4 ((hbD).size) (fun j hj => (HED.out.lt j hj).1); have HP4 := hide (blk_grown HPD.out hg4 (fun e => by have e2 : wr.heap.size = wr.heap.size + 1 := Option.some.inj e; omega)))); rw [Nat.zero_add] at hown4; rw [List.nil_append] at hown4; obtain ⟨A4, c4, e4⟩ := own_slice hown4; subst e4; have HR4 := hide hown4; have hk4 := hS _ hb4; have hk4a := hS _ (hb4.alloc hb4.size (.cells #[.string p] 9)); clear hown4
              refine hK.out _ _ kp (fun hHeld => ?_)
              clear hK K
              try simp only [PT]
              refine rqS [9] (rqC ⟨some 36, .buildSlice 26 1 #[(0, .tmp 35)], 26, "ref.go:190", #[⟨8, .data⟩], none⟩ (fun K hK => ?_) rq0)
              go_simp
              refine hK.out _ _ kp (fun hHeld => ?_)
              clear hK K
              try simp only [PT]
              refine rqS [10] (rqC ⟨some 37, .call ⟨.builtin .append, #[.tmp 31, .tmp 36], #[26, 26]⟩, 26, "ref.go:190", #[⟨4, .data⟩, ⟨9, .data⟩, ⟨4, .chain⟩], none⟩ (fun K hK => ?_) rq0)
              (first | (refine step_append_opt _ (by rfl) _ _ 26 (by rfl) wr.heap.size 9 strInfo Tryz.underlying26 (by rfl) (by decide) _ l.length (strV l) HR4.out _ 1 1 [.string p] (by rfl) (by rfl) (by rfl) (fun _ => ⟨_, rfl, fun j u hu => by rw [Addr.add_lit, Nat.zero_add]; exact (Blk.cells HP4.out j).trans (by rw [← Array.getElem?_toList]; exact hu)⟩) (by intro u hu; rw [List.mem_singleton] at hu; rw [hu]; rfl) (by unfold maxLen; omega) (by omega) (by have := hb4.size; omega) ?_; intro v10 w10 hown10 hnb10 hg10; have hbw10 : Below wr.heap.size wr w10 := hb4.grown hg10 hb4.size (fun j hj => (HR4.out.lt j hj).1)) | (refine step_append_opt _ (by rfl) _ _ 26 (by rfl) wr.heap.size 9 strInfo Tryz.underlying26 (by rfl) (by decide) _ l.length (strV l) (HR4.out.alloc _) _ 1 1 [.string p] (by rfl) (by rfl) (by rfl) (fun _ => ⟨_, rfl, fun j u hu => by rw [Addr.add_lit, Nat.zero_add]; exact (Blk.cells (show Blk (w4.alloc (.cells #[.string p] 9)) w4.heap.size #[.string p] 9 from Blk.newAt rfl) j).trans (by rw [← Array.getElem?_toList]; exact hu)⟩) (by intro u hu; rw [List.mem_singleton] at hu; rw [hu]; rfl) (by unfold maxLen; omega) (by omega) (by have := hb4.size; simp only [World.size_alloc]; omega) ?_; intro v10 w10 hown10 hnb10 hg10; have hbw10 : Below wr.heap.size wr w10 := (hb4.alloc hb4.size _).grown hg10 (by have := hb4.size; simp only [World.size_alloc]; omega) (fun j hj => (HR4.out.lt j hj).1))); have hrd10 : StrsR w10 0 v10 (l ++ [p]) := own_base (by rw [List.length_append, ← strV_snoc]; exact hown10) (Nat.zero_le _); have hk10 := hS _ hbw10
              refine hK.out _ _ kp (fun hHeld => ?_)
              clear hK K
              try simp only [PT]
              refine rqS [11] (rqC ⟨some 38, .call ⟨.value (.func 63), #[.tmp 28, .tmp 37], #[26, 26]⟩, 63, "ref.go:190", #[⟨1, .data⟩, ⟨10, .data⟩, ⟨10, .chain⟩], none⟩ (fun K hK => ?_) rq0)
              go_simp
              (go_at_call 63; (with_reducible refine (ORC.out _ _ hbw10 hrd10).mono ?_); rintro e w11 ⟨r11, rfl, hr11, hb11⟩; have hbw11 : Below wr.heap.size wr w11 := hbw10.trans (hb11.mono hbw10.size); have hk11 := hS _ hbw11; obtain ⟨us, hus1, hus2⟩ := hr11; obtain ⟨A11, c11, e11⟩ := own_slice hus1; subst e11; have HV11 := hide (below_row' HV1.out hbw11))
              go_wp2_with fail
              refine hK.out _ _ kp (fun hHeld => ?_)
              clear hK K
              try simp only [PT]
              refine rqS [12] (rqC ⟨some 39, .call ⟨.builtin .append, #[.tmp 27, .tmp 38], #[63, 63]⟩, 63, "ref.go:190", #[⟨0, .data⟩, ⟨11, .data⟩, ⟨11, .chain⟩], none⟩ (fun K hK => ?_) rq0)
              refine step_append_opt _ (by rfl) _ _ 63 (by rfl) w.heap.size 26 strsInfo Tryz.underlying63 (by rfl) (by decide) _ out.length vs HV11.out A11 MM.length c11 us (by rfl) (by rfl) (by have := hus1.1; omega) (own_news hus1) (rowSS_one hus1 hus2) (by unfold maxLen; omega) (by omega) (by have := hbw11.size; omega) ?_; intro v12 w12 hown12 hnb12 hg12; have hk12 : Below w.heap.size w w12 ∧ True := ⟨(HBr.out.trans (hbw11.mono hszr)).grown hg12 (by have := hbw11.size; omega) (fun j hj => (HV11.out.lt j hj).1), trivial⟩
              refine hK.out _ _ kp (fun hHeld => ?_)
              clear hK K
              try simp only [PT]
              refine tkZ 13 ⟨some 5, .assign (.tmp 39), 63, "ref.go:190", #[⟨12, .data⟩, ⟨12, .chain⟩, ⟨0, .phase⟩, ⟨1, .phase⟩, ⟨2, .phase⟩, ⟨3, .phase⟩, ⟨4, .phase⟩, ⟨5, .phase⟩, ⟨6, .phase⟩, ⟨7, .phase⟩, ⟨8, .phase⟩, ⟨9, .phase⟩, ⟨10, .phase⟩, ⟨11, .phase⟩, ⟨12, .phase⟩], none⟩ ?_
              refine wpAnyH_done (by kernel_rfl) ?_ _
              refine NoPanic.normal ?_
              go_wp2_with fail
              go_roundw
              (case rel => exact ⟨i + 1, by go_num, by omega, by rw [HNX.out, HE.out]; exact rowSS_app HV11.out (fun j x l hx hl => below_row' (HV2.out j x l hx hl) hbw11) hus2 hown12 hg12, hk12.1⟩)
              (case measure => simp [intOf]; omega)
            focus
              go_simp
              refine hK.out _ _ kp (fun hHeld => ?_)
              clear hK K
              try simp only [PT]
              refine rqS [4] (rqC ⟨some 31, .call ⟨.builtin .append, #[.tmp 29, .tmp 30], #[26, 26]⟩, 26, "ref.go:190", #[⟨2, .data⟩, ⟨3, .data⟩], none⟩ (fun K hK => ?_) rq0)
              (first | (refine step_append_opt _ (by rfl) _ _ 26 (by rfl) wr.heap.size 9 strInfo Tryz.underlying26 (by rfl) (by decide) _ 0 [] HEA.out aL l.length cL (strV l) (by rfl) (by rfl) (by simp [strV]) (own_news (below_row' HLr.out hbA)) (by intro u hu; unfold strV at hu; obtain ⟨x, -, rfl⟩ := List.mem_map.1 hu; rfl) (by unfold maxLen; omega) (by omega) (by have := (hbA).size; omega) ?_; intro v4 w4 hown4 hnb4 hg4; have hb4 := Below.grown hbA hg4 ((hbA).size) (fun j hj => (HEA.out.lt j hj).1)) | (refine step_append_opt _ (by rfl) _ _ 26 (by rfl) wr.heap.size 9 strInfo Tryz.underlying26 (by rfl) (by decide) _ 0 [] HEB.out aL l.length cL (strV l) (by rfl) (by rfl) (by simp [strV]) (own_news (below_row' HLr.out hbB)) (by intro u hu; unfold strV at hu; obtain ⟨x, -, rfl⟩ := List.mem_map.1 hu; rfl) (by unfold maxLen; omega) (by omega) (by have := (hbB).size; omega) ?_; intro v4 w4 hown4 hnb4 hg4; have hb4 := Below.grown hbB hg4 ((hbB).size) (fun j hj => (HEB.out.lt j hj).1); have HP4 := hide (blk_grown HPB.out hg4 (fun e => by have e2 : wr.heap.size + 1 = wr.heap.size := Option.some.inj e; omega))) | (refine step_append_opt _ (by rfl) _ _ 26 (by rfl) wr.heap.size 9 strInfo Tryz.underlying26 (by rfl) (by decide) _ 0 [] HED.out aL l.length cL (strV l) (by rfl) (by rfl) (by simp [strV]) (own_news (below_row' HLr.out hbD)) (by intro u hu; unfold strV at hu; obtain ⟨x, -, rfl⟩ := List.mem_map.1 hu; rfl) (by unfold maxLen; omega) (by omega) (by have := (hbD).size; omega) ?_; intro v4 w4 hown4 hnb4 hg4; have hb4 := Below.grown hbD hg4 ((hbD).size) (fun j hj => (HED.out.lt j hj).1); have HP4 := hide (blk_grown HPD.out hg4 (fun e => by have e2 : wr.heap.size = wr.heap.size + 1 := Option.some.inj e; omega)))); rw [Nat.zero_add] at hown4; rw [List.nil_append] at hown4; obtain ⟨A4, c4, e4⟩ := own_slice hown4; subst e4; have HR4 := hide hown4; have hk4 := hS _ hb4; have hk4a := hS _ (hb4.alloc hb4.size (.cells #[.string p] 9)); clear hown4
              refine hK.out _ _ kp (fun hHeld => ?_)
              clear hK K
              try simp only [PT]
              refine rqS [10] (rqC ⟨some 37, .call ⟨.builtin .append, #[.tmp 31, .tmp 36], #[26, 26]⟩, 26, "ref.go:190", #[⟨4, .data⟩, ⟨9, .data⟩, ⟨4, .chain⟩], none⟩ (fun K hK => ?_) rq0)
              (first | (refine step_append_opt _ (by rfl) _ _ 26 (by rfl) wr.heap.size 9 strInfo Tryz.underlying26 (by rfl) (by decide) _ l.length (strV l) HR4.out _ 1 1 [.string p] (by rfl) (by rfl) (by rfl) (fun _ => ⟨_, rfl, fun j u hu => by rw [Addr.add_lit, Nat.zero_add]; exact (Blk.cells HP4.out j).trans (by rw [← Array.getElem?_toList]; exact hu)⟩) (by intro u hu; rw [List.mem_singleton] at hu; rw [hu]; rfl) (by unfold maxLen; omega) (by omega) (by have := hb4.size; omega) ?_; intro v10 w10 hown10 hnb10 hg10; have hbw10 : Below wr.heap.size wr w10 := hb4.grown hg10 hb4.size (fun j hj => (HR4.out.lt j hj).1)) | (refine step_append_opt _ (by rfl) _ _ 26 (by rfl) wr.heap.size 9 strInfo Tryz.underlying26 (by rfl) (by decide) _ l.length (strV l) (HR4.out.alloc _) _ 1 1 [.string p] (by rfl) (by rfl) (by rfl) (fun _ => ⟨_, rfl, fun j u hu => by rw [Addr.add_lit, Nat.zero_add]; exact (Blk.cells (show Blk (w4.alloc (.cells #[.string p] 9)) w4.heap.size #[.string p] 9 from Blk.newAt rfl) j).trans (by rw [← Array.getElem?_toList]; exact hu)⟩) (by intro u hu; rw [List.mem_singleton] at hu; rw [hu]; rfl) (by unfold maxLen; omega) (by omega) (by have := hb4.size; simp only [World.size_alloc]; omega) ?_; intro v10 w10 hown10 hnb10 hg10; have hbw10 : Below wr.heap.size wr w10 := (hb4.alloc hb4.size _).grown hg10 (by have := hb4.size; simp only [World.size_alloc]; omega) (fun j hj => (HR4.out.lt j hj).1))); have hrd10 : StrsR w10 0 v10 (l ++ [p]) := own_base (by rw [List.length_append, ← strV_snoc]; exact hown10) (Nat.zero_le _); have hk10 := hS _ hbw10
              refine hK.out _ _ kp (fun hHeld => ?_)
              clear hK K
              try simp only [PT]
              refine rqS [11] (rqC ⟨some 38, .call ⟨.value (.func 63), #[.tmp 28, .tmp 37], #[26, 26]⟩, 63, "ref.go:190", #[⟨1, .data⟩, ⟨10, .data⟩, ⟨10, .chain⟩], none⟩ (fun K hK => ?_) rq0)
              go_simp
              (go_at_call 63; (with_reducible refine (ORC.out _ _ hbw10 hrd10).mono ?_); rintro e w11 ⟨r11, rfl, hr11, hb11⟩; have hbw11 : Below wr.heap.size wr w11 := hbw10.trans (hb11.mono hbw10.size); have hk11 := hS _ hbw11; obtain ⟨us, hus1, hus2⟩ := hr11; obtain ⟨A11, c11, e11⟩ := own_slice hus1; subst e11; have HV11 := hide (below_row' HV1.out hbw11))
              go_wp2_with fail
              refine hK.out _ _ kp (fun hHeld => ?_)
              clear hK K
              try simp only [PT]
              refine rqS [12] (rqC ⟨some 39, .call ⟨.builtin .append, #[.tmp 27, .tmp 38], #[63, 63]⟩, 63, "ref.go:190", #[⟨0, .data⟩, ⟨11, .data⟩, ⟨11, .chain⟩], none⟩ (fun K hK => ?_) rq0)
              refine step_append_opt _ (by rfl) _ _ 63 (by rfl) w.heap.size 26 strsInfo Tryz.underlying63 (by rfl) (by decide) _ out.length vs HV11.out A11 MM.length c11 us (by rfl) (by rfl) (by have := hus1.1; omega) (own_news hus1) (rowSS_one hus1 hus2) (by unfold maxLen; omega) (by omega) (by have := hbw11.size; omega) ?_; intro v12 w12 hown12 hnb12 hg12; have hk12 : Below w.heap.size w w12 ∧ True := ⟨(HBr.out.trans (hbw11.mono hszr)).grown hg12 (by have := hbw11.size; omega) (fun j hj => (HV11.out.lt j hj).1), trivial⟩
              refine hK.out _ _ kp (fun hHeld => ?_)
              clear hK K
              try simp only [PT]
              refine tkZ 13 ⟨some 5, .assign (.tmp 39), 63, "ref.go:190", #[⟨12, .data⟩, ⟨12, .chain⟩, ⟨0, .phase⟩, ⟨1, .phase⟩, ⟨2, .phase⟩, ⟨3, .phase⟩, ⟨4, .phase⟩, ⟨5, .phase⟩, ⟨6, .phase⟩, ⟨7, .phase⟩, ⟨8, .phase⟩, ⟨9, .phase⟩, ⟨10, .phase⟩, ⟨11, .phase⟩, ⟨12, .phase⟩], none⟩ ?_
              refine wpAnyH_done (by kernel_rfl) ?_ _
              refine NoPanic.normal ?_
              go_wp2_with fail
              go_roundw
              (case rel => exact ⟨i + 1, by go_num, by omega, by rw [HNX.out, HE.out]; exact rowSS_app HV11.out (fun j x l hx hl => below_row' (HV2.out j x l hx hl) hbw11) hus2 hown12 hg12, hk12.1⟩)
              (case measure => simp [intOf]; omega)
          focus
            go_simp
            refine hK.out _ _ kp (fun hHeld => ?_)
            clear hK K
            try simp only [PT]
            refine rqS [2] (rqC ⟨some 29, .buildSlice 26 0 #[], 26, "ref.go:190", #[], none⟩ (fun K hK => ?_) rq0)
            go_simp
            refine hK.out _ _ kp (fun hHeld => ?_)
            clear hK K
            try simp only [PT]
            refine rqS [4] (rqC ⟨some 31, .call ⟨.builtin .append, #[.tmp 29, .tmp 30], #[26, 26]⟩, 26, "ref.go:190", #[⟨2, .data⟩, ⟨3, .data⟩], none⟩ (fun K hK => ?_) rq0)
            (first | (refine step_append_opt _ (by rfl) _ _ 26 (by rfl) wr.heap.size 9 strInfo Tryz.underlying26 (by rfl) (by decide) _ 0 [] HEA.out aL l.length cL (strV l) (by rfl) (by rfl) (by simp [strV]) (own_news (below_row' HLr.out hbA)) (by intro u hu; unfold strV at hu; obtain ⟨x, -, rfl⟩ := List.mem_map.1 hu; rfl) (by unfold maxLen; omega) (by omega) (by have := (hbA).size; omega) ?_; intro v4 w4 hown4 hnb4 hg4; have hb4 := Below.grown hbA hg4 ((hbA).size) (fun j hj => (HEA.out.lt j hj).1)) | (refine step_append_opt _ (by rfl) _ _ 26 (by rfl) wr.heap.size 9 strInfo Tryz.underlying26 (by rfl) (by decide) _ 0 [] HEB.out aL l.length cL (strV l) (by rfl) (by rfl) (by simp [strV]) (own_news (below_row' HLr.out hbB)) (by intro u hu; unfold strV at hu; obtain ⟨x, -, rfl⟩ := List.mem_map.1 hu; rfl) (by unfold maxLen; omega) (by omega) (by have := (hbB).size; omega) ?_; intro v4 w4 hown4 hnb4 hg4; have hb4 := Below.grown hbB hg4 ((hbB).size) (fun j hj => (HEB.out.lt j hj).1); have HP4 := hide (blk_grown HPB.out hg4 (fun e => by have e2 : wr.heap.size + 1 = wr.heap.size := Option.some.inj e; omega))) | (refine step_append_opt _ (by rfl) _ _ 26 (by rfl) wr.heap.size 9 strInfo Tryz.underlying26 (by rfl) (by decide) _ 0 [] HED.out aL l.length cL (strV l) (by rfl) (by rfl) (by simp [strV]) (own_news (below_row' HLr.out hbD)) (by intro u hu; unfold strV at hu; obtain ⟨x, -, rfl⟩ := List.mem_map.1 hu; rfl) (by unfold maxLen; omega) (by omega) (by have := (hbD).size; omega) ?_; intro v4 w4 hown4 hnb4 hg4; have hb4 := Below.grown hbD hg4 ((hbD).size) (fun j hj => (HED.out.lt j hj).1); have HP4 := hide (blk_grown HPD.out hg4 (fun e => by have e2 : wr.heap.size = wr.heap.size + 1 := Option.some.inj e; omega)))); rw [Nat.zero_add] at hown4; rw [List.nil_append] at hown4; obtain ⟨A4, c4, e4⟩ := own_slice hown4; subst e4; have HR4 := hide hown4; have hk4 := hS _ hb4; have hk4a := hS _ (hb4.alloc hb4.size (.cells #[.string p] 9)); clear hown4
            refine hK.out _ _ kp (fun hHeld => ?_)
            clear hK K
            try simp only [PT]
            refine rqS [10] (rqC ⟨some 37, .call ⟨.builtin .append, #[.tmp 31, .tmp 36], #[26, 26]⟩, 26, "ref.go:190", #[⟨4, .data⟩, ⟨9, .data⟩, ⟨4, .chain⟩], none⟩ (fun K hK => ?_) rq0)
            (first | (refine step_append_opt _ (by rfl) _ _ 26 (by rfl) wr.heap.size 9 strInfo Tryz.underlying26 (by rfl) (by decide) _ l.length (strV l) HR4.out _ 1 1 [.string p] (by rfl) (by rfl) (by rfl) (fun _ => ⟨_, rfl, fun j u hu => by rw [Addr.add_lit, Nat.zero_add]; exact (Blk.cells HP4.out j).trans (by rw [← Array.getElem?_toList]; exact hu)⟩) (by intro u hu; rw [List.mem_singleton] at hu; rw [hu]; rfl) (by unfold maxLen; omega) (by omega) (by have := hb4.size; omega) ?_; intro v10 w10 hown10 hnb10 hg10; have hbw10 : Below wr.heap.size wr w10 := hb4.grown hg10 hb4.size (fun j hj => (HR4.out.lt j hj).1)) | (refine step_append_opt _ (by rfl) _ _ 26 (by rfl) wr.heap.size 9 strInfo Tryz.underlying26 (by rfl) (by decide) _ l.length (strV l) (HR4.out.alloc _) _ 1 1 [.string p] (by rfl) (by rfl) (by rfl) (fun _ => ⟨_, rfl, fun j u hu => by rw [Addr.add_lit, Nat.zero_add]; exact (Blk.cells (show Blk (w4.alloc (.cells #[.string p] 9)) w4.heap.size #[.string p] 9 from Blk.newAt rfl) j).trans (by rw [← Array.getElem?_toList]; exact hu)⟩) (by intro u hu; rw [List.mem_singleton] at hu; rw [hu]; rfl) (by unfold maxLen; omega) (by omega) (by have := hb4.size; simp only [World.size_alloc]; omega) ?_; intro v10 w10 hown10 hnb10 hg10; have hbw10 : Below wr.heap.size wr w10 := (hb4.alloc hb4.size _).grown hg10 (by have := hb4.size; simp only [World.size_alloc]; omega) (fun j hj => (HR4.out.lt j hj).1))); have hrd10 : StrsR w10 0 v10 (l ++ [p]) := own_base (by rw [List.length_append, ← strV_snoc]; exact hown10) (Nat.zero_le _); have hk10 := hS _ hbw10
            refine hK.out _ _ kp (fun hHeld => ?_)
            clear hK K
            try simp only [PT]
            refine rqS [11] (rqC ⟨some 38, .call ⟨.value (.func 63), #[.tmp 28, .tmp 37], #[26, 26]⟩, 63, "ref.go:190", #[⟨1, .data⟩, ⟨10, .data⟩, ⟨10, .chain⟩], none⟩ (fun K hK => ?_) rq0)
            go_simp
            (go_at_call 63; (with_reducible refine (ORC.out _ _ hbw10 hrd10).mono ?_); rintro e w11 ⟨r11, rfl, hr11, hb11⟩; have hbw11 : Below wr.heap.size wr w11 := hbw10.trans (hb11.mono hbw10.size); have hk11 := hS _ hbw11; obtain ⟨us, hus1, hus2⟩ := hr11; obtain ⟨A11, c11, e11⟩ := own_slice hus1; subst e11; have HV11 := hide (below_row' HV1.out hbw11))
            go_wp2_with fail
            refine hK.out _ _ kp (fun hHeld => ?_)
            clear hK K
            try simp only [PT]
            refine rqS [12] (rqC ⟨some 39, .call ⟨.builtin .append, #[.tmp 27, .tmp 38], #[63, 63]⟩, 63, "ref.go:190", #[⟨0, .data⟩, ⟨11, .data⟩, ⟨11, .chain⟩], none⟩ (fun K hK => ?_) rq0)
            refine step_append_opt _ (by rfl) _ _ 63 (by rfl) w.heap.size 26 strsInfo Tryz.underlying63 (by rfl) (by decide) _ out.length vs HV11.out A11 MM.length c11 us (by rfl) (by rfl) (by have := hus1.1; omega) (own_news hus1) (rowSS_one hus1 hus2) (by unfold maxLen; omega) (by omega) (by have := hbw11.size; omega) ?_; intro v12 w12 hown12 hnb12 hg12; have hk12 : Below w.heap.size w w12 ∧ True := ⟨(HBr.out.trans (hbw11.mono hszr)).grown hg12 (by have := hbw11.size; omega) (fun j hj => (HV11.out.lt j hj).1), trivial⟩
            refine hK.out _ _ kp (fun hHeld => ?_)
            clear hK K
            try simp only [PT]
            refine tkZ 13 ⟨some 5, .assign (.tmp 39), 63, "ref.go:190", #[⟨12, .data⟩, ⟨12, .chain⟩, ⟨0, .phase⟩, ⟨1, .phase⟩, ⟨2, .phase⟩, ⟨3, .phase⟩, ⟨4, .phase⟩, ⟨5, .phase⟩, ⟨6, .phase⟩, ⟨7, .phase⟩, ⟨8, .phase⟩, ⟨9, .phase⟩, ⟨10, .phase⟩, ⟨11, .phase⟩, ⟨12, .phase⟩], none⟩ ?_
            refine wpAnyH_done (by kernel_rfl) ?_ _
            refine NoPanic.normal ?_
            go_wp2_with fail
            go_roundw
            (case rel => exact ⟨i + 1, by go_num, by omega, by rw [HNX.out, HE.out]; exact rowSS_app HV11.out (fun j x l hx hl => below_row' (HV2.out j x l hx hl) hbw11) hus2 hown12 hg12, hk12.1⟩)
            (case measure => simp [intOf]; omega)
      · obtain rfl : i = fs.length := by omega
        rw [List.take_length] at hrow
        go_wp2_with fail
        go_ret
        exact ⟨_, rfl, by rw [HO.out]; exact hrow, hbr⟩
end Go.Proofs.YtocgindpjjolpaaGreatDoor
