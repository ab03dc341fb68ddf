/- Contracts and plain words for the laws of this chapter, part 23: Rt. No condition. -/
import Derived.Test.YtocgindpjjolpaaGreatDoorG22
namespace Go.Proofs.YtocgindpjjolpaaGreatDoor
set_option linter.unusedSimpArgs false
set_option linter.unusedVariables false
open Go.RowKit Go.Shelf
attribute [local go_sem] Oper.semAt_some
theorem best_res (tmps : Array Value) (W : World) (g g2 : Nat) (r e : Value) (h4 : tmps.getD 4 undef = .pointer (some ⟨g, 0, none⟩)) (h5 : tmps.getD 5 undef = .pointer (some ⟨g2, 0, none⟩)) (hc : W.cell? ⟨g, 0, none⟩ = some r) (hc2 : W.cell? ⟨g2, 0, none⟩ = some e) :
    (results Tryz.f29 tmps).run Tryz.prog W = .ok (.tuple #[r, e]) W := by
  have h4' : tmps[4]?.getD undef = .pointer (some ⟨g, 0, none⟩) := by simpa using h4
  have h5' : tmps[5]?.getD undef = .pointer (some ⟨g2, 0, none⟩) := by simpa using h5
  have u1 := Tryz.underlying26
  have u2 := Tryz.underlying29
  simp [results, Tryz.results29, h4', h5', asAddr, loadVar, isAgg, u1, u2, go_sem, hc, hc2]
theorem two_set {w : World} {g g2 : Nat} {x y u v : Value} {T T2 : TypeId} (hne : g ≠ g2) (h : Blk w g #[x] T) (h2 : Blk w g2 #[y] T2) : ((w.setCell ⟨g, 0, none⟩ u).setCell ⟨g2, 0, none⟩ v).cell? ⟨g, 0, none⟩ = some u ∧ ((w.setCell ⟨g, 0, none⟩ u).setCell ⟨g2, 0, none⟩ v).cell? ⟨g2, 0, none⟩ = some v :=
  ⟨(Blk.other (cs := #[u]) hne (h.put rfl)).cells 0, (Blk.put (cs := #[y]) (cs' := #[v]) rfl (Blk.other (Ne.symm hne) h2)).cells 0⟩
theorem below_set2 {B : Nat} {w w2 : World} {g g2 : Nat} {u v : Value} (h : Below B w w2) (hz : B ≤ w2.heap.size) (h1 : B ≤ g) (h2 : B ≤ g2) : Below B w ((w2.setCell ⟨g, 0, none⟩ u).setCell ⟨g2, 0, none⟩ v) :=
  h.trans (((FrO.set (O := fun j => j = g ∨ j = g2) (Or.inl rfl)).trans (FrO.set (O := fun j => j = g ∨ j = g2) (Or.inr rfl)) (fun j h => Or.inl h)).below hz (fun j hj => by omega))
theorem two_blk {w : World} {g g2 : Nat} {x y u v : Value} {T T2 : TypeId} (hne : g ≠ g2) (h : Blk w g #[x] T) (h2 : Blk w g2 #[y] T2) : Blk ((w.setCell ⟨g, 0, none⟩ u).setCell ⟨g2, 0, none⟩ v) g #[u] T ∧ Blk ((w.setCell ⟨g, 0, none⟩ u).setCell ⟨g2, 0, none⟩ v) g2 #[v] T2 :=
  ⟨Blk.other (cs := #[u]) hne (h.put rfl), Blk.put (cs := #[y]) (cs' := #[v]) rfl (Blk.other (Ne.symm hne) h2)⟩
theorem FrO.set2 {O : Nat → Prop} {w : World} {g g2 : Nat} {u v : Value} (h1 : O g) (h2 : O g2) : FrO O w ((w.setCell ⟨g, 0, none⟩ u).setCell ⟨g2, 0, none⟩ v) := (FrO.set h1).trans (FrO.set (O := O) h2) (fun j h => Or.inl h)
def BestI (t : Tr) (acc : List ByteArray) (b6 : Nat) (W7 : World) (pre : List (List Nat)) (W : World) : Prop :=
  (∃ bv L m, Blk W (b6 + 1) #[bv] 26 ∧ Blk W (b6 + 1 + 1) #[.int .i64 m] 3 ∧ W.ownsRow (b6 + 6) 9 1 bv L.length (strV L) ∧
    bestF t acc (filesT t) ((ordersL (filesT t).length (filesT t).length []).drop pre.length) L m = bestT t acc) ∧ FrO (fun j => j = b6 + 1 ∨ j = b6 + 1 + 1 ∨ b6 + 4 ≤ j) W7 W
def BestX (t : Tr) (acc : List ByteArray) (b b6 : Nat) (W7 : World) (_ : List (List Nat)) (W : World) : Prop :=
  (∃ e, Blk W (b + 1 + 1) #[.slice none 0 0] 26 ∧ Blk W (b + 1 + 1 + 1) #[.int .i64 e] 29 ∧ bestT t acc = ([], e)) ∧ FrO (fun j => j = b + 1 + 1 ∨ j = b + 1 + 1 + 1 ∨ b6 + 1 ≤ j) W7 W
theorem best_err {b : Nat} {w W : World} {x y : Value} {e : Int} (a : Act) (hd : a.defers = []) (h4 : a.tmps.getD 4 undef = .pointer (some ⟨b + 1 + 1, 0, none⟩)) (h5 : a.tmps.getD 5 undef = .pointer (some ⟨b + 1 + 1 + 1, 0, none⟩))
    (hB : Blk W (b + 1 + 1) #[x] 26) (hC : Blk W (b + 1 + 1 + 1) #[y] 29) (hz : b ≤ W.heap.size) (hbel : Below b w W) {ls : List ByteArray} (hls : ls = []) {e' : Int} (he : e = e') :
    bodyPostM Fence.wide 1 Tryz.prog Tryz.f29 (fun e w' => ∃ r, e = .returned (.tuple #[r, .int .i64 e']) ∧ StrsR w' b r ls ∧ Below b w w') .ret a ((W.setCell ⟨b + 1 + 1, 0, none⟩ (.slice none 0 0)).setCell ⟨b + 1 + 1 + 1, 0, none⟩ (.int .i64 e)) := by
  subst he; subst hls
  obtain ⟨q1, q2⟩ := two_set (u := .slice none 0 0) (v := .int .i64 e) (by omega) hB hC
  show LeavesInM _ _ _ _ _ _ a.defers _ _
  rw [hd]
  exact ⟨_, best_res _ _ (b + 1 + 1) (b + 1 + 1 + 1) (.slice none 0 0) (.int .i64 e) h4 h5 q1 q2, _, rfl, World.ownsRow_nil _ _ _ _, below_set2 hbel hz (by omega) (by omega)⟩
theorem lt_of_get {w : World} {c : Nat} {o : Obj} (h : w.heap[c]? = some o) : c < w.heap.size := by
  rcases Nat.lt_or_ge c w.heap.size with h2 | h2
  · exact h2
  · rw [Array.getElem?_eq_none h2] at h
    cases h
theorem best_end {b c : Nat} {W : World} {v e : Value} {R : Ending → World → Prop} (a : Act) (hd : a.defers = [{ target := .collected c, args := #[] }]) (h4 : a.tmps.getD 4 undef = .pointer (some ⟨b + 1 + 1, 0, none⟩)) (h5 : a.tmps.getD 5 undef = .pointer (some ⟨b + 1 + 1 + 1, 0, none⟩))
    (hB : W.cell? ⟨b + 1 + 1, 0, none⟩ = some v) (hC : W.cell? ⟨b + 1 + 1 + 1, 0, none⟩ = some e) (hc : b + 1 + 1 + 1 < c) (hK : W.heap[c]? = some (.deferred (some [])))
    (hR : ∀ W', FrO (fun j => j = c) W W' → R (.returned (.tuple #[v, e])) W') : bodyPostM Fence.wide 1 Tryz.prog Tryz.f29 R .ret a W := by
  have hlt : c < W.heap.size := by
    rcases Nat.lt_or_ge c W.heap.size with h | h
    · exact h
    · rw [Array.getElem?_eq_none h] at hK
      cases hK
  show LeavesInM _ _ _ _ _ _ a.defers _ _
  rw [hd]
  refine ⟨by simp, .inl ⟨_, _, rfl, run_takeDeferred hK, ?_⟩⟩
  exact ⟨_, best_res _ _ (b + 1 + 1) (b + 1 + 1 + 1) v e h4 h5 ((World.cell?_of_block ((FrO.put (O := fun j => j = c) rfl).block (b + 1 + 1) (by omega) (by omega))).trans hB) ((World.cell?_of_block ((FrO.put (O := fun j => j = c) rfl).block (b + 1 + 1 + 1) (by omega) (by omega))).trans hC), hR _ (FrO.put rfl)⟩
set_option maxRecDepth 100000 in
set_option maxHeartbeats 4000000 in
theorem best_any (t : Tr) (acc : List ByteArray) (hsz : t.sz ≤ 120000) (hal : acc.length ≤ 100000) (hao : ∀ p ∈ acc, p.size ≤ 2000000) (v va : Value) (w : World) (hT : TabV w) (hv : TreeR w w.heap.size v t) (ha : SlR w w.heap.size va acc) :
    Calls Tryz.prog 29 #[v, va] w fun e w' => ∃ r, e = .returned (.tuple #[r, .int .i64 (bestT t acc).2]) ∧ StrsR w' w.heap.size r (bestT t acc).1 ∧ Below w.heap.size w w' := by
  have FN := hide (fun W hTW hW => files_any t hsz v W hTW hW)
  have VN := hide (fun W hTW hW => valid_any t (Or.inl hsz) v W hTW hW)
  have PN := hide (fun o W vo h1 h2 hTW hW ho => place_any t o 0 hsz h1 h2 (by omega) v vo W hTW hW ho)
  have hfl : (filesT t).length ≤ 6000 := by have h1 := files_len t; have h2 := t.count_sz; omega
  have HAO := hide hao
  obtain ⟨cn, rfl, hzc⟩ := Nd.cells hv
  have HV := hide hv
  have HA := hide ha
  obtain ⟨aA, cA, rfl, -⟩ := ha
  clear hv hao
  refine (callsIn_wide (n := 1)).1 ?_
  refine callsIn_of_wp_marks Tryz.func29 rfl trivial ?_ rfl
  refine wpIn_wide.2 ?_
  simp only [Tryz.ntmps29, List.size_toArray, List.length_cons, List.length_nil, Nat.reduceAdd, Nat.reduceSub, Array.replicate_succ, Array.replicate_zero, List.push_toArray, List.append_toArray, List.nil_append, List.cons_append]
  go_upto_region 1 with fail
  have HN1 := hide (Nd.new HV.out hzc)
  have hbel1 : Below w.heap.size w ((((w.alloc (.cells cn 25)).alloc (.cells #[.slice aA acc.length cA] 26)).alloc (.cells #[.slice none 0 0] 26)).alloc (.cells #[.int .i64 0] 29)) := ((((Below.refl _ _).alloc (Nat.le_refl _) _).alloc (by simp) _).alloc (by simp only [World.size_alloc]; omega) _).alloc (by simp only [World.size_alloc]; omega) _
  have hb12 : Below (w.alloc (.cells cn 25)).heap.size (w.alloc (.cells cn 25)) ((((w.alloc (.cells cn 25)).alloc (.cells #[.slice aA acc.length cA] 26)).alloc (.cells #[.slice none 0 0] 26)).alloc (.cells #[.int .i64 0] 29)) := (((Below.refl _ _).alloc (Nat.le_refl _) _).alloc (by simp) _).alloc (by simp only [World.size_alloc]; omega) _
  have HN2 := hide (HN1.out.below hb12)
  have HB1 := hide (show Blk ((((w.alloc (.cells cn 25)).alloc (.cells #[.slice aA acc.length cA] 26)).alloc (.cells #[.slice none 0 0] 26)).alloc (.cells #[.int .i64 0] 29)) (w.heap.size + 1) #[.slice aA acc.length cA] 26 from ((Blk.newAt (by simp)).alloc _).alloc _)
  have HB2 := hide (show Blk ((((w.alloc (.cells cn 25)).alloc (.cells #[.slice aA acc.length cA] 26)).alloc (.cells #[.slice none 0 0] 26)).alloc (.cells #[.int .i64 0] 29)) (w.heap.size + 1 + 1) #[.slice none 0 0] 26 from (Blk.newAt (by simp)).alloc _)
  have HB3 := hide (show Blk ((((w.alloc (.cells cn 25)).alloc (.cells #[.slice aA acc.length cA] 26)).alloc (.cells #[.slice none 0 0] 26)).alloc (.cells #[.int .i64 0] 29)) (w.heap.size + 1 + 1 + 1) #[.int .i64 0] 29 from Blk.newAt (by simp))
  have hs1 : ((((w.alloc (.cells cn 25)).alloc (.cells #[.slice aA acc.length cA] 26)).alloc (.cells #[.slice none 0 0] 26)).alloc (.cells #[.int .i64 0] 29)).heap.size = w.heap.size + 4 := by simp
  have HT1 := hide (hT.below hbel1)
  clear HN1 hb12
  generalize ((((w.alloc (.cells cn 25)).alloc (.cells #[.slice aA acc.length cA] 26)).alloc (.cells #[.slice none 0 0] 26)).alloc (.cells #[.int .i64 0] 29)) = W1 at *
  obtain ⟨b, hb⟩ : ∃ b, w.heap.size = b := ⟨_, rfl⟩
  rw [hb] at HN2 HB1 HB2 HB3 hs1 hbel1 ⊢
  have HA1 := hide ((HA.out.below (by rw [hb]; exact hbel1)).mono (show w.heap.size ≤ W1.heap.size by omega))
  have PVA := hide (show ∀ W, Below W1.heap.size W1 W → Calls Tryz.prog 56 #[.agg cn] W fun e w' => e = .returned (.bool (validB t)) ∧ Below W.heap.size W w' from fun W hW => VN.out W (HT1.out.below hW) (HN2.out.2.1.later hW))
  have PFI := hide (show ∀ W, Below W1.heap.size W1 W → Calls Tryz.prog 16 #[.agg cn] W fun e w' => ∃ r, e = .returned r ∧ StrsR w' W.heap.size r (filesT t) ∧ Below W.heap.size W w' from fun W hW => FN.out W (HT1.out.below hW) (HN2.out.2.1.later hW))
  have HT0 := hide hT
  clear VN FN hzc hT
  have c1 := HB1.out.cells 0
  have hbd0 : Below W1.heap.size W1 W1 := Below.refl _ _
  cases hvd : validB t with
  | false =>
    have HZ := hide (show bestT t acc = ([], 1) by unfold bestT; rw [if_pos hvd])
    rw [hvd] at PVA
    clear hvd
    go_wp2_with (first | (refine wpList_load_row rfl 25 (.tmp 2) rfl b rfl 25 cn (0, 0) _ HN2.out.1 Tryz.underlying25 rfl (infN HN2.out.2.2) ?_) | (go_at_call 56; refine (PVA.out _ hbd0).mono ?_; rintro e w2 ⟨rfl, hb2⟩; have HC2 := hide (Blk.below hb2 HB2.out); have HC3 := hide (Blk.below hb2 HB3.out); have c2 := HC2.out.cells 0; have c3 := HC3.out.cells 0; have f2 := HC2.out.free 0; have f3 := HC3.out.free 0))
    subst hb
    exact best_err _ rfl rfl rfl HC2.out HC3.out (by have := hb2.size; omega) (hbel1.trans (hb2.mono (by omega))) (congrArg Prod.fst HZ.out) (congrArg Prod.snd HZ.out).symm
  | true =>
  rw [hvd] at PVA
  go_upto_region 3 with (first | (refine wpList_load_row rfl 25 (.tmp 2) rfl b rfl 25 cn (0, 0) _ HN2.out.1 Tryz.underlying25 rfl (infN HN2.out.2.2) ?_) | (go_at_call 56; refine (PVA.out _ hbd0).mono ?_; rintro e w2 ⟨rfl, hb2⟩))
  have HN3 := hide (HN2.out.below hb2)
  go_upto_region 4 with (first | (refine wpList_load_row rfl 25 (.tmp 2) rfl b rfl 25 cn (0, 0) _ HN3.out.1 Tryz.underlying25 rfl (infN HN3.out.2.2) ?_) | (go_at_call 16; refine (PFI.out _ hb2).mono ?_; rintro e w3 ⟨r3, rfl, hr3, hb3⟩; obtain ⟨A3, cp3, hr3e⟩ := own_slice hr3; subst hr3e))
  have hb14 : Below W1.heap.size W1 (w3.alloc (.cells #[.slice A3 (filesT t).length cp3] 26)) := (hb2.trans (hb3.mono hb2.size)).alloc (hb2.trans (hb3.mono hb2.size)).size _
  have HB6 := hide (show Blk (w3.alloc (.cells #[.slice A3 (filesT t).length cp3] 26)) w3.heap.size #[.slice A3 (filesT t).length cp3] 26 from Blk.newAt rfl)
  have HF6 := hide (((SlR.of hr3).below ((Below.refl w3.heap.size w3).alloc (Nat.le_refl _) (.cells #[.slice A3 (filesT t).length cp3] 26))).mono (show w3.heap.size ≤ (w3.alloc (.cells #[.slice A3 (filesT t).length cp3] 26)).heap.size by simp))
  have hs4 : (w3.alloc (.cells #[.slice A3 (filesT t).length cp3] 26)).heap.size = w3.heap.size + 1 := World.size_alloc _ _
  have hw3 := (hb2.trans (hb3.mono hb2.size)).size
  have HO6 := hide (own_base (below_row' hr3 ((Below.refl w3.heap.size w3).alloc (Nat.le_refl _) (.cells #[.slice A3 (filesT t).length cp3] 26))) (show b + 4 ≤ w2.heap.size by have := hb2.size; omega))
  generalize w3.alloc (.cells #[.slice A3 (filesT t).length cp3] 26) = W4 at *
  obtain ⟨b6, hb6⟩ : ∃ b6, w3.heap.size = b6 := ⟨_, rfl⟩
  rw [hb6] at HB6 hs4 hw3 ⊢
  have HN4 := hide (HN2.out.below hb14)
  have HB14 := hide (Blk.below hb14 HB1.out)
  have HB24 := hide (Blk.below hb14 HB2.out)
  have HB34 := hide (Blk.below hb14 HB3.out)
  have HT4 := hide (HT1.out.below hb14)
  have HA4 := hide ((HA1.out.below hb14).mono hb14.size)
  have hbel4 : Below b w W4 := hbel1.trans (hb14.mono (by omega))
  clear HN2 HN3 HB1 HB2 HB3 HT1 HA1 PFI PVA hb14 hr3 hb2 hb3 hb6 hbel1 c1 hbd0
  have c1 := HB14.out.cells 0
  have c6 := HB6.out.cells 0
  have c2 := HB24.out.cells 0
  have c3 := HB34.out.cells 0
  have f2 := HB24.out.free 0
  have f3 := HB34.out.free 0
  by_cases h6 : 6 < (filesT t).length
  · have HZ := hide (show bestT t acc = ([], 7) by unfold bestT; rw [if_neg (by rw [hvd]; decide), if_pos (Or.inl h6)])
    go_wp2_with fail
    subst hb
    exact best_err _ rfl rfl rfl HB24.out HB34.out (by omega) hbel4 (congrArg Prod.fst HZ.out) (congrArg Prod.snd HZ.out).symm
  by_cases h64 : 64 < acc.length
  · have HZ := hide (show bestT t acc = ([], 7) by unfold bestT; rw [if_neg (by rw [hvd]; decide), if_pos (Or.inr h64)])
    go_wp2_with fail
    subst hb
    exact best_err _ rfl rfl rfl HB24.out HB34.out (by omega) hbel4 (congrArg Prod.fst HZ.out) (congrArg Prod.snd HZ.out).symm
  have CFN := hide (contF_any (filesT t) acc (.slice A3 (filesT t).length cp3) (.slice aA acc.length cA) b6 (by omega) hal W4 HB6.out HF6.out HA4.out)
  cases hha : acc.all (hasS (filesT t)) with
  | false =>
    have HZ := hide (show bestT t acc = ([], 6) by unfold bestT; rw [if_neg (by rw [hvd]; decide), if_neg (by omega), if_pos hha])
    rw [hha] at CFN
    clear hha
    go_wp2_with (go_at_call 60; refine CFN.out.mono ?_; rintro e w5 ⟨rfl, hw5⟩; subst hw5)
    subst hb
    exact best_err _ rfl rfl rfl HB24.out HB34.out (by omega) hbel4 (congrArg Prod.fst HZ.out) (congrArg Prod.snd HZ.out).symm
  | true =>
  have HZ := hide (show bestT t acc = bestF t acc (filesT t) (ordersL (filesT t).length (filesT t).length []) [] (-1) by unfold bestT; rw [if_neg (by rw [hvd]; decide), if_neg (by omega), if_neg (by rw [hha]; decide)])
  rw [hha] at CFN
  clear hha
  go_upto_region 10 with (go_at_call 60; refine CFN.out.mono ?_; rintro e w5 ⟨rfl, hw5⟩; subst hw5)
  go_wp2_with (go_at_call 62; refine (orders_any (filesT t).length _).mono ?_; rintro e w6 ⟨rfl, hw6⟩; subst hw6)
  have hfs : ∀ p ∈ filesT t, p.size ≤ 120000 := fun p hp => Nat.le_trans (files_mem hp).2.1 hsz
  have hb7 : Below W4.heap.size W4 (((W4.alloc (.cells #[.slice none 0 0] 26)).alloc (.cells #[.int .i64 (-1)] 3)).alloc (.cells #[.int .i64 ((filesT t).length : Int)] 3)) := (((Below.refl _ _).alloc (Nat.le_refl _) _).alloc (by simp) _).alloc (by simp only [World.size_alloc]; omega) _
  have hs7 : (((W4.alloc (.cells #[.slice none 0 0] 26)).alloc (.cells #[.int .i64 (-1)] 3)).alloc (.cells #[.int .i64 ((filesT t).length : Int)] 3)).heap.size = b6 + 4 := by simp only [World.size_alloc]; omega
  have HBA := hide (show Blk (((W4.alloc (.cells #[.slice none 0 0] 26)).alloc (.cells #[.int .i64 (-1)] 3)).alloc (.cells #[.int .i64 ((filesT t).length : Int)] 3)) (b6 + 1) #[.slice none 0 0] 26 from ((Blk.newAt hs4).alloc _).alloc _)
  have HBB := hide (show Blk (((W4.alloc (.cells #[.slice none 0 0] 26)).alloc (.cells #[.int .i64 (-1)] 3)).alloc (.cells #[.int .i64 ((filesT t).length : Int)] 3)) (b6 + 1 + 1) #[.int .i64 (-1)] 3 from (Blk.newAt (by simp only [World.size_alloc]; omega)).alloc _)
  have HBN := hide (show Blk (((W4.alloc (.cells #[.slice none 0 0] 26)).alloc (.cells #[.int .i64 (-1)] 3)).alloc (.cells #[.int .i64 ((filesT t).length : Int)] 3)) (b6 + 1 + 1 + 1) #[.int .i64 ((filesT t).length : Int)] 3 from Blk.newAt (by simp only [World.size_alloc]; omega))
  have HBF := hide (Blk.below hb7 HB6.out)
  have HBT := hide (Blk.below hb7 HN4.out.1)
  have HBX := hide (Blk.below hb7 HB14.out)
  have HBR := hide (Blk.below hb7 HB24.out)
  have HBE := hide (Blk.below hb7 HB34.out)
  have HO7 := hide (below_row' HO6.out hb7)
  have hfj : ∀ j, (Value.slice A3 (filesT t).length cp3).ownBlock = some j → b + 4 ≤ j ∧ j < b6 + 1 := fun j hj => by have h1 := HO6.out.lt j hj; omega
  have hbel7 : Below b w (((W4.alloc (.cells #[.slice none 0 0] 26)).alloc (.cells #[.int .i64 (-1)] 3)).alloc (.cells #[.int .i64 ((filesT t).length : Int)] 3)) := hbel4.trans (hb7.mono (by omega))
  have hz12 := HN4.out.2.2
  clear hb7 HB6 HN4 HB14 HB24 HB34 HO6 HF6 HT4 HA4 hbel4 c1 c2 c3 c6 f2 f3 CFN
  generalize (((W4.alloc (.cells #[.slice none 0 0] 26)).alloc (.cells #[.int .i64 (-1)] 3)).alloc (.cells #[.int .i64 ((filesT t).length : Int)] 3)) = W7 at *
  refine (wpIn_wide (n := 1)).1 ?_
  refine' wp_feed rfl (enters_of Tryz.func86 (by kernel_rfl) rfl) (orders_feed (filesT t).length (by omega) (b6 + 1 + 1 + 1) W7 HBN.out) (Below.refl _ _)
    (BestI t acc b6 W7) (BestX t acc b b6 W7)
    (fun j => j = b6 + 1 ∨ j = b6 + 1 + 1 ∨ j = b + 1 + 1 ∨ j = b + 1 + 1 + 1) ?h0
    ?hI ?hIx ?hSt ?hSk ?hR1 ?hRb ?hrd _ ?assign ?body ?done ?stop
  case h0 => exact ⟨⟨_, [], -1, HBA.out, HBB.out, World.ownsRow_nil _ _ _ _, by rw [HZ.out]; rfl⟩, FrO.of (Below.refl _ _)⟩
  case hI =>
    rintro pre A B ⟨⟨bv, L, m, h1, h2, h3, h4⟩, h5⟩ hf
    rw [hs7] at hf
    exact ⟨⟨bv, L, m, hf.blk h1 (by omega), hf.blk h2 (by omega), own_frO h3 hf (fun j hj => by have := (h3.lt j hj).1; omega), h4⟩, h5.trans hf (fun j hj => Or.inl (by omega))⟩
  case hIx =>
    rintro pre A B ⟨⟨e, h1, h2, h4⟩, h5⟩ hf
    rw [hs7] at hf
    exact ⟨⟨e, hf.blk h1 (by omega), hf.blk h2 (by omega), h4⟩, h5.trans hf (fun j hj => Or.inl (by omega))⟩
  case hSt =>
    rintro pre A B ⟨⟨bv, L, m, h1, h2, h3, h4⟩, h5⟩ hz hst
    exact ⟨⟨bv, L, m, Blk.below hst h1, Blk.below hst h2, below_row' h3 hst, h4⟩, h5.trans (FrO.of (O := fun _ => False) hst) (fun _ h => h.elim)⟩
  case hSk =>
    intro A B hz hst
    exact ⟨Nat.le_trans hz hst.size, fun j hj => hst.block j (by omega)⟩
  case hR1 =>
    rw [hs7]
    show b6 + 4 + 1 < b6 + 4 + 2 ∧ b6 + 4 + 1 ≠ b6 + 1 + 1 + 1
    omega
  case hRb =>
    intro j hj
    rw [hs7]
    show (j < b6 + 4 + 2 ∧ j ≠ b6 + 1 + 1 + 1) ∧ _
    omega
  case hrd =>
    intro x v A B h hf
    rw [hs7] at h hf ⊢
    exact RdI.frO h hf (fun j hj => by omega)
  case assign =>
    intro m v W K hK
    gi_wp2
    exact hK
  case body =>
    rintro m pre x suf v W hxs ⟨⟨bv, L, mm, h1, h2, h3, h4⟩, h5⟩ hx - hz
    rw [hs7] at hx hz
    obtain ⟨hd1, hd2⟩ := drop_at hxs
    obtain ⟨hxl, hxi⟩ := ordersL_lt (filesT t).length [] (by simp) x (by rw [hxs]; simp)
    rw [hd1] at h4
    have HX1 := hide h1
    have HX2 := hide h2
    have HX3 := hide h3
    have HX4 := hide h4
    have HX5 := hide h5
    have HD2 := hide hd2
    have HXI := hide hxi
    obtain ⟨aB, cB, rfl⟩ := own_slice h3
    have HFL := hide (SlR.of (own_frO HO7.out h5 (fun j hj => by have := hfj j hj; omega)))
    have HBFW := hide (h5.blk HBF.out (by omega))
    have HBTW := hide (h5.blk HBT.out (by omega))
    have HBXW := hide (h5.blk HBX.out (by omega))
    have hbelW : Below b w W := hbel7.trans (h5.below (B := b) (by omega) (fun j hj => by omega))
    have HRE := hide (h5.blk HBR.out (by omega))
    have HEE := hide (h5.blk HBE.out (by omega))
    obtain ⟨A, cx, rfl, hrow⟩ := hx
    have HROW := hide hrow
    have hxb : x.length ≤ 6 := by omega
    have hx0 : 0 < x.length → 0 < (filesT t).length := by omega
    clear hxl h1 h2 h3 h4 h5 hd1 hd2 hxs hxi hrow HBN HBA HBB HBF HBT HBX HBR HBE HO7 hbel7
    gi_wp2
    gi_loopw [10, 12, 39] (fun ov _ idx wr => ∃ k : Nat, k ≤ x.length ∧ idx = .int .i64 (k : Int) ∧ wr.ownsRow W.heap.size 9 1 ov k (strV (namesAt (filesT t) (x.take k))) ∧ Below W.heap.size W wr) (fun _ _ idx _ => x.length - (intOf idx).toNat)
    case atStart => exact ⟨0, Nat.zero_le _, rfl, World.ownsRow_nil _ _ _ _, Below.refl _ _⟩
    case round =>
      obtain ⟨k, hk, rfl, hown, hbr⟩ := hrel
      obtain ⟨ao, cap, rfl⟩ := own_slice hown
      have HO := hide hown
      have HBR := hide hbr
      have hszr := hbr.size
      clear hown hbr
      by_cases hlt : k < x.length
      · obtain ⟨i, hi⟩ : ∃ i, x[k]? = some i := ⟨x[k], List.getElem?_eq_getElem hlt⟩
        have hil := HXI.out i (List.mem_of_getElem? hi)
        obtain ⟨s, hs⟩ : ∃ s, (filesT t)[i]? = some s := ⟨(filesT t)[i], List.getElem?_eq_getElem hil⟩
        obtain ⟨g, rfl, hg1, hg2, hgc⟩ := HROW.out (by omega)
        obtain ⟨A', c', eA, hfl2⟩ := HFL.out
        injection eA with e1 e2 e3
        subst e1; subst e3
        obtain ⟨gf, of, rfl, hgf, hfc⟩ := hfl2 (hx0 (by omega))
        have ci : wr.cell? ⟨g, k, none⟩ = some (.int .i64 (i : Int)) := (HBR.out.cell (p := ⟨g, k, none⟩) hg2).trans (hgc k i hi)
        have cf : wr.cell? ⟨gf, of + i, none⟩ = some (.string s) := (HBR.out.cell (p := ⟨gf, of + i, none⟩) hgf).trans (hfc i s hs)
        have c6 := (Blk.below HBR.out HBFW.out).cells 0
        have HNT := hide (namesAt_take hi hs)
        have hkl : (namesAt (filesT t) (x.take k)).length = k := by rw [namesAt_len, List.length_take]; omega
        have HKL := hide hkl
        obtain ⟨i0, hio, hz0, hz1, hz2⟩ := info_parts strInfo
        clear hi hs hgc hfc hfl2 hkl
        gi_wp2_with (gi_at_builtin; refine wpListIn_append_own _ rfl _ _ 26 rfl W.heap.size 9 i0 (.string ⟨#[]⟩) 1 16 Tryz.underlying26 hio hz0 hz1 hz2 rfl (by decide) _ _ _ rfl (HO.out.alloc _) ⟨wr.heap.size, 0, none⟩ 1 1 [.string s] rfl rfl (cell_one_new _ _ _) (by simp [Value.oneCell']) (by unfold maxLen; omega) (by omega) (by rw [World.size_alloc]; omega) ?_; intro v' w1 hown' hgrow _; have hb1 : Below W.heap.size W w1 := (HBR.out.alloc HBR.out.size _).grown hgrow (by rw [World.size_alloc]; omega) (fun j hj => (HO.out.lt j hj).1))
        go_roundw
        case rel => exact ⟨k + 1, by omega, by go_num, by rw [HNT.out, ← strV_snoc]; exact hown', hb1⟩
        case measure => simp [intOf]; omega
      · obtain rfl : k = x.length := by omega
        have hnm : x.take x.length = x := List.take_length
        have HO2 := hide (by have h := HO.out; rw [hnm] at h; exact h : wr.ownsRow W.heap.size 9 1 (.slice ao x.length cap) x.length (strV (namesAt (filesT t) x)))
        have hbel2 : Below b w wr := hbelW.trans (HBR.out.mono (by omega))
        have hnl := namesAt_len (filesT t) x
        have hns : ∀ p ∈ namesAt (filesT t) x, p.size ≤ 2000000 := fun p hp => Nat.le_trans (hfs p (namesAt_mem HXI.out hp)) (by decide)
        obtain ⟨hpo, hpl⟩ := placeT_ok hsz (s := 0) hns
        have PNW := hide (PN.out (namesAt (filesT t) x) wr (.slice ao x.length cap) (by omega) hns (HT0.out.below (by rw [hb]; exact hbel2)) (HV.out.later (by rw [hb]; exact hbel2)) (SlR.of (by unfold StrsR; rw [hnl]; exact HO2.out)))
        have HBT2 := hide (Blk.below HBR.out HBTW.out)
        have HNS := hide hns
        obtain ⟨pe, hpe⟩ : ∃ pe, (placeT t (namesAt (filesT t) x) 0).2 = pe := ⟨_, rfl⟩
        obtain ⟨pf, hpf⟩ : ∃ pf, (placeT t (namesAt (filesT t) x) 0).1 = pf := ⟨_, rfl⟩
        rw [hpe, hpf] at PNW
        have HPE := hide hpe
        rw [hpf] at hpo hpl
        have HPO2 := hide hpo
        obtain ⟨ci, hci⟩ : ∃ ci, (costT pf acc).1 = ci := ⟨_, rfl⟩
        have HPF := hide hpf
        have c2 := (Blk.below HBR.out HRE.out).cells 0
        clear hnm HO hns hpo PN hpe hpf c2
        by_cases h0 : pe = 0
        · subst h0
          by_cases hm1 : mm < 0
          · have HM := hide (show mm < 0 ∨ (costT (placeT t (namesAt (filesT t) x) 0).1 acc).1 < mm from Or.inl hm1)
            have HBN := hide (HX4.out.symm.trans (bestF_new (b := L) (by rw [HPE.out]; simp) (HM.out)))
            rw [HPF.out, hci] at HBN
            gi_wp2_with (first | (refine wpListIn_load_row rfl 25 (.tmp 2) rfl b rfl 25 cn (0, 0) _ HBT2.out Tryz.underlying25 rfl (infN hz12) ?_) | (refine ⟨trivial, (fun h => absurd h (by decide)), ?_⟩; gi_at_call 22; refine (CallsIn.inRound _ (callsIn_wide.2 PNW.out)).mono ?_; rintro e w8 ⟨r8, rfl, hr8, hb8⟩; have HHB8 := hide (HBR.out.trans (hb8.mono hszr)); have c1 := (Blk.below HHB8.out HBXW.out).cells 0; have HO8 := hide (below_row' HO2.out hb8); have HA8 := hide ((HA.out.below (by rw [hb]; exact hbelW.trans (HHB8.out.mono (by omega)))).mono (by have := HHB8.out.size; have := hbelW.size; omega : w.heap.size ≤ w8.heap.size)); have CW := hide (cost_any pf acc HPO2.out HAO.out (by omega) (by omega) r8 (.slice aA acc.length cA) w8 (SlF.of hr8) HA8.out); clear hr8) | (refine ⟨trivial, (fun h => absurd h (by decide)), ?_⟩; gi_at_call 27; refine (CallsIn.inRound _ (callsIn_wide.2 CW.out)).mono ?_; rintro e w9 ⟨rfl, hb9⟩; have HHB9 := hide (HHB8.out.trans (hb9.mono HHB8.out.size)); have HO9 := hide (below_row' HO8.out hb9); have HX19 := hide (Blk.below HHB9.out HX1.out); have HX29 := hide (Blk.below HHB9.out HX2.out); have c4 := HX19.out.cells 0; have c5 := HX29.out.cells 0; have f4 := HX19.out.free 0; have f5 := HX29.out.free 0))
            obtain ⟨q1, q2⟩ := two_blk (u := .slice ao x.length cap) (v := .int .i64 ci) (by omega) HX19.out HX29.out
            have hw9 := HHB9.out.size
            refine ⟨⟨⟨_, namesAt (filesT t) x, ci, q1, q2, ?_, ?_⟩, ?_⟩, ?_⟩
            · rw [hnl]; exact own_base (own_frO HO9.out (FrO.set2 (O := fun j => j = b6 + 1 ∨ j = b6 + 1 + 1) (Or.inl rfl) (Or.inr rfl)) (fun j hj => by have := (HO9.out.lt j hj).1; omega)) (by omega)
            · rw [HD2.out]; exact HBN.out.symm
            · exact (HX5.out.trans (FrO.of (O := fun _ => False) HHB9.out) (fun _ h => h.elim)).trans (FrO.set2 (O := fun j => j = b6 + 1 ∨ j = b6 + 1 + 1 ∨ b6 + 4 ≤ j) (Or.inl rfl) (Or.inr (Or.inl rfl))) (fun j h => Or.inl h)
            · exact (FrO.of HHB9.out).trans (FrO.set2 (O := fun j => j = b6 + 1 ∨ j = b6 + 1 + 1 ∨ j = b + 1 + 1 ∨ j = b + 1 + 1 + 1) (Or.inl rfl) (Or.inr (Or.inl rfl))) (fun j h => Or.inl h)
          by_cases hm2 : ci < mm
          · have HM := hide (show mm < 0 ∨ (costT (placeT t (namesAt (filesT t) x) 0).1 acc).1 < mm from Or.inr (by rw [HPF.out, hci]; exact hm2))
            have HBN := hide (HX4.out.symm.trans (bestF_new (b := L) (by rw [HPE.out]; simp) (HM.out)))
            rw [HPF.out, hci] at HBN
            gi_wp2_with (first | (refine wpListIn_load_row rfl 25 (.tmp 2) rfl b rfl 25 cn (0, 0) _ HBT2.out Tryz.underlying25 rfl (infN hz12) ?_) | (refine ⟨trivial, (fun h => absurd h (by decide)), ?_⟩; gi_at_call 22; refine (CallsIn.inRound _ (callsIn_wide.2 PNW.out)).mono ?_; rintro e w8 ⟨r8, rfl, hr8, hb8⟩; have HHB8 := hide (HBR.out.trans (hb8.mono hszr)); have c1 := (Blk.below HHB8.out HBXW.out).cells 0; have HO8 := hide (below_row' HO2.out hb8); have HA8 := hide ((HA.out.below (by rw [hb]; exact hbelW.trans (HHB8.out.mono (by omega)))).mono (by have := HHB8.out.size; have := hbelW.size; omega : w.heap.size ≤ w8.heap.size)); have CW := hide (cost_any pf acc HPO2.out HAO.out (by omega) (by omega) r8 (.slice aA acc.length cA) w8 (SlF.of hr8) HA8.out); clear hr8) | (refine ⟨trivial, (fun h => absurd h (by decide)), ?_⟩; gi_at_call 27; refine (CallsIn.inRound _ (callsIn_wide.2 CW.out)).mono ?_; rintro e w9 ⟨rfl, hb9⟩; have HHB9 := hide (HHB8.out.trans (hb9.mono HHB8.out.size)); have HO9 := hide (below_row' HO8.out hb9); have HX19 := hide (Blk.below HHB9.out HX1.out); have HX29 := hide (Blk.below HHB9.out HX2.out); have c4 := HX19.out.cells 0; have c5 := HX29.out.cells 0; have f4 := HX19.out.free 0; have f5 := HX29.out.free 0))
            obtain ⟨q1, q2⟩ := two_blk (u := .slice ao x.length cap) (v := .int .i64 ci) (by omega) HX19.out HX29.out
            have hw9 := HHB9.out.size
            refine ⟨⟨⟨_, namesAt (filesT t) x, ci, q1, q2, ?_, ?_⟩, ?_⟩, ?_⟩
            · rw [hnl]; exact own_base (own_frO HO9.out (FrO.set2 (O := fun j => j = b6 + 1 ∨ j = b6 + 1 + 1) (Or.inl rfl) (Or.inr rfl)) (fun j hj => by have := (HO9.out.lt j hj).1; omega)) (by omega)
            · rw [HD2.out]; exact HBN.out.symm
            · exact (HX5.out.trans (FrO.of (O := fun _ => False) HHB9.out) (fun _ h => h.elim)).trans (FrO.set2 (O := fun j => j = b6 + 1 ∨ j = b6 + 1 + 1 ∨ b6 + 4 ≤ j) (Or.inl rfl) (Or.inr (Or.inl rfl))) (fun j h => Or.inl h)
            · exact (FrO.of HHB9.out).trans (FrO.set2 (O := fun j => j = b6 + 1 ∨ j = b6 + 1 + 1 ∨ j = b + 1 + 1 ∨ j = b + 1 + 1 + 1) (Or.inl rfl) (Or.inr (Or.inl rfl))) (fun j h => Or.inl h)
          · have HBN := hide (HX4.out.symm.trans (bestF_old (b := L) (by rw [HPE.out]; simp) (by rw [HPF.out, hci]; omega)))
            gi_wp2_with (first | (refine wpListIn_load_row rfl 25 (.tmp 2) rfl b rfl 25 cn (0, 0) _ HBT2.out Tryz.underlying25 rfl (infN hz12) ?_) | (refine ⟨trivial, (fun h => absurd h (by decide)), ?_⟩; gi_at_call 22; refine (CallsIn.inRound _ (callsIn_wide.2 PNW.out)).mono ?_; rintro e w8 ⟨r8, rfl, hr8, hb8⟩; have HHB8 := hide (HBR.out.trans (hb8.mono hszr)); have c1 := (Blk.below HHB8.out HBXW.out).cells 0; have HO8 := hide (below_row' HO2.out hb8); have HA8 := hide ((HA.out.below (by rw [hb]; exact hbelW.trans (HHB8.out.mono (by omega)))).mono (by have := HHB8.out.size; have := hbelW.size; omega : w.heap.size ≤ w8.heap.size)); have CW := hide (cost_any pf acc HPO2.out HAO.out (by omega) (by omega) r8 (.slice aA acc.length cA) w8 (SlF.of hr8) HA8.out); clear hr8) | (refine ⟨trivial, (fun h => absurd h (by decide)), ?_⟩; gi_at_call 27; refine (CallsIn.inRound _ (callsIn_wide.2 CW.out)).mono ?_; rintro e w9 ⟨rfl, hb9⟩; have HHB9 := hide (HHB8.out.trans (hb9.mono HHB8.out.size)); have HO9 := hide (below_row' HO8.out hb9); have HX19 := hide (Blk.below HHB9.out HX1.out); have HX29 := hide (Blk.below HHB9.out HX2.out); have c4 := HX19.out.cells 0; have c5 := HX29.out.cells 0; have f4 := HX19.out.free 0; have f5 := HX29.out.free 0))
            refine ⟨⟨⟨_, L, mm, HX19.out, HX29.out, below_row' HX3.out HHB9.out, ?_⟩, ?_⟩, ?_⟩
            · rw [HD2.out]; exact HBN.out.symm
            · exact HX5.out.trans (FrO.of (O := fun _ => False) HHB9.out) (fun _ h => h.elim)
            · exact FrO.of HHB9.out
        · have HR8 := hide (Blk.below HBR.out HRE.out)
          have HE8 := hide (Blk.below HBR.out HEE.out)
          have HBN := hide (HX4.out.symm.trans (bestF_err (b := L) (by rw [HPE.out]; exact h0)))
          rw [HPE.out] at HBN
          gi_wp2_with (first | (refine wpListIn_load_row rfl 25 (.tmp 2) rfl b rfl 25 cn (0, 0) _ HBT2.out Tryz.underlying25 rfl (infN hz12) ?_) | (refine ⟨trivial, (fun h => absurd h (by decide)), ?_⟩; gi_at_call 22; refine (CallsIn.inRound _ (callsIn_wide.2 PNW.out)).mono ?_; rintro e w8 ⟨r8, rfl, hr8, hb8⟩; have HHB8 := hide (HBR.out.trans (hb8.mono hszr)); have HR9 := hide (Blk.below hb8 HR8.out); have HE9 := hide (Blk.below hb8 HE8.out); have c2 := HR9.out.cells 0; have c3 := HE9.out.cells 0; have f2 := HR9.out.free 0; have f3 := HE9.out.free 0))
          obtain ⟨q1, q2⟩ := two_blk (u := .slice none 0 0) (v := .int .i64 pe) (by omega) HR9.out HE9.out
          refine ⟨⟨⟨pe, q1, q2, HBN.out⟩, ?_⟩, ?_⟩
          · exact ((HX5.out.imp (fun j h => by omega)).trans (FrO.of (O := fun _ => False) HHB8.out) (fun _ h => h.elim)).trans (FrO.set2 (O := fun j => j = b + 1 + 1 ∨ j = b + 1 + 1 + 1 ∨ b6 + 1 ≤ j) (Or.inl rfl) (Or.inr (Or.inl rfl))) (fun j h => Or.inl h)
          · exact (FrO.of HHB8.out).trans (FrO.set2 (O := fun j => j = b6 + 1 ∨ j = b6 + 1 + 1 ∨ j = b + 1 + 1 ∨ j = b + 1 + 1 + 1) (Or.inr (Or.inr (Or.inl rfl))) (Or.inr (Or.inr (Or.inr rfl)))) (fun j h => Or.inl h)
  case done =>
    rintro W ⟨⟨bv, L, m, h1, h2, h3, h4⟩, h5⟩ hK
    obtain ⟨ao, cap, rfl⟩ := own_slice h3
    have HR := hide (h5.blk HBR.out (by omega))
    have HE := hide (h5.blk HBE.out (by omega))
    have HK := hide hK
    have HO := hide h3
    have c7 := h1.cells 0
    have c2 := HR.out.cells 0
    have c3 := HE.out.cells 0
    have f2 := HR.out.free 0
    have f3 := HE.out.free 0
    have hB : bestT t acc = (L, 0) := by rw [← h4, List.drop_length]; rfl
    have hbW : Below b w W := hbel7.trans (h5.below (B := b) (by omega) (fun j hj => by omega))
    have hzW := h5.size
    clear hK h1 h2 h3 h4 h5
    go_wp2
    obtain ⟨q1, q2⟩ := two_set (u := .slice ao L.length cap) (v := .int .i64 0) (by omega) HR.out HE.out
    have hf2 : FrO (fun j => j = b + 1 + 1 ∨ j = b + 1 + 1 + 1) W ((W.setCell ⟨b + 1 + 1, 0, none⟩ (.slice ao L.length cap)).setCell ⟨b + 1 + 1 + 1, 0, none⟩ (.int .i64 0)) := (FrO.set (Or.inl rfl)).trans (FrO.set (O := fun j => j = b + 1 + 1 ∨ j = b + 1 + 1 + 1) (Or.inr rfl)) (fun j h => Or.inl h)
    have HC7 := hide (show b + 1 + 1 + 1 < W7.heap.size by omega)
    have hcn : ¬ (W7.heap.size = b + 1 + 1 ∨ W7.heap.size = b + 1 + 1 + 1) := by omega
    refine best_end (b := b) (c := W7.heap.size) _ rfl rfl rfl q1 q2 HC7.out ((hf2.block W7.heap.size (lt_of_get HK.out) hcn).trans HK.out) (fun W' hf3 => ?_)
    subst hb
    rw [hB]
    exact ⟨_, rfl, own_base (own_frO (own_frO HO.out hf2 (fun j hj => by have := (HO.out.lt j hj).1; omega)) hf3 (fun j hj => by have := (HO.out.lt j hj).1; omega)) (by omega), (hbW.trans (hf2.below (by omega) (fun j hj => by omega))).trans (hf3.below (by have := hf2.size; omega) (fun j hj => by omega))⟩
  case stop =>
    rintro pre W ⟨⟨e, h1, h2, h4⟩, h5⟩ hK
    have hbW : Below b w W := hbel7.trans (h5.below (B := b) (by omega) (fun j hj => by omega))
    have hzW := h5.size
    gi_wp2
    refine best_end (b := b) (c := W7.heap.size) _ rfl rfl rfl (h1.cells 0) (h2.cells 0) (by omega) hK (fun W' hf3 => ?_)
    subst hb
    rw [h4]
    exact ⟨_, rfl, World.ownsRow_nil _ _ _ _, hbW.trans (hf3.below (by omega) (fun j hj => by omega))⟩
end Go.Proofs.YtocgindpjjolpaaGreatDoor
