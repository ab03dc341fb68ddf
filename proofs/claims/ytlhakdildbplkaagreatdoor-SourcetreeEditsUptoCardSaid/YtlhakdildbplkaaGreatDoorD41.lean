/- Contracts and plain words for the laws of this chapter, part 41: Ed5. No condition. -/
import Derived.Test.YtlhakdildbplkaaGreatDoorD40
namespace Go.Proofs.YtlhakdildbplkaaGreatDoor
set_option linter.unusedSimpArgs false
set_option linter.unusedVariables false
open Go.RowKit
theorem addP (b o i : Nat) : (⟨b, o, none⟩ : Addr).add i = ⟨b, o + i, none⟩ := by unfold Addr.add; split <;> simp_all
def KpR (bn : Nat) (cn : Array Value) (g q : Nat) (kc : Array Value) (z : World) : Prop := Blk z bn cn 25 ∧ g < z.heap.size ∧ z.rangeAt g q kc.toList
theorem KpR.below {bn g q : Nat} {cn kc : Array Value} {z z' : World} (h : KpR bn cn g q kc z) (hb : Below z.heap.size z z') : KpR bn cn g q kc z' := ⟨Blk.below hb h.1, Nat.lt_of_lt_of_le h.2.1 hb.size, range_below hb h.2.1 h.2.2⟩
theorem KpR.row {bn g q br : Nat} {cn kc cs : Array Value} {z : World} (h : KpR bn cn g q kc z) (h1 : bn ≠ br) (h3 : g ≠ br) : KpR bn cn g q kc (z.setRow br cs) := by
  have hf : FrO (fun j => j = br) z (z.setRow br cs) := FrO.setRow rfl
  exact ⟨hf.blk h.1 h1, Nat.lt_of_lt_of_le h.2.1 hf.size, fun j u hu => (World.cell?_of_block (hf.block g h.2.1 h3)).trans (h.2.2 j u hu)⟩
set_option maxRecDepth 100000 in
set_option maxHeartbeats 8000000 in
theorem rremove_any : ∀ (l : List ByteArray) (O : Nat → Prop) (t x : Tr) (b : ByteArray), findT t (l ++ [b]) = some x → t.sz ≤ 500000 → l.length ≤ 2000001 → ∀ (v pv : Value) (w : World), (∀ j, O j → j < w.heap.size) → TreeX O w v t → CapT w v t → SlC w w.heap.size pv (l ++ [b]) →
    Calls Tryz.prog 80 #[v, pv] w fun e w' => ∃ r, e = .returned r ∧ TreeX O w' r (remP t (l ++ [b])) ∧ Below w.heap.size w w' := by
  intro l
  induction l with
  | nil =>
    intro O t x n hfd hsz _ v pv w hO hv hcp hp
    obtain ⟨A, c, A2, c2, rfl, -, -⟩ := hv.here.openL
    obtain ⟨A6, c6, rfl, hlc, hps⟩ := hp
    obtain ⟨pg, po, rfl, hpg, hpc⟩ := hps (by simp)
    have cp0 := hpc 0 n rfl
    obtain ⟨kk, hkk⟩ : ∃ kk, kidF t.ks n = some kk := by
      cases hk : kidF t.ks n with
      | none => rw [List.nil_append, findT_miss hk] at hfd; cases hfd
      | some kk => exact ⟨kk, rfl⟩
    obtain ⟨i, hi, hil, -⟩ := kid_both hkk
    have hpe : remP t ([] ++ [n]) = ⟨t.h, t.ss, t.ks.dropAt i⟩ := by
      show (⟨t.h, t.ss, dropK t.ks n⟩ : Tr) = _
      rw [dropK_at hi]
    rw [hpe]
    have hilt := kidI_lt hi
    have hlk2 : t.ks.len ≤ 500000 := by have h1 := t.ks.len_sz; unfold Tr.sz at hsz; omega
    have hic : t.ks.len ≤ c := by
      obtain ⟨A', c', sv', e, h1, _⟩ := hcp
      injection e with e
      have e2 := congrArg (fun a : Array Value => a[10]?) e
      have e3 : Value.slice A t.ks.len c = Value.slice A' t.ks.len c' := by injection e2
      injection e3 with _ _ e4
      omega
    obtain ⟨cn, hcn⟩ : ∃ cn, cn = t.h.cells (.slice A t.ks.len c) (.slice A2 t.ss.length c2) := ⟨_, rfl⟩
    obtain ⟨xs, hrx, hxl, hx1, hxc⟩ := LeftX.row hv.left
    obtain ⟨g, o, rfl, hg, hxc⟩ := hxc (by omega)
    have HRX := hide hrx
    have HXC := hide hxc
    have HX1 := hide hx1
    have HV := hide hv
    have HO := hide hO
    have HKI := hide hi
    have HCN := hide hcn
    rw [← hcn]
    rw [← hcn] at HV
    have hzn : cn.size = 12 := by rw [hcn]; rfl
    have cn10 : cn[10]? = some (.slice (some ⟨g, o, none⟩) t.ks.len c) := by rw [hcn]; rfl
    have hset : ∀ v, cn.setIfInBounds 10 v = t.h.cells v (.slice A2 t.ss.length c2) := fun v => by rw [hcn]; rfl
    have HSET := hide hset
    clear hv hO hil hkk hfd hpe hps hpc hcn hrx hxc hx1 hset hcp
    have HL : Live w [] := trivial
    go_enter Tryz.func80, Tryz.ntmps80
    go_upto_region 1 with fail
    have hbel3 : Below w.heap.size w ((w.alloc (.cells cn 25)).alloc (.cells zeroN 25)) := by (exact bl)
    have HBn := hide (show Blk ((w.alloc (.cells cn 25)).alloc (.cells zeroN 25)) w.heap.size cn 25 from (Blk.newAt rfl).alloc _)
    have HBr := hide (show Blk ((w.alloc (.cells cn 25)).alloc (.cells zeroN 25)) (w.heap.size + 1) zeroN 25 from Blk.newAt (by simp only [World.size_alloc]))
    have hz3 : ((w.alloc (.cells cn 25)).alloc (.cells zeroN 25)).heap.size = w.heap.size + 2 := by simp only [World.size_alloc]
    unfold zeroN at hbel3 HBn hz3
    generalize hW : (w.alloc (.cells cn 25)).alloc (.cells #[.string ⟨#[]⟩, .int .i64 0, .string ⟨#[]⟩, .string ⟨#[]⟩, .int .i64 0, .int .i64 0, .int .i64 0, .int .i64 0, .int .i64 0, .int .i64 0, .slice none 0 0, .slice none 0 0] 25) = W3 at *
    (try rw [show (w.alloc (.cells cn 25)).alloc (.cells zeroN 25) = W3 from hW] at HBr)
    clear hW
    obtain ⟨bn, hbn⟩ : ∃ b, b = w.heap.size := ⟨_, rfl⟩
    obtain ⟨br, hbr⟩ : ∃ b, b = w.heap.size + 1 := ⟨_, rfl⟩
    rw [← hbr, ← hbn]
    rw [← hbn] at HBn
    rw [← hbr] at HBr
    have hrw : w.heap.size ≤ br ∧ br < W3.heap.size ∧ bn ≠ br ∧ w.heap.size ≤ bn ∧ bn < br := by omega
    have hO3 : ∀ j, (O j ∨ j = br) → j < W3.heap.size := fun j hj => by
      rcases hj with hj | hj
      · have := HO.out j hj; omega
      · omega
    have hw3 : ∀ j, (O j ∨ j = br) → O j ∨ w.heap.size ≤ j := fun j hj => by
      rcases hj with hj | hj
      · exact Or.inl hj
      · exact Or.inr (by omega)
    have HO3 := hide hO3
    have HW3 := hide hw3
    have HNX := hide (HV.out.wide hbel3 hw3)
    clear hbr hbn hz3 hO3 hw3
    have RK := hide (show ∀ W, Below W3.heap.size W3 W → Calls Tryz.prog 66 #[.agg cn, .string n] W fun e w' => e = .returned (.int .i64 (i : Int)) ∧ Below W.heap.size W w' from fun W h => by
      have h1 := rkid_any t n (by omega) (.agg cn) W ((HV.out.here.later hbel3).later h)
      rw [HKI.out] at h1
      exact h1)
    have cp3 : W3.cell? ⟨pg, po, none⟩ = some (.string n) := (hbel3.cell (p := ⟨pg, po, none⟩) hpg).trans cp0
    have hkeep3 : Blk W3 bn cn 25 ∧ W3.cell? ⟨pg, po, none⟩ = some (.string n) := ⟨HBn.out, cp3⟩
    have hkeepd : Blk W3.drew bn cn 25 ∧ W3.drew.cell? ⟨pg, po, none⟩ = some (.string n) := ⟨HBn.out, cp3⟩
    clear cp0 cp3
    refine wp_region_noPanic ?_
    refine wp_region_held_drew (S := (fun z => Blk z bn cn 25 ∧ z.cell? ⟨pg, po, none⟩ = some (.string n))) (by kernel_rfl) kp (fun hHeld => ?_)
    refine tkY 0 ⟨some 7, .load 25 (.tmp 2), 25, "ref.go:268", #[], none⟩ ?_ ?_ ?_
    rotate_left
    · intro w hSw; (try dsimp only at hSw); refine (exec_load_row 25 (.tmp 2) (by rfl) bn (by rfl) 25 cn (0, 0) _ hSw.1 Tryz.underlying25 (by rfl) (infN hzn)).trans ?_; with_reducible rfl
    try simp only [PT]
    refine tkY 1 ⟨some 8, .move (.tmp 1), 38, "ref.go:268", #[], none⟩ ?_ ?_ ?_
    rotate_left
    · intro w hSw; (try dsimp only at hSw); go_simp; (try with_reducible rfl)
    try simp only [PT]
    refine tkY 2 ⟨some 9, .indexAddr 38 (.tmp 8) (.const (.int .i64 0)), 0, "ref.go:268", #[⟨1, .data⟩], none⟩ ?_ ?_ ?_
    rotate_left
    · intro w hSw; (try dsimp only at hSw); go_simp; (try with_reducible rfl)
    try simp only [PT]
    refine tkY 3 ⟨some 10, .load 9 (.tmp 9), 9, "ref.go:268", #[⟨2, .data⟩], none⟩ ?_ ?_ ?_
    rotate_left
    · intro w hSw; (try dsimp only at hSw); have c1 := hSw.2; go_simp; (try with_reducible rfl)
    try simp only [PT]
    refine wpAnyH_ready (rs := [4]) (by kernel_rfl) (by simp) ?_
    refine AllReadyH.cons (o := ⟨some 11, .call ⟨.value (.func 66), #[.tmp 7, .tmp 10], #[25, 9]⟩, 3, "ref.go:268", #[⟨0, .data⟩, ⟨3, .data⟩], none⟩) rfl (fun K hK => ?_) AllReadyH.nil
    go_simp
    (go_at_call 66; (with_reducible refine (RK.out _ (Below.refl _ _).drew).mono ?_); rintro e w8 ⟨rfl, hb8⟩; have hkeep8 : Blk w8 bn cn 25 ∧ w8.cell? ⟨pg, po, none⟩ = some (.string n) := ⟨Blk.below hb8 hkeepd.1, (hb8.cell (p := ⟨pg, po, none⟩) (cell_lt hkeepd.2)).trans hkeepd.2⟩)
    go_wp2_with fail
    refine hK.out _ _ kp (fun hHeld => ?_)
    clear hK K
    try simp only [PT]
    refine tkY 5 ⟨some 5, .assign (.tmp 11), 3, "ref.go:268", #[⟨4, .data⟩, ⟨4, .chain⟩, ⟨0, .phase⟩, ⟨1, .phase⟩, ⟨2, .phase⟩, ⟨3, .phase⟩, ⟨4, .phase⟩], none⟩ ?_ ?_ ?_
    rotate_left
    · intro w hSw; (try dsimp only at hSw); go_simp; (try with_reducible rfl)
    try simp only [PT]
    refine wpAnyH_done (by kernel_rfl) ?_ _
    refine NoPanic.normal ?_
    have hb38 : Below W3.heap.size W3 w8 := (Below.refl W3.heap.size W3).drew.trans hb8
    have HBn8 := hide (Blk.below hb38 HBn.out)
    have HBr8 := hide (Blk.below hb38 HBr.out)
    have hbel8 := hbel3.trans (hb38.mono hbel3.size)
    clear hkeep3 hkeepd hkeep8 hHeld hb8 RK HBn HBr
    go_upto_region 4 with fail
    have HO4 := hide (show (w8.alloc (.cells #[] 25)).ownsRow w8.heap.size 25 12 (.slice (some ⟨w8.heap.size, 0, none⟩) 0 0) 0 [] from World.ownsRow_lit w8 #[] 0 (Nat.le_refl _) (by decide) rfl)
    have d10 : (w8.alloc (.cells #[] 25)).cell? ⟨bn, 10, none⟩ = some (.slice (some ⟨g, o, none⟩) t.ks.len c) := ((HBn8.out.alloc _).cells 10).trans cn10
    have hxi : (xs.take (i * 12)).length = i * 12 := by rw [List.length_take]; omega
    have HN1 := hide (show ∀ j u, (xs.take (i * 12))[j]? = some u → (w8.alloc (.cells #[] 25)).cell? ((⟨g, o, none⟩ : Addr).add j) = some u from fun j u hu => by
      rw [addP]
      have hj : xs[j]? = some u := by rw [List.getElem?_take] at hu; split at hu; exact hu; cases hu
      have h1 := HXC.out j u hj
      rw [Nat.zero_mul, Nat.add_zero] at h1
      exact ((hbel8.alloc hbel8.size (.cells #[] 25)).cell (p := ⟨g, o + j, none⟩) hg).trans h1)
    have q1 : ((i : Int) ≤ (c : Int)) := by omega
    go_upto_region 5 with (at_builtin; refine wpList_append_rows _ rfl _ _ 22 rfl w8.heap.size 25 nodeInfo Tryz.underlying22 rfl (by decide) (.slice (some ⟨w8.heap.size, 0, none⟩) 0 0) 0 [] HO4.out ⟨g, o, none⟩ i c (xs.take (i * 12)) rfl rfl hxi HN1.out (fun u hu => HX1.out u (List.mem_of_mem_take hu)) (by unfold maxLen; omega) (by omega) (by rw [World.size_alloc]; omega) ?_; intro v2 w2 hown2 hnb2 hg2; have HG2 := hide (And.intro hown2 hg2); clear hown2 hnb2 hg2)
    have hg2 := HG2.out.2
    have hown2 := HG2.out.1
    rw [Nat.zero_add, List.nil_append] at hown2
    obtain ⟨A9, c9, rfl⟩ := own_slice hown2
    have hb82 : Below w8.heap.size w8 w2 := ((FrO.of (O := fun j => j = w8.heap.size) ((Below.refl w8.heap.size w8).alloc (Nat.le_refl _) (.cells #[] 25))).trans (FrO.grown (O := fun j => j = w8.heap.size) hg2 (fun j h => by have h2 : w8.heap.size = j := Option.some.inj h; exact h2.symm)) (fun j h => Or.inl h)).below (Nat.le_refl _) (fun j hj => by omega)
    have HOW2 := hide hown2
    have HBn2 := hide (Blk.below hb82 HBn8.out)
    have HBr2 := hide (Blk.below hb82 HBr8.out)
    have hbel2 := hbel8.trans (hb82.mono hbel8.size)
    have hlo2 : w8.heap.size ≤ w2.heap.size := hb82.size
    have hw38 : W3.heap.size ≤ w8.heap.size := hb38.size
    clear hg2 hown2 HG2 d10 q1 HN1 HO4 hxi hb82 HBn8 HBr8
    generalize w8.heap.size = lo at *
    have e10 : w2.cell? ⟨bn, 10, none⟩ = some (.slice (some ⟨g, o, none⟩) t.ks.len c) := (HBn2.out.cells 10).trans cn10
    have f10 : w2.frozen? ⟨bn, 10, none⟩ = false := HBn2.out.free 10
    have q2 : ((i : Int) + 1 ≤ (t.ks.len : Int)) := by omega
    obtain ⟨q, hq1, hq2⟩ : ∃ q, (if c = i + 1 then some (⟨g, o, none⟩ : Addr) else some ⟨g, o + (i + 1) * 12, none⟩) = some ⟨g, q, none⟩ ∧ (0 < t.ks.len - (i + 1) → q = o + (i + 1) * 12) := by
      by_cases h : c = i + 1
      · exact ⟨o, by rw [if_pos h], fun h0 => by omega⟩
      · exact ⟨_, by rw [if_neg h], fun _ => rfl⟩
    have HQ1 := hide (show Value.slice (if c = i + 1 then some (⟨g, o, none⟩ : Addr) else some ⟨g, o + (i + 1) * 12, none⟩) (t.ks.len - (i + 1)) (c - (i + 1)) = .slice (some ⟨g, q, none⟩) (t.ks.len - (i + 1)) (c - (i + 1)) by rw [hq1])
    have hxd : (xs.drop ((i + 1) * 12)).length = (t.ks.len - (i + 1)) * 12 := by rw [List.length_drop]; omega
    have HN2 := hide (show ∀ j u, (xs.drop ((i + 1) * 12))[j]? = some u → w2.cell? ((⟨g, q, none⟩ : Addr).add j) = some u from fun j u hu => by
      rw [addP]
      have h0 : j < (xs.drop ((i + 1) * 12)).length := (List.getElem?_eq_some_iff.1 hu).1
      rw [List.getElem?_drop] at hu
      have h1 := HXC.out _ u hu
      rw [Nat.zero_mul, Nat.add_zero] at h1
      rw [hq2 (by omega), Nat.add_assoc]
      exact (hbel2.cell (p := ⟨g, o + ((i + 1) * 12 + j), none⟩) hg).trans h1)
    have hsum : i + (t.ks.len - (i + 1)) = t.ks.len - 1 := by omega
    have HSUM := hide hsum
    clear hq1 hq2 hsum
    go_upto_region 6 with (at_builtin; refine wpList_append_rows _ rfl _ _ 22 rfl lo 25 nodeInfo Tryz.underlying22 rfl (by decide) (.slice A9 i c9) i (xs.take (i * 12)) HOW2.out ⟨g, q, none⟩ (t.ks.len - (i + 1)) (c - (i + 1)) (xs.drop ((i + 1) * 12)) rfl HQ1.out hxd HN2.out (fun u hu => HX1.out u (List.mem_of_mem_drop hu)) (by unfold maxLen; omega) (by omega) (by omega) ?_; intro v3 w3 hown3 hnb3 hg3; obtain ⟨A10, c10, rfl⟩ := own_slice hown3; have HBn3 := hide (show Blk w3 bn cn 25 from (hg3.block bn HBn2.out.lt (fun e => by have := (HOW2.out.lt bn e.symm).1; omega)).trans HBn2.out); have HBr3 := hide (show Blk w3 br zeroN 25 from (hg3.block br HBr2.out.lt (fun e => by have := (HOW2.out.lt br e.symm).1; omega)).trans HBr2.out); have HF3 := hide (show Below lo w2 w3 from (FrO.grown (O := fun j => lo ≤ j) hg3 (fun j h => (HOW2.out.lt j h).1)).below hlo2 (fun j hj => hj)); have HOW3 := hide hown3; clear hown3 hnb3 hg3; have e11 : w3.cell? ⟨bn, 10, none⟩ = some (.slice (some ⟨g, o, none⟩) t.ks.len c) := (HBn3.out.cells 10).trans cn10; have f11 : w3.frozen? ⟨bn, 10, none⟩ = false := HBn3.out.free 10)
    have HN6 := hide (show Blk (w3.setCell ⟨bn, 10, none⟩ (.slice A10 (i + (t.ks.len - (i + 1))) c10)) bn (t.h.cells (.slice A10 (i + (t.ks.len - (i + 1))) c10) (.slice A2 t.ss.length c2)) 25 from by rw [← HSET.out]; exact HBn3.out.put rfl)
    have HR6 := hide (show Blk (w3.setCell ⟨bn, 10, none⟩ (.slice A10 (i + (t.ks.len - (i + 1))) c10)) br zeroN 25 from HBr3.out.other (Ne.symm hrw.2.2.1))
    have hf6 : FrO (fun j => j = bn ∨ j = br) w3 ((w3.setCell ⟨bn, 10, none⟩ (.slice A10 (i + (t.ks.len - (i + 1))) c10)).setRow br (t.h.cells (.slice A10 (i + (t.ks.len - (i + 1))) c10) (.slice A2 t.ss.length c2))) := (FrO.set (O := fun j => j = bn ∨ j = br) (Or.inl rfl)).trans (FrO.setRow (O := fun j => j = bn ∨ j = br) (Or.inr rfl)) (fun j h => Or.inl h)
    have HF6 := hide hf6
    have hbel3' : Below w.heap.size w w3 := hbel2.trans (HF3.out.mono (by omega))
    have hlo3 : lo ≤ w3.heap.size := Nat.le_trans hlo2 HF3.out.size
    clear hf6 e10 f10 e11 f11 q2
    go_wp2_with (first | ((with_reducible show wpList _ _ _ _ _ _); refine wpList_load_row rfl 25 (.tmp 2) rfl bn rfl 25 (t.h.cells (.slice A10 (i + (t.ks.len - (i + 1))) c10) (.slice A2 t.ss.length c2)) (0, 0) _ HN6.out Tryz.underlying25 rfl (infN rfl) ?_) | ((with_reducible show wpList _ _ _ _ _ _); refine wpList_store_row rfl 25 (.tmp 4) (.tmp 39) rfl br (t.h.cells (.slice A10 (i + (t.ks.len - (i + 1))) c10) (.slice A2 t.ss.length c2)) rfl rfl 25 zeroN HR6.out (infN rfl) rfl (nodeLit _ _ _ _ _ _ _) ?_))
    all_goals
      refine bodyPost_ret (results_cell_row Tryz.results80 _ _ br 25 (t.h.cells (.slice A10 (i + (t.ks.len - (i + 1))) c10) (.slice A2 t.ss.length c2)) (0, 0) _ rfl (setRow_heap _ _ _ _ _ _ HR6.out) Tryz.underlying25 rfl (infN rfl)) rfl ?_
      have hbf := hbel3'.trans (HF6.out.below hbel3'.size fun j hj => by rcases hj with rfl | rfl; exact hrw.2.2.2.1; exact hrw.1)
      have h3 := HOW3.out
      have h4 := own_fr HF6.out h3 fun g hg hj => by
        have := (h3.lt g hg).1
        rcases hj with rfl | rfl <;> omega
      refine ⟨_, rfl, fun w5 hf5 => ?_, hbf⟩
      have hf3 : FrO O w w5 := (FrO.of hbf).trans hf5 fun j hj => Or.inl hj
      obtain ⟨kv2, sv2, e2, hs2, _⟩ := HV.out w5 hf3
      injection e2 with e2
      rw [HCN.out] at e2
      have e3 := congrArg (fun a : Array Value => a[11]?) e2
      have e4 : Value.slice A2 t.ss.length c2 = sv2 := by injection e3
      rw [← e4] at hs2
      refine ⟨_, _, rfl, hs2, ?_⟩
      show KidR _ _ _ (t.ks.dropAt i)
      rw [← of_drop]
      have hrow := RowX.app (RowX.drop (i + 1) HRX.out) (RowX.take i HRX.out)
      have hll : (t.ks.list.take i ++ t.ks.list.drop (i + 1)).length = i + (t.ks.len - (i + 1)) := by rw [List.length_append, List.length_take, List.length_drop, Fo.list_len]; omega
      have h5 := own_fr hf5 h4 fun g hg hj => by
        have h5 := (h3.lt g hg).1
        have h6 := HO.out g hj
        omega
      rw [← hll] at h5 ⊢
      exact RowV.kids (hrow.at hf3) (Nat.le_refl _) h5
  | cons n l ih =>
    intro O t x b hfd hsz hln v pv w hO hv hcp hp
    have IH := hide (fun O t x => ih O t x b)
    rw [List.cons_append] at hfd hp ⊢
    obtain ⟨m, hm⟩ : ∃ m, m = l ++ [b] := ⟨_, rfl⟩
    rw [← hm] at hfd hp IH ⊢
    have hm0 : m ≠ [] := by rw [hm]; simp
    have hml : m.length = l.length + 1 := by rw [hm, List.length_append]; rfl
    obtain ⟨A, c, A2, c2, rfl, -, -⟩ := hv.here.openL
    obtain ⟨A6, c6, rfl, hlc, hps⟩ := hp
    obtain ⟨pg, po, rfl, hpg, hpc⟩ := hps (by simp)
    have cp0 := hpc 0 n rfl
    have HPC := hide (fun j s (h : m[j]? = some s) => hpc (j + 1) s (by simpa using h))
    obtain ⟨kk, hkk, hfk⟩ : ∃ kk, kidF t.ks n = some kk ∧ findT kk m = some x := by
      cases hk : kidF t.ks n with
      | none => rw [findT_miss hk] at hfd; cases hfd
      | some kk => rw [findT_hit hk] at hfd; exact ⟨kk, rfl, hfd⟩
    obtain ⟨i, hi, hil, -⟩ := kid_both hkk
    have hkz : kk.sz ≤ 500000 := by have h1 := kidF_sz2 hkk; unfold Tr.sz at hsz; omega
    have hpe : remP t (n :: m) = withT t (remP kk m) := by
      rw [remP_cons _ _ _ hm0, hkk]
    rw [hpe]
    have hilt := kidI_lt hi
    have hlk2 : t.ks.len ≤ 500000 := by have h1 := t.ks.len_sz; unfold Tr.sz at hsz; omega
    obtain ⟨cn, hcn⟩ : ∃ cn, cn = t.h.cells (.slice A t.ks.len c) (.slice A2 t.ss.length c2) := ⟨_, rfl⟩
    obtain ⟨g, o, kv, sv, rfl, hg, hkr, hk1, hkX⟩ := LeftX.at hv.left hil
    rw [Nat.zero_add] at hkr
    have hcpk : CapT w (.agg (kk.h.cells kv sv)) kk := by
      obtain ⟨A', c', sv', e, _, h2⟩ := hcp
      injection e with e
      have e2 := congrArg (fun a : Array Value => a[10]?) e
      have e3 : Value.slice (some ⟨g, o, none⟩) t.ks.len c = Value.slice A' t.ks.len c' := by injection e2
      injection e3 with e4 _ _
      obtain ⟨g', o', e5, h3⟩ := h2 (by omega)
      rw [← e4] at e5
      injection e5 with e5
      injection e5 with e6 e7 _
      subst e6; subst e7
      obtain ⟨A3, c3, h4, h5, h6⟩ := CapF.at h3 hil
      have h7 := hkr 10 kv rfl
      rw [h4] at h7
      injection h7 with h7
      exact ⟨A3, c3, sv, by rw [h7], h5, h6⟩
    have HCPK := hide hcpk
    obtain ⟨kc, hkc⟩ : ∃ kc, kc = kk.h.cells kv sv := ⟨_, rfl⟩
    have hkz12 : kc.size = 12 := by rw [hkc]; rfl
    rw [← hkc] at hkr hk1 hkX HCPK
    have HV := hide hv
    have HO := hide hO
    have HKC := hide (And.intro hkz12 hk1)
    have HKKX := hide hkX
    have HKR := hide hkr
    have HFK := hide hfk
    have HKI := hide hi
    rw [← hcn]
    rw [← hcn] at HV
    have hzn : cn.size = 12 := by rw [hcn]; rfl
    have cn10 : cn[10]? = some (.slice (some ⟨g, o, none⟩) t.ks.len c) := by rw [hcn]; rfl
    have hlc2 : m.length + 1 ≤ c6 := by simpa using hlc
    have hm1 : 1 ≤ m.length := by omega
    have HLN := hide (show l.length ≤ 2000001 by simp at hln; omega)
    clear hml hln hv hO hkz12 hk1 hkX hkr hfk hkk hil hfd hpe hps hpc ih hkc hcn hcp hcpk hlc hm
    have HL : Live w [] := trivial
    go_enter Tryz.func80, Tryz.ntmps80
    go_upto_region 1 with fail
    have hbel3 : Below w.heap.size w ((w.alloc (.cells cn 25)).alloc (.cells zeroN 25)) := by (exact bl)
    have HBn := hide (show Blk ((w.alloc (.cells cn 25)).alloc (.cells zeroN 25)) w.heap.size cn 25 from (Blk.newAt rfl).alloc _)
    have HBr := hide (show Blk ((w.alloc (.cells cn 25)).alloc (.cells zeroN 25)) (w.heap.size + 1) zeroN 25 from Blk.newAt (by simp only [World.size_alloc]))
    have hz3 : ((w.alloc (.cells cn 25)).alloc (.cells zeroN 25)).heap.size = w.heap.size + 2 := by simp only [World.size_alloc]
    unfold zeroN at hbel3 HBn hz3
    generalize hW : (w.alloc (.cells cn 25)).alloc (.cells #[.string ⟨#[]⟩, .int .i64 0, .string ⟨#[]⟩, .string ⟨#[]⟩, .int .i64 0, .int .i64 0, .int .i64 0, .int .i64 0, .int .i64 0, .int .i64 0, .slice none 0 0, .slice none 0 0] 25) = W3 at *
    (try rw [show (w.alloc (.cells cn 25)).alloc (.cells zeroN 25) = W3 from hW] at HBr)
    clear hW
    obtain ⟨bn, hbn⟩ : ∃ b, b = w.heap.size := ⟨_, rfl⟩
    obtain ⟨br, hbr⟩ : ∃ b, b = w.heap.size + 1 := ⟨_, rfl⟩
    rw [← hbr, ← hbn]
    rw [← hbn] at HBn
    rw [← hbr] at HBr
    have hrw : w.heap.size ≤ br ∧ br < W3.heap.size ∧ bn ≠ br ∧ w.heap.size ≤ bn ∧ bn < br := by omega
    have hO3 : ∀ j, (O j ∨ j = br) → j < W3.heap.size := fun j hj => by
      rcases hj with hj | hj
      · have := HO.out j hj; omega
      · omega
    have hw3 : ∀ j, (O j ∨ j = br) → O j ∨ w.heap.size ≤ j := fun j hj => by
      rcases hj with hj | hj
      · exact Or.inl hj
      · exact Or.inr (by omega)
    have HO3 := hide hO3
    have HW3 := hide hw3
    have HNX := hide (HV.out.wide hbel3 hw3)
    clear hbr hbn hz3 hO3 hw3
    have RK := hide (show ∀ W, Below W3.heap.size W3 W → Calls Tryz.prog 66 #[.agg cn, .string n] W fun e w' => e = .returned (.int .i64 (i : Int)) ∧ Below W.heap.size W w' from fun W h => by
      have h1 := rkid_any t n (by omega) (.agg cn) W ((HV.out.here.later hbel3).later h)
      rw [HKI.out] at h1
      exact h1)
    have cp3 : W3.cell? ⟨pg, po, none⟩ = some (.string n) := (hbel3.cell (p := ⟨pg, po, none⟩) hpg).trans cp0
    have hkeep3 : Blk W3 bn cn 25 ∧ W3.cell? ⟨pg, po, none⟩ = some (.string n) := ⟨HBn.out, cp3⟩
    have hkeepd : Blk W3.drew bn cn 25 ∧ W3.drew.cell? ⟨pg, po, none⟩ = some (.string n) := ⟨HBn.out, cp3⟩
    clear cp0 cp3
    refine wp_region_noPanic ?_
    refine wp_region_held_drew (S := (fun z => Blk z bn cn 25 ∧ z.cell? ⟨pg, po, none⟩ = some (.string n))) (by kernel_rfl) kp (fun hHeld => ?_)
    refine tkY 0 ⟨some 7, .load 25 (.tmp 2), 25, "ref.go:268", #[], none⟩ ?_ ?_ ?_
    rotate_left
    · intro w hSw; (try dsimp only at hSw); refine (exec_load_row 25 (.tmp 2) (by rfl) bn (by rfl) 25 cn (0, 0) _ hSw.1 Tryz.underlying25 (by rfl) (infN hzn)).trans ?_; with_reducible rfl
    try simp only [PT]
    refine tkY 1 ⟨some 8, .move (.tmp 1), 38, "ref.go:268", #[], none⟩ ?_ ?_ ?_
    rotate_left
    · intro w hSw; (try dsimp only at hSw); go_simp; (try with_reducible rfl)
    try simp only [PT]
    refine tkY 2 ⟨some 9, .indexAddr 38 (.tmp 8) (.const (.int .i64 0)), 0, "ref.go:268", #[⟨1, .data⟩], none⟩ ?_ ?_ ?_
    rotate_left
    · intro w hSw; (try dsimp only at hSw); go_simp; (try with_reducible rfl)
    try simp only [PT]
    refine tkY 3 ⟨some 10, .load 9 (.tmp 9), 9, "ref.go:268", #[⟨2, .data⟩], none⟩ ?_ ?_ ?_
    rotate_left
    · intro w hSw; (try dsimp only at hSw); have c1 := hSw.2; go_simp; (try with_reducible rfl)
    try simp only [PT]
    refine wpAnyH_ready (rs := [4]) (by kernel_rfl) (by simp) ?_
    refine AllReadyH.cons (o := ⟨some 11, .call ⟨.value (.func 66), #[.tmp 7, .tmp 10], #[25, 9]⟩, 3, "ref.go:268", #[⟨0, .data⟩, ⟨3, .data⟩], none⟩) rfl (fun K hK => ?_) AllReadyH.nil
    go_simp
    (go_at_call 66; (with_reducible refine (RK.out _ (Below.refl _ _).drew).mono ?_); rintro e w8 ⟨rfl, hb8⟩; have hkeep8 : Blk w8 bn cn 25 ∧ w8.cell? ⟨pg, po, none⟩ = some (.string n) := ⟨Blk.below hb8 hkeepd.1, (hb8.cell (p := ⟨pg, po, none⟩) (cell_lt hkeepd.2)).trans hkeepd.2⟩)
    go_wp2_with fail
    refine hK.out _ _ kp (fun hHeld => ?_)
    clear hK K
    try simp only [PT]
    refine tkY 5 ⟨some 5, .assign (.tmp 11), 3, "ref.go:268", #[⟨4, .data⟩, ⟨4, .chain⟩, ⟨0, .phase⟩, ⟨1, .phase⟩, ⟨2, .phase⟩, ⟨3, .phase⟩, ⟨4, .phase⟩], none⟩ ?_ ?_ ?_
    rotate_left
    · intro w hSw; (try dsimp only at hSw); go_simp; (try with_reducible rfl)
    try simp only [PT]
    refine wpAnyH_done (by kernel_rfl) ?_ _
    refine NoPanic.normal ?_
    have hb38 : Below W3.heap.size W3 w8 := (Below.refl W3.heap.size W3).drew.trans hb8
    have HBn8 := hide (Blk.below hb38 HBn.out)
    have HBr8 := hide (Blk.below hb38 HBr.out)
    have hbel8 := hbel3.trans (hb38.mono hbel3.size)
    clear hkeep3 hkeepd hkeep8 hHeld hb8 RK HBn HBr
    have q0 : (1 : Int) < (m.length : Int) + 1 := by omega
    go_upto_region 3 with fail
    have hgbr : g ≠ br := by omega
    have HKP := hide (show KpR bn cn g (o + i * 12) kc w8 from ⟨HBn8.out, Nat.lt_of_lt_of_le hg hbel8.size, range_below hbel8 hg HKR.out⟩)
    obtain ⟨A7, hA7⟩ : ∃ A7, (if c6 = 1 then some (⟨pg, po, none⟩ : Addr) else some ⟨pg, po + 1, none⟩) = A7 := ⟨_, rfl⟩
    have HA7 := hide hA7
    have HPS := hide (show SlC w8 w8.heap.size (.slice A7 m.length (c6 - 1)) m from ⟨_, _, rfl, by omega, fun h0 => ⟨pg, po + 1, by rw [← hA7, if_neg (by omega)], Nat.lt_of_lt_of_le hpg hbel8.size, fun j s hj => by
      rw [Nat.add_assoc, Nat.add_comm 1 j]
      exact (hbel8.cell (p := ⟨pg, po + (j + 1), none⟩) hpg).trans (HPC.out j s hj)⟩⟩)
    have PU := hide (show ∀ W, Below w8.heap.size w8 W → Calls Tryz.prog 80 #[.agg kc, .slice A7 m.length (c6 - 1)] W fun e w' => ∃ r, e = .returned r ∧ TreeX (fun j => O j ∨ j = br) w' r (remP kk m) ∧ Below W.heap.size W w' from fun W h => by
      have hbW : Below w.heap.size w W := hbel8.trans (h.mono hbel8.size)
      have hb3W : Below W3.heap.size W3 W := hb38.trans (h.mono hb38.size)
      exact IH.out _ kk x HFK.out hkz HLN.out (.agg kc) _ W (fun j hj => Nat.lt_of_lt_of_le (HO3.out j hj) hb3W.size) (HKKX.out.wide hbW HW3.out) (HCPK.out.below hbW) (HPS.out.later2 h))
    have WT := hide (show ∀ W r, Below W3.heap.size W3 W → TreeX (fun j => O j ∨ j = br) W r (remP kk m) → Calls Tryz.prog 126 #[.agg cn, r] W fun e w' => ∃ r', e = .returned r' ∧ TreeX (fun j => O j ∨ j = br) w' r' (withT t (remP kk m)) ∧ Below W.heap.size W w' from fun W r h hr => with_gen (fun j => O j ∨ j = br) t (remP kk m) hsz (.agg cn) r W (fun j hj => Nat.lt_of_lt_of_le (HO3.out j hj) h.size) (HNX.out.later h HO3.out) hr)
    clear hA7
    have hkeep8 : KpR bn cn g (o + i * 12) kc w8 ∧ True := ⟨HKP.out, trivial⟩
    have hkeepd : KpR bn cn g (o + i * 12) kc w8.drew ∧ True := ⟨HKP.out.below (Below.refl _ _).drew, trivial⟩
    refine wp_region_noPanic ?_
    refine wp_region_held_drew (S := (fun z => KpR bn cn g (o + i * 12) kc z ∧ True)) (by kernel_rfl) kp (fun hHeld => ?_)
    refine tkY 0 ⟨some 15, .load 25 (.tmp 2), 25, "ref.go:270", #[], none⟩ ?_ ?_ ?_
    rotate_left
    · intro w hSw; (try dsimp only at hSw); refine (exec_load_row 25 (.tmp 2) (by rfl) bn (by rfl) 25 cn (0, 0) _ hSw.1.1 Tryz.underlying25 (by rfl) (infN hzn)).trans ?_; with_reducible rfl
    try simp only [PT]
    refine tkY 1 ⟨some 16, .fieldAddr 25 (.tmp 2) 10, 0, "ref.go:270", #[], none⟩ ?_ ?_ ?_
    rotate_left
    · intro w hSw; (try dsimp only at hSw); go_simp; (try with_reducible rfl)
    try simp only [PT]
    refine tkY 2 ⟨some 17, .load 22 (.tmp 16), 22, "ref.go:270", #[⟨1, .data⟩], none⟩ ?_ ?_ ?_
    rotate_left
    · intro w hSw; (try dsimp only at hSw); have c1 := (hSw.1.1.cells 10).trans cn10; go_simp; (try with_reducible rfl)
    try simp only [PT]
    refine tkY 3 ⟨some 18, .move (.tmp 5), 3, "ref.go:270", #[], none⟩ ?_ ?_ ?_
    rotate_left
    · intro w hSw; (try dsimp only at hSw); go_simp; (try with_reducible rfl)
    try simp only [PT]
    refine tkY 4 ⟨some 19, .indexAddr 22 (.tmp 17) (.tmp 18), 0, "ref.go:270", #[⟨2, .data⟩, ⟨3, .data⟩], none⟩ ?_ ?_ ?_
    rotate_left
    · intro w hSw; (try dsimp only at hSw); go_simp; (try with_reducible rfl)
    try simp only [PT]
    refine tkY 5 ⟨some 20, .load 25 (.tmp 19), 25, "ref.go:270", #[⟨4, .data⟩], none⟩ ?_ ?_ ?_
    rotate_left
    · intro w hSw; (try dsimp only at hSw); refine (exec_load_mid 25 (.tmp 19) (by rfl) g (o + i * 12) (by rfl) kc _ hSw.1.2.2 Tryz.underlying25 (by rfl) (infNl HKC.out.1)).trans ?_; with_reducible rfl
    try simp only [PT]
    refine tkY 6 ⟨some 21, .move (.tmp 1), 38, "ref.go:270", #[], none⟩ ?_ ?_ ?_
    rotate_left
    · intro w hSw; (try dsimp only at hSw); go_simp; (try with_reducible rfl)
    try simp only [PT]
    refine tkY 7 ⟨some 22, .slice 38 (.tmp 21) (some (.const (.int .i64 1))) none none, 38, "ref.go:270", #[⟨6, .data⟩], none⟩ ?_ ?_ ?_
    rotate_left
    · intro w hSw; (try dsimp only at hSw); go_simp; rw [if_pos (show (1 : Int) ≤ (m.length : Int) + 1 by omega), HA7.out]
    try simp only [PT]
    refine wpAnyH_ready (rs := [8]) (by kernel_rfl) (by simp) ?_
    refine AllReadyH.cons (o := ⟨some 23, .call ⟨.value (.func 80), #[.tmp 20, .tmp 22], #[25, 38]⟩, 25, "ref.go:270", #[⟨5, .data⟩, ⟨7, .data⟩], none⟩) rfl (fun K hK => ?_) AllReadyH.nil
    go_simp
    (go_at_call 80; (with_reducible refine (PU.out _ (Below.refl _ _).drew).mono ?_); rintro e w9 ⟨r9, rfl, hr9, hb9⟩; have HR9 := hide hr9; have hkeep9 : KpR bn cn g (o + i * 12) kc w9 ∧ True := ⟨hkeepd.1.below hb9, trivial⟩; have HB9 := hide ((Below.refl w8.heap.size w8).drew.trans hb9))
    go_wp2_with fail
    refine hK.out _ _ kp (fun hHeld => ?_)
    clear hK K
    try simp only [PT]
    refine wpAnyH_ready (rs := [9]) (by kernel_rfl) (by simp) ?_
    refine AllReadyH.cons (o := ⟨some 24, .call ⟨.value (.func 126), #[.tmp 15, .tmp 23], #[25, 25]⟩, 25, "ref.go:270", #[⟨0, .data⟩, ⟨8, .data⟩, ⟨8, .chain⟩], none⟩) rfl (fun K hK => ?_) AllReadyH.nil
    go_simp
    (go_at_call 126; (with_reducible refine (WT.out _ r9 (hb38.trans (HB9.out.mono hb38.size)) HR9.out).mono ?_); rintro e w10 ⟨r10, rfl, hr10, hb10⟩; have HR10 := hide hr10; obtain ⟨c10', rfl, hz10, h110⟩ := HR10.out.here.cells; have HZ10 := hide (And.intro hz10 h110); have hkeep10 : KpR bn cn g (o + i * 12) kc w10 ∧ True := ⟨hkeep9.1.below hb10, trivial⟩; have HBr10 := hide (Blk.below hb10 (Blk.below HB9.out HBr8.out)); have hkeep11 : KpR bn cn g (o + i * 12) kc (w10.setRow br c10') ∧ True := ⟨hkeep10.1.row hrw.2.2.1 hgbr, trivial⟩; have HB10 := hide (HB9.out.trans (hb10.mono HB9.out.size)))
    go_wp2_with fail
    refine hK.out _ _ kp (fun hHeld => ?_)
    clear hK K
    try simp only [PT]
    refine wpAnyH_ready (rs := [10]) (by kernel_rfl) (by simp) ?_
    refine AllReadyH.cons (o := ⟨none, .store 25 (.tmp 4) (.tmp 24), 0, "ref.go:270", #[⟨9, .data⟩, ⟨9, .chain⟩, ⟨0, .phase⟩, ⟨1, .phase⟩, ⟨2, .phase⟩, ⟨3, .phase⟩, ⟨4, .phase⟩, ⟨5, .phase⟩, ⟨6, .phase⟩, ⟨7, .phase⟩, ⟨8, .phase⟩, ⟨9, .phase⟩], none⟩) rfl (fun K hK => ?_) AllReadyH.nil
    refine step_store_row rfl 25 (.tmp 4) (.tmp 24) rfl br c10' rfl rfl 25 zeroN HBr10.out (infN HZ10.out.1) (by rw [HZ10.out.1]; rfl) HZ10.out.2 ?_
    refine hK.out _ _ kp (fun hHeld => ?_)
    clear hK K
    try simp only [PT]
    refine wpAnyH_done (by kernel_rfl) ?_ _
    refine NoPanic.normal ?_
    go_wp2_with fail
    refine bodyPost_ret (results_cell_row Tryz.results80 _ _ br 25 c10' (0, 0) _ rfl (setRow_heap _ _ _ _ _ _ HBr10.out) Tryz.underlying25 rfl (infN HZ10.out.1)) rfl ?_
    have hb6 := hbel8.trans (HB10.out.mono hbel8.size)
    have hfr : FrO (fun j => O j ∨ j = br) w10 (w10.setRow br c10') := FrO.setRow (Or.inr rfl)
    exact ⟨_, rfl, fun w2 hf2 => HR10.out w2 (hfr.trans hf2 fun j hj => Or.inl (Or.inl hj)), hb6.trans ((FrO.setRow (O := fun j => j = br) rfl).below hb6.size fun j hj => by subst hj; exact hrw.1)⟩
end Go.Proofs.YtlhakdildbplkaaGreatDoor
