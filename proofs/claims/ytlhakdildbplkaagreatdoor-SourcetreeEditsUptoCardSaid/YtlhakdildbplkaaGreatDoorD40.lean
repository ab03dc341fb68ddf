/- Contracts and plain words for the laws of this chapter, part 40: Ed3, Ed4. No condition. -/
import Derived.Test.YtlhakdildbplkaaGreatDoorD39
import Derived.Test.YtlhakdildbplkaaGreatDoorD17
import Derived.Test.YtlhakdildbplkaaGreatDoorD3
namespace Go.Proofs.YtlhakdildbplkaaGreatDoor
set_option linter.unusedSimpArgs false
set_option linter.unusedVariables false
open Go.RowKit
theorem kidF_sz2 : ∀ {f : Fo} {n : ByteArray} {k : Tr}, kidF f n = some k → k.sz ≤ f.sz
  | .nil, _, _, h => by cases h
  | .node h ss ks nx, n, k, e => by
    rw [kidF] at e
    split at e
    · injection e with e
      rw [← e]
      show h.sz + szS ss + ks.sz ≤ h.sz + szS ss + ks.sz + nx.sz
      omega
    · have := kidF_sz2 e
      show k.sz ≤ h.sz + szS ss + ks.sz + nx.sz
      omega
theorem TreeX.wide {O O' : Nat → Prop} {w W : World} {v : Value} {t : Tr} (h : TreeX O w v t) (hb : Below w.heap.size w W) (hO : ∀ j, O' j → O j ∨ w.heap.size ≤ j) : TreeX O' W v t := fun w2 hf => h w2 ((FrO.of hb).trans hf hO)
theorem LeftX.at {O : Nat → Prop} {w : World} {A : Option Addr} : ∀ {f : Fo} {j i : Nat} {k : Tr}, LeftX O w A f j → f.list[i]? = some k → ∃ g o kv sv, A = some ⟨g, o, none⟩ ∧ g < w.heap.size ∧ w.rangeAt g (o + (j + i) * 12) (k.h.cells kv sv).toList ∧ (k.h.cells kv sv).all (·.oneCell') = true ∧ TreeX O w (.agg (k.h.cells kv sv)) k
  | .nil, _, _, _, _, h => by simp [Fo.list] at h
  | .node h ss ks nx, j, 0, k, hl, hi => by
    have e : (⟨h, ss, ks⟩ : Tr) = k := by simpa [Fo.list] using hi
    subst e
    obtain ⟨g, o, kv, sv, h1, h2, _, h3, h4, h5, _⟩ := TreeX.parts hl
    exact ⟨g, o, kv, sv, h1, h2, h3, h4, h5⟩
  | .node h ss ks nx, j, i + 1, k, hl, hi => by
    obtain ⟨g, o, kv, sv, h1, h2, _, h3, h4, h5, h6⟩ := TreeX.parts hl
    obtain ⟨g', o', kv', sv', a1, a2, a3, a4, a5⟩ := LeftX.at h6 (by simpa [Fo.list] using hi)
    exact ⟨g', o', kv', sv', a1, a2, by rw [show j + (i + 1) = j + 1 + i by omega]; exact a3, a4, a5⟩
def SlC (w : World) (B : Nat) (v : Value) (l : List ByteArray) : Prop := ∃ A c, v = .slice A l.length c ∧ l.length ≤ c ∧ (0 < l.length → ∃ g o, A = some ⟨g, o, none⟩ ∧ g < B ∧ ∀ j s, l[j]? = some s → w.cell? ⟨g, o + j, none⟩ = some (.string s))
theorem SlC.later2 {w w' : World} {v : Value} {l : List ByteArray} (h : SlC w w.heap.size v l) (hb : Below w.heap.size w w') : SlC w' w'.heap.size v l := by
  obtain ⟨A, c, e, hc, hh⟩ := h
  exact ⟨A, c, e, hc, fun h0 => by
    obtain ⟨g, o, e2, hg, hcl⟩ := hh h0
    exact ⟨g, o, e2, Nat.lt_of_lt_of_le hg hb.size, fun j s hj => (hb.cell (p := ⟨g, o + j, none⟩) hg).trans (hcl j s hj)⟩⟩
theorem SlC.of {w : World} {B : Nat} {v : Value} {l : List ByteArray} (h : StrsR w B v l) : SlC w w.heap.size v l := by
  rcases Nat.eq_zero_or_pos l.length with h0 | h0
  · obtain ⟨A, c, rfl⟩ := own_slice h
    exact ⟨A, c, rfl, by omega, fun h1 => by omega⟩
  · obtain ⟨g, cap, cur, rfl, hlg, hB, hnc, hcm, hcs, hcx⟩ := own_blk h h0
    obtain ⟨g', cap', e, _, hl, _, hc⟩ := own_at h h0
    injection e with e1 _ _
    injection e1 with e1
    injection e1 with e1 _ _
    subst e1
    exact ⟨_, cap, rfl, hnc, fun _ => ⟨g, 0, rfl, hl, fun j s hj => by
      rw [Nat.zero_add]
      refine hc j _ ?_
      unfold strV
      rw [List.getElem?_map, hj]
      rfl⟩⟩
def KpP (bn : Nat) (cn : Array Value) (bk : Nat) (ck : Array Value) (g q : Nat) (kc : Array Value) (z : World) : Prop := Blk z bn cn 25 ∧ Blk z bk ck 25 ∧ g < z.heap.size ∧ z.rangeAt g q kc.toList
theorem KpP.below {bn bk g q : Nat} {cn ck kc : Array Value} {z z' : World} (h : KpP bn cn bk ck g q kc z) (hb : Below z.heap.size z z') : KpP bn cn bk ck g q kc z' := ⟨Blk.below hb h.1, Blk.below hb h.2.1, Nat.lt_of_lt_of_le h.2.2.1 hb.size, range_below hb h.2.2.1 h.2.2.2⟩
theorem KpP.row {bn bk g q br : Nat} {cn ck kc cs : Array Value} {z : World} (h : KpP bn cn bk ck g q kc z) (h1 : bn ≠ br) (h2 : bk ≠ br) (h3 : g ≠ br) : KpP bn cn bk ck g q kc (z.setRow br cs) := by
  have hf : FrO (fun j => j = br) z (z.setRow br cs) := FrO.setRow rfl
  exact ⟨hf.blk h.1 h1, hf.blk h.2.1 h2, Nat.lt_of_lt_of_le h.2.2.1 hf.size, fun j u hu => (World.cell?_of_block (hf.block g h.2.2.1 h3)).trans (h.2.2.2 j u hu)⟩
theorem step_store_row {P : Program} {w : World} {ops : Array Oper} {o : Oper} {a : Act} {K : Act → World → Prop} {Q : Exit → Act → World → Prop} {E : Prop} (hgd : o.guard = none) (ty : TypeId) (x y : Operand) (ho : o.op = .store ty x y)
    (g : Nat) (cells : Array Value) (hx : a.eval x = .pointer (some ⟨g, 0, none⟩)) (hy : a.eval y = .agg cells) (t : TypeId) (old : Array Value) (hg : w.heap[g]? = some (.cells old t (0, 0))) (hi : (P.info? ty).map (·.size) = some cells.size) (hold : old.size = cells.size) (h1 : cells.all (·.oneCell') = true)
    (h : K (a.put o.dst undef) (w.setRow g cells)) : if Region.wanted o (yielded ops a.tmps) = true then Oper.wp P o a w K Q else E := by
  have hw : Region.wanted o (yielded ops a.tmps) = true := by simp [Region.wanted, hgd]
  rw [if_pos hw]
  exact wp_store_row ty x y ho g cells hx hy t old hg hi hold h1 h
set_option maxRecDepth 100000 in
set_option maxHeartbeats 8000000 in
theorem rput_any (k : Tr) : ∀ (l : List ByteArray) (O : Nat → Prop) (t x : Tr), findT t l = some x → t.sz ≤ 500000 → l.length ≤ 2000001 → ∀ (v pv vk : Value) (w : World), (∀ j, O j → j < w.heap.size) → TreeX O w v t → SlC w w.heap.size pv l → TreeX O w vk k →
    Calls Tryz.prog 75 #[v, pv, vk] w fun e w' => ∃ r, e = .returned r ∧ TreeX O w' r (putP t l k) ∧ Below w.heap.size w w' := by
  intro l
  induction l with
  | nil =>
    intro O t x hfd hsz _ v pv vk w hO hv hp hvk
    obtain ⟨cn, rfl, hzn, -⟩ := hv.here.cells
    obtain ⟨ck, rfl, hzk, -⟩ := hvk.here.cells
    obtain ⟨A6, c6, rfl, -, -⟩ := hp
    have HV := hide hv
    have HVK := hide hvk
    have HO := hide hO
    have HZ := hide (And.intro hzn hzk)
    clear hv hvk hzn hzk hfd hO
    have HL : Live w [] := trivial
    go_enter Tryz.func75, Tryz.ntmps75
    go_upto_region 1 with fail
    have hbel3 : Below w.heap.size w (((w.alloc (.cells cn 25)).alloc (.cells ck 25)).alloc (.cells zeroN 25)) := by (exact bl)
    have HBn := hide (show Blk (((w.alloc (.cells cn 25)).alloc (.cells ck 25)).alloc (.cells zeroN 25)) w.heap.size cn 25 from ((Blk.newAt rfl).alloc _).alloc _)
    have HBk := hide (show Blk (((w.alloc (.cells cn 25)).alloc (.cells ck 25)).alloc (.cells zeroN 25)) (w.heap.size + 1) ck 25 from (Blk.newAt (by simp only [World.size_alloc])).alloc _)
    have HBr := hide (show Blk (((w.alloc (.cells cn 25)).alloc (.cells ck 25)).alloc (.cells zeroN 25)) (w.heap.size + 1 + 1) zeroN 25 from Blk.newAt (by simp only [World.size_alloc]))
    have hz3 : (((w.alloc (.cells cn 25)).alloc (.cells ck 25)).alloc (.cells zeroN 25)).heap.size = w.heap.size + 3 := by simp only [World.size_alloc]
    unfold zeroN at hbel3 HBn HBk hz3
    generalize hW : ((w.alloc (.cells cn 25)).alloc (.cells ck 25)).alloc (.cells #[.string ⟨#[]⟩, .int .i64 0, .string ⟨#[]⟩, .string ⟨#[]⟩, .int .i64 0, .int .i64 0, .int .i64 0, .int .i64 0, .int .i64 0, .int .i64 0, .slice none 0 0, .slice none 0 0] 25) = W3 at *
    (try rw [show ((w.alloc (.cells cn 25)).alloc (.cells ck 25)).alloc (.cells zeroN 25) = W3 from hW] at HBr)
    clear hW
    obtain ⟨bn, hbn⟩ : ∃ b, b = w.heap.size := ⟨_, rfl⟩
    obtain ⟨bk, hbk⟩ : ∃ b, b = w.heap.size + 1 := ⟨_, rfl⟩
    obtain ⟨br, hbr⟩ : ∃ b, b = w.heap.size + 1 + 1 := ⟨_, rfl⟩
    rw [← hbr, ← hbk, ← hbn]
    rw [← hbn] at HBn
    rw [← hbk] at HBk
    rw [← hbr] at HBr
    have hrw : w.heap.size ≤ br ∧ br < W3.heap.size ∧ bn ≠ br ∧ bk ≠ br := by omega
    have hO3 : ∀ j, (O j ∨ j = br) → j < W3.heap.size := fun j hj => by
      rcases hj with hj | hj
      · have := HO.out j hj; omega
      · omega
    have hw3 : ∀ j, (O j ∨ j = br) → O j ∨ w.heap.size ≤ j := fun j hj => by
      rcases hj with hj | hj
      · exact Or.inl hj
      · exact Or.inr (by omega)
    have HO3 := hide hO3
    have HW3 := hide hw3
    have HNX := hide (HV.out.wide hbel3 hw3)
    have HKX := hide (HVK.out.wide hbel3 hw3)
    clear hbr hbk hbn hz3 hO3 hw3
    have WT := hide (with_gen (fun j => O j ∨ j = br) t k hsz (.agg cn) (.agg ck) W3 HO3.out HNX.out HKX.out)
    clear HV HVK HO HO3 HW3 HNX HKX
    go_upto_region 2 with fail
    go_wp2_with (first | ((with_reducible show wpList _ _ _ (Oper.mk (some 11) _ _ _ _ _ :: _) _ _); refine wpList_load_row rfl 25 (.tmp 3) rfl bn rfl 25 cn (0, 0) _ HBn.out Tryz.underlying25 rfl (infN HZ.out.1) ?_) | ((with_reducible show wpList _ _ _ (Oper.mk (some 12) _ _ _ _ _ :: _) _ _); refine wpList_load_row rfl 25 (.tmp 5) rfl bk rfl 25 ck (0, 0) _ HBk.out Tryz.underlying25 rfl (infN HZ.out.2) ?_) | (go_at_call 126; refine WT.out.mono ?_; rintro e w5 ⟨r5, rfl, hr5, hb5⟩; have HR5 := hide hr5; have HB5 := hide hb5; clear hr5 hb5; obtain ⟨c5, rfl, hz5, h15⟩ := HR5.out.here.cells; have HZ5 := hide (And.intro hz5 h15); clear hz5 h15) | ((with_reducible show wpList _ _ _ (Oper.mk none _ _ _ _ _ :: _) _ _); refine wpList_store_row rfl 25 (.tmp 6) (.tmp 13) rfl br c5 rfl rfl 25 zeroN (Blk.below HB5.out HBr.out) (infN HZ5.out.1) (by rw [HZ5.out.1]; rfl) HZ5.out.2 ?_))
    refine bodyPost_ret (results_cell_row Tryz.results75 _ _ br 25 c5 (0, 0) _ rfl (setRow_heap _ _ _ _ _ _ (Blk.below HB5.out HBr.out)) Tryz.underlying25 rfl (infN HZ5.out.1)) rfl ?_
    have hb6 := hbel3.trans (HB5.out.mono hbel3.size)
    have hfr : FrO (fun j => O j ∨ j = br) w5 (w5.setRow br c5) := FrO.setRow (Or.inr rfl)
    exact ⟨_, rfl, fun w2 hf2 => HR5.out w2 (hfr.trans hf2 fun j hj => Or.inl (Or.inl hj)), hb6.trans ((FrO.setRow (O := fun j => j = br) rfl).below hb6.size fun j hj => by subst hj; exact hrw.1)⟩
  | cons n l ih =>
    intro O t x hfd hsz hln v pv vk w hO hv hp hvk
    have IH := hide ih
    obtain ⟨A, c, A2, c2, rfl, -, -⟩ := hv.here.openL
    obtain ⟨ck, rfl, hzk, -⟩ := hvk.here.cells
    obtain ⟨A6, c6, rfl, hlc, hps⟩ := hp
    obtain ⟨pg, po, rfl, hpg, hpc⟩ := hps (by simp)
    have cp0 := hpc 0 n rfl
    have HPC := hide (fun j s (h : l[j]? = some s) => hpc (j + 1) s (by simpa using h))
    obtain ⟨kk, hkk, hfk⟩ : ∃ kk, kidF t.ks n = some kk ∧ findT kk l = some x := by
      cases hk : kidF t.ks n with
      | none => rw [findT_miss hk] at hfd; cases hfd
      | some kk => rw [findT_hit hk] at hfd; exact ⟨kk, rfl, hfd⟩
    obtain ⟨i, hi, hil, -⟩ := kid_both hkk
    have hkz : kk.sz ≤ 500000 := by have h1 := kidF_sz2 hkk; unfold Tr.sz at hsz; omega
    have hpe : putP t (n :: l) k = withT t (putP kk l k) := by
      show (match kidF t.ks n with | some x => withT t (putP x l k) | none => t) = _
      rw [hkk]
    rw [hpe]
    have hilt := kidI_lt hi
    have hlk2 : t.ks.len ≤ 500000 := by have h1 := t.ks.len_sz; unfold Tr.sz at hsz; omega
    obtain ⟨cn, hcn⟩ : ∃ cn, cn = t.h.cells (.slice A t.ks.len c) (.slice A2 t.ss.length c2) := ⟨_, rfl⟩
    obtain ⟨g, o, kv, sv, rfl, hg, hkr, hk1, hkX⟩ := LeftX.at hv.left hil
    rw [Nat.zero_add] at hkr
    obtain ⟨kc, hkc⟩ : ∃ kc, kc = kk.h.cells kv sv := ⟨_, rfl⟩
    have hkz12 : kc.size = 12 := by rw [hkc]; rfl
    rw [← hkc] at hkr hk1 hkX
    have HV := hide hv
    have HVK := hide hvk
    have HO := hide hO
    have HZK := hide hzk
    have HKC := hide (And.intro hkz12 hk1)
    have HKKX := hide hkX
    have HKR := hide hkr
    have HFK := hide hfk
    have HKI := hide hi
    rw [← hcn]
    rw [← hcn] at HV
    have hzn : cn.size = 12 := by rw [hcn]; rfl
    have cn10 : cn[10]? = some (.slice (some ⟨g, o, none⟩) t.ks.len c) := by rw [hcn]; rfl
    clear hv hvk hO hzk hkz12 hk1 hkX hkr hfk hkk hil hfd hpe hps hpc ih hkc hcn
    have HL : Live w [] := trivial
    go_enter Tryz.func75, Tryz.ntmps75
    go_upto_region 1 with fail
    have hbel3 : Below w.heap.size w (((w.alloc (.cells cn 25)).alloc (.cells ck 25)).alloc (.cells zeroN 25)) := by (exact bl)
    have HBn := hide (show Blk (((w.alloc (.cells cn 25)).alloc (.cells ck 25)).alloc (.cells zeroN 25)) w.heap.size cn 25 from ((Blk.newAt rfl).alloc _).alloc _)
    have HBk := hide (show Blk (((w.alloc (.cells cn 25)).alloc (.cells ck 25)).alloc (.cells zeroN 25)) (w.heap.size + 1) ck 25 from (Blk.newAt (by simp only [World.size_alloc])).alloc _)
    have HBr := hide (show Blk (((w.alloc (.cells cn 25)).alloc (.cells ck 25)).alloc (.cells zeroN 25)) (w.heap.size + 1 + 1) zeroN 25 from Blk.newAt (by simp only [World.size_alloc]))
    have hz3 : (((w.alloc (.cells cn 25)).alloc (.cells ck 25)).alloc (.cells zeroN 25)).heap.size = w.heap.size + 3 := by simp only [World.size_alloc]
    unfold zeroN at hbel3 HBn HBk hz3
    generalize hW : ((w.alloc (.cells cn 25)).alloc (.cells ck 25)).alloc (.cells #[.string ⟨#[]⟩, .int .i64 0, .string ⟨#[]⟩, .string ⟨#[]⟩, .int .i64 0, .int .i64 0, .int .i64 0, .int .i64 0, .int .i64 0, .int .i64 0, .slice none 0 0, .slice none 0 0] 25) = W3 at *
    (try rw [show ((w.alloc (.cells cn 25)).alloc (.cells ck 25)).alloc (.cells zeroN 25) = W3 from hW] at HBr)
    clear hW
    obtain ⟨bn, hbn⟩ : ∃ b, b = w.heap.size := ⟨_, rfl⟩
    obtain ⟨bk, hbk⟩ : ∃ b, b = w.heap.size + 1 := ⟨_, rfl⟩
    obtain ⟨br, hbr⟩ : ∃ b, b = w.heap.size + 1 + 1 := ⟨_, rfl⟩
    rw [← hbr, ← hbk, ← hbn]
    rw [← hbn] at HBn
    rw [← hbk] at HBk
    rw [← hbr] at HBr
    have hrw : w.heap.size ≤ br ∧ br < W3.heap.size ∧ bn ≠ br ∧ bk ≠ br := by omega
    have hO3 : ∀ j, (O j ∨ j = br) → j < W3.heap.size := fun j hj => by
      rcases hj with hj | hj
      · have := HO.out j hj; omega
      · omega
    have hw3 : ∀ j, (O j ∨ j = br) → O j ∨ w.heap.size ≤ j := fun j hj => by
      rcases hj with hj | hj
      · exact Or.inl hj
      · exact Or.inr (by omega)
    have HO3 := hide hO3
    have HW3 := hide hw3
    have HNX := hide (HV.out.wide hbel3 hw3)
    have HKX := hide (HVK.out.wide hbel3 hw3)
    clear hbr hbk hbn hz3 hO3 hw3
    have RK := hide (show ∀ W, Below W3.heap.size W3 W → Calls Tryz.prog 66 #[.agg cn, .string n] W fun e w' => e = .returned (.int .i64 (i : Int)) ∧ Below W.heap.size W w' from fun W h => by
      have h1 := rkid_any t n (by omega) (.agg cn) W ((HV.out.here.later hbel3).later h)
      rw [HKI.out] at h1
      exact h1)
    have cp3 : W3.cell? ⟨pg, po, none⟩ = some (.string n) := (hbel3.cell (p := ⟨pg, po, none⟩) hpg).trans cp0
    have hkeep3 : Blk W3 bn cn 25 ∧ W3.cell? ⟨pg, po, none⟩ = some (.string n) := ⟨HBn.out, cp3⟩
    have hkeepd : Blk W3.drew bn cn 25 ∧ W3.drew.cell? ⟨pg, po, none⟩ = some (.string n) := ⟨HBn.out, cp3⟩
    clear cp0 cp3
    go_upto_region 3 with fail
    refine wp_region_noPanic ?_
    refine wp_region_held_drew (S := (fun z => Blk z bn cn 25 ∧ z.cell? ⟨pg, po, none⟩ = some (.string n))) (by kernel_rfl) kp (fun hHeld => ?_)
    refine tkY 0 ⟨some 14, .load 25 (.tmp 3), 25, "ref.go:242", #[], none⟩ ?_ ?_ ?_
    rotate_left
    · intro w hSw; (try dsimp only at hSw); refine (exec_load_row 25 (.tmp 3) (by rfl) bn (by rfl) 25 cn (0, 0) _ hSw.1 Tryz.underlying25 (by rfl) (infN hzn)).trans ?_; with_reducible rfl
    try simp only [PT]
    refine tkY 1 ⟨some 15, .move (.tmp 1), 38, "ref.go:242", #[], none⟩ ?_ ?_ ?_
    rotate_left
    · intro w hSw; (try dsimp only at hSw); go_simp; (try with_reducible rfl)
    try simp only [PT]
    refine tkY 2 ⟨some 16, .indexAddr 38 (.tmp 15) (.const (.int .i64 0)), 0, "ref.go:242", #[⟨1, .data⟩], none⟩ ?_ ?_ ?_
    rotate_left
    · intro w hSw; (try dsimp only at hSw); go_simp; (try with_reducible rfl)
    try simp only [PT]
    refine tkY 3 ⟨some 17, .load 9 (.tmp 16), 9, "ref.go:242", #[⟨2, .data⟩], none⟩ ?_ ?_ ?_
    rotate_left
    · intro w hSw; (try dsimp only at hSw); have c1 := hSw.2; go_simp; (try with_reducible rfl)
    try simp only [PT]
    refine wpAnyH_ready (rs := [4]) (by kernel_rfl) (by simp) ?_
    refine AllReadyH.cons (o := ⟨some 18, .call ⟨.value (.func 66), #[.tmp 14, .tmp 17], #[25, 9]⟩, 3, "ref.go:242", #[⟨0, .data⟩, ⟨3, .data⟩], none⟩) rfl (fun K hK => ?_) AllReadyH.nil
    go_simp
    (go_at_call 66; (with_reducible refine (RK.out _ (Below.refl _ _).drew).mono ?_); rintro e w8 ⟨rfl, hb8⟩; have hkeep8 : Blk w8 bn cn 25 ∧ w8.cell? ⟨pg, po, none⟩ = some (.string n) := ⟨Blk.below hb8 hkeepd.1, (hb8.cell (p := ⟨pg, po, none⟩) (cell_lt hkeepd.2)).trans hkeepd.2⟩)
    go_wp2_with fail
    refine hK.out _ _ kp (fun hHeld => ?_)
    clear hK K
    try simp only [PT]
    refine tkY 5 ⟨some 7, .assign (.tmp 18), 3, "ref.go:242", #[⟨4, .data⟩, ⟨4, .chain⟩, ⟨0, .phase⟩, ⟨1, .phase⟩, ⟨2, .phase⟩, ⟨3, .phase⟩, ⟨4, .phase⟩], none⟩ ?_ ?_ ?_
    rotate_left
    · intro w hSw; (try dsimp only at hSw); go_simp; (try with_reducible rfl)
    try simp only [PT]
    refine wpAnyH_done (by kernel_rfl) ?_ _
    refine NoPanic.normal ?_
    have hb38 : Below W3.heap.size W3 w8 := (Below.refl W3.heap.size W3).drew.trans hb8
    have HBn8 := hide (Blk.below hb38 HBn.out)
    have HBk8 := hide (Blk.below hb38 HBk.out)
    have HBr8 := hide (Blk.below hb38 HBr.out)
    have hbel8 := hbel3.trans (hb38.mono hbel3.size)
    clear hkeep3 hkeepd hkeep8 hHeld hb8 RK HBn HBk HBr
    go_upto_region 4 with fail
    have hgbr : g ≠ br := by omega
    have hlc2 : l.length + 1 ≤ c6 := by simpa using hlc
    have h3c : Below w.heap.size w w8 := hbel8
    have HKP := hide (show KpP bn cn bk ck g (o + i * 12) kc w8 from ⟨HBn8.out, HBk8.out, Nat.lt_of_lt_of_le hg hbel8.size, range_below hbel8 hg HKR.out⟩)
    obtain ⟨A7, hA7⟩ : ∃ A7, (if c6 = 1 then some (⟨pg, po, none⟩ : Addr) else some ⟨pg, po + 1, none⟩) = A7 := ⟨_, rfl⟩
    have HA7 := hide hA7
    have HPS := hide (show SlC w8 w8.heap.size (.slice A7 l.length (c6 - 1)) l from ⟨_, _, rfl, by omega, fun h0 => ⟨pg, po + 1, by rw [← hA7, if_neg (by omega)], Nat.lt_of_lt_of_le hpg hbel8.size, fun j s hj => by
      rw [Nat.add_assoc, Nat.add_comm 1 j]
      exact (hbel8.cell (p := ⟨pg, po + (j + 1), none⟩) hpg).trans (HPC.out j s hj)⟩⟩)
    have PU := hide (show ∀ W, Below w8.heap.size w8 W → Calls Tryz.prog 75 #[.agg kc, .slice A7 l.length (c6 - 1), .agg ck] W fun e w' => ∃ r, e = .returned r ∧ TreeX (fun j => O j ∨ j = br) w' r (putP kk l k) ∧ Below W.heap.size W w' from fun W h => by
      have hbW : Below w.heap.size w W := hbel8.trans (h.mono hbel8.size)
      have hb3W : Below W3.heap.size W3 W := hb38.trans (h.mono hb38.size)
      exact IH.out _ kk x HFK.out hkz (by simp at hln; omega) (.agg kc) _ (.agg ck) W (fun j hj => Nat.lt_of_lt_of_le (HO3.out j hj) hb3W.size) (HKKX.out.wide hbW HW3.out) (HPS.out.later2 h) (HVK.out.wide hbW HW3.out))
    have WT := hide (show ∀ W r, Below W3.heap.size W3 W → TreeX (fun j => O j ∨ j = br) W r (putP kk l k) → Calls Tryz.prog 126 #[.agg cn, r] W fun e w' => ∃ r', e = .returned r' ∧ TreeX (fun j => O j ∨ j = br) w' r' (withT t (putP kk l k)) ∧ Below W.heap.size W w' from fun W r h hr => with_gen (fun j => O j ∨ j = br) t (putP kk l k) hsz (.agg cn) r W (fun j hj => Nat.lt_of_lt_of_le (HO3.out j hj) h.size) (HNX.out.later h HO3.out) hr)
    clear hA7
    have hkeep8 : KpP bn cn bk ck g (o + i * 12) kc w8 ∧ True := ⟨HKP.out, trivial⟩
    have hkeepd : KpP bn cn bk ck g (o + i * 12) kc w8.drew ∧ True := ⟨HKP.out.below (Below.refl _ _).drew, trivial⟩
    have c10 : w8.cell? ⟨bn, 10, none⟩ = some (.slice (some ⟨g, o, none⟩) t.ks.len c) := (HBn8.out.cells 10).trans cn10
    refine wp_region_noPanic ?_
    refine wp_region_held_drew (S := (fun z => KpP bn cn bk ck g (o + i * 12) kc z ∧ True)) (by kernel_rfl) kp (fun hHeld => ?_)
    refine tkY 0 ⟨some 19, .load 25 (.tmp 3), 25, "ref.go:243", #[], none⟩ ?_ ?_ ?_
    rotate_left
    · intro w hSw; (try dsimp only at hSw); refine (exec_load_row 25 (.tmp 3) (by rfl) bn (by rfl) 25 cn (0, 0) _ hSw.1.1 Tryz.underlying25 (by rfl) (infN hzn)).trans ?_; with_reducible rfl
    try simp only [PT]
    refine tkY 1 ⟨some 20, .fieldAddr 25 (.tmp 3) 10, 0, "ref.go:243", #[], none⟩ ?_ ?_ ?_
    rotate_left
    · intro w hSw; (try dsimp only at hSw); go_simp; (try with_reducible rfl)
    try simp only [PT]
    refine tkY 2 ⟨some 21, .load 22 (.tmp 20), 22, "ref.go:243", #[⟨1, .data⟩], none⟩ ?_ ?_ ?_
    rotate_left
    · intro w hSw; (try dsimp only at hSw); have c1 := (hSw.1.1.cells 10).trans cn10; go_simp; (try with_reducible rfl)
    try simp only [PT]
    refine tkY 3 ⟨some 22, .move (.tmp 7), 3, "ref.go:243", #[], none⟩ ?_ ?_ ?_
    rotate_left
    · intro w hSw; (try dsimp only at hSw); go_simp; (try with_reducible rfl)
    try simp only [PT]
    refine tkY 4 ⟨some 23, .indexAddr 22 (.tmp 21) (.tmp 22), 0, "ref.go:243", #[⟨2, .data⟩, ⟨3, .data⟩], none⟩ ?_ ?_ ?_
    rotate_left
    · intro w hSw; (try dsimp only at hSw); go_simp; (try with_reducible rfl)
    try simp only [PT]
    refine tkY 5 ⟨some 24, .load 25 (.tmp 23), 25, "ref.go:243", #[⟨4, .data⟩], none⟩ ?_ ?_ ?_
    rotate_left
    · intro w hSw; (try dsimp only at hSw); refine (exec_load_mid 25 (.tmp 23) (by rfl) g (o + i * 12) (by rfl) kc _ hSw.1.2.2.2 Tryz.underlying25 (by rfl) (infNl HKC.out.1)).trans ?_; with_reducible rfl
    try simp only [PT]
    refine tkY 6 ⟨some 25, .move (.tmp 1), 38, "ref.go:243", #[], none⟩ ?_ ?_ ?_
    rotate_left
    · intro w hSw; (try dsimp only at hSw); go_simp; (try with_reducible rfl)
    try simp only [PT]
    refine tkY 7 ⟨some 26, .slice 38 (.tmp 25) (some (.const (.int .i64 1))) none none, 38, "ref.go:243", #[⟨6, .data⟩], none⟩ ?_ ?_ ?_
    rotate_left
    · intro w hSw; (try dsimp only at hSw); go_simp; rw [if_pos (show (1 : Int) ≤ (l.length : Int) + 1 by omega), HA7.out]
    try simp only [PT]
    refine tkY 8 ⟨some 27, .load 25 (.tmp 5), 25, "ref.go:243", #[], none⟩ ?_ ?_ ?_
    rotate_left
    · intro w hSw; (try dsimp only at hSw); refine (exec_load_row 25 (.tmp 5) (by rfl) bk (by rfl) 25 ck (0, 0) _ hSw.1.2.1 Tryz.underlying25 (by rfl) (infN HZK.out)).trans ?_; with_reducible rfl
    try simp only [PT]
    refine wpAnyH_ready (rs := [9]) (by kernel_rfl) (by simp) ?_
    refine AllReadyH.cons (o := ⟨some 28, .call ⟨.value (.func 75), #[.tmp 24, .tmp 26, .tmp 27], #[25, 38, 25]⟩, 25, "ref.go:243", #[⟨5, .data⟩, ⟨7, .data⟩, ⟨8, .data⟩], none⟩) rfl (fun K hK => ?_) AllReadyH.nil
    go_simp
    (go_at_call 75; (with_reducible refine (PU.out _ (Below.refl _ _).drew).mono ?_); rintro e w9 ⟨r9, rfl, hr9, hb9⟩; have HR9 := hide hr9; have hkeep9 : KpP bn cn bk ck g (o + i * 12) kc w9 ∧ True := ⟨hkeepd.1.below hb9, trivial⟩; have HB9 := hide ((Below.refl w8.heap.size w8).drew.trans hb9))
    go_wp2_with fail
    refine hK.out _ _ kp (fun hHeld => ?_)
    clear hK K
    try simp only [PT]
    refine wpAnyH_ready (rs := [10]) (by kernel_rfl) (by simp) ?_
    refine AllReadyH.cons (o := ⟨some 29, .call ⟨.value (.func 126), #[.tmp 19, .tmp 28], #[25, 25]⟩, 25, "ref.go:243", #[⟨0, .data⟩, ⟨9, .data⟩, ⟨9, .chain⟩], none⟩) rfl (fun K hK => ?_) AllReadyH.nil
    go_simp
    (go_at_call 126; (with_reducible refine (WT.out _ r9 (hb38.trans (HB9.out.mono hb38.size)) HR9.out).mono ?_); rintro e w10 ⟨r10, rfl, hr10, hb10⟩; have HR10 := hide hr10; obtain ⟨c10', rfl, hz10, h110⟩ := HR10.out.here.cells; have HZ10 := hide (And.intro hz10 h110); have hkeep10 : KpP bn cn bk ck g (o + i * 12) kc w10 ∧ True := ⟨hkeep9.1.below hb10, trivial⟩; have HBr10 := hide (Blk.below hb10 (Blk.below HB9.out HBr8.out)); have hkeep11 : KpP bn cn bk ck g (o + i * 12) kc (w10.setRow br c10') ∧ True := ⟨hkeep10.1.row hrw.2.2.1 hrw.2.2.2 hgbr, trivial⟩; have HB10 := hide (HB9.out.trans (hb10.mono HB9.out.size)))
    go_wp2_with fail
    refine hK.out _ _ kp (fun hHeld => ?_)
    clear hK K
    try simp only [PT]
    refine wpAnyH_ready (rs := [11]) (by kernel_rfl) (by simp) ?_
    refine AllReadyH.cons (o := ⟨none, .store 25 (.tmp 6) (.tmp 29), 0, "ref.go:243", #[⟨10, .data⟩, ⟨10, .chain⟩, ⟨0, .phase⟩, ⟨1, .phase⟩, ⟨2, .phase⟩, ⟨3, .phase⟩, ⟨4, .phase⟩, ⟨5, .phase⟩, ⟨6, .phase⟩, ⟨7, .phase⟩, ⟨8, .phase⟩, ⟨9, .phase⟩, ⟨10, .phase⟩], none⟩) rfl (fun K hK => ?_) AllReadyH.nil
    refine step_store_row rfl 25 (.tmp 6) (.tmp 29) rfl br c10' rfl rfl 25 zeroN HBr10.out (infN HZ10.out.1) (by rw [HZ10.out.1]; rfl) HZ10.out.2 ?_
    refine hK.out _ _ kp (fun hHeld => ?_)
    clear hK K
    try simp only [PT]
    refine wpAnyH_done (by kernel_rfl) ?_ _
    refine NoPanic.normal ?_
    go_wp2_with fail
    refine bodyPost_ret (results_cell_row Tryz.results75 _ _ br 25 c10' (0, 0) _ rfl (setRow_heap _ _ _ _ _ _ HBr10.out) Tryz.underlying25 rfl (infN HZ10.out.1)) rfl ?_
    have hb6 := hbel8.trans (HB10.out.mono hbel8.size)
    have hfr : FrO (fun j => O j ∨ j = br) w10 (w10.setRow br c10') := FrO.setRow (Or.inr rfl)
    exact ⟨_, rfl, fun w2 hf2 => HR10.out w2 (hfr.trans hf2 fun j hj => Or.inl (Or.inl hj)), hb6.trans ((FrO.setRow (O := fun j => j = br) rfl).below hb6.size fun j hj => by subst hj; exact hrw.1)⟩
theorem CapF.below {w w' : World} (hb : Below w.heap.size w w') : ∀ {f : Fo} {g o : Nat}, CapF w f g o → CapF w' f g o
  | .nil, _, _, _ => trivial
  | .node _ _ ks nx, g, o, ⟨⟨A, c, h1, h2, h3⟩, h4⟩ => ⟨⟨A, c, (hb.cell (p := ⟨g, o + 10, none⟩) (cell_lt h1)).trans h1, h2, fun h0 => by
      obtain ⟨g', o', e, h5⟩ := h3 h0
      exact ⟨g', o', e, CapF.below hb h5⟩⟩, CapF.below hb h4⟩
theorem CapT.below {w w' : World} (hb : Below w.heap.size w w') {v : Value} {t : Tr} (h : CapT w v t) : CapT w' v t := by
  obtain ⟨A, c, sv, e, h1, h2⟩ := h
  exact ⟨A, c, sv, e, h1, fun h0 => by
    obtain ⟨g, o, e2, h3⟩ := h2 h0
    exact ⟨g, o, e2, h3.below hb⟩⟩
theorem CapF.at {w : World} : ∀ {f : Fo} {g o i : Nat} {k : Tr}, CapF w f g o → f.list[i]? = some k → ∃ A c, w.cell? ⟨g, o + i * 12 + 10, none⟩ = some (.slice A k.ks.len c) ∧ k.ks.len ≤ c ∧ (0 < k.ks.len → ∃ g' o', A = some ⟨g', o', none⟩ ∧ CapF w k.ks g' o')
  | .nil, _, _, _, _, _, h => by simp [Fo.list] at h
  | .node h ss ks nx, g, o, 0, k, ⟨h1, _⟩, hi => by
    have e : (⟨h, ss, ks⟩ : Tr) = k := by simpa [Fo.list] using hi
    subst e
    simpa using h1
  | .node h ss ks nx, g, o, i + 1, k, ⟨_, h2⟩, hi => by
    have := CapF.at h2 (i := i) (k := k) (by simpa [Fo.list] using hi)
    rwa [show o + 12 + i * 12 = o + (i + 1) * 12 by omega] at this
theorem LeftX.row {O : Nat → Prop} {w : World} {A : Option Addr} : ∀ {f : Fo} {j : Nat}, LeftX O w A f j → ∃ xs, RowX O w f.list xs ∧ xs.length = f.len * 12 ∧ (∀ u ∈ xs, u.oneCell' = true) ∧ (0 < f.len → ∃ g o, A = some ⟨g, o, none⟩ ∧ g < w.heap.size ∧ ∀ q u, xs[q]? = some u → w.cell? ⟨g, o + j * 12 + q, none⟩ = some u)
  | .nil, _, _ => ⟨[], rfl, rfl, (fun u hu => by cases hu), fun h => absurd h (by simp [Fo.len])⟩
  | .node h ss ks nx, j, hl => by
    obtain ⟨g, o, kv, sv, rfl, hg, _, hr, h1, hx, hn⟩ := TreeX.parts hl
    obtain ⟨xs, h2, h3, h4, h5⟩ := LeftX.row hn
    refine ⟨(h.cells kv sv).toList ++ xs, ⟨_, xs, rfl, hx, h2⟩, by rw [List.length_append, h3, Fo.len_node]; show 12 + _ = _; omega, fun u hu => ?_, fun _ => ⟨g, o, rfl, hg, fun q u hq => ?_⟩⟩
    · rcases List.mem_append.1 hu with hu | hu
      · exact List.all_eq_true.1 ((Array.all_toList ..).trans h1) u hu
      · exact h4 u hu
    · have hz : (h.cells kv sv).toList.length = 12 := rfl
      rcases Nat.lt_or_ge q 12 with hq2 | hq2
      · rw [List.getElem?_append_left (by omega)] at hq
        exact hr q u hq
      · rw [List.getElem?_append_right (by omega), hz] at hq
        have hpos : 0 < nx.len := by
          rcases Nat.eq_zero_or_pos nx.len with h0 | h0
          · rw [h0] at h3
            have : xs = [] := List.length_eq_zero_iff.1 (by omega)
            rw [this] at hq
            simp at hq
          · exact h0
        obtain ⟨g', o', e, _, hc⟩ := h5 hpos
        injection e with e
        injection e with e1 e2 _
        subst e1; subst e2
        have := hc (q - 12) u hq
        rwa [show o + (j + 1) * 12 + (q - 12) = o + j * 12 + q by omega] at this
theorem RowX.len {O : Nat → Prop} {w : World} : ∀ {l : List Tr} {xs : List Value}, RowX O w l xs → xs.length = l.length * 12
  | [], _, h => by
    have h : _ = [] := h
    rw [h]; rfl
  | _ :: l, _, ⟨cs, xs', e, h1, h2⟩ => by
    rw [e, List.length_append, RowX.len h2, List.length_cons, Array.length_toList, h1.here.size12]
    omega
theorem RowX.drop {O : Nat → Prop} {w : World} : ∀ {l : List Tr} {xs : List Value} (i : Nat), RowX O w l xs → RowX O w (l.drop i) (xs.drop (i * 12))
  | [], xs, i, h => by
    have h : xs = [] := h
    subst h
    simp [RowX]
  | _ :: l, xs, 0, h => by simpa using h
  | t :: l, xs, i + 1, ⟨cs, xs', e, h1, h2⟩ => by
    have hz : cs.toList.length = 12 := by rw [Array.length_toList]; exact h1.here.size12
    subst e
    rw [show (i + 1) * 12 = 12 + i * 12 by omega, List.drop_append, hz, Nat.add_sub_cancel_left, List.drop_of_length_le (i := 12 + i * 12) (l := cs.toList) (by omega), List.nil_append, List.drop_succ_cons]
    exact RowX.drop i h2
theorem RowX.take {O : Nat → Prop} {w : World} : ∀ {l : List Tr} {xs : List Value} (i : Nat), RowX O w l xs → RowX O w (l.take i) (xs.take (i * 12))
  | [], xs, i, h => by
    have h : xs = [] := h
    subst h
    simp [RowX]
  | _ :: l, xs, 0, h => by simp [RowX]
  | t :: l, xs, i + 1, ⟨cs, xs', e, h1, h2⟩ => by
    have hz : cs.toList.length = 12 := by rw [Array.length_toList]; exact h1.here.size12
    subst e
    refine ⟨cs, xs'.take (i * 12), ?_, h1, RowX.take i h2⟩
    rw [show (i + 1) * 12 = 12 + i * 12 by omega, List.take_append, hz, Nat.add_sub_cancel_left, List.take_of_length_le (by omega)]
theorem RowX.app {O : Nat → Prop} {w : World} {m : List Tr} {ys : List Value} (hm : RowX O w m ys) : ∀ {l : List Tr} {xs : List Value}, RowX O w l xs → RowX O w (l ++ m) (xs ++ ys)
  | [], xs, h => by
    have h : xs = [] := h
    subst h
    simpa using hm
  | _ :: l, xs, ⟨cs, xs', e, h1, h2⟩ => ⟨cs, xs' ++ ys, by rw [e, List.append_assoc], h1, RowX.app hm h2⟩
theorem of_drop (f : Fo) (i : Nat) : Fo.of (f.list.take i ++ f.list.drop (i + 1)) = f.dropAt i := by
  rw [← List.eraseIdx_eq_take_drop_succ, ← Fo.dropAt_list, Fo.of_list]
end Go.Proofs.YtlhakdildbplkaaGreatDoor
