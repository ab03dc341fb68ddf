/- Contracts and plain words for the laws of this chapter, part 15: Rq, Rr, Fw1, Fw2, Fp2. No condition. -/
import Derived.Test.YtocgindpjjolpaaGreatDoorG14
import Derived.Test.YtocgindpjjolpaaGreatDoorG13
import Derived.Test.YtocgindpjjolpaaGreatDoorG12
namespace Go.Proofs.YtocgindpjjolpaaGreatDoor
set_option linter.unusedSimpArgs false
set_option linter.unusedVariables false
open Go.RowKit Go.Shelf
theorem step_append_rowsG {P : Program} (w : World) {ops : Array Oper} {o : Oper} {a : Act} {K : Act → World → Prop} {Q : Exit → Act → World → Prop} {E : Prop} (hw : Region.wanted o (yielded ops a.tmps) = true) (s x : Operand) (t : TypeId)
    (ho : o.op = .call { callee := .builtin .append, args := #[s, x], argTypes := #[t, t] })
    (base : Nat) (e : TypeId) {z : Value} {size bytes : Nat} (hinfo : (P.info? e).map (fun i => (i.zero, i.size, i.bytes)) = some (some z, size, bytes)) (ht : P.underlying t = some (.slice e))
    (hzs : z.cells.size = size) (hsz : 0 < size)
    (v : Value) (n : Nat) (xs : List Value) (hown : w.ownsRow base e size v n xs) (ad : Addr) (m c : Nat) (news : List Value)
    (hs : a.eval s = v) (hx : a.eval x = .slice (some ad) m c) (hl : news.length = m * size) (hnews : ∀ j u, news[j]? = some u → w.cell? (ad.add j) = some u) (h1 : ∀ u ∈ news, u.oneCell' = true)
    (h63 : n + m ≤ maxLen) (hbytes : ((n + m) + (n + m) / 4 + 192) * bytes ≤ 281474976710656) (hbase : base ≤ w.heap.size)
    (h : ∀ v' w', w'.ownsRow base e size v' (n + m) (xs ++ news) → (v'.ownBlock = v.ownBlock ∨ v'.ownBlock = some w.heap.size) → w.grownBy w' v.ownBlock → K (a.put o.dst v') w') :
    if Region.wanted o (yielded ops a.tmps) = true then Oper.wp P o a w K Q else E := by
  rw [if_pos hw]
  exact wp_append_rows w s x t ho base e hinfo ht hzs hsz v n xs hown ad m c news hs hx hl hnews h1 h63 hbytes hbase h
theorem intV_snoc (l : List Nat) (i : Nat) : intV l ++ [Value.int .i64 (i : Int)] = intV (l ++ [i]) := by unfold intV; rw [List.map_append]; rfl
set_option maxRecDepth 100000 in
set_option maxHeartbeats 8000000 in
theorem visit_any (n : Nat) (hn : n ≤ 1000) (l0 nb yb vb s : Nat) (R : Nat → Prop) (xs : List (List Nat)) (J Jx : List (List Nat) → World → Prop) (hR : ∀ j, R j → j < s ∧ j ≠ nb) (hs : s ≤ yb ∧ s ≤ vb)
    (hJ : ∀ pre A B, J pre A → Below A.heap.size A B → J pre B)
    (hY : ∀ pre x suf v A, xs = pre ++ x :: suf → J pre A → RdI A s v x → ∀ m, YieldAt Fence.wide m Tryz.prog l0 #[v] A fun e B => (e = .returned (.bool true) ∧ J (pre ++ [x]) B ∧ FrO R A B) ∨ (e = .returned (.bool false) ∧ Jx (pre ++ [x]) B ∧ FrO R A B)) :
    ∀ (k : Nat) (l : List Nat) (pre suf : List (List Nat)) (lv : Value) (w : World), l.length + k = n → xs = pre ++ (ordersL n k l ++ suf) → J pre w → Blk w nb #[.int .i64 (n : Int)] 3 → Blk w yb #[.func (.yield l0) #[] #[]] 105 →
      Blk w vb #[.func (.func 87) #[] #[.pointer (some ⟨nb, 0, none⟩), .pointer (some ⟨yb, 0, none⟩), .pointer (some ⟨vb, 0, none⟩)]] 105 → RdI w s lv l → s ≤ w.heap.size →
      Calls Tryz.prog 87 #[lv, .pointer (some ⟨nb, 0, none⟩), .pointer (some ⟨yb, 0, none⟩), .pointer (some ⟨vb, 0, none⟩)] w fun e w' => ∃ bl : Bool, e = .returned (.bool bl) ∧ VisP J Jx R (pre ++ ordersL n k l) w bl w'
  | 0, l, pre, suf, lv, w, hl, hxs, h0, hnb, hyb, hvb, hv, hsw => by
    rw [ordersL_at (by omega)] at hxs ⊢
    exact visit_leaf n hn l0 nb yb vb s R J Jx hR hs.1 l (by omega) pre lv w (hJ pre) (fun v A hA hr m => hY pre l suf v A hxs hA hr m) h0 hnb hyb hv hsw
  | k + 1, l, pre, suf, lv, w, hl, hxs, h0, hnb, hyb, hvb, hv, hsw => by
    have IH := hide (visit_any n hn l0 nb yb vb s R xs J Jx hR hs hJ hY k)
    have HNB := hide hnb
    have HYB := hide hyb
    have HVB := hide hvb
    have HXS := hide hxs
    have HJ := hide hJ
    have HRR := hide hR
    have H0 := hide h0
    have HV := hide hv
    have HOG := hide (ordersL_go hl)
    have hyv : yb < w.heap.size ∧ vb < w.heap.size ∧ nb < w.heap.size := ⟨hyb.lt, hvb.lt, hnb.lt⟩
    obtain ⟨A, c, rfl, -⟩ := hv
    have c0 := hnb.cells 0
    have hne : ((l.length : Int) == (n : Int)) = false := by rw [beq_eq_false_iff_ne]; omega
    clear hnb hyb hvb hxs hJ hY hR h0
    have HL : Live w [] := trivial
    go_enter Tryz.func87, Tryz.ntmps87
    go_wp2_with fail
    go_loopw [16] (fun idx wr => ∃ i : Nat, idx = .int .i64 (i : Int) ∧ i ≤ n ∧ J (pre ++ (List.range i).flatMap (ordG n k l)) wr ∧ FrO R w wr) (fun idx _ => n - (intOf idx).toNat)
    case atStart => exact ⟨0, rfl, Nat.zero_le _, by rw [List.range_zero, List.flatMap_nil, List.append_nil]; exact H0.out, FrO.of (Below.refl _ _)⟩
    case round =>
      obtain ⟨i, rfl, hin, hji, hfr⟩ := hrel
      have HJI := hide hji
      have HF := hide hfr
      have hszr := hfr.size
      clear hji hfr
      by_cases hlt : i < n
      · have HVr := hide (HV.out.frO HF.out (fun j hj h => by have := (HRR.out j h).1; omega))
        have HNBr := hide (HF.out.blk HNB.out (fun h => (HRR.out nb h).2 rfl))
        have HYBr := hide (HF.out.blk HYB.out (fun h => by have := (HRR.out yb h).1; omega))
        have HVBr := hide (HF.out.blk HVB.out (fun h => by have := (HRR.out vb h).1; omega))
        have hbd : Below wr.heap.size wr wr.drew := (Below.refl wr.heap.size wr).drew
        have OC := hide (containsI_any l i (.slice A l.length c) s (by omega) wr.drew (HVr.out.below hbd))
        have hk0 : FrO R wr wr ∧ True := ⟨FrO.of (Below.refl _ _), trivial⟩
        have hk0d : FrO R wr wr.drew ∧ True := ⟨FrO.of hbd, trivial⟩
        have hltz : (i : Int) < (n : Int) := by omega
        have HNX := hide (ord_next n k i l)
        cases hct : l.contains i with
        | true =>
          rw [hct] at OC
          have hJ2 : J (pre ++ (List.range (i + 1)).flatMap (ordG n k l)) wr.drew := by
            rw [HNX.out]
            have e : ordG n k l i = [] := by unfold ordG; rw [hct]; rfl
            rw [e, List.append_nil]
            exact HJ.out _ _ _ HJI.out hbd
          have HJ2 := hide hJ2
          clear hct hJ2
          go_upto_region 6 with fail
          refine wp_region_noPanic ?_
          refine wp_region_held_drew (S := (fun z => FrO R wr z ∧ True)) (by kernel_rfl) kp (fun hHeld => ?_)
          refine tkZ 0 ⟨some 19, .move (.tmp 0), 85, "fileorder.go:134", #[], none⟩ ?_
          refine tkZ 1 ⟨some 20, .move (.tmp 6), 3, "fileorder.go:134", #[], none⟩ ?_
          refine rqS [2] (rqC ⟨some 21, .call ⟨.value (.func 89), #[.tmp 19, .tmp 20], #[85, 3]⟩, 4, "fileorder.go:134", #[⟨0, .data⟩, ⟨1, .data⟩], none⟩ (fun K hK => ?_) rq0)
          go_simp
          (go_at_call 89; (with_reducible refine (OC.out ).mono ?_); rintro e w7 ⟨rfl, hw7⟩; subst hw7; have hk7 : FrO R wr wr.drew ∧ True := ⟨FrO.of hbd, trivial⟩)
          go_wp2_with fail
          refine hK.out _ _ kp (fun hHeld => ?_)
          clear hK K
          try simp only [PT]
          refine tkZ 3 ⟨some 22, .unOp .not 4 (.tmp 21), 4, "fileorder.go:134", #[⟨2, .data⟩], none⟩ ?_
          refine tkZ 4 ⟨some 23, .move (.tmp 22), 4, "fileorder.go:134", #[⟨3, .data⟩, ⟨2, .chain⟩], none⟩ ?_
          refine tkM 5 ⟨some 24, .load 105 (.tmp 3), 105, "fileorder.go:134", #[⟨4, .guard⟩], some (4, true)⟩ ?_
          refine tkM 6 ⟨some 25, .move (.tmp 0), 85, "fileorder.go:134", #[⟨4, .guard⟩], some (4, true)⟩ ?_
          refine tkM 7 ⟨some 26, .call ⟨.value (.func 88), #[.tmp 25], #[85]⟩, 85, "fileorder.go:134", #[⟨6, .data⟩, ⟨4, .chain⟩, ⟨4, .guard⟩], some (4, true)⟩ ?_
          refine tkM 8 ⟨some 27, .move (.tmp 6), 3, "fileorder.go:134", #[⟨4, .guard⟩], some (4, true)⟩ ?_
          refine tkM 9 ⟨some 28, .buildSlice 85 1 #[(0, .tmp 27)], 85, "fileorder.go:134", #[⟨8, .data⟩, ⟨4, .guard⟩], some (4, true)⟩ ?_
          refine tkM 10 ⟨some 29, .call ⟨.builtin .append, #[.tmp 26, .tmp 28], #[85, 85]⟩, 85, "fileorder.go:134", #[⟨7, .data⟩, ⟨9, .data⟩, ⟨7, .chain⟩, ⟨4, .guard⟩], some (4, true)⟩ ?_
          refine tkM 11 ⟨some 30, .call ⟨.value (.tmp 24), #[.tmp 29], #[85]⟩, 4, "fileorder.go:134", #[⟨5, .data⟩, ⟨10, .data⟩, ⟨10, .chain⟩, ⟨4, .guard⟩], some (4, true)⟩ ?_
          refine tkM 12 ⟨some 31, .unOp .not 4 (.tmp 30), 4, "fileorder.go:134", #[⟨11, .data⟩, ⟨4, .guard⟩], some (4, true)⟩ ?_
          refine tkZ 13 ⟨some 32, .pick (.tmp 23) (.tmp 31) (.const (.bool false)), 4, "fileorder.go:134", #[⟨4, .data⟩, ⟨12, .data⟩], none⟩ ?_
          refine wpAnyH_done (by kernel_rfl) ?_ _
          refine NoPanic.normal ?_
          go_wp2_with fail
          go_roundw
          case rel => exact ⟨i + 1, by go_num, by omega, HJ2.out, HF.out.trans (FrO.of hbd) (fun j h => Or.inl h)⟩
          case measure => simp [intOf]; omega
        | false =>
          rw [hct] at OC
          have HOI := hide (show ordG n k l i = ordersL n k (l ++ [i]) by unfold ordG; rw [hct]; rfl)
          have HSP := hide (ord_split hl hlt)
          have OCL := hide (show ∀ W, Below wr.heap.size wr W → Calls Tryz.prog 88 #[.slice A l.length c] W fun e w' => ∃ r, e = .returned r ∧ w'.ownsRow wr.heap.size 3 1 r l.length (intV l) ∧ Below W.heap.size W w' ∧ Below wr.heap.size wr w' from fun W hW => (cloneI_any l _ s (by omega) W (HVr.out.below hW)).mono fun e w' ⟨r, h1, h2, h3⟩ => ⟨r, h1, own_base h2 hW.size, h3, hW.trans (h3.mono hW.size)⟩)
          have OVI := hide (show ∀ W v', Below wr.heap.size wr W → RdI W s v' (l ++ [i]) → Calls Tryz.prog 87 #[v', .pointer (some ⟨nb, 0, none⟩), .pointer (some ⟨yb, 0, none⟩), .pointer (some ⟨vb, 0, none⟩)] W fun e w' => ∃ bl : Bool, e = .returned (.bool bl) ∧ VisP J Jx R ((pre ++ (List.range i).flatMap (ordG n k l)) ++ ordersL n k (l ++ [i])) W bl w' from fun W v' hW hr =>
            IH.out (l ++ [i]) (pre ++ (List.range i).flatMap (ordG n k l)) (((List.range n).drop (i + 1)).flatMap (ordG n k l) ++ suf) v' W (by rw [List.length_append, List.length_singleton]; omega) (by rw [HXS.out, HSP.out, HOI.out]; simp only [List.append_assoc]) (HJ.out _ _ _ HJI.out hW) (HNBr.out.below hW) (HYBr.out.below hW) (HVBr.out.below hW) hr (Nat.le_trans (by omega) hW.size))
          have hvR : ¬ R vb := fun h => by have := (HRR.out vb h).1; omega
          have hkA : FrO R wr (wr.alloc (.cells #[.int .i64 (i : Int)] 3)).drew ∧ True := ⟨FrO.of ((((Below.refl wr.heap.size wr).alloc (Nat.le_refl _) _)).drew), trivial⟩
          have hkB : FrO R wr (wr.drew.alloc (.cells #[.int .i64 (i : Int)] 3)) ∧ True := ⟨FrO.of (hbd.alloc hbd.size _), trivial⟩
          have hll : l.length ≤ 1000 := by omega
          clear hct HSP IH HXS H0 HV
          go_upto_region 6 with fail
          refine wp_region_noPanic ?_
          refine wp_region_held_drew (S := (fun z => FrO R wr z ∧ True)) (by kernel_rfl) kp (fun hHeld => ?_)
          refine tkZ 0 ⟨some 19, .move (.tmp 0), 85, "fileorder.go:134", #[], none⟩ ?_
          refine tkZ 1 ⟨some 20, .move (.tmp 6), 3, "fileorder.go:134", #[], none⟩ ?_
          refine rqS [2] (rqC ⟨some 21, .call ⟨.value (.func 89), #[.tmp 19, .tmp 20], #[85, 3]⟩, 4, "fileorder.go:134", #[⟨0, .data⟩, ⟨1, .data⟩], none⟩ (fun K hK => ?_) rq0)
          go_simp
          (go_at_call 89; (with_reducible refine (OC.out ).mono ?_); rintro e w7 ⟨rfl, hw7⟩; subst hw7; have hk7 : FrO R wr wr.drew ∧ True := ⟨FrO.of hbd, trivial⟩)
          go_wp2_with fail
          refine hK.out _ _ kp (fun hHeld => ?_)
          clear hK K
          try simp only [PT]
          refine tkZ 3 ⟨some 22, .unOp .not 4 (.tmp 21), 4, "fileorder.go:134", #[⟨2, .data⟩], none⟩ ?_
          refine tkZ 4 ⟨some 23, .move (.tmp 22), 4, "fileorder.go:134", #[⟨3, .data⟩, ⟨2, .chain⟩], none⟩ ?_
          refine tkZ 5 ⟨some 24, .load 105 (.tmp 3), 105, "fileorder.go:134", #[⟨4, .guard⟩], some (4, true)⟩ ?_ (by intro w hSw; (try dsimp only at hSw); have c1 := (hSw.1.blk HVBr.out hvR).cells 0; go_simp; (try with_reducible rfl))
          refine tkZ 6 ⟨some 25, .move (.tmp 0), 85, "fileorder.go:134", #[⟨4, .guard⟩], some (4, true)⟩ ?_
          refine tkZ 8 ⟨some 27, .move (.tmp 6), 3, "fileorder.go:134", #[⟨4, .guard⟩], some (4, true)⟩ ?_
          refine rqS [7, 9] (rqC ⟨some 26, .call ⟨.value (.func 88), #[.tmp 25], #[85]⟩, 85, "fileorder.go:134", #[⟨6, .data⟩, ⟨4, .chain⟩, ⟨4, .guard⟩], some (4, true)⟩ (fun K hK => ?_) (rqC ⟨some 28, .buildSlice 85 1 #[(0, .tmp 27)], 85, "fileorder.go:134", #[⟨8, .data⟩, ⟨4, .guard⟩], some (4, true)⟩ (fun K hK => ?_) rq0))
          focus
            go_simp
            (go_at_call 88; (with_reducible refine Calls.mono (OCL.out _ bl) ?_); rintro e w8 ⟨r8, rfl, hr8, hb8, hbw8⟩; obtain ⟨A8, c8, hv8⟩ := own_slice hr8; subst hv8; have HR8 := hide hr8; have hk8 : FrO R wr w8 ∧ True := ⟨FrO.of hbw8, trivial⟩; have hk8a : FrO R wr (w8.alloc (.cells #[.int .i64 (i : Int)] 3)) ∧ True := ⟨FrO.of (hbw8.alloc hbw8.size _), trivial⟩; (try have HBB := hide (Blk.below hb8 (show Blk _ wr.heap.size #[.int .i64 (i : Int)] 3 from Blk.newAt rfl))))
            go_wp2_with fail
            refine hK.out _ _ kp (fun hHeld => ?_)
            clear hK K
            try simp only [PT]
            refine rqS [9] (rqC ⟨some 28, .buildSlice 85 1 #[(0, .tmp 27)], 85, "fileorder.go:134", #[⟨8, .data⟩, ⟨4, .guard⟩], some (4, true)⟩ (fun K hK => ?_) rq0)
            go_simp
            refine hK.out _ _ kp (fun hHeld => ?_)
            clear hK K
            try simp only [PT]
            refine rqS [10] (rqC ⟨some 29, .call ⟨.builtin .append, #[.tmp 26, .tmp 28], #[85, 85]⟩, 85, "fileorder.go:134", #[⟨7, .data⟩, ⟨9, .data⟩, ⟨7, .chain⟩, ⟨4, .guard⟩], some (4, true)⟩ (fun K hK => ?_) rq0)
            (first | (refine step_append_rowsG _ (by rfl) _ _ 85 (by rfl) wr.heap.size 3 intInfo Tryz.underlying85 (by rfl) (by decide) (.slice A8 l.length c8) _ _ (HR8.out.alloc _) ⟨w8.heap.size, 0, none⟩ 1 1 [.int .i64 (i : Int)] (by rfl) (by rfl) (by rfl) (by intro j u hu; rw [Addr.add_lit, Nat.zero_add]; exact (Blk.cells (show Blk (w8.alloc (.cells #[.int .i64 (i : Int)] 3)) w8.heap.size #[.int .i64 (i : Int)] 3 from Blk.newAt rfl) j).trans (by rw [← Array.getElem?_toList]; exact hu)) (by intro u hu; rw [List.mem_singleton] at hu; rw [hu]; rfl) (by unfold maxLen; omega) (by omega) (by have := hbw8.size; simp only [World.size_alloc]; omega) ?_; intro v9 w9 hown9 hnb9 hg9; have hbw9 : Below wr.heap.size wr w9 := (hbw8.alloc hbw8.size _).grown hg9 (by have := hbw8.size; simp only [World.size_alloc]; omega) (fun j hj => (HR8.out.lt j hj).1)) | (refine step_append_rowsG _ (by rfl) _ _ 85 (by rfl) wr.heap.size 3 intInfo Tryz.underlying85 (by rfl) (by decide) (.slice A8 l.length c8) _ _ HR8.out ⟨wr.heap.size, 0, none⟩ 1 1 [.int .i64 (i : Int)] (by rfl) (by rfl) (by rfl) (by intro j u hu; rw [Addr.add_lit, Nat.zero_add]; exact (Blk.cells HBB.out j).trans (by rw [← Array.getElem?_toList]; exact hu)) (by intro u hu; rw [List.mem_singleton] at hu; rw [hu]; rfl) (by unfold maxLen; omega) (by omega) (by have := hbw8.size; omega) ?_; intro v9 w9 hown9 hnb9 hg9; have hbw9 : Below wr.heap.size wr w9 := hbw8.grown hg9 hbw8.size (fun j hj => (HR8.out.lt j hj).1))); have hrd9 : RdI w9 s v9 (l ++ [i]) := (RdI.of (by rw [List.length_append, ← intV_snoc]; exact hown9)).mono (by omega); have hk9 : FrO R wr w9 ∧ True := ⟨FrO.of hbw9, trivial⟩
            refine hK.out _ _ kp (fun hHeld => ?_)
            clear hK K
            try simp only [PT]
            refine rqS [11] (rqC ⟨some 30, .call ⟨.value (.tmp 24), #[.tmp 29], #[85]⟩, 4, "fileorder.go:134", #[⟨5, .data⟩, ⟨10, .data⟩, ⟨10, .chain⟩, ⟨4, .guard⟩], some (4, true)⟩ (fun K hK => ?_) rq0)
            go_simp
            (first | (go_at_call 89; (with_reducible refine (OC.out ).mono ?_); rintro e w7 ⟨rfl, hw7⟩; subst hw7; have hk7 : FrO R wr wr.drew ∧ True := ⟨FrO.of hbd, trivial⟩) | (go_at_call 88; (with_reducible refine Calls.mono (OCL.out _ bl) ?_); rintro e w8 ⟨r8, rfl, hr8, hb8, hbw8⟩; obtain ⟨A8, c8, hv8⟩ := own_slice hr8; subst hv8; have HR8 := hide hr8; have hk8 : FrO R wr w8 ∧ True := ⟨FrO.of hbw8, trivial⟩; have hk8a : FrO R wr (w8.alloc (.cells #[.int .i64 (i : Int)] 3)) ∧ True := ⟨FrO.of (hbw8.alloc hbw8.size _), trivial⟩; (try have HBB := hide (Blk.below hb8 (show Blk _ wr.heap.size #[.int .i64 (i : Int)] 3 from Blk.newAt rfl)))) | (go_at_call 87; (with_reducible refine (OVI.out w9 v9 hbw9 hrd9).mono ?_); rintro e w10 ⟨bl, rfl, hF10, hT10, hX10⟩; have hk10 : FrO R wr w10 ∧ True := ⟨hHeld.1.trans hF10 (fun j h => Or.inl h), trivial⟩))
            go_wp2_with fail
            refine hK.out _ _ kp (fun hHeld => ?_)
            clear hK K
            try simp only [PT]
            refine tkZ 12 ⟨some 31, .unOp .not 4 (.tmp 30), 4, "fileorder.go:134", #[⟨11, .data⟩, ⟨4, .guard⟩], some (4, true)⟩ ?_
            refine tkZ 13 ⟨some 32, .pick (.tmp 23) (.tmp 31) (.const (.bool false)), 4, "fileorder.go:134", #[⟨4, .data⟩, ⟨12, .data⟩], none⟩ ?_
            refine wpAnyH_done (by kernel_rfl) ?_ _
            refine NoPanic.normal ?_
            have HFF := hide (HF.out.trans hk10.1 (fun j h => Or.inl h))
            have HX := hide hX10
            have HT0 := hide hT10
            clear hX10 hT10
            cases bl
            (case false => (go_wp2_with fail; go_ret; exact Or.inl ⟨rfl, HFF.out, fun h => (by cases h), fun _ => HX.out (by trivial)⟩))
            (case true => (have HT := hide (HT0.out rfl); go_wp2_with fail; go_roundw; (case rel => exact ⟨i + 1, by go_num, by omega, by rw [HNX.out, HOI.out, ← List.append_assoc]; exact HT.out, HFF.out⟩); (case measure => (simp [intOf]; omega))))
          focus
            go_simp
            refine hK.out _ _ kp (fun hHeld => ?_)
            clear hK K
            try simp only [PT]
            refine rqS [7] (rqC ⟨some 26, .call ⟨.value (.func 88), #[.tmp 25], #[85]⟩, 85, "fileorder.go:134", #[⟨6, .data⟩, ⟨4, .chain⟩, ⟨4, .guard⟩], some (4, true)⟩ (fun K hK => ?_) rq0)
            go_simp
            (go_at_call 88; (with_reducible refine Calls.mono (OCL.out _ bl) ?_); rintro e w8 ⟨r8, rfl, hr8, hb8, hbw8⟩; obtain ⟨A8, c8, hv8⟩ := own_slice hr8; subst hv8; have HR8 := hide hr8; have hk8 : FrO R wr w8 ∧ True := ⟨FrO.of hbw8, trivial⟩; have hk8a : FrO R wr (w8.alloc (.cells #[.int .i64 (i : Int)] 3)) ∧ True := ⟨FrO.of (hbw8.alloc hbw8.size _), trivial⟩; (try have HBB := hide (Blk.below hb8 (show Blk _ wr.heap.size #[.int .i64 (i : Int)] 3 from Blk.newAt rfl))))
            go_wp2_with fail
            refine hK.out _ _ kp (fun hHeld => ?_)
            clear hK K
            try simp only [PT]
            refine rqS [10] (rqC ⟨some 29, .call ⟨.builtin .append, #[.tmp 26, .tmp 28], #[85, 85]⟩, 85, "fileorder.go:134", #[⟨7, .data⟩, ⟨9, .data⟩, ⟨7, .chain⟩, ⟨4, .guard⟩], some (4, true)⟩ (fun K hK => ?_) rq0)
            (first | (refine step_append_rowsG _ (by rfl) _ _ 85 (by rfl) wr.heap.size 3 intInfo Tryz.underlying85 (by rfl) (by decide) (.slice A8 l.length c8) _ _ (HR8.out.alloc _) ⟨w8.heap.size, 0, none⟩ 1 1 [.int .i64 (i : Int)] (by rfl) (by rfl) (by rfl) (by intro j u hu; rw [Addr.add_lit, Nat.zero_add]; exact (Blk.cells (show Blk (w8.alloc (.cells #[.int .i64 (i : Int)] 3)) w8.heap.size #[.int .i64 (i : Int)] 3 from Blk.newAt rfl) j).trans (by rw [← Array.getElem?_toList]; exact hu)) (by intro u hu; rw [List.mem_singleton] at hu; rw [hu]; rfl) (by unfold maxLen; omega) (by omega) (by have := hbw8.size; simp only [World.size_alloc]; omega) ?_; intro v9 w9 hown9 hnb9 hg9; have hbw9 : Below wr.heap.size wr w9 := (hbw8.alloc hbw8.size _).grown hg9 (by have := hbw8.size; simp only [World.size_alloc]; omega) (fun j hj => (HR8.out.lt j hj).1)) | (refine step_append_rowsG _ (by rfl) _ _ 85 (by rfl) wr.heap.size 3 intInfo Tryz.underlying85 (by rfl) (by decide) (.slice A8 l.length c8) _ _ HR8.out ⟨wr.heap.size, 0, none⟩ 1 1 [.int .i64 (i : Int)] (by rfl) (by rfl) (by rfl) (by intro j u hu; rw [Addr.add_lit, Nat.zero_add]; exact (Blk.cells HBB.out j).trans (by rw [← Array.getElem?_toList]; exact hu)) (by intro u hu; rw [List.mem_singleton] at hu; rw [hu]; rfl) (by unfold maxLen; omega) (by omega) (by have := hbw8.size; omega) ?_; intro v9 w9 hown9 hnb9 hg9; have hbw9 : Below wr.heap.size wr w9 := hbw8.grown hg9 hbw8.size (fun j hj => (HR8.out.lt j hj).1))); have hrd9 : RdI w9 s v9 (l ++ [i]) := (RdI.of (by rw [List.length_append, ← intV_snoc]; exact hown9)).mono (by omega); have hk9 : FrO R wr w9 ∧ True := ⟨FrO.of hbw9, trivial⟩
            refine hK.out _ _ kp (fun hHeld => ?_)
            clear hK K
            try simp only [PT]
            refine rqS [11] (rqC ⟨some 30, .call ⟨.value (.tmp 24), #[.tmp 29], #[85]⟩, 4, "fileorder.go:134", #[⟨5, .data⟩, ⟨10, .data⟩, ⟨10, .chain⟩, ⟨4, .guard⟩], some (4, true)⟩ (fun K hK => ?_) rq0)
            go_simp
            (first | (go_at_call 89; (with_reducible refine (OC.out ).mono ?_); rintro e w7 ⟨rfl, hw7⟩; subst hw7; have hk7 : FrO R wr wr.drew ∧ True := ⟨FrO.of hbd, trivial⟩) | (go_at_call 88; (with_reducible refine Calls.mono (OCL.out _ bl) ?_); rintro e w8 ⟨r8, rfl, hr8, hb8, hbw8⟩; obtain ⟨A8, c8, hv8⟩ := own_slice hr8; subst hv8; have HR8 := hide hr8; have hk8 : FrO R wr w8 ∧ True := ⟨FrO.of hbw8, trivial⟩; have hk8a : FrO R wr (w8.alloc (.cells #[.int .i64 (i : Int)] 3)) ∧ True := ⟨FrO.of (hbw8.alloc hbw8.size _), trivial⟩; (try have HBB := hide (Blk.below hb8 (show Blk _ wr.heap.size #[.int .i64 (i : Int)] 3 from Blk.newAt rfl)))) | (go_at_call 87; (with_reducible refine (OVI.out w9 v9 hbw9 hrd9).mono ?_); rintro e w10 ⟨bl, rfl, hF10, hT10, hX10⟩; have hk10 : FrO R wr w10 ∧ True := ⟨hHeld.1.trans hF10 (fun j h => Or.inl h), trivial⟩))
            go_wp2_with fail
            refine hK.out _ _ kp (fun hHeld => ?_)
            clear hK K
            try simp only [PT]
            refine tkZ 12 ⟨some 31, .unOp .not 4 (.tmp 30), 4, "fileorder.go:134", #[⟨11, .data⟩, ⟨4, .guard⟩], some (4, true)⟩ ?_
            refine tkZ 13 ⟨some 32, .pick (.tmp 23) (.tmp 31) (.const (.bool false)), 4, "fileorder.go:134", #[⟨4, .data⟩, ⟨12, .data⟩], none⟩ ?_
            refine wpAnyH_done (by kernel_rfl) ?_ _
            refine NoPanic.normal ?_
            have HFF := hide (HF.out.trans hk10.1 (fun j h => Or.inl h))
            have HX := hide hX10
            have HT0 := hide hT10
            clear hX10 hT10
            cases bl
            (case false => (go_wp2_with fail; go_ret; exact Or.inl ⟨rfl, HFF.out, fun h => (by cases h), fun _ => HX.out (by trivial)⟩))
            (case true => (have HT := hide (HT0.out rfl); go_wp2_with fail; go_roundw; (case rel => exact ⟨i + 1, by go_num, by omega, by rw [HNX.out, HOI.out, ← List.append_assoc]; exact HT.out, HFF.out⟩); (case measure => (simp [intOf]; omega))))
      · obtain rfl : i = n := by omega
        have HJ2 := hide (show J (pre ++ ordersL i (k + 1) l) wr by rw [HOG.out]; exact HJI.out)
        go_wp2_with fail
        go_ret
        first | exact Or.inr ⟨rfl, HF.out, fun _ => HJ2.out, fun h => (by cases h)⟩ | exact ⟨true, rfl, HF.out, fun _ => HJ2.out, fun h => (by cases h)⟩
attribute [local go_sem] Oper.semAt_some
theorem run_store_funcR {P : Program} {w : World} {a : Addr} {m : Mode} (fn : Fn) (x y : Array Value) : (store a (.func fn x y) m).run P w = stored P w a (.func fn x y) m := run_store P w a _ m rfl
theorem orders_any (n : Nat) (w : World) : Calls Tryz.prog 62 #[.int .i64 (n : Int)] w fun e w' => e = .returned (.func (.func 86) #[] #[.pointer (some ⟨w.heap.size, 0, none⟩)]) ∧ w' = w.alloc (.cells #[.int .i64 (n : Int)] 3) := by
  have HL : Live w [] := trivial
  go_enter Tryz.func62, Tryz.ntmps62
  go_wp2
  go_ret
  exact ⟨rfl, rfl⟩
set_option maxRecDepth 100000 in
set_option maxHeartbeats 2000000 in
theorem orders_feed (n : Nat) (hn : n ≤ 1000) (nb : Nat) (w0 : World) (hnb : Blk w0 nb #[.int .i64 (n : Int)] 3) :
    Feeds Tryz.prog 86 #[.pointer (some ⟨nb, 0, none⟩)] (fun s x v w => RdI w s v x) (fun s j => j < s ∧ j ≠ nb) (fun _ A B => Below A.heap.size A B) (ordersL n n []) w0 := by
  intro l J Jx w hW hlW hJ hY h0
  have hnbW := hnb.below hW
  have VI := hide (fun (W2 : World) hb2 hsz2 h1 h2 h3 => visit_any n hn l nb w.heap.size (w.heap.size + 1) w.heap.size (fun j => j < w.heap.size ∧ j ≠ nb) (ordersL n n []) J Jx (fun _ h => h) ⟨Nat.le_refl _, by omega⟩ hJ hY n [] [] [] (.slice none 0 0) W2 (by simp) (by simp) (hJ [] w W2 h0 hb2) h1 h2 h3 ⟨none, 0, rfl, fun h => absurd h (by simp)⟩ hsz2)
  have HNB := hide hnbW
  have hbd : Below w.heap.size w w.drew := (Below.refl _ _).drew
  clear hnb hnbW hJ hY h0
  have hsf := @run_store_funcR Tryz.prog
  have HL : Live w [] := trivial
  go_enter Tryz.func86, Tryz.ntmps86
  have HB3 : Below w.heap.size w ((w.alloc (.cells #[.func (.yield l) #[] #[]] 105)).alloc (.cells #[.func (.func 87) #[] #[.pointer (some ⟨nb, 0, none⟩), .pointer (some ⟨w.heap.size, 0, none⟩), .pointer (some ⟨w.heap.size + 1, 0, none⟩)]] 105)) := ((Below.refl _ _).alloc (Nat.le_refl _) _).alloc (by simp) _
  go_wp2_with (first | (go_at_call 87; (with_reducible refine Calls.mono (VI.out _ HB3 (by simp only [World.size_alloc]; omega) (HNB.out.below HB3) ((Blk.newAt rfl).below ((Below.refl _ _).alloc (Nat.le_refl _) _)) (Blk.newAt (by simp))) ?_); rintro e w3 ⟨bl, rfl, hf3, hj3, hx3⟩))
  all_goals go_end0
  all_goals refine ⟨⟨_, rfl⟩, ?_⟩
  all_goals cases bl
  all_goals first | exact Or.inl (hj3 rfl) | exact Or.inr (hx3 rfl)
end Go.Proofs.YtocgindpjjolpaaGreatDoor
namespace Go.Proofs.YtocgindpjjolpaaGreatDoor
set_option linter.unusedSimpArgs false
set_option linter.unusedVariables false
open Go.RowKit
set_option maxHeartbeats 2000000 in
theorem blocks_any (n : Int) (h : -9223372036854775808 ≤ n ∧ n ≤ 9223372036854775807) (w : World) : Calls Tryz.prog 24 #[.int .i64 n] w fun e w' => e = .returned (.int .i64 (blocksI n)) ∧ w = w' := by
  by_cases hn : n ≤ 0
  · have e : blocksI n = 0 := by unfold blocksI; rw [if_pos hn]
    have HL : Live w [] := trivial
    go_enter Tryz.func24, Tryz.ntmps24
    go_wp2
    go_ret
    first | exact ⟨rfl, rfl⟩ | exact ⟨ret_i e.symm, rfl⟩
  · have e : blocksI n = (n - 1) / 2048 + 1 := by unfold blocksI; rw [if_neg hn]
    have k1 : IntKind.i64.wrap (n - 1) = n - 1 := IntWalk.i64_in _ (by omega)
    have k2 : IntKind.i64.wrap ((n - 1) / 2048) = (n - 1) / 2048 := IntWalk.i64_in _ (by omega)
    have k3 : IntKind.i64.wrap ((n - 1) / 2048 + 1) = (n - 1) / 2048 + 1 := IntWalk.i64_in _ (by omega)
    have HL : Live w [] := trivial
    go_enter Tryz.func24, Tryz.ntmps24
    go_wp2
    go_ret
    first | exact ⟨rfl, rfl⟩ | exact ⟨ret_i e.symm, rfl⟩
set_option maxRecDepth 100000 in
set_option maxHeartbeats 2000000 in
theorem length_any (t : Tr) (p : ByteArray) (hsz : t.sz ≤ 120000) (hp : p.size ≤ 2000000) (v : Value) (w : World) (hT : TabV w) (hv : TreeR w w.heap.size v t) : Calls Tryz.prog 57 #[v, .string p] w fun e w' => e = .returned (.int .i64 (lenP t p : Int)) ∧ Below w.heap.size w w' := by
  have HG := hide (fun W hW hvW => get_any t p hsz hp v W hW hvW)
  have HL := hide (show lenP t p = (getT t p).1.h.data.size from rfl)
  obtain ⟨cn, rfl, hzc⟩ := Nd.cells hv
  have HV := hide hv
  clear hv
  have HL : Live w [] := trivial
  go_enter Tryz.func57, Tryz.ntmps57
  go_upto_region 1 with fail
  have HN1 := hide (Nd.new HV.out hzc)
  have HT1 := hide (hT.below ((Below.refl w.heap.size w).alloc (Nat.le_refl _) (.cells cn 25)))
  have hbel1 : Below w.heap.size w (w.alloc (.cells cn 25)) := (Below.refl _ _).alloc (Nat.le_refl _) _
  generalize w.alloc (.cells cn 25) = W1 at *
  obtain ⟨b, hb⟩ : ∃ b, b = w.heap.size := ⟨_, rfl⟩
  rw [← hb] at HN1 ⊢
  clear hb HV hzc
  have GT := hide (HG.out W1 HT1.out HN1.out.2.1)
  clear HG
  generalize getT t p = xe at *
  obtain ⟨x, er⟩ := xe
  go_upto_region 2 with (first | ((with_reducible show wpList _ _ _ (Oper.mk (some 8) _ _ _ _ _ :: _) _ _); refine wpList_load_row rfl 25 (.tmp 2) rfl b rfl 25 cn (0, 0) _ HN1.out.1 Tryz.underlying25 rfl (infN HN1.out.2.2) ?_) | (go_at_call 48; refine (GT.out).mono ?_; rintro e w4 ⟨v4, rfl, hv4, hb4⟩; have HV4 := hide hv4; have HB4 := hide hb4; clear hv4 hb4) | ((with_reducible show wpList _ _ _ (Oper.mk none _ _ _ _ _ :: _) _ _); refine store_tree rfl (.tmp 5) (.tmp 11) rfl v4 _ rfl rfl rfl HV4.out ?_; rintro ca rfl hzca h1ca))
  obtain ⟨A, c, A2, c2, e4, -, -⟩ := HV4.out.open
  injection e4 with e4
  subst e4
  have HNB := hide (NodeB.new w4 x.h (.slice A x.ks.len c) (.slice A2 x.ss.length c2))
  have hbel5 : Below w.heap.size w (w4.alloc (.cells (x.h.cells (.slice A x.ks.len c) (.slice A2 x.ss.length c2)) 25)) := (hbel1.trans (HB4.out.mono hbel1.size)).alloc (Nat.le_trans hbel1.size HB4.out.size) _
  generalize w4.alloc (.cells (x.h.cells (.slice A x.ks.len c) (.slice A2 x.ss.length c2)) 25) = W5 at *
  have d2 := HNB.out.c2
  generalize w4.heap.size = b5 at *
  go_wp2_with fail
  go_ret
  exact ⟨ret_i (by rw [HL.out]), hbel5⟩
theorem isF_get {t : Tr} (h : validB t = true) (p : ByteArray) : isF t p = decide ((getT t p).2 = 0 ∧ (getT t p).1.h.kind = 1 ∧ (getT t p).1.h.data ≠ eS) := by
  unfold isF
  cases hx : findT t (partsP p) with
  | none =>
    rw [(getT_yes h).2 hx]
    exact (decide_eq_false (fun e => absurd e.1 (by decide))).symm
  | some x =>
    rw [(getT_yes h).1 x hx]
    unfold fileB
    simp
theorem mem_valid {t : Tr} {p : ByteArray} (h : p ∈ pathsT t) : validB t = true := by
  unfold pathsT at h
  split at h
  · assumption
  · cases h
theorem beq_nil_y {s : ByteArray} (h : s = eS) : (s.toList == []) = true := by rw [h, ByteArray.toList_eq]; rfl
theorem beq_nil_n {s : ByteArray} (h : s ≠ eS) : (s.toList == []) = false := by
  rw [beq_eq_false_iff_ne]
  exact fun e => h (nil_list e)
theorem bne_nil_y {s : ByteArray} (h : s = eS) : (s.toList != []) = false := by rw [bne, beq_nil_y h]; rfl
theorem bne_nil_n {s : ByteArray} (h : s ≠ eS) : (s.toList != []) = true := by rw [bne, beq_nil_n h]; rfl
theorem paths_count (t : Tr) : (pathsT t).length ≤ t.count := by
  unfold pathsT
  split
  · rw [List.length_cons, pathsF_len]; exact Nat.le_refl _
  · exact Nat.zero_le _
set_option maxRecDepth 100000 in
set_option maxHeartbeats 4000000 in
theorem files_any (t : Tr) (hsz : t.sz ≤ 120000) (v : Value) (w : World) (hT : TabV w) (hv : TreeR w w.heap.size v t) : Calls Tryz.prog 16 #[v] w fun e w' => ∃ r, e = .returned r ∧ StrsR w' w.heap.size r (filesT t) ∧ Below w.heap.size w w' := by
  have PN := hide (fun W hTW hW => paths_any t hsz v W hTW hW)
  have GN := hide (fun p hp W hTW hW => get_any t p hsz hp v W hTW hW)
  have HFT := hide (show filesT t = (pathsT t).filter (isF t) from rfl)
  have hpl : (pathsT t).length ≤ 6000 := by have := paths_count t; have := t.count_sz; omega
  have HPS := hide (fun p (hp : p ∈ pathsT t) => And.intro (Nat.le_trans (pathsT_size hp) hsz) (isF_get (mem_valid hp) p))
  obtain ⟨cn, rfl, hzc⟩ := Nd.cells hv
  have HV := hide hv
  clear hv
  have HL : Live w [] := trivial
  go_enter Tryz.func16, Tryz.ntmps16
  go_upto_region 1 with fail
  have HN1 := hide (Nd.new HV.out hzc)
  have hbel1 : Below w.heap.size w (w.alloc (.cells cn 25)) := (Below.refl _ _).alloc (Nat.le_refl _) _
  have HT1 := hide (hT.below hbel1)
  generalize w.alloc (.cells cn 25) = W1 at *
  obtain ⟨b, hb⟩ : ∃ b, b = w.heap.size := ⟨_, rfl⟩
  rw [← hb] at HN1 ⊢
  clear hb HV hzc hT
  have PA := hide (PN.out W1 HT1.out HN1.out.2.1)
  clear PN
  generalize pathsT t = ps at *
  go_wp2_with (first | ((with_reducible show wpList _ _ _ (Oper.mk (some 8) _ _ _ _ _ :: _) _ _); refine wpList_load_row rfl 25 (.tmp 1) rfl b rfl 25 cn (0, 0) _ HN1.out.1 Tryz.underlying25 rfl (infN HN1.out.2.2) ?_) | (go_at_call 51; refine (PA.out).mono ?_; rintro e w3 ⟨r3, rfl, hr3, hb3⟩; have HP3 := hide (SlR.of hr3); have hbel3 := hide (hbel1.trans (hb3.mono hbel1.size)); have HN3 := hide (HN1.out.below hb3); have HT3 := hide (HT1.out.below hb3); obtain ⟨A, c, hvs⟩ := own_slice hr3; subst hvs; clear hr3 hb3))
  clear PA HN1 HT1
  obtain ⟨A', c', ev, hps⟩ := HP3.out
  injection ev with ev1 ev2 ev3
  subst ev1; subst ev3
  have HRD := hide hps
  clear hps HP3
  go_loopw [3, 11] (fun ov i wr => ∃ (k : Nat), i = .int .i64 (k : Int) ∧ k ≤ ps.length ∧ wr.ownsRow w3.heap.size 9 1 ov ((ps.take k).filter (isF t)).length (strV ((ps.take k).filter (isF t))) ∧ Below w3.heap.size w3 wr) (fun _ i _ => ps.length - (intOf i).toNat)
  case atStart => exact ⟨0, rfl, Nat.zero_le _, World.ownsRow_nil _ _ _ _, Below.refl _ _⟩
  case round =>
    obtain ⟨k, rfl, hk, hown, hbelr⟩ := hrel
    have HO := hide hown
    have HB := hide hbelr
    have hszr := hbelr.size
    obtain ⟨ao, cap, rfl⟩ := own_slice hown
    clear hown hbelr
    by_cases hlt : k < ps.length
    · obtain ⟨p, hp⟩ : ∃ p, ps[k]? = some p := ⟨ps[k], List.getElem?_eq_getElem hlt⟩
      obtain ⟨g, o, rfl, hg, hcl⟩ := HRD.out (by omega)
      have c0 : wr.cell? ⟨g, o + k, none⟩ = some (.string p) := (HB.out.cell (p := ⟨g, o + k, none⟩) hg).trans (hcl k p hp)
      obtain ⟨hps1, hps2⟩ := HPS.out p (List.mem_of_getElem? hp)
      have HNX := hide (filt_next (f := isF t) hp)
      have HNr := hide (HN3.out.below HB.out)
      have hps3 : p.size ≤ 2000000 := by omega
      have GT := hide (GN.out p hps3 wr (HT3.out.below HB.out) HNr.out.2.1)
      have HIF := hide hps2
      clear hcl hps2 hp
      obtain ⟨x, er, hxe⟩ : ∃ x er, getT t p = (x, er) := ⟨_, _, rfl⟩
      rw [hxe] at GT HIF
      dsimp only at GT HIF
      clear hxe
      go_upto_region 6 with (first | ((with_reducible show wpList _ _ _ (Oper.mk (some 16) _ _ _ _ _ :: _) _ _); refine wpList_load_row rfl 25 (.tmp 1) rfl b rfl 25 cn (0, 0) _ HNr.out.1 Tryz.underlying25 rfl (infN HNr.out.2.2) ?_) | (go_at_call 48; refine (GT.out).mono ?_; rintro e w4 ⟨v4, rfl, hv4, hb4⟩; have HV4 := hide hv4; have HB4 := hide hb4; clear hv4 hb4) | ((with_reducible show wpList _ _ _ (Oper.mk none _ _ _ _ _ :: _) _ _); refine store_tree rfl (.tmp 6) (.tmp 19) rfl v4 _ rfl rfl rfl HV4.out ?_; rintro ca rfl hzca h1ca))
      obtain ⟨A4, c4, A2, c2, e4, -, -⟩ := HV4.out.open
      injection e4 with e4
      subst e4
      have HNB := hide (NodeB.new w4 x.h (.slice A4 x.ks.len c4) (.slice A2 x.ss.length c2))
      have hb5 : Below wr.heap.size wr (w4.alloc (.cells (x.h.cells (.slice A4 x.ks.len c4) (.slice A2 x.ss.length c2)) 25)) := HB4.out.alloc HB4.out.size _
      clear GT HNr HV4 HB4 hzca h1ca
      generalize w4.alloc (.cells (x.h.cells (.slice A4 x.ks.len c4) (.slice A2 x.ss.length c2)) 25) = W5 at *
      have d1 := HNB.out.c1
      have d2 := HNB.out.c2
      generalize w4.heap.size = b5 at *
      have hbel5 := HB.out.trans (hb5.mono hszr)
      have HO5 := hide (below_row' HO.out hb5)
      clear HO HNB hb5 HB
      have hlen : ((ps.take k).filter (isF t)).length ≤ 6000 := Nat.le_trans (List.length_filter_le _ _) (by rw [List.length_take]; omega)
      by_cases q : er = 0 ∧ x.h.kind = 1 ∧ x.h.data ≠ eS
      · obtain ⟨q1, q2, q3⟩ := q
        have hIF : isF t p = true := by rw [HIF.out]; exact decide_eq_true ⟨q1, q2, q3⟩
        rw [hIF, if_pos rfl] at HNX
        have n3 := bne_nil_n q3
        have n4 := beq_nil_n q3
        subst q1
        rw [q2] at d1
        clear hIF HIF q2
        have hbw5 := hbel5.size
        go_wp2_with (at_builtin; refine wpList_append_blk _ rfl _ _ 26 rfl w3.heap.size 9 strInfo Tryz.underlying26 rfl (by decide) (.slice ao ((ps.take k).filter (isF t)).length cap) _ _ (HO5.out.alloc _) W5.heap.size #[.string p] (Blk.newAt rfl) rfl rfl rfl (by simp [Value.oneCell']) (by unfold maxLen; omega) (by omega) (by rw [World.size_alloc]; omega) ?_; intro v6 w6 hown6 hnb6 hg6)
        have hbel6 : Below w3.heap.size w3 w6 := (hbel5.alloc hbw5 _).grown hg6 (by rw [World.size_alloc]; omega) (fun q hq => (HO5.out.lt q hq).1)
        go_roundw
        case rel => exact ⟨k + 1, by go_num, by omega, by rw [HNX.out, List.length_append, ← strV_snoc]; exact hown6, hbel6⟩
        case measure => simp [intOf]; omega
      · have hIF : isF t p = false := by rw [HIF.out]; exact decide_eq_false q
        rw [hIF] at HNX
        have HNX2 := hide (show (ps.take (k + 1)).filter (isF t) = (ps.take k).filter (isF t) by rw [HNX.out, if_neg (by decide), List.append_nil])
        clear hIF HIF HNX
        by_cases q1 : er = 0
        · subst q1
          by_cases q2 : x.h.kind = 1
          · have q3 : x.h.data = eS := by
              rcases Classical.em (x.h.data = eS) with h | h
              · exact h
              · exact absurd ⟨rfl, q2, h⟩ q
            have n3 := bne_nil_y q3
            have n4 := beq_nil_y q3
            rw [q2] at d1
            clear q q2 q3
            go_wp2_with fail
            go_roundw
            case rel => exact ⟨k + 1, by go_num, by omega, by rw [HNX2.out]; exact HO5.out, hbel5⟩
            case measure => simp [intOf]; omega
          · have n1 : (x.h.kind == 1) = false := by rw [beq_eq_false_iff_ne]; exact q2
            clear q q2
            go_wp2_with fail
            go_roundw
            case rel => exact ⟨k + 1, by go_num, by omega, by rw [HNX2.out]; exact HO5.out, hbel5⟩
            case measure => simp [intOf]; omega
        · have n1 : (er == 0) = false := by rw [beq_eq_false_iff_ne]; exact q1
          clear q q1
          go_wp2_with fail
          go_roundw
          case rel => exact ⟨k + 1, by go_num, by omega, by rw [HNX2.out]; exact HO5.out, hbel5⟩
          case measure => simp [intOf]; omega
    · obtain rfl : k = ps.length := by omega
      have HO2 := HO.out
      rw [List.take_length] at HO2
      have HO3 := hide HO2
      clear HO2
      go_wp2_with fail
      go_ret
      exact ⟨_, rfl, by rw [HFT.out]; exact own_base HO3.out hbel3.out.size, hbel3.out.trans (HB.out.mono hbel3.out.size)⟩
end Go.Proofs.YtocgindpjjolpaaGreatDoor
namespace Go.Proofs.YtocgindpjjolpaaGreatDoor
set_option linter.unusedSimpArgs false
set_option linter.unusedVariables false
theorem last_size {p : ByteArray} {i : Nat} (h : p.data.toList[i]? = some 47) : i < p.size := by
  have := (List.getElem?_eq_some_iff.1 h).1
  rw [Array.length_toList] at this
  exact this
theorem last_cut {p : ByteArray} {i : Nat} (h : p.data.toList[i]? = some 47) (hn : ∀ j, i < j → p.data.toList[j]? ≠ some 47) : p.data.toList = (p.extract 0 i).data.toList ++ 47 :: (p.extract (i + 1) p.size).data.toList ∧ ∀ c ∈ (p.extract (i + 1) p.size).data.toList, c ≠ 47 := by
  have hil := (List.getElem?_eq_some_iff.1 h).1
  have hsz : p.size = p.data.toList.length := by rw [Array.length_toList]; rfl
  have e0 : (p.extract 0 i).data.toList = p.data.toList.take i := by
    rw [← ByteArray.toList_eq, Lib.extract_toList]; simp
  have e1 : (p.extract (i + 1) p.size).data.toList = p.data.toList.drop (i + 1) := by
    rw [← ByteArray.toList_eq, Lib.extract_toList, List.take_of_length_le]
    rw [List.length_drop, ← hsz]; omega
  refine ⟨?_, fun c hc e => ?_⟩
  · rw [e0, e1]
    conv => lhs; rw [← List.take_append_drop i p.data.toList]
    congr 1
    rw [List.drop_eq_getElem_cons hil]
    congr 1
    exact (List.getElem?_eq_some_iff.1 h).2
  · rw [e1] at hc
    obtain ⟨j, hj, e2⟩ := List.getElem_of_mem hc
    refine hn (i + 1 + j) (by omega) ?_
    rw [← List.getElem?_drop, List.getElem?_eq_getElem hj, e2, e]
theorem wF_snoc : ∀ (l : List ByteArray) (t x k : Tr) (o : Int) (n : ByteArray), findT t l = some x → kidF x.ks n = some k → wF t (l ++ [n]) o = if k.h.weight = 0 then wF t l o else k.h.weight
  | [], t, x, k, o, n, h, hk => by
    rw [findT_nil] at h
    injection h with h
    subst h
    show wF t [n] o = _
    simp only [wF, hk]
  | m :: l, t, x, k, o, n, h, hk => by
    cases hm : kidF t.ks m with
    | none => rw [findT_miss hm] at h; cases h
    | some y =>
      rw [findT_hit hm] at h
      show wF t (m :: (l ++ [n])) o = _
      simp only [wF, hm]
      exact wF_snoc l y x k _ n h hk
theorem wF_last : ∀ (l : List ByteArray) (t x : Tr) (o : Int), findT t l = some x → x.h.weight ≠ 0 → (l = [] → o = t.h.weight) → wF t l o = x.h.weight
  | [], t, x, o, h, _, ho => by
    rw [findT_nil] at h
    injection h with h
    subst h
    exact ho rfl
  | m :: l, t, x, o, h, hx, _ => by
    cases hm : kidF t.ks m with
    | none => rw [findT_miss hm] at h; cases h
    | some y =>
      rw [findT_hit hm] at h
      rw [wF, hm]
      refine wF_last l y x _ h hx (fun e => ?_)
      subst e
      rw [findT_nil] at h
      injection h with h
      subst h
      rw [if_neg hx]
theorem weightT_no {t : Tr} {p : ByteArray} (h : validB t = false) : weightT t p = (0, 1) := by unfold weightT; rw [h]; rfl
theorem weightT_none {t : Tr} {p : ByteArray} (h : validB t = true) (hx : findT t (partsP p) = none) : weightT t p = (0, 6) := by unfold weightT; rw [if_pos h, hx]; rfl
theorem weightT_some {t x : Tr} {p : ByteArray} (h : validB t = true) (hx : findT t (partsP p) = some x) : weightT t p = (weightP t p, 0) := by unfold weightT; rw [if_pos h, hx]; rfl
theorem weightT_here {t x : Tr} {p : ByteArray} (h : validB t = true) (hx : findT t (partsP p) = some x) (h0 : x.h.weight ≠ 0 ∨ p = eS) : weightT t p = (x.h.weight, 0) := by
  rw [weightT_some h hx]
  congr 1
  unfold weightP
  by_cases hw : x.h.weight = 0
  · rcases h0 with h0 | h0
    · exact absurd hw h0
    · subst h0
      have e : partsP eS = [] := rfl
      rw [e] at hx ⊢
      rw [findT_nil] at hx
      injection hx with hx
      subst hx
      rfl
  · exact wF_last _ _ _ _ hx hw (fun _ => rfl)
theorem weight_up {t x : Tr} {p q : ByteArray} {n : ByteArray} (h : validB t = true) (hx : findT t (partsP p) = some x) (h0 : x.h.weight = 0) (hq : partsP p = partsP q ++ [n]) : weightT t q = weightT t p := by
  rw [hq, findT_snoc] at hx
  cases hy : findT t (partsP q) with
  | none => rw [hy] at hx; cases hx
  | some y =>
    rw [hy] at hx
    have hk : kidF y.ks n = some x := hx
    rw [weightT_some h hy, weightT_some (x := x) h (by rw [hq, findT_snoc, hy]; exact hk)]
    congr 1
    unfold weightP
    rw [hq, wF_snoc _ _ _ _ _ _ hy hk, if_pos h0]
theorem parts_one {p : ByteArray} (hp : p ≠ eS) (h : ∀ c ∈ p.data.toList, c ≠ 47) : partsP p = partsP eS ++ [p] := by
  have e : partsP eS = [] := rfl
  rw [e]
  unfold partsP
  rw [if_neg hp, words_one h]
  rfl
theorem parts_at {t x : Tr} {p : ByteArray} {i : Nat} (hv : validB t = true) (hx : findT t (partsP p) = some x) (h : p.data.toList[i]? = some 47) (hn : ∀ j, i < j → p.data.toList[j]? ≠ some 47) : partsP p = partsP (p.extract 0 i) ++ [p.extract (i + 1) p.size] := by
  obtain ⟨e, hb⟩ := last_cut h hn
  have hp : p ≠ eS := by
    intro e2
    rw [e2] at h
    cases h
  have hw := words_cut e hb
  have e1 : partsP p = words p := by unfold partsP; rw [if_neg hp]
  by_cases hpar : p.extract 0 i = eS
  · rw [hpar, words_nil2] at hw
    rw [e1, hw] at hx
    obtain ⟨h1, h2, h3⟩ := valid_chk hv
    rw [show [eS] ++ [p.extract (i + 1) p.size] = eS :: [p.extract (i + 1) p.size] from rfl, findT_miss (kidF_empty h3 (Nat.le_refl _))] at hx
    cases hx
  · rw [e1, hw]
    congr 1
    unfold partsP
    rw [if_neg hpar]
end Go.Proofs.YtocgindpjjolpaaGreatDoor
