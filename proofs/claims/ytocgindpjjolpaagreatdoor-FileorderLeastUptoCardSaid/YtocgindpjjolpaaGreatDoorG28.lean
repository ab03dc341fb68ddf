/- Contracts and plain words for the laws of this chapter, part 28: K4. No condition. -/
import Derived.Test.YtocgindpjjolpaaGreatDoorG27
import Derived.Test.YtocgindpjjolpaaGreatDoorG9
import Derived.Test.YtocgindpjjolpaaGreatDoorG15
namespace Go.Proofs.YtocgindpjjolpaaGreatDoor
set_option linter.unusedSimpArgs false
set_option linter.unusedVariables false
open Go.RowKit
theorem step_store_tree {ops : Array Oper} {o : Oper} {a : Act} {W : World} {K : Act → World → Prop} {Q : Exit → Act → World → Prop} {E : Prop} (hgd : o.guard = none) (x y : Operand) (ho : o.op = .store 25 x y)
    (v : Value) (t : Tr) (hx : a.eval x = .pointer (some ⟨W.heap.size, 0, none⟩)) (hy : a.eval y = v) (hv : TreeR W W.heap.size v t)
    (h : ∀ cells : Array Value, v = .agg cells → cells.size = 12 → cells.all (·.oneCell') = true → K (a.put o.dst undef) (W.alloc (.cells cells 25))) : if Region.wanted o (yielded ops a.tmps) = true then Oper.wp Tryz.prog o a (W.alloc (.cells zeroN 25)) K Q else E := by
  have hw : Region.wanted o (yielded ops a.tmps) = true := by simp [Region.wanted, hgd]
  rw [if_pos hw]
  obtain ⟨cells, e, hz, h1⟩ := hv.cells
  refine wp_store_row 25 x y ho W.heap.size cells hx (hy.trans e) 25 zeroN (heap_alloc_new W _) (infN hz) (by rw [hz]; rfl) h1 ?_
  rw [setRow_alloc]
  exact h cells e hz h1
theorem step_store_rowG {P : Program} {w : World} {ops : Array Oper} {o : Oper} {a : Act} {K : Act → World → Prop} {Q : Exit → Act → World → Prop} {E : Prop} (hgd : o.guard = none) (ty : TypeId) (x y : Operand) (ho : o.op = .store ty x y)
    (g : Nat) (cells : Array Value) (hx : a.eval x = .pointer (some ⟨g, 0, none⟩)) (hy : a.eval y = .agg cells) (t : TypeId) (old : Array Value) (hg : w.heap[g]? = some (.cells old t (0, 0))) (hi : (P.info? ty).map (·.size) = some cells.size) (hold : old.size = cells.size) (h1 : cells.all (·.oneCell') = true)
    (h : K (a.put o.dst undef) (w.setRow g cells)) : if Region.wanted o (yielded ops a.tmps) = true then Oper.wp P o a w K Q else E := by
  have hw : Region.wanted o (yielded ops a.tmps) = true := by simp [Region.wanted, hgd]
  rw [if_pos hw]
  exact wp_store_row ty x y ho g cells hx hy t old hg hi hold h1 h
def NodeX (wr : World) (x : Tr) (v : Value) (W : World) : Prop := ∃ b5 A4 c4 A2 c2, v = .pointer (some ⟨b5, 0, none⟩) ∧ NodeB W b5 x.h (.slice A4 x.ks.len c4) (.slice A2 x.ss.length c2) ∧ Below wr.heap.size wr W ∧ wr.heap.size ≤ b5
theorem NodeX.of {wr W : World} {x : Tr} {g : Nat} {ca : Array Value} {W' : World} {B : Nat} (h : TreeR W' B (.agg ca) x) (hB : Blk W g ca 25) (hb : Below wr.heap.size wr W) (hg : wr.heap.size ≤ g) : NodeX wr x (.pointer (some ⟨g, 0, none⟩)) W := by
  obtain ⟨A4, c4, A2, c2, e4, -, -⟩ := h.open
  injection e4 with e4
  subst e4
  exact ⟨g, A4, c4, A2, c2, rfl, ⟨hB⟩, hb, hg⟩
theorem isF_find (t : Tr) (p : ByteArray) : isF t p = fileB (findR t p).1 := by
  unfold isF findR
  cases findT t (partsP p) with
  | some x => rfl
  | none => rfl
set_option maxRecDepth 100000 in
set_option maxHeartbeats 4000000 in
theorem rfiles_any (t : Tr) (hsz : t.sz ≤ 120000) (v : Value) (w : World) (hv : TreeR w w.heap.size v t) : Calls Tryz.prog 17 #[v] w fun e w' => ∃ r, e = .returned r ∧ StrsR w' w.heap.size r (filesT t) ∧ Below w.heap.size w w' := by
  have PN := hide (fun W hW => rpathsT_any t hsz v W hW)
  have GN := hide (fun p hp W hW => rfind_any t p hsz hp v W hW)
  have HFT := hide (show filesT t = (pathsT t).filter (isF t) from rfl)
  have hpl : (pathsT t).length ≤ 6000 := by have := paths_count t; have := t.count_sz; omega
  have HPS := hide (fun p (hp : p ∈ pathsT t) => Nat.le_trans (pathsT_size hp) hsz)
  obtain ⟨cn, rfl, hzc⟩ := Nd.cells hv
  have HV := hide hv
  clear hv
  have HL : Live w [] := trivial
  go_enter Tryz.func17, Tryz.ntmps17
  go_upto_region 1 with fail
  have HN1 := hide (Nd.new HV.out hzc)
  have hbel1 : Below w.heap.size w (w.alloc (.cells cn 25)) := (Below.refl _ _).alloc (Nat.le_refl _) _
  generalize w.alloc (.cells cn 25) = W1 at *
  obtain ⟨b, hb⟩ : ∃ b, b = w.heap.size := ⟨_, rfl⟩
  rw [← hb] at HN1 ⊢
  clear hb HV hzc
  have PA := hide (PN.out W1 HN1.out.2.1)
  clear PN
  generalize pathsT t = ps at *
  go_wp2_with (first | ((with_reducible show wpList _ _ _ (Oper.mk (some 8) _ _ _ _ _ :: _) _ _); refine wpList_load_row rfl 25 (.tmp 1) rfl b rfl 25 cn (0, 0) _ HN1.out.1 Tryz.underlying25 rfl (infN HN1.out.2.2) ?_) | (go_at_call 34; refine (PA.out).mono ?_; rintro e w3 ⟨r3, rfl, hr3, hb3⟩; have HP3 := hide (SlR.of hr3); have HN3 := hide (HN1.out.below hb3); have hbel3 := hide (hbel1.trans (hb3.mono hbel1.size)); clear hr3 hb3; obtain ⟨A3, c3, e3, -⟩ := HP3.out; subst e3))
  clear PA HN1
  obtain ⟨A', c', ev, hps⟩ := HP3.out
  injection ev with ev1 ev2 ev3
  subst ev1; subst ev3
  have HRD := hide hps
  clear hps HP3
  go_loopw [3, 5, 6, 7] (fun ov i _ _ wr => ∃ (k : Nat), i = .int .i64 (k : Int) ∧ k ≤ ps.length ∧ wr.ownsRow w3.heap.size 9 1 ov ((ps.take k).filter (isF t)).length (strV ((ps.take k).filter (isF t))) ∧ Below w3.heap.size w3 wr) (fun _ i _ _ _ => ps.length - (intOf i).toNat)
  case atStart => exact ⟨0, rfl, Nat.zero_le _, World.ownsRow_nil _ _ _ _, Below.refl _ _⟩
  case round =>
    obtain ⟨k, rfl, hk, hown, hbelr⟩ := hrel
    have HO := hide hown
    have HB := hide hbelr
    have hszr := hbelr.size
    obtain ⟨ao, cap, rfl⟩ := own_slice hown
    clear hown hbelr
    by_cases hlt : k < ps.length
    · obtain ⟨p, hp⟩ : ∃ p, ps[k]? = some p := ⟨ps[k], List.getElem?_eq_getElem hlt⟩
      obtain ⟨g, o, rfl, hg, hcl⟩ := HRD.out (by omega)
      have c0 : wr.cell? ⟨g, o + k, none⟩ = some (.string p) := (HB.out.cell (p := ⟨g, o + k, none⟩) hg).trans (hcl k p hp)
      have HC0 := hide c0
      have hgl : g < wr.heap.size := by omega
      have hps1 := HPS.out p (List.mem_of_getElem? hp)
      have HNX := hide (filt_next (f := isF t) hp)
      have HNr := hide (HN3.out.below HB.out)
      have hps3 : p.size ≤ 2000000 := by omega
      have RFI := hide (fun W (hW : Below wr.heap.size wr W) => GN.out p hps3 W (HNr.out.2.1.later hW))
      have HIF := hide (isF_find t p)
      have hkz2 : Below wr.heap.size wr (wr.alloc (.cells zeroN 25)).drew ∧ True := ⟨((Below.refl wr.heap.size wr).alloc (Nat.le_refl _) _).drew, trivial⟩
      unfold zeroN at hkz2
      have hk0 : Below wr.heap.size wr wr ∧ True := ⟨Below.refl _ _, trivial⟩
      have hk0d : Below wr.heap.size wr wr.drew ∧ True := ⟨(Below.refl wr.heap.size wr).drew, trivial⟩
      clear hcl hp c0
      obtain ⟨x, er, hxe⟩ : ∃ x er, findR t p = (x, er) := ⟨_, _, rfl⟩
      rw [hxe] at RFI HIF
      dsimp only at RFI HIF
      clear hxe
      have hkz : Below wr.heap.size wr (wr.drew.alloc (.cells zeroN 25)) ∧ True := ⟨hk0d.1.alloc hk0d.1.size _, trivial⟩
      unfold zeroN at hkz
      go_upto_region 6 with fail
      go_cut [6, 7] (fun v _ W5 => NodeX wr x v W5)
      case first =>
        refine wp_region_noPanic ?_
        refine wp_region_held_drew (S := (fun z => Below wr.heap.size wr z ∧ True)) (by kernel_rfl) kp (fun hHeld => ?_)
        refine tkZ 0 ⟨some 17, .load 25 (.tmp 1), 25, "ref.go:30", #[], none⟩ ?_ (by intro w hSw; (try dsimp only at hSw); refine (exec_load_row 25 (.tmp 1) (by rfl) b (by rfl) 25 cn (0, 0) _ (Blk.below hSw.1 HNr.out.1) Tryz.underlying25 (by rfl) (infN HNr.out.2.2)).trans ?_; with_reducible rfl)
        refine tkZ 1 ⟨some 18, .move (.tmp 4), 26, "ref.go:30", #[], none⟩ ?_
        refine tkZ 2 ⟨some 19, .move (.tmp 5), 3, "ref.go:30", #[], none⟩ ?_
        refine tkZ 3 ⟨some 20, .indexAddr 26 (.tmp 18) (.tmp 19), 0, "ref.go:30", #[⟨1, .data⟩, ⟨2, .data⟩], none⟩ ?_
        refine tkZ 4 ⟨some 21, .load 9 (.tmp 20), 9, "ref.go:30", #[⟨3, .data⟩], none⟩ ?_ (by intro w hSw; (try dsimp only at hSw); have c1 := (hSw.1.cell (p := ⟨g, o + k, none⟩) hgl).trans HC0.out; go_simp; (try with_reducible rfl))
        refine rqS [5, 9] (rqC ⟨some 22, .call ⟨.value (.func 49), #[.tmp 17, .tmp 21], #[25, 9]⟩, 73, "ref.go:30", #[⟨0, .data⟩, ⟨4, .data⟩], none⟩ (fun K hK => ?_) (rqC ⟨some 6, .alloc 25, 0, "ref.go:30", #[], none⟩ (fun K hK => ?_) rq0))
        focus
          go_simp
          (go_at_call 49; (with_reducible refine (RFI.out _ hHeld.1).mono ?_); rintro e w8 ⟨v8, rfl, hv8, hb8⟩; have HV8 := hide hv8; have hk8 : Below wr.heap.size wr w8 ∧ True := ⟨hHeld.1.trans (hb8.mono hHeld.1.size), trivial⟩; have hk8z : Below wr.heap.size wr (w8.alloc (.cells zeroN 25)) ∧ True := ⟨hk8.1.alloc hk8.1.size _, trivial⟩; unfold zeroN at hk8z; (try have HBz := hide (Blk.below hb8 (show Blk _ wr.heap.size zeroN 25 from Blk.newAt rfl))); clear hv8)
          go_wp2_with fail
          refine hK.out _ _ kp (fun hHeld => ?_)
          clear hK K
          try simp only [PT]
          refine tkZ 6 ⟨some 16, .move (.tmp 22), 73, "ref.go:30", #[⟨5, .data⟩], none⟩ ?_
          refine tkZ 7 ⟨some 23, .extract (.tmp 16) 0, 25, "ref.go:30", #[⟨6, .data⟩], none⟩ ?_
          refine tkZ 8 ⟨some 24, .extract (.tmp 16) 1, 4, "ref.go:30", #[⟨6, .data⟩, ⟨10, .gcOnly .lateStores⟩], none⟩ ?_
          refine rqS [9] (rqC ⟨some 6, .alloc 25, 0, "ref.go:30", #[], none⟩ (fun K hK => ?_) rq0)
          go_simp
          refine hK.out _ _ kp (fun hHeld => ?_)
          clear hK K
          try simp only [PT]
          refine rqS [10] (rqC ⟨none, .store 25 (.tmp 6) (.tmp 23), 0, "ref.go:30", #[⟨9, .data⟩, ⟨7, .data⟩, ⟨5, .chain⟩, ⟨0, .phase⟩, ⟨1, .phase⟩, ⟨2, .phase⟩, ⟨3, .phase⟩, ⟨4, .phase⟩, ⟨5, .phase⟩, ⟨6, .phase⟩, ⟨7, .phase⟩, ⟨8, .textOnly .lateStores⟩, ⟨9, .phase⟩], none⟩ (fun K hK => ?_) rq0)
          obtain ⟨ca, hca, hzca, h1ca⟩ := HV8.out.cells; subst hca; (first | (refine step_store_tree rfl (.tmp 6) (.tmp 23) rfl (.agg ca) _ rfl rfl HV8.out ?_; rintro ca2 e2 - -; injection e2 with e2; subst e2; have hk9 : Below wr.heap.size wr (w8.alloc (.cells ca 25)) ∧ True := ⟨hk8.1.alloc hk8.1.size _, trivial⟩; have HNX := hide (NodeX.of HV8.out (show Blk (w8.alloc (.cells ca 25)) w8.heap.size ca 25 from Blk.newAt rfl) hk9.1 hk8.1.size)) | (refine step_store_rowG rfl 25 (.tmp 6) (.tmp 23) rfl wr.heap.size ca rfl rfl 25 zeroN HBz.out (infN hzca) (by rw [hzca]; rfl) h1ca ?_; have hk9 : Below wr.heap.size wr (w8.setRow wr.heap.size ca) ∧ True := ⟨hk8.1.trans ((FrO.setRow (O := fun j => j = wr.heap.size) rfl).below hk8.1.size (fun j hj => by omega)), trivial⟩; have HNX := hide (NodeX.of HV8.out (setRow_heap _ _ _ _ _ _ HBz.out) hk9.1 (Nat.le_refl _))))
          refine hK.out _ _ kp (fun hHeld => ?_)
          clear hK K
          try simp only [PT]
          refine tkZ 11 ⟨some 7, .assign (.tmp 24), 4, "ref.go:30", #[⟨8, .data⟩, ⟨10, .chain⟩, ⟨0, .phase⟩, ⟨1, .phase⟩, ⟨2, .phase⟩, ⟨3, .phase⟩, ⟨4, .phase⟩, ⟨5, .phase⟩, ⟨6, .phase⟩, ⟨7, .phase⟩, ⟨8, .phase⟩, ⟨9, .phase⟩, ⟨10, .phase⟩], none⟩ ?_
          refine wpAnyH_done (by kernel_rfl) ?_ _
          refine NoPanic.normal ?_
          go_wp2_with fail
          go_meet
          exact HNX.out
        focus
          go_simp
          refine hK.out _ _ kp (fun hHeld => ?_)
          clear hK K
          try simp only [PT]
          refine rqS [5] (rqC ⟨some 22, .call ⟨.value (.func 49), #[.tmp 17, .tmp 21], #[25, 9]⟩, 73, "ref.go:30", #[⟨0, .data⟩, ⟨4, .data⟩], none⟩ (fun K hK => ?_) rq0)
          go_simp
          (go_at_call 49; (with_reducible refine (RFI.out _ hHeld.1).mono ?_); rintro e w8 ⟨v8, rfl, hv8, hb8⟩; have HV8 := hide hv8; have hk8 : Below wr.heap.size wr w8 ∧ True := ⟨hHeld.1.trans (hb8.mono hHeld.1.size), trivial⟩; have hk8z : Below wr.heap.size wr (w8.alloc (.cells zeroN 25)) ∧ True := ⟨hk8.1.alloc hk8.1.size _, trivial⟩; unfold zeroN at hk8z; (try have HBz := hide (Blk.below hb8 (show Blk _ wr.heap.size zeroN 25 from Blk.newAt rfl))); clear hv8)
          go_wp2_with fail
          refine hK.out _ _ kp (fun hHeld => ?_)
          clear hK K
          try simp only [PT]
          refine tkZ 6 ⟨some 16, .move (.tmp 22), 73, "ref.go:30", #[⟨5, .data⟩], none⟩ ?_
          refine tkZ 7 ⟨some 23, .extract (.tmp 16) 0, 25, "ref.go:30", #[⟨6, .data⟩], none⟩ ?_
          refine tkZ 8 ⟨some 24, .extract (.tmp 16) 1, 4, "ref.go:30", #[⟨6, .data⟩, ⟨10, .gcOnly .lateStores⟩], none⟩ ?_
          refine rqS [10] (rqC ⟨none, .store 25 (.tmp 6) (.tmp 23), 0, "ref.go:30", #[⟨9, .data⟩, ⟨7, .data⟩, ⟨5, .chain⟩, ⟨0, .phase⟩, ⟨1, .phase⟩, ⟨2, .phase⟩, ⟨3, .phase⟩, ⟨4, .phase⟩, ⟨5, .phase⟩, ⟨6, .phase⟩, ⟨7, .phase⟩, ⟨8, .textOnly .lateStores⟩, ⟨9, .phase⟩], none⟩ (fun K hK => ?_) rq0)
          obtain ⟨ca, hca, hzca, h1ca⟩ := HV8.out.cells; subst hca; (first | (refine step_store_tree rfl (.tmp 6) (.tmp 23) rfl (.agg ca) _ rfl rfl HV8.out ?_; rintro ca2 e2 - -; injection e2 with e2; subst e2; have hk9 : Below wr.heap.size wr (w8.alloc (.cells ca 25)) ∧ True := ⟨hk8.1.alloc hk8.1.size _, trivial⟩; have HNX := hide (NodeX.of HV8.out (show Blk (w8.alloc (.cells ca 25)) w8.heap.size ca 25 from Blk.newAt rfl) hk9.1 hk8.1.size)) | (refine step_store_rowG rfl 25 (.tmp 6) (.tmp 23) rfl wr.heap.size ca rfl rfl 25 zeroN HBz.out (infN hzca) (by rw [hzca]; rfl) h1ca ?_; have hk9 : Below wr.heap.size wr (w8.setRow wr.heap.size ca) ∧ True := ⟨hk8.1.trans ((FrO.setRow (O := fun j => j = wr.heap.size) rfl).below hk8.1.size (fun j hj => by omega)), trivial⟩; have HNX := hide (NodeX.of HV8.out (setRow_heap _ _ _ _ _ _ HBz.out) hk9.1 (Nat.le_refl _))))
          refine hK.out _ _ kp (fun hHeld => ?_)
          clear hK K
          try simp only [PT]
          refine tkZ 11 ⟨some 7, .assign (.tmp 24), 4, "ref.go:30", #[⟨8, .data⟩, ⟨10, .chain⟩, ⟨0, .phase⟩, ⟨1, .phase⟩, ⟨2, .phase⟩, ⟨3, .phase⟩, ⟨4, .phase⟩, ⟨5, .phase⟩, ⟨6, .phase⟩, ⟨7, .phase⟩, ⟨8, .phase⟩, ⟨9, .phase⟩, ⟨10, .phase⟩], none⟩ ?_
          refine wpAnyH_done (by kernel_rfl) ?_ _
          refine NoPanic.normal ?_
          go_wp2_with fail
          go_meet
          exact HNX.out
      case rest =>
      obtain ⟨b5, A4, c4, A2, c2, rfl, hNB, hb5, -⟩ := hcut
      have HNB := hide hNB
      rename World => W5
      clear RFI HNr hk0 hk0d hkz hkz2 hNB
      have d1 := HNB.out.c1
      have d2 := HNB.out.c2
      have hbel5 := HB.out.trans (hb5.mono hszr)
      have HO5 := hide (below_row' HO.out hb5)
      have c5 : W5.cell? ⟨g, o + k, none⟩ = some (.string p) := (hb5.cell (p := ⟨g, o + k, none⟩) hgl).trans HC0.out
      clear HO HNB hb5 HB HC0
      have hlen : ((ps.take k).filter (isF t)).length ≤ 6000 := Nat.le_trans (List.length_filter_le _ _) (by rw [List.length_take]; omega)
      by_cases q : x.h.kind = 1 ∧ x.h.data ≠ eS
      · obtain ⟨q2, q3⟩ := q
        have hIF : isF t p = true := by rw [HIF.out]; exact decide_eq_true ⟨q2, q3⟩
        rw [hIF, if_pos rfl] at HNX
        have n3 := bne_nil_n q3
        have n4 := beq_nil_n q3
        rw [q2] at d1
        clear hIF HIF q2
        have hbw5 := hbel5.size
        go_wp2_with (at_builtin; refine wpList_append_blk _ rfl _ _ 26 rfl w3.heap.size 9 strInfo Tryz.underlying26 rfl (by decide) (.slice ao ((ps.take k).filter (isF t)).length cap) _ _ (HO5.out.alloc _) W5.heap.size #[.string p] (Blk.newAt rfl) rfl rfl rfl (by simp [Value.oneCell']) (by unfold maxLen; omega) (by omega) (by rw [World.size_alloc]; omega) ?_; intro v6 w6 hown6 hnb6 hg6)
        have hbel6 : Below w3.heap.size w3 w6 := (hbel5.alloc hbw5 _).grown hg6 (by rw [World.size_alloc]; omega) (fun q hq => (HO5.out.lt q hq).1)
        go_roundw
        case rel => exact ⟨k + 1, by go_num, by omega, by rw [HNX.out, List.length_append, ← strV_snoc]; exact hown6, hbel6⟩
        case measure => simp [intOf]; omega
      · have hIF : isF t p = false := by rw [HIF.out]; exact decide_eq_false q
        rw [hIF] at HNX
        have HNX2 := hide (show (ps.take (k + 1)).filter (isF t) = (ps.take k).filter (isF t) by rw [HNX.out, if_neg (by decide), List.append_nil])
        clear hIF HIF HNX
        by_cases q2 : x.h.kind = 1
        · have q3 : x.h.data = eS := by
            rcases Classical.em (x.h.data = eS) with h | h
            · exact h
            · exact absurd ⟨q2, h⟩ q
          have n3 := bne_nil_y q3
          have n4 := beq_nil_y q3
          rw [q2] at d1
          clear q q2 q3
          go_wp2_with fail
          go_roundw
          case rel => exact ⟨k + 1, by go_num, by omega, by rw [HNX2.out]; exact HO5.out, hbel5⟩
          case measure => simp [intOf]; omega
        · have n1 : (x.h.kind == 1) = false := by rw [beq_eq_false_iff_ne]; exact q2
          clear q q2
          go_wp2_with fail
          go_roundw
          case rel => exact ⟨k + 1, by go_num, by omega, by rw [HNX2.out]; exact HO5.out, hbel5⟩
          case measure => simp [intOf]; omega
    · obtain rfl : k = ps.length := by omega
      have HO2 := HO.out
      rw [List.take_length] at HO2
      have HO3 := hide HO2
      clear HO2
      go_wp2_with fail
      go_ret
      exact ⟨_, rfl, by rw [HFT.out]; exact own_base HO3.out hbel3.out.size, hbel3.out.trans (HB.out.mono hbel3.out.size)⟩
end Go.Proofs.YtocgindpjjolpaaGreatDoor
