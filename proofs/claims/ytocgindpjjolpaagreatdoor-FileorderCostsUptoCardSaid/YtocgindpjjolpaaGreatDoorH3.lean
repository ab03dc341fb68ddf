/- Contracts and plain words for the laws of this chapter, part 3: V2, V3, V4, W1, W2, W3, W4. No condition. -/
import Derived.Test.YtocgindpjjolpaaGreatDoorH2
namespace Go.Proofs.YtocgindpjjolpaaGreatDoor
set_option linter.unusedSimpArgs false
set_option linter.unusedVariables false
open Go.RowKit
theorem walkT_eq {S : Type} (step : S → Tr → ByteArray → Nat → Bool × S) (t : Tr) (p : ByteArray) (l : Nat) (s : S) : walkT step t p l s = if (step s t p l).1 = true then walkF step t.ks p l (step s t p l).2 else step s t p l := rfl
theorem walkF_node {S : Type} (step : S → Tr → ByteArray → Nat → Bool × S) (h : Hd) (ss : List St) (ks nx : Fo) (p : ByteArray) (l : Nat) (s : S) : walkF step (.node h ss ks nx) p l s =
    if (walkT step ⟨h, ss, ks⟩ (belowP p h.name l) (l + 1) s).1 = true then walkF step nx p l (walkT step ⟨h, ss, ks⟩ (belowP p h.name l) (l + 1) s).2 else walkT step ⟨h, ss, ks⟩ (belowP p h.name l) (l + 1) s := by
  unfold walkT
  conv => lhs; unfold walkF
  dsimp only
  by_cases h1 : (step s ⟨h, ss, ks⟩ (belowP p h.name l) (l + 1)).1 = true
  · rw [if_pos h1, if_pos h1]
  · rw [if_neg h1, if_neg h1, if_neg h1]
theorem setRow_alloc (W : World) (old cells : Array Value) (T : TypeId) : (W.alloc (.cells old T)).setRow W.heap.size cells = W.alloc (.cells cells T) := by
  have key : (W.heap.push (Obj.cells old T)).modify W.heap.size (fun x => match x with
      | .cells _ elem frozen => .cells cells elem frozen
      | o => o) = W.heap.push (Obj.cells cells T) := by
    apply Array.ext
    · simp
    · intro i h1 h2
      rw [Array.getElem_modify, Array.getElem_push, Array.getElem_push]
      by_cases hi : i < W.heap.size
      · rw [if_neg (by omega), dif_pos hi, dif_pos hi]
      · have : i = W.heap.size := by simp at h2; omega
        subst this
        simp
  show ({ W with heap := _ } : World) = { W with heap := _ }
  congr 1
theorem wpList_store_new {P : Program} {ops : Array Oper} {rest : List Oper} {o : Oper} {a : Act} {W : World} {Q : Exit → Act → World → Prop} (hgd : o.guard = none) (ty : TypeId) (x y : Operand) (ho : o.op = .store ty x y)
    (cells : Array Value) (hx : a.eval x = .pointer (some ⟨W.heap.size, 0, none⟩)) (hy : a.eval y = .agg cells)
    (t : TypeId) (old : Array Value) (hi : (P.info? ty).map (·.size) = some cells.size)
    (hold : old.size = cells.size) (h1 : cells.all (·.oneCell') = true)
    (h : wpList P ops Q rest (a.put o.dst undef) (W.alloc (.cells cells t))) : wpList P ops Q (o :: rest) a (W.alloc (.cells old t)) := by
  refine wpList_store_row hgd ty x y ho W.heap.size cells hx hy t old (heap_alloc_new W _) hi hold h1 ?_
  rw [setRow_alloc]
  exact h
theorem TreeR.c0 {w : World} {B : Nat} {kc : Array Value} {t : Tr} (h : TreeR w B (.agg kc) t) : kc[0]? = some (.string t.h.name) := by
  obtain ⟨kv, sv, e, _⟩ := h
  injection e with e
  rw [e]; rfl
theorem exec_load_row {P : Program} {o : Oper} {ev : Operand → Value} {w : World} (ty : TypeId) (x : Operand) (ho : o.op = .load ty x)
    (g : Nat) (hx : ev x = .pointer (some ⟨g, 0, none⟩)) (t : TypeId) (cs : Array Value) (fr : Nat × Nat) (d : TypeDesc) (hg : w.heap[g]? = some (.cells cs t fr))
    (hu : P.underlying ty = some d) (hd : (match d with | .struct _ | .array _ _ => true | _ => false) = true) (hi : (P.info? ty).map (·.size) = some cs.size) : (execOp ev o).run P w = .ok (.value (.agg cs)) w := by
  unfold execOp
  simp only [ho, hx, Instr.loadAt, Instr.sureAddr, Sem.run_bind, Sem.run_pure, Result.andThen_ok, run_loadVar_row w g t ty cs fr d hg hu hd hi]
def WPost {S : Type} (I : S → (Nat → Prop) → World → Prop) (O : Nat → Prop) (w : World) (r : Bool × S) (e : Ending) (w' : World) : Prop := e = .returned (.bool r.1) ∧ (∃ O', I r.2 O' w' ∧ ∀ j, O' j → O j ∨ w.heap.size ≤ j) ∧ FrO O w w'
set_option maxRecDepth 100000 in
set_option maxHeartbeats 4000000 in
theorem walk_gen {S : Type} {step : S → Tr → ByteArray → Nat → Bool × S} {G : S → Tr → Prop} {I : S → (Nat → Prop) → World → Prop} {B Z g : Nat} {lb : Array Value} (V : VisitG step G I B Z g lb) :
    ∀ (N : Nat), ∀ (t : Tr), t.count ≤ N → t.sz ≤ Z → Z ≤ 2000000000 → ∀ (p : ByteArray) (l : Nat), 1 ≤ l → p.size + l + t.ks.wt ≤ 100000000 → ∀ (s : S) (O : Nat → Prop) (v : Value) (w : World), goodT step G t p l s → I s O w → B ≤ w.heap.size → TreeR w B v t →
      Calls Tryz.prog 80 #[v, .string p, .int .i64 (l : Int), .func (.func g) #[] lb] w (WPost I O w (walkT step t p l s))
  | 0, t, ht, _, _, _, _, _, _, _, _, _, _, _, _, _, _ => by unfold Tr.count at ht; omega
  | N + 1, t, ht, hsz, hZ, p, l, hl1, hpl, s, O, v, w, hgd, hI, hBw, hv => by
    have HG := hide hgd
    have IH := hide (walk_gen V N)
    have HVO := hide V
    have HI := hide hI
    have HV := hide hv
    have HW := hide (walkT_eq step t p l s)
    obtain ⟨A, c, A2, c2, rfl, hk, -⟩ := hv.open
    have HL0 := hide (Left.of hk)
    have eg := V.enters
    have hOB : ∀ j, O j → B ≤ j := fun j h => (V.own _ _ _ _ hI h).1
    have HOB := hide hOB
    clear hv hk hI V hOB hgd
    have HL : Live w [] := trivial
    go_enter Tryz.func80, Tryz.ntmps80
    go_upto_region 1 with fail
    have HN := hide (NodeB.new w t.h (.slice A t.ks.len c) (.slice A2 t.ss.length c2))
    have hbelA : Below w.heap.size w (w.alloc (.cells (t.h.cells (.slice A t.ks.len c) (.slice A2 t.ss.length c2)) 25)) := by (exact bl)
    have HI1 := hide (HVO.out.keepN _ _ _ (t.h.cells (.slice A t.ks.len c) (.slice A2 t.ss.length c2)) HI.out)
    have hb0 : ¬ O w.heap.size := fun h => by have := (HVO.out.own _ _ _ _ HI.out h).2; omega
    have hB1 : B ≤ (w.alloc (.cells (t.h.cells (.slice A t.ks.len c) (.slice A2 t.ss.length c2)) 25)).heap.size := Nat.le_trans hBw hbelA.size
    have HV1 := hide (HV.out.below (hbelA.mono hBw))
    generalize w.alloc (.cells (t.h.cells (.slice A t.ks.len c) (.slice A2 t.ss.length c2)) 25) = W1 at *
    obtain ⟨b, hb⟩ : ∃ b, b = w.heap.size := ⟨_, rfl⟩
    rw [← hb] at HN hb0 ⊢
    have hbw : w.heap.size ≤ b := by omega
    clear hb HV HI
    have VS := hide (HVO.out.visit s t p l (.agg (t.h.cells (.slice A t.ks.len c) (.slice A2 t.ss.length c2))) O W1 HG.out.1 hsz hl1 (by omega) HI1.out hB1 HV1.out)
    obtain ⟨ok, s1, hst⟩ : ∃ ok s1, step s t p l = (ok, s1) := ⟨_, _, rfl⟩
    have HG2 := hide HG.out.2
    rw [hst] at VS HW HG2
    clear hst HG
    cases ok
    case false =>
      have HR := hide (show walkT step t p l s = (false, s1) from HW.out)
      go_wp2_with (first | (refine wpList_load_row rfl 25 (.tmp 4) rfl b rfl 25 (t.h.cells (.slice A t.ks.len c) (.slice A2 t.ss.length c2)) (0, 0) _ HN.out.blk Tryz.underlying25 rfl (infN (Hd.size _ _ _)) ?_) | (go_at_fn g; refine VS.out.mono ?_; rintro e w3 ⟨rfl, ⟨O3, hI3, hO3⟩, hf3⟩))
      go_ret
      exact ⟨by rw [HR.out]; rfl, ⟨O3, by rw [HR.out]; exact hI3, fun j h => (hO3 j h).elim Or.inl (fun h2 => Or.inr (Nat.le_trans hbelA.size h2))⟩, (FrO.of hbelA).trans hf3 (fun j h => Or.inl h)⟩
    case true =>
    have HR := hide (show walkT step t p l s = walkF step t.ks p l s1 from HW.out)
    have HG3 := hide (show goodF step G t.ks p l s1 from HG2.out rfl)
    clear HW HG2
    go_upto_region 3 with (first | (refine wpList_load_row rfl 25 (.tmp 4) rfl b rfl 25 (t.h.cells (.slice A t.ks.len c) (.slice A2 t.ss.length c2)) (0, 0) _ HN.out.blk Tryz.underlying25 rfl (infN (Hd.size _ _ _)) ?_) | (go_at_fn g; refine VS.out.mono ?_; rintro e w3 ⟨rfl, ⟨O3, hI3, hO3⟩, hf3⟩))
    have e10 := (NodeB.mk (hf3.blk HN.out.blk hb0)).c10
    have hF3 : FrO O w w3 := (FrO.of hbelA).trans hf3 (fun j h => Or.inl h)
    have hO3' : ∀ j, O3 j → O j ∨ w.heap.size ≤ j := fun j h => (hO3 j h).elim Or.inl (fun h2 => Or.inr (Nat.le_trans hbelA.size h2))
    have hts := t.ks.len_sz
    have hlk2 : t.ks.len ≤ 2000000000 := by unfold Tr.sz at hsz; omega
    clear VS HN HI1 HV1 hb0 hB1 hbelA hbw hf3 hO3 hts
    go_wp2_with fail
    clear e10
    go_loopw [20] (fun i wr => ∃ (k : Nat) (r : Fo) (s' : S) (O' : Nat → Prop), i = .int .i64 (k : Int) ∧ k + r.len = t.ks.len ∧ r.count + 1 ≤ t.count ∧ r.sz ≤ t.sz ∧ r.wt ≤ t.ks.wt ∧ Left w B A r k ∧ I s' O' wr ∧ (∀ j, O' j → O j ∨ w.heap.size ≤ j) ∧ FrO O w wr ∧ walkF step t.ks p l s1 = walkF step r p l s' ∧ goodF step G r p l s') (fun i _ => t.ks.len - (intOf i).toNat)
    case atStart => exact ⟨0, t.ks, s1, O3, rfl, by omega, by unfold Tr.count; omega, by unfold Tr.sz; omega, by omega, HL0.out, hI3, hO3', hF3, rfl, HG3.out⟩
    case round =>
      clear HL0 hI3 hO3' hF3 HG3
      obtain ⟨k, r, s', O', rfl, hkr, hrc, hrs, hrw, hl, hI', hO', hF, hwf, hgr⟩ := hrel
      have HGR := hide hgr
      have HLr := hide hl
      have HI' := hide hI'
      have HO' := hide hO'
      have HF := hide hF
      have HC := hide hwf
      clear hl hI' hO' hF hwf hgr
      cases r with
      | nil =>
        rw [Fo.len_nil] at hkr
        obtain rfl : k = t.ks.len := by omega
        have HZ := hide (show walkT step t p l s = (true, s') by rw [HR.out, HC.out]; rfl)
        go_wp2_with fail
        go_ret
        exact ⟨by rw [HZ.out]; rfl, ⟨O', by rw [HZ.out]; exact HI'.out, HO'.out⟩, HF.out⟩
      | node h ss ks nx =>
      rw [Fo.len_node] at hkr
      rw [Fo.count_node] at hrc
      rw [Fo.sz_node] at hrs
      rw [Fo.wt_node] at hrw
      have hlt : k < t.ks.len := by omega
      have hBl : Below B w wr := HF.out.below hBw HOB.out
      obtain ⟨go, o, kc, rfl, hg, hr, hz, h1c, htr, hln⟩ := HLr.out.next
      have R1 := hide (range_below hBl hg hr)
      have HLn := hide hln
      have HZ := hide hz
      have H1C := hide h1c
      have HT := hide (htr.below hBl)
      have hBr : B ≤ wr.heap.size := Nat.le_trans hBw HF.out.size
      clear hr hz h1c htr hln HLr
      go_upto_region 6 with (first | (refine wpList_load_midA rfl 25 (.tmp 22) rfl go (o + k * 12) rfl kc _ R1.out Tryz.underlying25 rfl (infNl HZ.out) ?_) | (refine wpList_store_new rfl 25 (.tmp 10) (.tmp 23) rfl kc rfl rfl 25 _ (infN HZ.out) (by rw [HZ.out]; rfl) H1C.out ?_))
      have hbN : Below wr.heap.size wr (wr.alloc (.cells kc 25)) := (Below.refl _ _).alloc (Nat.le_refl _) _
      have HD := hide (show Blk (wr.alloc (.cells kc 25)) wr.heap.size kc 25 from Blk.newAt rfl)
      have HI5 := hide (HVO.out.keepN _ _ _ kc HI'.out)
      have hdO : ¬ O' wr.heap.size := fun h => by have := (HVO.out.own _ _ _ _ HI'.out h).2; omega
      have hF5 : FrO O w (wr.alloc (.cells kc 25)) := HF.out.trans (FrO.of (O := O') hbN) HO'.out
      have HT5 := hide (HT.out.below (hbN.mono hBr))
      have hB5 : B ≤ (wr.alloc (.cells kc 25)).heap.size := Nat.le_trans hBr hbN.size
      generalize wr.alloc (.cells kc 25) = W5 at *
      generalize wr.heap.size = d at *
      clear hbN HI' HF HT hBr hBl R1
      obtain ⟨q, hq⟩ : ∃ q, belowP p h.name l = q := ⟨_, rfl⟩
      have hqs : q.size ≤ p.size + 1 + h.name.size := by rw [← hq]; exact bel_size p h.name l
      have hpn : p.size + h.name.size ≤ 2000000000 := by omega
      have hIdr : I s' O' W5.drew := HVO.out.keepD _ _ _ HI5.out
      have WK0 := IH.out ⟨h, ss, ks⟩ (by show ks.count + 1 ≤ N; omega) (by show h.sz + szS ss + ks.sz ≤ Z; omega) hZ q (l + 1) (by omega) (by show q.size + (l + 1) + ks.wt ≤ 100000000; omega) s' O' (.agg kc) W5.drew (by have := (goodF_node.1 HGR.out).1; rw [hq] at this; exact this) hIdr hB5 (HT5.out.below ((Below.refl _ _).drew))
      obtain ⟨ok, s2, hst⟩ : ∃ ok s2, walkT step ⟨h, ss, ks⟩ q (l + 1) s' = (ok, s2) := ⟨_, _, rfl⟩
      have HGN := hide (goodF_node.1 HGR.out).2
      rw [hq, hst] at HGN
      have HW2 := hide (show walkF step t.ks p l s1 = if ok = true then walkF step nx p l s2 else (ok, s2) by rw [HC.out, walkF_node, hq, hst])
      rw [hst] at WK0
      have WK := hide (show Calls Tryz.prog 80 #[.agg kc, .string q, .int .i64 ((l : Int) + 1), .func (.func g) #[] lb] W5.drew (WPost I O' W5.drew (ok, s2)) from WK0)
      have BE := hide (fun W => below_any p h.name l hpn W)
      rw [hq] at BE
      have hkeepd : Blk W5.drew d kc 25 ∧ W5.drew.cell? ⟨d, 0, none⟩ = some (.string h.name) := ⟨HD.out, (HD.out.cells 0).trans HT5.out.c0⟩
      have hkeep : Blk W5 d kc 25 ∧ W5.cell? ⟨d, 0, none⟩ = some (.string h.name) := hkeepd
      have hl64 : IntKind.i64.wrap ((l : Int) + 1) = (l : Int) + 1 := IntWalk.i64_in _ (by omega)
      clear hst WK0 IH HC hq hIdr
      refine wp_region_noPanic ?_
      refine wp_region_held_drew (S := (fun z => Blk z d kc 25 ∧ z.cell? ⟨d, 0, none⟩ = some (.string h.name))) (by kernel_rfl) kp (fun hHeld => ?_)
      refine tkZ 0 ⟨some 24, .load 25 (.tmp 10), 25, "sourcetree.go:52", #[], none⟩ ?_ (by intro w hSw; (try dsimp only at hSw); refine (exec_load_row 25 (.tmp 10) (by rfl) d (by rfl) 25 kc (0, 0) _ hSw.1 Tryz.underlying25 (by rfl) (infN HZ.out)).trans ?_; with_reducible rfl)
      refine tkZ 1 ⟨some 25, .move (.tmp 1), 9, "sourcetree.go:52", #[], none⟩ ?_
      refine tkZ 2 ⟨some 26, .fieldAddr 25 (.tmp 10) 0, 0, "sourcetree.go:52", #[], none⟩ ?_
      refine tkZ 3 ⟨some 27, .load 9 (.tmp 26), 9, "sourcetree.go:52", #[⟨2, .data⟩], none⟩ ?_ (by intro w hSw; (try dsimp only at hSw); have c1 := hSw.2; go_simp; (try with_reducible rfl))
      refine tkZ 4 ⟨some 28, .move (.tmp 2), 3, "sourcetree.go:52", #[], none⟩ ?_
      refine tkZ 5 ⟨some 29, .binOp .add 3 (.tmp 28) (.const (.int .i64 1)) 3, 3, "sourcetree.go:52", #[⟨4, .data⟩], none⟩ ?_
      refine tkZ 7 ⟨some 31, .move (.tmp 2), 3, "sourcetree.go:52", #[], none⟩ ?_
      refine tkZ 8 ⟨some 32, .binOp .add 3 (.tmp 31) (.const (.int .i64 1)) 3, 3, "sourcetree.go:52", #[⟨7, .data⟩], none⟩ ?_
      refine tkZ 9 ⟨some 33, .move (.tmp 3), 101, "sourcetree.go:52", #[], none⟩ ?_
      refine rqS [6] (rqC ⟨some 30, .call ⟨.value (.func 114), #[.tmp 25, .tmp 27, .tmp 29], #[9, 9, 3]⟩, 9, "sourcetree.go:52", #[⟨1, .data⟩, ⟨3, .data⟩, ⟨5, .data⟩], none⟩ (fun K hK => ?_) rq0)
      go_simp
      (go_at_call 114; (with_reducible refine (BE.out _).mono ?_); rintro e w' ⟨rfl, rfl⟩)
      go_wp2_with fail
      refine hK.out _ _ kp (fun hHeld => ?_)
      clear hK K
      try simp only [PT]
      refine rqS [10] (rqC ⟨some 34, .call ⟨.value (.func 80), #[.tmp 24, .tmp 30, .tmp 32, .tmp 33], #[25, 9, 3, 101]⟩, 4, "sourcetree.go:52", #[⟨0, .data⟩, ⟨6, .data⟩, ⟨8, .data⟩, ⟨9, .data⟩, ⟨6, .chain⟩], none⟩ (fun K hK => ?_) rq0)
      go_simp
      (go_at_call 80; (with_reducible refine (WK.out ).mono ?_); rintro e w8 ⟨rfl, ⟨O8, hI8, hO8⟩, hf8⟩; have hkeep8 : Blk w8 d kc 25 ∧ w8.cell? ⟨d, 0, none⟩ = some (.string h.name) := ⟨hf8.blk hkeepd.1 hdO, ((hf8.blk hkeepd.1 hdO).cells 0).trans HT5.out.c0⟩)
      go_wp2_with fail
      refine hK.out _ _ kp (fun hHeld => ?_)
      clear hK K
      try simp only [PT]
      refine tkZ 11 ⟨some 35, .unOp .not 4 (.tmp 34), 4, "sourcetree.go:52", #[⟨10, .data⟩], none⟩ ?_
      refine wpAnyH_done (by kernel_rfl) ?_ _
      refine NoPanic.normal ?_
      have hdr : Below W5.heap.size W5 W5.drew := (Below.refl _ _).drew
      have hO8' : ∀ j, O8 j → O j ∨ w.heap.size ≤ j := fun j h => (hO8 j h).elim (HO'.out j) (fun h2 => Or.inr (Nat.le_trans hF5.size h2))
      have hF8 : FrO O w w8 := (hF5.trans (FrO.of (O := O) hdr) (fun j h => Or.inl h)).trans hf8 HO'.out
      clear hkeep hkeepd hkeep8 hHeld hl64
      cases ok
      case true =>
        have HE := hide (show walkF step t.ks p l s1 = walkF step nx p l s2 from HW2.out)
        go_wp2_with fail
        go_roundw
        case rel => exact ⟨k + 1, nx, s2, O8, by go_num, by omega, by omega, by omega, by omega, HLn.out, hI8, hO8', hF8, HE.out, HGN.out rfl⟩
        case measure => simp [intOf]; omega
      case false =>
        have HE := hide (show walkT step t p l s = (false, s2) by rw [HR.out, HW2.out]; rfl)
        go_wp2_with fail
        go_ret
        exact ⟨by rw [HE.out]; rfl, ⟨O8, by rw [HE.out]; exact hI8, hO8'⟩, hF8⟩
theorem walk_any {S : Type} {step : S → Tr → ByteArray → Nat → Bool × S} {G : S → Tr → Prop} {I : S → (Nat → Prop) → World → Prop} {B Z g : Nat} {lb : Array Value} (V : VisitOK step G I B Z g lb) :
    ∀ (N : Nat), ∀ (t : Tr), t.count ≤ N → t.sz ≤ Z → Z ≤ 2000000000 → ∀ (p : ByteArray) (l : Nat), 1 ≤ l → p.size + l + t.ks.wt ≤ 100000000 → ∀ (s : S) (O : Nat → Prop) (v : Value) (w : World), goodT step G t p l s → I s O w → B ≤ w.heap.size → TreeR w B v t →
      Calls Tryz.prog 80 #[v, .string p, .int .i64 (l : Int), .func (.func g) #[] lb] w (WPost I O w (walkT step t p l s)) := walk_gen V.gen
theorem wrap_succ (x : Int) : IntKind.i64.wrap (IntKind.i64.wrap x + 1) = IntKind.i64.wrap (x + 1) := by
  rw [IntKind.wrap_i64, IntKind.wrap_i64, IntKind.wrap_i64]; omega
def CntI (c : Nat) (s : Nat) (O : Nat → Prop) (w : World) : Prop := O = (fun j => j = c) ∧ Blk w c #[.int .i64 (IntKind.i64.wrap (s : Int))] 3
set_option maxRecDepth 100000 in
set_option maxHeartbeats 1000000 in
theorem count1_any (s c : Nat) (cells : Array Value) (p : ByteArray) (l : Int) (w : World) (hc : Blk w c #[.int .i64 (IntKind.i64.wrap (s : Int))] 3) :
    Calls Tryz.prog 142 #[.agg cells, .string p, .int .i64 l, .pointer (some ⟨c, 0, none⟩)] w fun e w' => e = .returned (.bool true) ∧ Blk w' c #[.int .i64 (IntKind.i64.wrap ((s + 1 : Nat) : Int))] 3 ∧ FrO (fun j => j = c) w w' := by
  have HS := hide (show IntKind.i64.wrap (IntKind.i64.wrap (s : Int) + 1) = IntKind.i64.wrap ((s + 1 : Nat) : Int) by rw [wrap_succ]; rfl)
  generalize IntKind.i64.wrap ((s + 1 : Nat) : Int) = x1 at *
  generalize IntKind.i64.wrap (s : Int) = x0 at *
  have HC := hide hc
  have hlt := hc.lt
  clear hc
  have HL : Live w [] := trivial
  go_enter Tryz.func142, Tryz.ntmps142
  go_upto_region 1 with fail
  have HC1 := hide (HC.out.alloc (.cells cells 25))
  have hbel1 : Below w.heap.size w (w.alloc (.cells cells 25)) := by (exact bl)
  generalize w.alloc (.cells cells 25) = W1 at *
  have c0 : W1.cell? ⟨c, 0, none⟩ = some (.int .i64 x0) := HC1.out.cells 0
  have f0 : W1.frozen? ⟨c, 0, none⟩ = false := HC1.out.free 0
  have hw := HS.out
  go_wp2_with fail
  go_ret
  refine ⟨rfl, HC1.out.put rfl, ?_⟩
  exact (FrO.of hbel1).trans (O' := fun j => j = c) ⟨rfl, rfl, rfl, by simp [World.setCell], fun j _ hn => Below.heap_setCell _ _ _ _ hn⟩ (fun j h => Or.inl h)
theorem count_visit (c B Z : Nat) (hc : B ≤ c) : VisitOK (fun (s : Nat) _ _ _ => (true, s + 1)) (fun _ _ => True) (CntI c) B Z 142 #[.pointer (some ⟨c, 0, none⟩)] :=
  ⟨enters_of Tryz.func142 (by kernel_rfl) rfl,
  fun s O w j ⟨e, hb⟩ h => by subst e; subst h; exact ⟨hc, hb.lt⟩,
  fun s O w w' ⟨e, hb⟩ h => ⟨e, Blk.below h hb⟩,
  fun s t p l v O w _ _ _ _ ⟨e, hb⟩ _ hv => by
    subst e
    obtain ⟨cells, rfl, -, -⟩ := hv.cells
    exact (count1_any s c cells p l w hb).mono fun e w' ⟨h1, h2, h3⟩ => ⟨h1, ⟨_, ⟨rfl, h2⟩, fun j h => Or.inl h⟩, h3⟩⟩
theorem count_lt {t : Tr} (h : t.sz ≤ 50000000) : t.count ≤ 50000000 := by have := t.count_sz; omega
set_option maxRecDepth 100000 in
set_option maxHeartbeats 2000000 in
theorem count_any (t : Tr) (hsz : t.sz ≤ 50000000) (v : Value) (w : World) (hv : TreeR w w.heap.size v t) : Calls Tryz.prog 117 #[v] w fun e w' => e = .returned (.int .i64 (t.count : Int)) ∧ Below w.heap.size w w' := by
  have HV := hide hv
  obtain ⟨cells, rfl, hz, h1c⟩ := hv.cells
  have HZ := hide hz
  have hcn := count_lt hsz
  clear hv hz h1c
  have HL : Live w [] := trivial
  go_enter Tryz.func117, Tryz.ntmps117
  go_upto_region 1 with fail
  have HB := hide (show Blk (w.alloc (.cells cells 25)) w.heap.size cells 25 from Blk.newAt rfl)
  have hbel1 : Below w.heap.size w (w.alloc (.cells cells 25)) := by (exact bl)
  generalize w.alloc (.cells cells 25) = W1 at *
  obtain ⟨b, hb⟩ : ∃ b, b = w.heap.size := ⟨_, rfl⟩
  rw [← hb] at HB ⊢
  clear hb
  go_upto_region 2 with fail
  have HB2 := hide (HB.out.alloc (.cells #[.int .i64 0] 3))
  have HC := hide (show CntI W1.heap.size 0 (fun j => j = W1.heap.size) (W1.alloc (.cells #[.int .i64 0] 3)) from ⟨rfl, Blk.newAt rfl⟩)
  have hbel2 : Below w.heap.size w (W1.alloc (.cells #[.int .i64 0] 3)) := hbel1.alloc hbel1.size _
  have hcB : w.heap.size ≤ W1.heap.size := hbel1.size
  generalize W1.alloc (.cells #[.int .i64 0] 3) = W2 at *
  generalize W1.heap.size = c at *
  have WK0 := walk_any (count_visit c w.heap.size 50000000 hcB) 50000000 t hcn hsz (by omega) eS 1 (by omega) (by have := t.ks.wt_sz; unfold Tr.sz at hsz; show 0 + 1 + _ ≤ _; omega) 0 _ (.agg cells) W2 (goodT_true _ _ _ _ _) HC.out hbel2.size (HV.out.below hbel2)
  rw [walkT_count] at WK0
  have WK := hide (show Calls Tryz.prog 80 #[.agg cells, .string ⟨#[]⟩, .int .i64 1, .func (.func 142) #[] #[.pointer (some ⟨c, 0, none⟩)]] W2 (WPost (CntI c) (fun j => j = c) W2 (true, t.count)) from WK0)
  clear WK0 HB HV hbel1
  go_upto_region 3 with (first | (refine wpList_load_row rfl 25 (.tmp 1) rfl b rfl 25 cells (0, 0) _ HB2.out Tryz.underlying25 rfl (infN HZ.out) ?_) | (go_at_call 80; refine WK.out.mono ?_; rintro e w3 ⟨rfl, ⟨O3, ⟨hO3, hb3⟩, -⟩, hf3⟩))
  have hbel3 : Below w.heap.size w w3 := hbel2.trans (hf3.below hbel2.size (fun j h => by subst h; exact hcB))
  have c0 : w3.cell? ⟨c, 0, none⟩ = some (.int .i64 (t.count : Int)) := (hb3.cells 0).trans (by rw [IntWalk.i64_in _ (by omega)]; rfl)
  clear hb3 hf3 hO3
  go_wp2_with fail
  go_ret
  exact ⟨rfl, hbel3⟩
def ruleC (h : Hd) (kv sv : Value) (l : Nat) : Array Value := #[.string h.name, .int .i64 h.kind, .string h.data, .string h.target, .int .i64 h.mode, .int .i64 h.uid, .int .i64 h.gid, .int .i64 h.time, .int .i64 h.weight, .int .i64 h.hidden, kv, sv, .int .i64 (l : Int)]
structure RuleB (w : World) (b : Nat) (h : Hd) (kv sv : Value) (l : Nat) : Prop where
  blk : Blk w b (ruleC h kv sv l) 143
section
variable {w : World} {b : Nat} {h : Hd} {kv sv : Value} {l : Nat} (n : RuleB w b h kv sv l)
include n
theorem RuleB.c0 : w.cell? ⟨b, 0, none⟩ = some (.string h.name) := n.blk.cells 0
theorem RuleB.c1 : w.cell? ⟨b, 1, none⟩ = some (.int .i64 h.kind) := n.blk.cells 1
theorem RuleB.c2 : w.cell? ⟨b, 2, none⟩ = some (.string h.data) := n.blk.cells 2
theorem RuleB.c3 : w.cell? ⟨b, 3, none⟩ = some (.string h.target) := n.blk.cells 3
theorem RuleB.c10 : w.cell? ⟨b, 10, none⟩ = some kv := n.blk.cells 10
theorem RuleB.c11 : w.cell? ⟨b, 11, none⟩ = some sv := n.blk.cells 11
theorem RuleB.c12 : w.cell? ⟨b, 12, none⟩ = some (.int .i64 (l : Int)) := n.blk.cells 12
end
theorem RuleB.new (w : World) (h : Hd) (kv sv : Value) (l : Nat) : RuleB (w.alloc (.cells (ruleC h kv sv l) 143)) w.heap.size h kv sv l := ⟨Blk.newAt rfl⟩
theorem RuleB.below {w w' : World} {b : Nat} {h : Hd} {kv sv : Value} {l : Nat} (hb : Below w.heap.size w w') (n : RuleB w b h kv sv l) : RuleB w' b h kv sv l := ⟨Blk.below hb n.blk⟩
set_option maxRecDepth 100000 in
set_option maxHeartbeats 1000000 in
theorem rkind_any (h : Hd) (kv sv : Value) (l : Nat) (w : World) : Calls Tryz.prog 119 #[.agg (ruleC h kv sv l)] w fun e w' => e = .returned (.int .i64 (kindE h l)) ∧ Below w.heap.size w w' := by
  have HK := hide (kindE_eq h l)
  have HL : Live w [] := trivial
  go_enter Tryz.func119, Tryz.ntmps119
  go_upto_region 1 with fail
  have HN := hide (RuleB.new w h kv sv l)
  have hbel1 : Below w.heap.size w (w.alloc (.cells (ruleC h kv sv l) 143)) := by (exact bl)
  generalize w.alloc (.cells (ruleC h kv sv l) 143) = W1 at *
  obtain ⟨b, hb⟩ : ∃ b, b = w.heap.size := ⟨_, rfl⟩
  rw [← hb] at HN ⊢
  clear hb
  have d1 := HN.out.c1
  have d12 := HN.out.c12
  go_cut [23] (fun v wx => v = .bool (kindB h l) ∧ wx = W1)
  case first =>
    clear HN hbel1 HK
    by_cases q : l = 1
    case pos =>
      have q1 : ((l : Int) == 1) = true := by simp; omega
      have HQ := hide q
      clear q
      go_wp2_with fail
      all_goals
        go_meet
        refine ⟨?_, rfl⟩
        have hq := HQ.out
        unfold kindB
        refine congrArg Value.bool ?_
        rw [Bool.eq_iff_iff]
        simp [hq]
        try omega
    case neg =>
      have q1 : ((l : Int) == 1) = false := by simp; omega
      have HQ := hide q
      clear q
      go_wp2_with fail
      all_goals
        go_meet
        refine ⟨?_, rfl⟩
        have hq := HQ.out
        unfold kindB
        refine congrArg Value.bool ?_
        rw [Bool.eq_iff_iff]
        simp [hq]
        try omega
  case rest =>
  obtain ⟨rfl, rfl⟩ := hcut
  cases h1 : kindB h l
  · have HR := hide (show kindE h l = 0 by rw [HK.out, h1, if_neg (by decide)])
    clear h1
    go_wp2_with fail
    go_ret
    exact ⟨ret_i HR.out.symm, hbel1⟩
  · have HR := hide (show kindE h l = 1 by rw [HK.out, h1, if_pos rfl])
    clear h1
    go_wp2_with fail
    go_ret
    exact ⟨ret_i HR.out.symm, hbel1⟩
set_option maxRecDepth 100000 in
set_option maxHeartbeats 1000000 in
theorem rtgt_any (h : Hd) (kv sv : Value) (l : Nat) (hs : h.target.size ≤ 120000) (w : World) (hT : TabV w) : Calls Tryz.prog 122 #[.agg (ruleC h kv sv l)] w fun e w' => e = .returned (.int .i64 (targetE h)) ∧ Below w.heap.size w w' := by
  have HK := hide (targetE_eq h)
  have HL : Live w [] := trivial
  go_enter Tryz.func122, Tryz.ntmps122
  go_upto_region 1 with fail
  have HN := hide (RuleB.new w h kv sv l)
  have hbel1 : Below w.heap.size w (w.alloc (.cells (ruleC h kv sv l) 143)) := by (exact bl)
  have hT1 := hT.below hbel1
  generalize w.alloc (.cells (ruleC h kv sv l) 143) = W1 at *
  obtain ⟨b, hb⟩ : ∃ b, b = w.heap.size := ⟨_, rfl⟩
  rw [← hb] at HN ⊢
  clear hb
  have d1 := HN.out.c1
  have d3 := HN.out.c3
  by_cases q : h.kind = 2
  case pos =>
    have q1 : (h.kind == 2) = true := by simpa using q
    cases ht : targetB h.target
    · have HR := hide (show targetE h = 4 by unfold targetE; rw [if_pos ⟨q, ht⟩])
      have TG := hide (fun W hW => target_any h.target hs W hW)
      rw [ht] at TG
      clear q ht
      go_wp2_with (go_at_call 144; refine (TG.out _ hT1).mono ?_; rintro e w3 ⟨rfl, hb3⟩)
      go_ret
      exact ⟨ret_i HR.out.symm, hbel1.trans (hb3.mono hbel1.size)⟩
    · have HR := hide (show targetE h = 0 by unfold targetE; rw [if_neg (by rw [ht]; simp)])
      have TG := hide (fun W hW => target_any h.target hs W hW)
      rw [ht] at TG
      clear q ht
      go_wp2_with (go_at_call 144; refine (TG.out _ hT1).mono ?_; rintro e w3 ⟨rfl, hb3⟩)
      go_ret
      exact ⟨ret_i HR.out.symm, hbel1.trans (hb3.mono hbel1.size)⟩
  case neg =>
    have q1 : (h.kind == 2) = false := by simpa using q
    have HR := hide (show targetE h = 0 by unfold targetE; rw [if_neg (fun e => q e.1)])
    clear q
    go_wp2_with fail
    go_ret
    exact ⟨ret_i HR.out.symm, hbel1⟩
def inB (x lo hi : Int) : Bool := decide (lo ≤ x) && decide (x ≤ hi)
theorem ranged_in (h : Hd) : rangedB h = (inB h.mode 0 4095 && inB h.uid 0 65535 && inB h.gid 0 65535 && inB h.time 315532800 4102444799 && inB h.weight (-1048576) 1048576 && inB h.hidden 0 15) := by
  unfold rangedB inB
  rw [Bool.eq_iff_iff]
  simp
  omega
set_option maxHeartbeats 1000000 in
theorem in_any (x lo hi : Int) (w : World) : Calls Tryz.prog 145 #[.int .i64 x, .int .i64 lo, .int .i64 hi] w fun e w' => e = .returned (.bool (inB x lo hi)) ∧ w = w' := by
  have HI := hide (show inB x lo hi = (decide (lo ≤ x) && decide (x ≤ hi)) from rfl)
  go_enter Tryz.func145, Tryz.ntmps145
  by_cases q : lo ≤ x
  · have q1 : decide (lo ≤ x) = true := decide_eq_true q
    have HQ := hide q
    go_wp2_with fail
    go_ret
    exact ⟨ret_b (by rw [HI.out, decide_eq_true HQ.out, Bool.true_and]), rfl⟩
  · have q1 : decide (lo ≤ x) = false := decide_eq_false q
    have HQ := hide q
    go_wp2_with fail
    go_ret
    exact ⟨ret_b (by rw [HI.out, decide_eq_false (by have := HQ.out; omega), Bool.false_and]), rfl⟩
set_option maxRecDepth 100000 in
set_option maxHeartbeats 1000000 in
theorem rname1_any (h : Hd) (kv sv : Value) (l : Nat) (hl : 1 ≤ l) (hs : h.name.size ≤ 120000) (w : World) (hT : TabV w) : Calls Tryz.prog 120 #[.agg (ruleC h kv sv l)] w fun e w' => e = .returned (.int .i64 (nameE h l)) ∧ Below w.heap.size w w' := by
  have HL : Live w [] := trivial
  go_enter Tryz.func120, Tryz.ntmps120
  go_upto_region 1 with fail
  have HN := hide (RuleB.new w h kv sv l)
  have hbel1 : Below w.heap.size w (w.alloc (.cells (ruleC h kv sv l) 143)) := by (exact bl)
  have hT1 := hT.below hbel1
  generalize w.alloc (.cells (ruleC h kv sv l) 143) = W1 at *
  obtain ⟨b, hb⟩ : ∃ b, b = w.heap.size := ⟨_, rfl⟩
  rw [← hb] at HN ⊢
  clear hb
  have d0 := HN.out.c0
  have d12 := HN.out.c12
  by_cases q : l = 1
  case pos =>
    have q1 : ((l : Int) == 1) = true := by simp; omega
    have q2 : decide ((1 : Int) < (l : Int)) = false := decide_eq_false (by omega)
    have q3 : decide (1 < l) = false := decide_eq_false (by omega)
    have HQ := hide q
    clear q hl
    by_cases he : h.name.toList = []
    · have heq : h.name.toList.isEmpty = true := by rw [he]; rfl
      have HR := hide (show nameE h l = 0 by unfold nameE; rw [if_neg]; rw [HQ.out]; simp [emp_iff, he])
      go_wp2_with fail
      go_ret
      exact ⟨ret_i HR.out.symm, hbel1⟩
    · have heq : h.name.toList.isEmpty = false := by simpa using he
      have HR := hide (show nameE h l = 4 by unfold nameE; rw [if_pos]; rw [HQ.out]; simp [emp_iff, he])
      go_wp2_with fail
      go_ret
      exact ⟨ret_i HR.out.symm, hbel1⟩
  case neg =>
    have q1 : ((l : Int) == 1) = false := by simp; omega
    have q2 : decide ((1 : Int) < (l : Int)) = true := decide_eq_true (by omega)
    have q3 : decide (1 < l) = true := decide_eq_true (by omega)
    have HQ := hide (show 1 < l by omega)
    clear q hl
    have NM := hide (fun W hW => name_any h.name hs W hW)
    cases hn : nameB h.name
    · have HR := hide (show nameE h l = 4 by unfold nameE; rw [if_pos (Or.inr ⟨HQ.out, hn⟩)])
      rw [hn] at NM
      clear hn
      go_wp2_with (go_at_call 143; refine (NM.out _ hT1.1).mono ?_; rintro e w3 ⟨rfl, hb3⟩)
      go_ret
      exact ⟨ret_i HR.out.symm, hbel1.trans (hb3.mono hbel1.size)⟩
    · have HR := hide (show nameE h l = 0 by
        unfold nameE
        rw [if_neg]
        rintro (⟨e, _⟩ | ⟨_, e⟩)
        · have := HQ.out; omega
        · rw [hn] at e; cases e)
      rw [hn] at NM
      clear hn
      go_wp2_with (go_at_call 143; refine (NM.out _ hT1.1).mono ?_; rintro e w3 ⟨rfl, hb3⟩)
      go_ret
      exact ⟨ret_i HR.out.symm, hbel1.trans (hb3.mono hbel1.size)⟩
theorem RuleB.row {w : World} {b : Nat} {h : Hd} {kv sv : Value} {l : Nat} (n : RuleB w b h kv sv l) : w.rangeAt b 0 (h.cells kv sv).toList := fun j u hu => by
  have e : (ruleC h kv sv l).toList = (h.cells kv sv).toList ++ [.int .i64 (l : Int)] := rfl
  rw [Nat.zero_add, n.blk.cells j, ← Array.getElem?_toList, e, List.getElem?_append_left (List.getElem?_eq_some_iff.1 hu).1, hu]
theorem one12 (h : Hd) (A : Option Addr) (n c : Nat) (A2 : Option Addr) (n2 c2 : Nat) : (h.cells (.slice A n c) (.slice A2 n2 c2)).all (·.oneCell') = true := by kernel_rfl
theorem inC (x lo hi : Int) (w : World) : Calls Tryz.prog 145 #[.int .i64 x, .int .i64 lo, .int .i64 hi] w fun e w' => e = .returned (.bool (inB x lo hi)) ∧ w = w' := in_any x lo hi w
set_option maxRecDepth 100000 in
set_option maxHeartbeats 2000000 in
theorem rnum_any (h : Hd) (A : Option Addr) (n c : Nat) (A2 : Option Addr) (n2 c2 : Nat) (l : Nat) (w : World) : Calls Tryz.prog 123 #[.agg (ruleC h (.slice A n c) (.slice A2 n2 c2) l)] w fun e w' => e = .returned (.int .i64 (numE h)) ∧ Below w.heap.size w w' := by
  have HK := hide (show numE h = if rangedB h = true then 0 else 2 from rfl)
  have HL : Live w [] := trivial
  go_enter Tryz.func123, Tryz.ntmps123
  go_upto_region 1 with fail
  have HN := hide (RuleB.new w h (.slice A n c) (.slice A2 n2 c2) l)
  have hbel1 : Below w.heap.size w (w.alloc (.cells (ruleC h (.slice A n c) (.slice A2 n2 c2) l) 143)) := by (exact bl)
  generalize w.alloc (.cells (ruleC h (.slice A n c) (.slice A2 n2 c2) l) 143) = W1 at *
  obtain ⟨b, hb⟩ : ∃ b, b = w.heap.size := ⟨_, rfl⟩
  rw [← hb] at HN ⊢
  clear hb
  go_upto_region 2 with (first | (refine wpList_load_midA rfl 25 (.tmp 5) rfl b 0 rfl (h.cells (.slice A n c) (.slice A2 n2 c2)) _ HN.out.row Tryz.underlying25 rfl (infNl rfl) ?_) | (refine wpList_store_new rfl 25 (.tmp 3) (.tmp 6) rfl (h.cells (.slice A n c) (.slice A2 n2 c2)) rfl rfl 25 _ (infN rfl) rfl (one12 _ _ _ _ _ _ _) ?_))
  have HM := hide (NodeB.new W1 h (.slice A n c) (.slice A2 n2 c2))
  have hbel2 : Below w.heap.size w (W1.alloc (.cells (h.cells (.slice A n c) (.slice A2 n2 c2)) 25)) := hbel1.alloc hbel1.size _
  generalize W1.alloc (.cells (h.cells (.slice A n c) (.slice A2 n2 c2)) 25) = W2 at *
  generalize W1.heap.size = d at *
  have d4 := HM.out.c4
  have d5 := HM.out.c5
  have d6 := HM.out.c6
  have d7 := HM.out.c7
  have d8 := HM.out.c8
  have d9 := HM.out.c9
  have HR := hide (ranged_in h)
  clear HN hbel1 HM
  go_wp2_with (first | (go_at_call 145; (with_reducible refine (inC _ _ _ _).mono ?_); rintro e w' ⟨rfl, rfl⟩))
  all_goals
    go_ret
    refine ⟨ret_i ?_, hbel2⟩
    rw [HK.out, HR.out]
    simp_all
set_option maxRecDepth 100000 in
set_option maxHeartbeats 4000000 in
theorem rparts_any (t : Tr) (A : Option Addr) (c : Nat) (A2 : Option Addr) (c2 : Nat) (l : Nat) (w : World) : Calls Tryz.prog 121 #[.agg (ruleC t.h (.slice A t.ks.len c) (.slice A2 t.ss.length c2) l)] w fun e w' => e = .returned (.int .i64 (partsE t)) ∧ Below w.heap.size w w' := by
  have HK := hide (partsE_eq t)
  have HL : Live w [] := trivial
  go_enter Tryz.func121, Tryz.ntmps121
  go_upto_region 1 with fail
  have HN := hide (RuleB.new w t.h (.slice A t.ks.len c) (.slice A2 t.ss.length c2) l)
  have hbel1 : Below w.heap.size w (w.alloc (.cells (ruleC t.h (.slice A t.ks.len c) (.slice A2 t.ss.length c2) l) 143)) := by (exact bl)
  generalize w.alloc (.cells (ruleC t.h (.slice A t.ks.len c) (.slice A2 t.ss.length c2) l) 143) = W1 at *
  obtain ⟨b, hb⟩ : ∃ b, b = w.heap.size := ⟨_, rfl⟩
  rw [← hb] at HN ⊢
  clear hb
  go_upto_region 2 with (first | (refine wpList_load_midA rfl 25 (.tmp 4) rfl b 0 rfl (t.h.cells (.slice A t.ks.len c) (.slice A2 t.ss.length c2)) _ HN.out.row Tryz.underlying25 rfl (infNl rfl) ?_) | (refine wpList_store_new rfl 25 (.tmp 3) (.tmp 5) rfl (t.h.cells (.slice A t.ks.len c) (.slice A2 t.ss.length c2)) rfl rfl 25 _ (infN rfl) rfl (one12 _ _ _ _ _ _ _) ?_))
  have HM := hide (NodeB.new W1 t.h (.slice A t.ks.len c) (.slice A2 t.ss.length c2))
  have hbel2 : Below w.heap.size w (W1.alloc (.cells (t.h.cells (.slice A t.ks.len c) (.slice A2 t.ss.length c2)) 25)) := hbel1.alloc hbel1.size _
  generalize W1.alloc (.cells (t.h.cells (.slice A t.ks.len c) (.slice A2 t.ss.length c2)) 25) = W2 at *
  generalize W1.heap.size = d at *
  have d1 := HM.out.c1
  have d2 := HM.out.c2
  have d3 := HM.out.c3
  have d10 := HM.out.c10
  have d11 := HM.out.c11
  clear HN hbel1
  dsimp only [Act.put]
  go_cut [40] (fun v wx => v = .bool (parB t) ∧ wx = W2)
  case first =>
    as_aux_lemma =>
      clear HM hbel2 HK
      by_cases q1 : t.h.kind = 1
      case pos =>
        have k1 : (t.h.kind != 1) = false := by rw [q1]; rfl
        have k2 : (t.h.kind != 2) = true := by rw [q1]; rfl
        have k0 : (t.h.kind != 0) = true := by rw [q1]; rfl
        have HQ := hide q1
        clear q1
        by_cases htg : t.h.target.toList = []
        · have htgq : t.h.target.toList.isEmpty = true := by rw [htg]; rfl
          by_cases hks : 0 < t.ks.len
          · have hksq : decide (0 < t.ks.len) = true := decide_eq_true hks
            go_wp2_with fail
            all_goals
              go_meet
              refine ⟨congrArg Value.bool ?_, rfl⟩
              have hq := HQ.out
              unfold parB
              rw [Bool.eq_iff_iff]
              simp [hq, emp_iff, *]
              try omega
          · have hksq : decide (0 < t.ks.len) = false := decide_eq_false hks
            go_wp2_with fail
            all_goals
              go_meet
              refine ⟨congrArg Value.bool ?_, rfl⟩
              have hq := HQ.out
              unfold parB
              rw [Bool.eq_iff_iff]
              simp [hq, emp_iff, *]
              try omega
        · have htgq : t.h.target.toList.isEmpty = false := by simpa using htg
          go_wp2_with fail
          all_goals
            go_meet
            refine ⟨congrArg Value.bool ?_, rfl⟩
            have hq := HQ.out
            unfold parB
            rw [Bool.eq_iff_iff]
            simp [hq, emp_iff, *]
            try omega
      case neg =>
      by_cases q2 : t.h.kind = 2
      case pos =>
        have k1 : (t.h.kind != 1) = true := by rw [q2]; rfl
        have k2 : (t.h.kind != 2) = false := by rw [q2]; rfl
        have k0 : (t.h.kind != 0) = true := by rw [q2]; rfl
        have HQ := hide q2
        clear q2 q1
        by_cases hdt : t.h.data.toList = []
        · have hdtq : t.h.data.toList.isEmpty = true := by rw [hdt]; rfl
          by_cases hsl : 0 < t.ss.length
          · have hslq : decide (0 < t.ss.length) = true := decide_eq_true hsl
            go_wp2_with fail
            all_goals
              go_meet
              refine ⟨congrArg Value.bool ?_, rfl⟩
              have hq := HQ.out
              unfold parB
              rw [Bool.eq_iff_iff]
              simp [hq, emp_iff, *]
              try omega
          · have hslq : decide (0 < t.ss.length) = false := decide_eq_false hsl
            by_cases hks : 0 < t.ks.len
            · have hksq : decide (0 < t.ks.len) = true := decide_eq_true hks
              go_wp2_with fail
              all_goals
                go_meet
                refine ⟨congrArg Value.bool ?_, rfl⟩
                have hq := HQ.out
                unfold parB
                rw [Bool.eq_iff_iff]
                simp [hq, emp_iff, *]
                try omega
            · have hksq : decide (0 < t.ks.len) = false := decide_eq_false hks
              go_wp2_with fail
              all_goals
                go_meet
                refine ⟨congrArg Value.bool ?_, rfl⟩
                have hq := HQ.out
                unfold parB
                rw [Bool.eq_iff_iff]
                simp [hq, emp_iff, *]
                try omega
        · have hdtq : t.h.data.toList.isEmpty = false := by simpa using hdt
          go_wp2_with fail
          all_goals
            go_meet
            refine ⟨congrArg Value.bool ?_, rfl⟩
            have hq := HQ.out
            unfold parB
            rw [Bool.eq_iff_iff]
            simp [hq, emp_iff, *]
            try omega
      case neg =>
      by_cases q0 : t.h.kind = 0
      case pos =>
        have k1 : (t.h.kind != 1) = true := by rw [q0]; rfl
        have k2 : (t.h.kind != 2) = true := by rw [q0]; rfl
        have k0 : (t.h.kind != 0) = false := by rw [q0]; rfl
        have HQ := hide q0
        clear q0 q1 q2
        by_cases hdt : t.h.data.toList = []
        · have hdtq : t.h.data.toList.isEmpty = true := by rw [hdt]; rfl
          by_cases hsl : 0 < t.ss.length
          · have hslq : decide (0 < t.ss.length) = true := decide_eq_true hsl
            go_wp2_with fail
            all_goals
              go_meet
              refine ⟨congrArg Value.bool ?_, rfl⟩
              have hq := HQ.out
              unfold parB
              rw [Bool.eq_iff_iff]
              simp [hq, emp_iff, *]
              try omega
          · have hslq : decide (0 < t.ss.length) = false := decide_eq_false hsl
            by_cases htg : t.h.target.toList = []
            · have htgq : t.h.target.toList.isEmpty = true := by rw [htg]; rfl
              go_wp2_with fail
              all_goals
                go_meet
                refine ⟨congrArg Value.bool ?_, rfl⟩
                have hq := HQ.out
                unfold parB
                rw [Bool.eq_iff_iff]
                simp [hq, emp_iff, *]
                try omega
            · have htgq : t.h.target.toList.isEmpty = false := by simpa using htg
              go_wp2_with fail
              all_goals
                go_meet
                refine ⟨congrArg Value.bool ?_, rfl⟩
                have hq := HQ.out
                unfold parB
                rw [Bool.eq_iff_iff]
                simp [hq, emp_iff, *]
                try omega
        · have hdtq : t.h.data.toList.isEmpty = false := by simpa using hdt
          go_wp2_with fail
          all_goals
            go_meet
            refine ⟨congrArg Value.bool ?_, rfl⟩
            have hq := HQ.out
            unfold parB
            rw [Bool.eq_iff_iff]
            simp [hq, emp_iff, *]
            try omega
      case neg =>
      have k1 : (t.h.kind != 1) = true := by simpa using q1
      have k2 : (t.h.kind != 2) = true := by simpa using q2
      have k0 : (t.h.kind != 0) = true := by simpa using q0
      have HQ := hide (And.intro q1 (And.intro q2 q0))
      clear q1 q2 q0
      by_cases hdt : t.h.data.toList = []
      · have hdtq : t.h.data.toList.isEmpty = true := by rw [hdt]; rfl
        by_cases hsl : 0 < t.ss.length
        · have hslq : decide (0 < t.ss.length) = true := decide_eq_true hsl
          go_wp2_with fail
          all_goals
            go_meet
            refine ⟨congrArg Value.bool ?_, rfl⟩
            have hq := HQ.out
            unfold parB
            rw [Bool.eq_iff_iff]
            simp [hq, emp_iff, *]
            try omega
        · have hslq : decide (0 < t.ss.length) = false := decide_eq_false hsl
          by_cases htg : t.h.target.toList = []
          · have htgq : t.h.target.toList.isEmpty = true := by rw [htg]; rfl
            by_cases hks : 0 < t.ks.len
            · have hksq : decide (0 < t.ks.len) = true := decide_eq_true hks
              go_wp2_with fail
              all_goals
                go_meet
                refine ⟨congrArg Value.bool ?_, rfl⟩
                have hq := HQ.out
                unfold parB
                rw [Bool.eq_iff_iff]
                simp [hq, emp_iff, *]
                try omega
            · have hksq : decide (0 < t.ks.len) = false := decide_eq_false hks
              go_wp2_with fail
              all_goals
                go_meet
                refine ⟨congrArg Value.bool ?_, rfl⟩
                have hq := HQ.out
                unfold parB
                rw [Bool.eq_iff_iff]
                simp [hq, emp_iff, *]
                try omega
          · have htgq : t.h.target.toList.isEmpty = false := by simpa using htg
            go_wp2_with fail
            all_goals
              go_meet
              refine ⟨congrArg Value.bool ?_, rfl⟩
              have hq := HQ.out
              unfold parB
              rw [Bool.eq_iff_iff]
              simp [hq, emp_iff, *]
              try omega
      · have hdtq : t.h.data.toList.isEmpty = false := by simpa using hdt
        go_wp2_with fail
        all_goals
          go_meet
          refine ⟨congrArg Value.bool ?_, rfl⟩
          have hq := HQ.out
          unfold parB
          rw [Bool.eq_iff_iff]
          simp [hq, emp_iff, *]
          try omega
  case rest =>
  obtain ⟨rfl, rfl⟩ := hcut
  cases h1 : parB t
  · have HR := hide (show partsE t = 0 by rw [HK.out, h1, if_neg (by decide)])
    clear h1
    go_wp2_with fail
    go_ret
    exact ⟨ret_i HR.out.symm, hbel2⟩
  · have HR := hide (show partsE t = 1 by rw [HK.out, h1, if_pos rfl])
    clear h1
    go_wp2_with fail
    go_ret
    exact ⟨ret_i HR.out.symm, hbel2⟩
end Go.Proofs.YtocgindpjjolpaaGreatDoor
