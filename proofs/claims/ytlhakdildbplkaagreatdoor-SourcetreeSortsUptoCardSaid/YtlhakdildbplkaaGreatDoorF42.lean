/- Contracts and plain words for the laws of this chapter, part 42: Rs2. No condition. -/
import Derived.Test.YtlhakdildbplkaaGreatDoorF41
namespace Go.Proofs.YtlhakdildbplkaaGreatDoor
set_option linter.unusedSimpArgs false
set_option linter.unusedVariables false
open Go.RowKit
theorem tail_ptr (g o c i n k : Nat) (hic : i ≤ c) (hnc : n ≤ c) : ∃ q, (if c = i then some (⟨g, o, none⟩ : Addr) else some ⟨g, o + i * k, none⟩) = some ⟨g, q, none⟩ ∧ (0 < n - i → q = o + i * k) := by
  by_cases h : c = i
  · exact ⟨o, by rw [if_pos h], fun h0 => by omega⟩
  · exact ⟨_, by rw [if_neg h], fun _ => rfl⟩
theorem grown_below {w w' : World} {lo : Nat} {row : Option Nat} (hg : w.grownBy w' row) (hlo : lo ≤ w.heap.size) (hr : ∀ j, row = some j → lo ≤ j) : Below lo w w' :=
  (FrO.grown (O := fun j => row = some j) hg (fun j h => h)).below hlo hr
def TreeN (lo : Nat) (w : World) (v : Value) (t : Tr) : Prop := ∀ w', FrO (fun j => j < lo) w w' → TreeR w' w'.heap.size v t
theorem TreeN.here {lo : Nat} {w : World} {v : Value} {t : Tr} (h : TreeN lo w v t) : TreeR w w.heap.size v t := h w (FrO.of (Below.refl _ _))
theorem TreeN.below {lo : Nat} {w w1 : World} {v : Value} {t : Tr} (hb : Below w.heap.size w w1) (h : TreeN lo w v t) : TreeN lo w1 v t := fun w' hf => h w' ((FrO.of hb).trans hf (fun j hj => Or.inl hj))
theorem TreeN.mono {lo lo' : Nat} (hl : lo' ≤ lo) {w : World} {v : Value} {t : Tr} (h : TreeN lo w v t) : TreeN lo' w v t := fun w' hf => h w' (FrO.mono (fun j hj => Nat.lt_of_lt_of_le hj hl) hf)
def RdX (lo : Nat) (w : World) (l : List It) : Prop := ∀ w', FrO (fun j => j < lo) w w' → RdL w' w'.heap.size l
theorem RdX.below {lo : Nat} {w w1 : World} {l : List It} (hb : Below w.heap.size w w1) (h : RdX lo w l) : RdX lo w1 l := fun w' hf => h w' ((FrO.of hb).trans hf (fun j hj => Or.inl hj))
theorem addR (b o i : Nat) : (⟨b, o, none⟩ : Addr).add i = ⟨b, o + i, none⟩ := by unfold Addr.add; split <;> simp_all
theorem belowN {n : Nat} {w w' : World} (h : Below n w w') (q : Nat) : Below n w (w'.drewN q) := ⟨h.os, h.tape, h.output, h.size, h.block⟩
theorem gtr_yes {a b : ByteArray} (h : bltB a b = true) : Op.bytesLess b.toList a.toList = false ∧ (b.toList == a.toList) = false := by
  constructor
  · show bltB b a = false
    cases hb : bltB b a with
    | false => rfl
    | true => have := blt_irrefl a; rw [blt_trans h hb] at this; cases this
  · rw [beq_eq_false_iff_ne]
    intro e
    have e2 : b = a := by
      apply ByteArray.ext
      apply Array.ext'
      rw [ByteArray.toList_eq, ByteArray.toList_eq] at e
      exact e
    subst e2
    rw [blt_irrefl] at h
    cases h
theorem gtr_no {a b : ByteArray} (h : bltB a b = false) (hne : b ≠ a) : Op.bytesLess b.toList a.toList = true := by
  show bltB b a = true
  cases hb : bltB b a with
  | true => rfl
  | false => exact absurd (blt_total hb h) hne
set_option maxRecDepth 100000 in
set_option maxHeartbeats 40000000 in
theorem rsort_any : ∀ (N : Nat), ∀ (t : Tr), t.count ≤ N → t.sz ≤ 500000 → ∀ (v : Value) (w : World), TreeR w w.heap.size v t → Calls Tryz.prog 39 #[v] w fun e w' => ∃ r, e = .returned r ∧ TreeN w.heap.size w' r (sortT t) ∧ Below w.heap.size w w'
  | 0, t, ht, _, _, _, _ => by unfold Tr.count at ht; omega
  | N + 1, t, ht, hsz, v, w, hv => by
    have IH := hide (rsort_any N)
    obtain ⟨A, c, A2, c2, rfl, hk, hst⟩ := hv.openL
    have HL0 := hide hk
    have HS0 := hide hst
    have hlss : t.ss.length ≤ 1000000 := by have := szS_len t.ss; have : t.sz = t.h.sz + szS t.ss + t.ks.sz := rfl; omega
    have hlks : t.ks.len ≤ 1000000 := by have := t.ks.len_sz; have : t.sz = t.h.sz + szS t.ss + t.ks.sz := rfl; omega
    have HSZ := hide (show t.ks.count ≤ N ∧ t.ks.sz ≤ 500000 from ⟨by unfold Tr.count at ht; omega, by have : t.sz = t.h.sz + szS t.ss + t.ks.sz := rfl; omega⟩)
    have HLl := hide (Fo.list_len t.ks)
    clear hk hv hst ht hsz
    have HL : Live w [] := trivial
    go_enter Tryz.func39, Tryz.ntmps39
    go_upto_region 1 with fail
    have HB := hide (show Blk ((w.alloc (.cells (t.h.cells (.slice A t.ks.len c) (.slice A2 t.ss.length c2)) 25)).alloc (.cells zeroN 25)) w.heap.size (t.h.cells (.slice A t.ks.len c) (.slice A2 t.ss.length c2)) 25 from (Blk.newAt rfl).alloc _)
    have HR := hide (show Blk ((w.alloc (.cells (t.h.cells (.slice A t.ks.len c) (.slice A2 t.ss.length c2)) 25)).alloc (.cells zeroN 25)) (w.heap.size + 1) zeroN 25 from Blk.newAt (by rw [World.size_alloc]))
    have hbel1 : Below w.heap.size w ((w.alloc (.cells (t.h.cells (.slice A t.ks.len c) (.slice A2 t.ss.length c2)) 25)).alloc (.cells zeroN 25)) := ((Below.refl _ _).alloc (Nat.le_refl _) _).alloc (by rw [World.size_alloc]; omega) _
    have hz1 : ((w.alloc (.cells (t.h.cells (.slice A t.ks.len c) (.slice A2 t.ss.length c2)) 25)).alloc (.cells zeroN 25)).heap.size = w.heap.size + 2 := by rw [World.size_alloc, World.size_alloc]
    obtain ⟨W1, hW1⟩ : ∃ W1, W1 = (w.alloc (.cells (t.h.cells (.slice A t.ks.len c) (.slice A2 t.ss.length c2)) 25)).alloc (.cells zeroN 25) := ⟨_, rfl⟩
    rw [← hW1] at HB HR hbel1 hz1
    unfold zeroN at hW1
    rw [← hW1]
    clear hW1
    obtain ⟨r, hr⟩ : ∃ r, r = w.heap.size + 1 := ⟨_, rfl⟩
    rw [← hr] at HR ⊢
    obtain ⟨b, hb⟩ : ∃ b, b = w.heap.size := ⟨_, rfl⟩
    rw [← hb] at HB ⊢
    obtain ⟨lo, hlo⟩ : ∃ lo, lo = W1.heap.size := ⟨_, rfl⟩
    have hlb : b < lo ∧ r < lo ∧ b ≠ r ∧ w.heap.size ≤ b ∧ w.heap.size ≤ r ∧ w.heap.size ≤ lo := by omega
    obtain ⟨hbW, hrW, hbr, hwb, hwr, hwlo⟩ := hlb
    have HLO := hide hlo
    clear hb hr hz1
    go_upto_region 2 with fail
    have HO2 := hide (show (W1.alloc (.cells #[] 25)).ownsRow lo 25 12 (.slice (some ⟨W1.heap.size, 0, none⟩) 0 0) 0 [] from World.ownsRow_lit W1 #[] 0 (Nat.le_of_eq hlo) (by decide) rfl)
    have hb12 : Below lo W1 (W1.alloc (.cells #[] 25)) := (Below.refl _ _).alloc (Nat.le_of_eq hlo) _
    generalize W1.alloc (.cells #[] 25) = W2 at *
    rw [← hlo] at HO2 ⊢
    clear hlo
    go_upto_block 0 with fail
    go_cut [3, 4, 5, 6] from 11 to 51 (fun kv _ _ _ wz => ∃ (lx : List It) (gk ck : Nat), kv = .slice (some ⟨gk, 0, none⟩) t.ks.len ck ∧ wz.ownsRow lo 25 12 (.slice (some ⟨gk, 0, none⟩) t.ks.len ck) t.ks.len (lx.flatMap encI) ∧ RdX lo wz lx ∧ lx.map (·.t) = sortL (·.h.name) (t.ks.list.map sortT) ∧ Below lo W1 wz)
    case first => as_aux_lemma =>
      clear HS0 HR hlss
      go_wp2_with fail
      go_loopw [3, 4] (fun kv iv wr => ∃ (k : Nat) (lx : List It) (gk ck : Nat), iv = .int .i64 (k : Int) ∧ k ≤ t.ks.len ∧ lx.length = k ∧ kv = .slice (some ⟨gk, 0, none⟩) k ck ∧ wr.ownsRow lo 25 12 (.slice (some ⟨gk, 0, none⟩) k ck) k (lx.flatMap encI) ∧ RdX lo wr lx ∧ lx.map (·.t) = sortL (·.h.name) ((t.ks.list.take k).map sortT) ∧ Below lo W1 wr) (fun _ iv _ => t.ks.len - (intOf iv).toNat)
      case atStart => exact ⟨0, [], lo, 0, rfl, Nat.zero_le _, rfl, rfl, HO2.out, fun _ _ x hx => (by cases hx), rfl, hb12⟩
      case round =>
        clear HO2 hb12
        obtain ⟨k, lx, gk, ck, rfl, hkn, hlx, rfl, hown, hrd, hmap, hbr1⟩ := hrel
        have HOW := hide hown
        have HRD := hide hrd
        have HMP := hide hmap
        have HBr := hide (show Blk wr b (t.h.cells (.slice A t.ks.len c) (.slice A2 t.ss.length c2)) 25 from (hbr1.block b hbW).trans HB.out)
        have hbel : Below w.heap.size w wr := hbel1.trans (hbr1.mono hwlo)
        have c10 : wr.cell? ⟨b, 10, none⟩ = some (.slice A t.ks.len c) := HBr.out.cells 10
        have hszr : lo ≤ wr.heap.size := by have := hbr1.size; rw [HLO.out]; exact this
        clear hown hrd hmap
        rcases Nat.lt_or_ge k t.ks.len with hlt | hge
        case inr =>
          obtain rfl : k = t.ks.len := by omega
          have HFIN := hide (show lx.map (·.t) = sortL (·.h.name) (t.ks.list.map sortT) by rw [HMP.out, ← HLl.out, List.take_length])
          go_wp2_with fail
          go_meet
          exact ⟨lx, gk, ck, rfl, HOW.out, HRD.out, HFIN.out, hbr1⟩
        case inl =>
        obtain ⟨x, hx⟩ : ∃ x, t.ks.list[k]? = some x := ⟨_, List.getElem?_eq_getElem (by rw [HLl.out]; exact hlt)⟩
        obtain ⟨g, o, kvx, svx, rfl, hg, hr0, hsx, hkx⟩ := (HL0.out.below hbel).at hx
        have HXC := hide (show x.count ≤ N ∧ x.sz ≤ 500000 from by
          have h1 := list_parts t.ks x (List.mem_of_getElem? hx)
          have h2 := HSZ.out
          omega)
        have R1 := hide hr0
        have HT := hide (show TreeR wr wr.heap.size (.agg (x.h.cells kvx svx)) x from ⟨_, _, rfl, hsx.mono hbel.size, hkx.mono hbel.size⟩)
        have RSO := hide (fun W (hW : TreeR W W.heap.size (.agg (x.h.cells kvx svx)) x) => IH.out x HXC.out.1 HXC.out.2 (.agg (x.h.cells kvx svx)) W hW)
        have HXK := hide hx
        clear hr0 hsx hkx hx IH
        go_upto_region 6 with (first | (refine wpList_load_midA rfl 25 (.tmp 21) rfl g (o + k * 12) rfl (x.h.cells kvx svx) _ R1.out Tryz.underlying25 rfl (infNl rfl) ?_) | (go_at_call 39; (with_reducible refine (RSO.out _ HT.out).mono ?_); rintro e w8 ⟨r8, rfl, HV80, hb8⟩; obtain ⟨A8, c8, A9, c9, rfl, hkk8, hss8⟩ := HV80.here.openL; have HV8 := hide HV80; clear HV80 hkk8 hss8) | (refine wpList_store_new rfl 25 (.tmp 5) (.tmp 23) rfl ((sortT x).h.cells (.slice A8 (sortT x).ks.len c8) (.slice A9 (sortT x).ss.length c9)) rfl rfl 25 _ (infN rfl) rfl (nodeLit _ _ _ _ _ _ _) ?_))
        obtain ⟨y, hy⟩ : ∃ y, y = sortT x := ⟨_, rfl⟩
        rw [← hy] at HV8 ⊢
        have HYX := hide hy
        clear hy
        obtain ⟨kc, hkc⟩ : ∃ kc, kc = y.h.cells (.slice A8 y.ks.len c8) (.slice A9 y.ss.length c9) := ⟨_, rfl⟩
        have HKC := hide hkc
        have HZ := hide (show kc.size = 12 by rw [hkc]; rfl)
        have H1C := hide (show kc.all (·.oneCell') = true by rw [hkc]; exact nodeLit _ _ _ _ _ _ _)
        have HC0 := hide (show kc[0]? = some (.string y.h.name) by rw [hkc]; rfl)
        rw [← hkc] at HV8 ⊢
        clear hkc
        have hb89 : Below wr.heap.size wr (w8.alloc (.cells kc 25)) := hb8.alloc hb8.size _
        have HD := hide (show Blk (w8.alloc (.cells kc 25)) w8.heap.size kc 25 from Blk.newAt rfl)
        have HV9 := hide ((HV8.out.mono hszr).below ((Below.refl _ _).alloc (Nat.le_refl _) (.cells kc 25)))
        have hz9 : (w8.alloc (.cells kc 25)).heap.size = w8.heap.size + 1 := by rw [World.size_alloc]
        have hz8 : wr.heap.size ≤ w8.heap.size := hb8.size
        generalize w8.alloc (.cells kc 25) = W9 at *
        obtain ⟨d, hd⟩ : ∃ d, d = w8.heap.size := ⟨_, rfl⟩
        rw [← hd] at HD hz9 hz8 ⊢
        have HOW9 := hide (below_row' HOW.out hb89)
        have HRD9 := hide (HRD.out.below hb89)
        have hbr9 : Below lo W1 W9 := hbr1.trans (hb89.mono hszr)
        have hgk9 : gk < wr.heap.size ∧ lo ≤ gk := by have := HOW.out.lt gk rfl; omega
        have hlo9 : lo ≤ W9.heap.size := by omega
        clear HOW HRD HBr hbel c10 hd hb8 hb89 HV8 HT RSO R1 hbr1 HL0 HB
        go_upto_block 2 with fail
        go_cut [6] from 26 to 40 (fun av wz => ∃ q : Nat, av = .int .i64 (q : Int) ∧ q ≤ k ∧ Below W9.heap.size W9 wz ∧ Hid (∀ z ∈ lx.drop q, bltB y.h.name z.t.h.name = true) ∧ Hid (q = 0 ∨ ∀ z, lx[q - 1]? = some z → bltB y.h.name z.t.h.name = false))
        case first =>
          go_wp2_with fail
          go_loopw [6] (fun av wr => ∃ q : Nat, av = .int .i64 (q : Int) ∧ q ≤ k ∧ Below W9.heap.size W9 wr ∧ Hid (∀ z ∈ lx.drop q, bltB y.h.name z.t.h.name = true)) (fun av _ => (intOf av).toNat)
          case atStart => exact ⟨k, rfl, Nat.le_refl _, Below.refl _ _, by show ∀ z ∈ lx.drop k, _; rw [← hlx, List.drop_length]; intro z hz; cases hz⟩
          case round =>
            obtain ⟨q, rfl, hqk, hbq, HGT⟩ := hrel
            rcases Nat.eq_zero_or_pos q with hq0 | hq0
            · subst hq0
              go_wp2_with fail
              go_quiet (fail)
              go_wp2_with fail
              go_meet
              exact ⟨0, rfl, Nat.zero_le _, belowN hbq _, HGT, Or.inl rfl⟩
            · obtain ⟨p, rfl⟩ : ∃ p, q = p + 1 := ⟨q - 1, by omega⟩
              obtain ⟨z, hz⟩ : ∃ z, lx[p]? = some z := ⟨_, List.getElem?_eq_getElem (by omega)⟩
              obtain ⟨ga, capa, ea, _, _, _, hcells⟩ := own_at HOW9.out (by omega)
              injection ea with ea1 ea2 ea3
              injection ea1 with ea1
              injection ea1 with ea1
              subst ea1
              subst ea3
              clear ea2
              have d0 := (hbq.cell (p := ⟨d, 0, none⟩) HD.out.lt).trans ((HD.out.cells 0).trans HC0.out)
              have e0 : wr.cell? ⟨gk, p * 12, none⟩ = some (.string z.t.h.name) := (hbq.cell (p := ⟨gk, p * 12, none⟩) (by show gk < _; omega)).trans (hcells _ _ (flat_get encI 12 encI_len lx p z hz 0 _ rfl))
              have hp0 : (p : Int) + 1 > 0 := by omega
              have hpk : (p : Int) < (k : Int) := by omega
              have HZ2 := hide hz
              clear hcells hz
              cases hbl : bltB y.h.name z.t.h.name
              case true =>
                obtain ⟨hbl2, hbl3⟩ := gtr_yes hbl
                have HBL := hide hbl
                clear hbl
                go_wp2_with fail
                go_quiet (fail)
                go_wp2_with fail
                go_roundw
                case rel => exact ⟨p, by go_num, by omega, belowN hbq _, by
                  show ∀ u ∈ lx.drop p, _
                  intro u hu
                  have hpl : p < lx.length := by omega
                  rw [List.drop_eq_getElem_cons hpl] at hu
                  rcases List.mem_cons.1 hu with rfl | hu
                  · have e1 := (List.getElem?_eq_some_iff.1 HZ2.out).2
                    rw [e1]
                    exact HBL.out
                  · exact HGT.out u hu⟩
                case measure => simp [intOf]
              case false =>
                have HBL := hide hbl
                by_cases hne : z.t.h.name = y.h.name
                · have hbl3 : (z.t.h.name.toList == y.h.name.toList) = true := by rw [hne]; exact beq_self_eq_true _
                  clear hbl hne
                  go_wp2_with fail
                  go_quiet (fail)
                  go_wp2_with fail
                  go_meet
                  exact ⟨p + 1, rfl, hqk, belowN hbq _, HGT, Or.inr (fun u hu => by
                    rw [Nat.add_sub_cancel, HZ2.out] at hu
                    injection hu with hu
                    rw [← hu]
                    exact HBL.out)⟩
                · have hbl2 := gtr_no hbl hne
                  clear hbl hne
                  go_wp2_with fail
                  go_quiet (fail)
                  go_wp2_with fail
                  go_meet
                  exact ⟨p + 1, rfl, hqk, belowN hbq _, HGT, Or.inr (fun u hu => by
                    rw [Nat.add_sub_cancel, HZ2.out] at hu
                    injection hu with hu
                    rw [← hu]
                    exact HBL.out)⟩
        obtain ⟨q, rfl, hqk, hbq, HGT, HLE⟩ := hcut
        have HOWc := hide (below_row' HOW9.out hbq)
        have HRDc := hide (HRD9.out.below hbq)
        have HVc := hide (HV9.out.below hbq)
        have hbrc : Below lo W1 wc := hbr9.trans (hbq.mono hlo9)
        have hloc : lo ≤ wc.heap.size := Nat.le_trans hlo9 hbq.size
        have hkck : k ≤ ck := by
          rcases HOWc.out.2 with ⟨e, _⟩ | ⟨g', cap, cur, e, _, _, h1, h2, _⟩
          · cases e
          · injection e with e1 e2 e3; omega
        have hgkc : gk < wc.heap.size ∧ lo ≤ gk := HOWc.out.lt gk rfl |>.symm
        have hkeepc : Blk wc d kc 25 ∧ True := ⟨Blk.below hbq HD.out, trivial⟩
        have hkeepd : Blk wc.drew d kc 25 ∧ True := ⟨Blk.below hbq.drew HD.out, trivial⟩
        have HXS := hide (show ∀ j u, (lx.flatMap encI)[j]? = some u → wc.cell? ((⟨gk, 0, none⟩ : Addr).add j) = some u from HOWc.out.cells (g := gk) rfl)
        have hdc : d < wc.heap.size := hkeepc.1.lt
        clear HOW9 HRD9 HV9 HD hbr9 hgk9 hlo9 hz8 hz9 hszr
        have q1 : (q : Int) ≤ (k : Int) := by omega
        have q2 : (q : Int) ≤ (ck : Int) := by omega
        obtain ⟨pq, hpq1, hpq2⟩ := tail_ptr gk 0 ck q k 12 (by omega) hkck
        rw [Nat.zero_add] at hpq1 hpq2
        have HQ1 := hide (show Value.slice (if ck = q then some (⟨gk, 0, none⟩ : Addr) else some ⟨gk, q * 12, none⟩) (k - q) (ck - q) = .slice (some ⟨gk, pq, none⟩) (k - q) (ck - q) by rw [hpq1])
        have HPQ2 := hide hpq2
        clear hpq1 hpq2
        obtain ⟨ft1, ft2⟩ := flat_take encI 12 encI_len lx q (by omega)
        have HTL := hide (show ((lx.take q).flatMap encI).length = q * 12 by rw [flat_len encI 12 encI_len, List.length_take]; congr 1; omega)
        have HDL := hide (show ((lx.drop q).flatMap encI).length = (k - q) * 12 by rw [flat_len encI 12 encI_len, List.length_drop, hlx])
        have HTC := hide (show ∀ j u, ((lx.take q).flatMap encI)[j]? = some u → wc.cell? ((⟨gk, 0, none⟩ : Addr).add j) = some u from fun j u hu => by
          rw [ft1, List.getElem?_take] at hu
          split at hu
          · exact HXS.out j u hu
          · cases hu)
        have HDC := hide (show ∀ j u, ((lx.drop q).flatMap encI)[j]? = some u → wc.cell? ((⟨gk, pq, none⟩ : Addr).add j) = some u from fun j u hu => by
          have hj : j < (k - q) * 12 := by have := (List.getElem?_eq_some_iff.1 hu).1; rw [HDL.out] at this; exact this
          rw [ft2, List.getElem?_drop] at hu
          have h1 := HXS.out _ u hu
          rw [addR] at h1 ⊢
          rw [HPQ2.out (by omega), ← Nat.zero_add (q * 12 + j)]
          exact h1)
        have HONE := hide (show ∀ u ∈ (lx.drop q).flatMap encI, u.oneCell' = true from fun u hu => by
          obtain ⟨z, hz, hzu⟩ := List.mem_flatMap.1 hu
          obtain ⟨h1, h2⟩ := HRDc.out wc (FrO.of (Below.refl _ _)) z (List.mem_of_mem_drop hz)
          obtain ⟨_, _, e1, _⟩ := h1
          obtain ⟨_, _, e2, _⟩ := h2
          exact encI_one z (by rw [e2]; rfl) (by rw [e1]; rfl) u hzu)
        clear ft1 ft2 HXS
        have e5 : wc.drew.heap.size = wc.heap.size := rfl
        go_upto_region 9 with fail
        refine wp_region_noPanic ?_
        refine wp_region_held_drew (S := (fun z => Blk z d kc 25 ∧ True)) (by kernel_rfl) kp (fun hHeld => ?_)
        refine tkY 0 ⟨some 41, .move (.tmp 3), 22, "ref.go:300", #[], none⟩ ?_ ?_ ?_
        rotate_left
        · intro w hSw; (try dsimp only at hSw); go_simp; (try with_reducible rfl)
        try simp only [PT]
        refine tkY 1 ⟨some 42, .move (.tmp 6), 3, "ref.go:300", #[], none⟩ ?_ ?_ ?_
        rotate_left
        · intro w hSw; (try dsimp only at hSw); go_simp; (try with_reducible rfl)
        try simp only [PT]
        refine tkY 2 ⟨some 43, .move (.tmp 6), 3, "ref.go:300", #[], none⟩ ?_ ?_ ?_
        rotate_left
        · intro w hSw; (try dsimp only at hSw); go_simp; (try with_reducible rfl)
        try simp only [PT]
        refine tkY 3 ⟨some 44, .slice 22 (.tmp 41) none (some (.tmp 42)) (some (.tmp 43)), 22, "ref.go:300", #[⟨0, .data⟩, ⟨1, .data⟩, ⟨2, .data⟩], none⟩ ?_ ?_ ?_
        rotate_left
        · intro w hSw; (try dsimp only at hSw); go_simp; (try with_reducible rfl)
        try simp only [PT]
        refine tkY 4 ⟨some 45, .load 25 (.tmp 5), 25, "ref.go:300", #[], none⟩ ?_ ?_ ?_
        rotate_left
        · intro w hSw; (try dsimp only at hSw); refine (exec_load_row 25 (.tmp 5) (by rfl) d (by rfl) 25 kc (0, 0) _ hSw.1 Tryz.underlying25 (by rfl) (infN HZ.out)).trans ?_; with_reducible rfl
        try simp only [PT]
        refine tkY 6 ⟨some 47, .move (.tmp 3), 22, "ref.go:300", #[], none⟩ ?_ ?_ ?_
        rotate_left
        · intro w hSw; (try dsimp only at hSw); go_simp; (try with_reducible rfl)
        try simp only [PT]
        refine tkY 7 ⟨some 48, .move (.tmp 6), 3, "ref.go:300", #[], none⟩ ?_ ?_ ?_
        rotate_left
        · intro w hSw; (try dsimp only at hSw); go_simp; (try with_reducible rfl)
        try simp only [PT]
        refine tkY 8 ⟨some 49, .slice 22 (.tmp 47) (some (.tmp 48)) none none, 22, "ref.go:300", #[⟨6, .data⟩, ⟨7, .data⟩], none⟩ ?_ ?_ ?_
        rotate_left
        · intro w hSw; (try dsimp only at hSw); go_simp; (try with_reducible rfl)
        try simp only [PT]
        refine wpAnyH_ready (rs := [5]) (by kernel_rfl) (by simp) ?_
        refine AllReadyH.cons (o := ⟨some 46, .buildSlice 22 1 #[(0, .tmp 45)], 22, "ref.go:300", #[⟨4, .data⟩], none⟩) rfl (fun K hK => ?_) AllReadyH.nil
        refine step_buildNodeA (by rfl) (.tmp 45) (by rfl) kc HZ.out (by rfl) ?_; have hb10 : Below wc.heap.size wc (wc.drew.alloc (.cells kc 25)) := ((Below.refl wc.heap.size wc).drew).alloc (Nat.le_refl _) _; have HK10 := hide (show (wc.drew.alloc (.cells kc 25)).ownsRow lo 25 12 (.slice (some ⟨wc.heap.size, 0, none⟩) 1 1) 1 kc.toList from World.ownsRow_lit wc.drew kc 1 hloc (by decide) HZ.out); have hkeep10 : Blk (wc.drew.alloc (.cells kc 25)) d kc 25 ∧ True := ⟨hkeepd.1.alloc _, trivial⟩; have hz10 : (wc.drew.alloc (.cells kc 25)).heap.size = wc.heap.size + 1 := World.size_alloc ..; obtain ⟨W10, hW10⟩ : ∃ W10, W10 = wc.drew.alloc (.cells kc 25) := ⟨_, rfl⟩; rw [← hW10] at hb10 HK10 hkeep10 hz10; rw [← hW10]; clear hW10; have HTC10 := hide (fun j u hu => (hb10.cell (p := (⟨gk, 0, none⟩ : Addr).add j) (by rw [addR]; exact hgkc.1)).trans (HTC.out j u hu)); have HDC10 := hide (fun j u hu => (hb10.cell (p := (⟨gk, pq, none⟩ : Addr).add j) (by rw [addR]; exact hgkc.1)).trans (HDC.out j u hu))
        refine hK.out _ _ kp (fun hHeld => ?_)
        clear hK K
        try simp only [PT]
        refine wpAnyH_ready (rs := [9]) (by kernel_rfl) (by simp) ?_
        refine AllReadyH.cons (o := ⟨some 50, .call ⟨.builtin .append, #[.tmp 46, .tmp 49], #[22, 22]⟩, 22, "ref.go:300", #[⟨5, .data⟩, ⟨8, .data⟩], none⟩) rfl (fun K hK => ?_) AllReadyH.nil
        refine step_append_rows W10 (by rfl) (.tmp 46) (.tmp 49) 22 (by rfl) lo 25 nodeInfo Tryz.underlying22 (by rfl) (by decide) (.slice (some ⟨wc.heap.size, 0, none⟩) 1 1) 1 kc.toList HK10.out ⟨gk, pq, none⟩ (k - q) (ck - q) ((lx.drop q).flatMap encI) (by rfl) HQ1.out HDL.out HDC10.out HONE.out (by unfold maxLen; omega) (by omega) (by omega) ?_; intro v2 w2 hown2 hnb2 hg2; obtain ⟨g10, cap10, e10v, hlg10, hlt10, hadd10, hc10⟩ := own_at hown2 (by omega); subst e10v; have hsz2 : W10.heap.size ≤ w2.heap.size := hg2.size; have hb2 : Below lo W10 w2 := grown_below hg2 (by omega) (fun j hj => by have e9 : wc.heap.size = j := Option.some.inj hj; omega); have hkeep2 : Blk w2 d kc 25 ∧ True := ⟨(hg2.block d hkeep10.1.lt (fun e => by have e9 : wc.heap.size = d := Option.some.inj e.symm; omega)).trans hkeep10.1, trivial⟩; have hblk2 : w2.heap[gk]? = W10.heap[gk]? := hg2.block gk (by omega) (fun e => by have e9 : wc.heap.size = gk := Option.some.inj e.symm; omega); have HTC2 := hide (show ∀ j u, ((lx.take q).flatMap encI)[j]? = some u → w2.cell? ((⟨gk, 0, none⟩ : Addr).add j) = some u from fun j u hu => (World.cell?_of_block (a := (⟨gk, 0, none⟩ : Addr).add j) (by rw [addR]; exact hblk2)).trans (HTC10.out j u hu)); have HL3 := hide (show (kc.toList ++ (lx.drop q).flatMap encI).length = (1 + (k - q)) * 12 by rw [List.length_append, Array.length_toList, HZ.out, HDL.out]; omega); have HADD := hide hadd10; have HB2 := hide hb2; have HB2B := hide (show Below wc.heap.size W10 w2 from grown_below hg2 (by omega) (fun j hj => by have e9 : wc.heap.size = j := Option.some.inj hj; omega)); clear hadd10 hc10 hown2 hnb2 hg2 hb2 hblk2
        refine hK.out _ _ kp (fun hHeld => ?_)
        clear hK K
        try simp only [PT]
        refine wpAnyH_ready (rs := [10]) (by kernel_rfl) (by simp) ?_
        refine AllReadyH.cons (o := ⟨some 51, .call ⟨.builtin .append, #[.tmp 44, .tmp 50], #[22, 22]⟩, 22, "ref.go:300", #[⟨3, .data⟩, ⟨9, .data⟩, ⟨9, .chain⟩], none⟩) rfl (fun K hK => ?_) AllReadyH.nil
        refine step_append_full w2 (by rfl) (.tmp 44) (.tmp 50) 22 (by rfl) lo 25 nodeInfo Tryz.underlying22 (by rfl) ⟨gk, 0, none⟩ q ((lx.take q).flatMap encI) HTL.out HTC2.out ⟨g10, 0, none⟩ (1 + (k - q)) cap10 (kc.toList ++ (lx.drop q).flatMap encI) (by rfl) (by rfl) HL3.out HADD.out (by omega) (by unfold maxLen; omega) (by omega) (by omega) ?_; intro c11 w3 hown3 hb3; have hkeep3 : Blk w3 d kc 25 ∧ True := ⟨Blk.below hb3 hkeep2.1, trivial⟩; have HOW3 := hide hown3; have HB3 := hide hb3; clear hown3 hb3
        refine hK.out _ _ kp (fun hHeld => ?_)
        clear hK K
        try simp only [PT]
        refine tkY 11 ⟨some 3, .assign (.tmp 51), 22, "ref.go:300", #[⟨10, .data⟩, ⟨10, .chain⟩, ⟨0, .phase⟩, ⟨1, .phase⟩, ⟨2, .phase⟩, ⟨3, .phase⟩, ⟨4, .phase⟩, ⟨5, .phase⟩, ⟨6, .phase⟩, ⟨7, .phase⟩, ⟨8, .phase⟩, ⟨9, .phase⟩, ⟨10, .phase⟩], none⟩ ?_ ?_ ?_
        rotate_left
        · intro w hSw; (try dsimp only at hSw); go_simp; (try with_reducible rfl)
        try simp only [PT]
        refine wpAnyH_done (by kernel_rfl) ?_ _
        refine NoPanic.normal ?_
        have e9 : q + (1 + (k - q)) = k + 1 := by omega
        rw [e9] at HOW3
        rw [e9]
        obtain ⟨Y, hY⟩ : ∃ Y : It, Y = ⟨y, .slice A8 y.ks.len c8, .slice A9 y.ss.length c9, fun _ => False⟩ := ⟨_, rfl⟩
        have hYe : encI Y = kc.toList := by rw [hY, HKC.out]; rfl
        have hbwc3 : Below lo wc w3 := ((hb10.mono hloc).trans HB2.out).trans (HB3.out.mono (by omega))
        have hfl : (lx.take q ++ Y :: lx.drop q).flatMap encI = (lx.take q).flatMap encI ++ (kc.toList ++ (lx.drop q).flatMap encI) := by rw [List.flatMap_append, List.flatMap_cons, hYe]
        have HOWN := hide (show w3.ownsRow lo 25 12 (.slice (some ⟨w2.heap.size, 0, none⟩) (k + 1) c11) (k + 1) ((lx.take q ++ Y :: lx.drop q).flatMap encI) from by rw [hfl]; exact HOW3.out)
        have HRN := hide (show RdX lo w3 (lx.take q ++ Y :: lx.drop q) from by
          have hbx : Below wc.heap.size wc w3 := (hb10.trans (HB2B.out.mono (by omega))).trans (HB3.out.mono (by omega))
          intro wn hfn
          have h1 := HRDc.out.below hbx wn hfn
          intro z hz
          rcases List.mem_append.1 hz with hz | hz
          · exact h1 z (List.mem_of_mem_take hz)
          · rcases List.mem_cons.1 hz with rfl | hz
            · obtain ⟨kv, sv, e1, e2, e3⟩ := HVc.out.below hbx wn hfn
              rw [hY]
              rw [HKC.out] at e1
              injection e1 with e1
              have ek : (Value.slice A8 y.ks.len c8) = kv := by have := congrArg (fun a : Array Value => a[10]?) e1; exact Option.some.inj this
              have es : (Value.slice A9 y.ss.length c9) = sv := by have := congrArg (fun a : Array Value => a[11]?) e1; exact Option.some.inj this
              rw [ek, es]
              exact ⟨e2, e3⟩
            · exact h1 z (List.mem_of_mem_drop hz))
        have HMN := hide (show (lx.take q ++ Y :: lx.drop q).map (·.t) = sortL (·.h.name) ((t.ks.list.take (k + 1)).map sortT) from by
          have hkl : k < t.ks.list.length := by rw [HLl.out]; exact hlt
          have e1 : t.ks.list.take (k + 1) = t.ks.list.take k ++ [x] := by rw [List.take_add_one, HXK.out]; rfl
          have hYt : Y.t = y := by rw [hY]
          have e2 : (t.ks.list.take (k + 1)).map sortT = (t.ks.list.take k).map sortT ++ [y] := by rw [e1, List.map_append, List.map_singleton, HYX.out]
          rw [e2, sortL_snoc, ← HMP.out, ins_at (·.h.name) y (lx.map (·.t)) q (by rw [List.length_map]; omega), List.map_append, List.map_cons, List.map_take, List.map_drop, hYt]
          · intro z hz
            rw [← List.map_drop] at hz
            obtain ⟨u, hu, rfl⟩ := List.mem_map.1 hz
            exact HGT.out u hu
          · rcases HLE.out with e | e
            · exact Or.inl e
            · refine Or.inr fun z hz => ?_
              rw [List.getElem?_map] at hz
              cases hu : lx[q - 1]? with
              | none => rw [hu] at hz; cases hz
              | some u =>
                rw [hu] at hz
                injection hz with hz
                rw [← hz]
                exact e u hu)
        have hln : (lx.take q ++ Y :: lx.drop q).length = k + 1 := by rw [List.length_append, List.length_cons, List.length_take, List.length_drop]; omega
        have hbrN : Below lo W1 w3 := hbrc.trans hbwc3
        clear hkeep10 hkeep2 hkeep3 hkeepc hkeepd HB3 HB2 HB2B HOW3 hb10 hbwc3 hfl hY hYe HRDc HOWc HVc
        go_wp2_with fail
        go_roundw
        case rel => exact ⟨k + 1, lx.take q ++ Y :: lx.drop q, w2.heap.size, c11, by go_num, by omega, hln, rfl, HOWN.out, HRN.out, HMN.out, hbrN⟩
        case measure => simp [intOf]; omega
    obtain ⟨lx, gk, ck, rfl, hown, hrd, hmap, hbw⟩ := hcut
    obtain ⟨w9, hw9⟩ : ∃ w9, w9 = wc := ⟨_, rfl⟩
    subst hw9
    have HBc := hide (show Blk w9 b (t.h.cells (.slice A t.ks.len c) (.slice A2 t.ss.length c2)) 25 from (hbw.block b hbW).trans HB.out)
    have HRc := hide (show Blk w9 r zeroN 25 from (hbw.block r hrW).trans HR.out)
    have hbelc : Below w.heap.size w w9 := hbel1.trans (hbw.mono hwlo)
    have HOK := hide hown
    have HRD := hide hrd
    have HMP := hide hmap
    have hloc : lo ≤ w9.heap.size := by have := hbw.size; rw [HLO.out]; exact this
    clear hown hrd hmap hbw HL0 HB HR hbel1 hb12 HO2 IH HSZ
    go_upto_region 11 with fail
    obtain ⟨l2, hl2⟩ : ∃ l2, l2 = w9.heap.size := ⟨_, rfl⟩
    have HO4 := hide (show (w9.alloc (.cells #[] 69)).ownsRow l2 69 2 (.slice (some ⟨w9.heap.size, 0, none⟩) 0 0) 0 [] from World.ownsRow_lit w9 #[] 0 (Nat.le_of_eq hl2) (by decide) rfl)
    have hb4 : Below l2 w9 (w9.alloc (.cells #[] 69)) := (Below.refl _ _).alloc (Nat.le_of_eq hl2) _
    have HL2 := hide hl2
    have hlo2 : lo ≤ l2 := by omega
    have hwl2 : w.heap.size ≤ l2 := by omega
    obtain ⟨W4, hW4⟩ : ∃ W4, W4 = w9.alloc (.cells #[] 69) := ⟨_, rfl⟩
    rw [← hW4] at HO4 hb4 ⊢
    rw [← hl2] at HO4 ⊢
    clear hl2 hW4
    go_upto_block 4 with fail
    go_cut [7, 8, 9] from 53 to 95 (fun sv _ _ wz => ∃ (gs cs : Nat), sv = .slice (some ⟨gs, 0, none⟩) t.ss.length cs ∧ wz.ownsRow l2 69 2 (.slice (some ⟨gs, 0, none⟩) t.ss.length cs) t.ss.length (stV (sortL (·.1) t.ss)) ∧ Below l2 w9 wz)
    case first => as_aux_lemma =>
      go_wp2_with fail
      go_loopw [7, 8] (fun sv iv wr => ∃ (k gs cs : Nat) (L : List St), iv = .int .i64 (k : Int) ∧ k ≤ t.ss.length ∧ L = sortL (·.1) (t.ss.take k) ∧ sv = .slice (some ⟨gs, 0, none⟩) k cs ∧ wr.ownsRow l2 69 2 (.slice (some ⟨gs, 0, none⟩) k cs) k (stV L) ∧ Below l2 w9 wr) (fun _ iv _ => t.ss.length - (intOf iv).toNat)
      case atStart => exact ⟨0, l2, 0, [], rfl, Nat.zero_le _, rfl, rfl, HO4.out, hb4⟩
      case round =>
        clear HO4 hb4
        obtain ⟨k, gs, cs, L, rfl, hkn, hL, rfl, hown, hbr1⟩ := hrel
        have HOW := hide hown
        have HLL := hide hL
        have hLn : L.length = k := by rw [hL, sortL_len, List.length_take]; omega
        have HBr := hide (show Blk wr b (t.h.cells (.slice A t.ks.len c) (.slice A2 t.ss.length c2)) 25 from (hbr1.block b (by omega)).trans HBc.out)
        have hbel : Below w.heap.size w wr := hbelc.trans (hbr1.mono hwl2)
        have c11 : wr.cell? ⟨b, 11, none⟩ = some (.slice A2 t.ss.length c2) := HBr.out.cells 11
        have hszr : l2 ≤ wr.heap.size := by have := hbr1.size; rw [HL2.out]; exact this
        clear hown hL
        rcases Nat.lt_or_ge k t.ss.length with hlt | hge
        case inr =>
          obtain rfl : k = t.ss.length := by omega
          have HFIN := hide (show L = sortL (·.1) t.ss by rw [HLL.out, List.take_length])
          go_wp2_with fail
          go_meet
          exact ⟨gs, cs, rfl, by rw [← HFIN.out]; exact HOW.out, hbr1⟩
        case inl =>
        obtain ⟨s, hs⟩ : ∃ s, t.ss[k]? = some s := ⟨_, List.getElem?_eq_getElem hlt⟩
        obtain ⟨g, o, rfl, hg, hcn, hcd⟩ := HS0.out.at hbel hs
        have HR1 := hide (And.intro hcn hcd)
        have HSK := hide hs
        clear hcn hcd hs
        obtain ⟨w0, hw0⟩ : ∃ w0, w0 = wr := ⟨_, rfl⟩
        subst hw0
        go_upto_block 6 with fail
        go_cut [9] from 62 to 80 (fun av wz => ∃ q : Nat, av = .int .i64 (q : Int) ∧ q ≤ k ∧ Below w0.heap.size w0 wz ∧ Hid (∀ z ∈ L.drop q, bltB s.1 z.1 = true) ∧ Hid (q = 0 ∨ ∀ z, L[q - 1]? = some z → bltB s.1 z.1 = false))
        case first =>
          go_wp2_with fail
          go_loopw [9] (fun av wr => ∃ q : Nat, av = .int .i64 (q : Int) ∧ q ≤ k ∧ Below w0.heap.size w0 wr ∧ Hid (∀ z ∈ L.drop q, bltB s.1 z.1 = true)) (fun av _ => (intOf av).toNat)
          case atStart => exact ⟨k, rfl, Nat.le_refl _, Below.refl _ _, by show ∀ z ∈ L.drop k, _; rw [← hLn, List.drop_length]; intro z hz; cases hz⟩
          case round =>
            have hbW0 : b < w0.heap.size := by have := hszr; omega
            obtain ⟨q, rfl, hqk, hbq, HGT⟩ := hrel
            rcases Nat.eq_zero_or_pos q with hq0 | hq0
            · subst hq0
              go_wp2_with fail
              go_quiet (fail)
              go_wp2_with fail
              go_meet
              exact ⟨0, rfl, Nat.zero_le _, belowN hbq _, HGT, Or.inl rfl⟩
            · obtain ⟨p, rfl⟩ : ∃ p, q = p + 1 := ⟨q - 1, by omega⟩
              obtain ⟨z, hz⟩ : ∃ z, L[p]? = some z := ⟨_, List.getElem?_eq_getElem (by omega)⟩
              obtain ⟨ga, capa, ea, _, hgl, _, hcells⟩ := own_at HOW.out (by omega)
              injection ea with ea1 ea2 ea3
              injection ea1 with ea1
              injection ea1 with ea1
              subst ea1
              subst ea3
              clear ea2
              have d11 := (hbq.cell (p := ⟨b, 11, none⟩) hbW0).trans c11
              have s0 := (hbq.cell (p := ⟨g, o + k * 2, none⟩) (by show g < _; have := hbel.size; omega)).trans HR1.out.1
              have e0 : wr.cell? ⟨gs, p * 2, none⟩ = some (.string z.1) := (hbq.cell (p := ⟨gs, p * 2, none⟩) hgl).trans (hcells _ _ (stV_get L p z hz).1)
              have hp0 : (p : Int) + 1 > 0 := by omega
              have hpk : (p : Int) < (k : Int) := by omega
              have hkz : (k : Int) < (t.ss.length : Int) := by omega
              have HZ2 := hide hz
              clear hcells hz
              cases hbl : bltB s.1 z.1
              case true =>
                obtain ⟨hbl2, hbl3⟩ := gtr_yes hbl
                have HBL := hide hbl
                clear hbl
                go_wp2_with fail
                go_quiet (fail)
                go_wp2_with fail
                go_roundw
                case rel => exact ⟨p, by go_num, by omega, belowN hbq _, by
                  show ∀ u ∈ L.drop p, _
                  intro u hu
                  have hpl : p < L.length := by omega
                  rw [List.drop_eq_getElem_cons hpl] at hu
                  rcases List.mem_cons.1 hu with rfl | hu
                  · have e1 := (List.getElem?_eq_some_iff.1 HZ2.out).2
                    rw [e1]
                    exact HBL.out
                  · exact HGT.out u hu⟩
                case measure => simp [intOf]
              case false =>
                have HBL := hide hbl
                by_cases hne : z.1 = s.1
                · have hbl3 : (z.1.toList == s.1.toList) = true := by rw [hne]; exact beq_self_eq_true _
                  clear hbl hne
                  go_wp2_with fail
                  go_quiet (fail)
                  go_wp2_with fail
                  go_meet
                  exact ⟨p + 1, rfl, hqk, belowN hbq _, HGT, Or.inr (fun u hu => by
                    rw [Nat.add_sub_cancel, HZ2.out] at hu
                    injection hu with hu
                    rw [← hu]
                    exact HBL.out)⟩
                · have hbl2 := gtr_no hbl hne
                  clear hbl hne
                  go_wp2_with fail
                  go_quiet (fail)
                  go_wp2_with fail
                  go_meet
                  exact ⟨p + 1, rfl, hqk, belowN hbq _, HGT, Or.inr (fun u hu => by
                    rw [Nat.add_sub_cancel, HZ2.out] at hu
                    injection hu with hu
                    rw [← hu]
                    exact HBL.out)⟩
        obtain ⟨q, rfl, hqk, hbq, HGT, HLE⟩ := hcut
        have HOWc := hide (below_row' HOW.out hbq)
        have hbrc : Below l2 w9 wc := hbr1.trans (hbq.mono hszr)
        have hl2c : l2 ≤ wc.heap.size := Nat.le_trans hszr hbq.size
        have hkck : k ≤ cs := by
          rcases HOWc.out.2 with ⟨e, _⟩ | ⟨g', cap, cur, e, _, _, h1, h2, _⟩
          · cases e
          · injection e with e1 e2 e3; omega
        have hgkc : gs < wc.heap.size ∧ l2 ≤ gs := HOWc.out.lt gs rfl |>.symm
        have hgw : g < wc.heap.size := by have := hbel.size; have := hbq.size; omega
        have hbwc : b < wc.heap.size := by omega
        have c11c : wc.cell? ⟨b, 11, none⟩ = some (.slice (some ⟨g, o, none⟩) t.ss.length c2) := (hbq.cell (p := ⟨b, 11, none⟩) (by show b < _; omega)).trans c11
        have HRG := hide (show wc.rangeAt g (o + k * 2) (strC s).toList from by
          have h1 := (hbq.cell (p := ⟨g, o + k * 2, none⟩) (by show g < _; have := hbel.size; omega)).trans HR1.out.1
          have h2 := (hbq.cell (p := ⟨g, o + k * 2 + 1, none⟩) (by show g < _; have := hbel.size; omega)).trans HR1.out.2
          exact rangeAt_of fun j u hj => by
            match j, hj with
            | 0, hj => have e : Value.string s.1 = u := Option.some.inj hj; rw [← e]; exact h1
            | 1, hj => have e : Value.string s.2 = u := Option.some.inj hj; rw [← e]; exact h2
            | n + 2, hj => cases hj)
        have hkeepc : Below wc.heap.size wc wc ∧ True := ⟨Below.refl _ _, trivial⟩
        have hkeepd : Below wc.heap.size wc wc.drew ∧ True := ⟨(Below.refl wc.heap.size wc).drew, trivial⟩
        have HXS := hide (show ∀ j u, (stV L)[j]? = some u → wc.cell? ((⟨gs, 0, none⟩ : Addr).add j) = some u from HOWc.out.cells (g := gs) rfl)
        clear HOW c11 hbr1 HBr hbel HR1 hszr
        have q1 : (q : Int) ≤ (k : Int) := by omega
        have q2 : (q : Int) ≤ (cs : Int) := by omega
        have hkz : (k : Int) < (t.ss.length : Int) := by omega
        obtain ⟨pq, hpq1, hpq2⟩ := tail_ptr gs 0 cs q k 2 (by omega) hkck
        rw [Nat.zero_add] at hpq1 hpq2
        have HQ1 := hide (show Value.slice (if cs = q then some (⟨gs, 0, none⟩ : Addr) else some ⟨gs, q * 2, none⟩) (k - q) (cs - q) = .slice (some ⟨gs, pq, none⟩) (k - q) (cs - q) by rw [hpq1])
        have HPQ2 := hide hpq2
        clear hpq1 hpq2
        obtain ⟨ft1, ft2⟩ := flat_take encSt 2 encSt_len L q (by omega)
        rw [← stV_enc, ← stV_enc] at ft1 ft2
        have HTL := hide (show (stV (L.take q)).length = q * 2 by rw [stV_len, List.length_take]; congr 1; omega)
        have HDL := hide (show (stV (L.drop q)).length = (k - q) * 2 by rw [stV_len, List.length_drop, hLn])
        have HTC := hide (show ∀ j u, (stV (L.take q))[j]? = some u → wc.cell? ((⟨gs, 0, none⟩ : Addr).add j) = some u from fun j u hu => by
          rw [ft1, List.getElem?_take] at hu
          split at hu
          · exact HXS.out j u hu
          · cases hu)
        have HDC := hide (show ∀ j u, (stV (L.drop q))[j]? = some u → wc.cell? ((⟨gs, pq, none⟩ : Addr).add j) = some u from fun j u hu => by
          have hj : j < (k - q) * 2 := by have := (List.getElem?_eq_some_iff.1 hu).1; rw [HDL.out] at this; exact this
          rw [ft2, List.getElem?_drop] at hu
          have h1 := HXS.out _ u hu
          rw [addR] at h1 ⊢
          rw [HPQ2.out (by omega), ← Nat.zero_add (q * 2 + j)]
          exact h1)
        have HONE := hide (stV_one (L.drop q))
        clear ft1 ft2 HXS
        have e5 : wc.drew.heap.size = wc.heap.size := rfl
        obtain ⟨sa, sb⟩ := s
        go_upto_region 17 with fail
        refine wp_region_noPanic ?_
        refine wp_region_held_drew (S := (fun z => Below wc.heap.size wc z ∧ True)) (by kernel_rfl) kp (fun hHeld => ?_)
        refine tkY 0 ⟨some 81, .move (.tmp 7), 23, "ref.go:308", #[], none⟩ ?_ ?_ ?_
        rotate_left
        · intro w hSw; (try dsimp only at hSw); go_simp; (try with_reducible rfl)
        try simp only [PT]
        refine tkY 1 ⟨some 82, .move (.tmp 9), 3, "ref.go:308", #[], none⟩ ?_ ?_ ?_
        rotate_left
        · intro w hSw; (try dsimp only at hSw); go_simp; (try with_reducible rfl)
        try simp only [PT]
        refine tkY 2 ⟨some 83, .move (.tmp 9), 3, "ref.go:308", #[], none⟩ ?_ ?_ ?_
        rotate_left
        · intro w hSw; (try dsimp only at hSw); go_simp; (try with_reducible rfl)
        try simp only [PT]
        refine tkY 3 ⟨some 84, .slice 23 (.tmp 81) none (some (.tmp 82)) (some (.tmp 83)), 23, "ref.go:308", #[⟨0, .data⟩, ⟨1, .data⟩, ⟨2, .data⟩], none⟩ ?_ ?_ ?_
        rotate_left
        · intro w hSw; (try dsimp only at hSw); go_simp; (try with_reducible rfl)
        try simp only [PT]
        refine tkY 4 ⟨some 85, .fieldAddr 25 (.tmp 1) 11, 0, "ref.go:308", #[], none⟩ ?_ ?_ ?_
        rotate_left
        · intro w hSw; (try dsimp only at hSw); go_simp; (try with_reducible rfl)
        try simp only [PT]
        refine tkY 5 ⟨some 86, .load 23 (.tmp 85), 23, "ref.go:308", #[⟨4, .data⟩], none⟩ ?_ ?_ ?_
        rotate_left
        · intro w hSw; (try dsimp only at hSw); have c1 := (hSw.1.cell (p := ⟨b, 11, none⟩) hbwc).trans c11c; go_simp; (try with_reducible rfl)
        try simp only [PT]
        refine tkY 6 ⟨some 87, .move (.tmp 8), 3, "ref.go:308", #[], none⟩ ?_ ?_ ?_
        rotate_left
        · intro w hSw; (try dsimp only at hSw); go_simp; (try with_reducible rfl)
        try simp only [PT]
        refine tkY 7 ⟨some 88, .indexAddr 23 (.tmp 86) (.tmp 87), 0, "ref.go:308", #[⟨5, .data⟩, ⟨6, .data⟩], none⟩ ?_ ?_ ?_
        rotate_left
        · intro w hSw; (try dsimp only at hSw); go_simp; (try with_reducible rfl)
        try simp only [PT]
        refine tkY 8 ⟨some 89, .load 69 (.tmp 88), 69, "ref.go:308", #[⟨7, .data⟩], none⟩ ?_ ?_ ?_
        rotate_left
        · intro w hSw; (try dsimp only at hSw); refine (exec_load_mid 69 (.tmp 88) (by rfl) g (o + k * 2) (by rfl) (strC (sa, sb)) _ (range_below hSw.1 hgw HRG.out) Tryz.underlying69 (by rfl) infS2).trans ?_; with_reducible rfl
        try simp only [PT]
        refine tkY 10 ⟨some 91, .move (.tmp 7), 23, "ref.go:308", #[], none⟩ ?_ ?_ ?_
        rotate_left
        · intro w hSw; (try dsimp only at hSw); go_simp; (try with_reducible rfl)
        try simp only [PT]
        refine tkY 11 ⟨some 92, .move (.tmp 9), 3, "ref.go:308", #[], none⟩ ?_ ?_ ?_
        rotate_left
        · intro w hSw; (try dsimp only at hSw); go_simp; (try with_reducible rfl)
        try simp only [PT]
        refine tkY 12 ⟨some 93, .slice 23 (.tmp 91) (some (.tmp 92)) none none, 23, "ref.go:308", #[⟨10, .data⟩, ⟨11, .data⟩], none⟩ ?_ ?_ ?_
        rotate_left
        · intro w hSw; (try dsimp only at hSw); go_simp; (try with_reducible rfl)
        try simp only [PT]
        refine wpAnyH_ready (rs := [9]) (by kernel_rfl) (by simp) ?_
        refine AllReadyH.cons (o := ⟨some 90, .buildSlice 23 1 #[(0, .tmp 89)], 23, "ref.go:308", #[⟨8, .data⟩], none⟩) rfl (fun K hK => ?_) AllReadyH.nil
        refine step_buildStrm (by rfl) (.tmp 89) (by rfl) sa sb (by rfl) ?_; have hb10 : Below wc.heap.size wc (wc.drew.alloc (.cells (strC (sa, sb)) 69)) := ((Below.refl wc.heap.size wc).drew).alloc (Nat.le_refl _) _; have HK10 := hide (show (wc.drew.alloc (.cells (strC (sa, sb)) 69)).ownsRow l2 69 2 (.slice (some ⟨wc.heap.size, 0, none⟩) 1 1) 1 (stV [(sa, sb)]) from World.ownsRow_lit wc.drew (strC (sa, sb)) 1 hl2c (by decide) rfl); have hz10 : (wc.drew.alloc (.cells (strC (sa, sb)) 69)).heap.size = wc.heap.size + 1 := World.size_alloc ..; obtain ⟨W10, hW10⟩ : ∃ W10, W10 = wc.drew.alloc (.cells (strC (sa, sb)) 69) := ⟨_, rfl⟩; rw [← hW10] at hb10 HK10 hz10; (first | rw [← hW10] | (unfold strC at hW10; rw [← hW10])); clear hW10; have hkeep10 : Below wc.heap.size wc W10 ∧ True := ⟨hb10, trivial⟩; have HTC10 := hide (fun j u hu => (hb10.cell (p := (⟨gs, 0, none⟩ : Addr).add j) (by rw [addR]; exact hgkc.1)).trans (HTC.out j u hu)); have HDC10 := hide (fun j u hu => (hb10.cell (p := (⟨gs, pq, none⟩ : Addr).add j) (by rw [addR]; exact hgkc.1)).trans (HDC.out j u hu))
        refine hK.out _ _ kp (fun hHeld => ?_)
        clear hK K
        try simp only [PT]
        refine wpAnyH_ready (rs := [13]) (by kernel_rfl) (by simp) ?_
        refine AllReadyH.cons (o := ⟨some 94, .call ⟨.builtin .append, #[.tmp 90, .tmp 93], #[23, 23]⟩, 23, "ref.go:308", #[⟨9, .data⟩, ⟨12, .data⟩], none⟩) rfl (fun K hK => ?_) AllReadyH.nil
        refine step_append_rows W10 (by rfl) (.tmp 90) (.tmp 93) 23 (by rfl) l2 69 strmInfo Tryz.underlying23 (by rfl) (by decide) (.slice (some ⟨wc.heap.size, 0, none⟩) 1 1) 1 (stV [(sa, sb)]) HK10.out ⟨gs, pq, none⟩ (k - q) (cs - q) (stV (L.drop q)) (by rfl) HQ1.out HDL.out HDC10.out HONE.out (by unfold maxLen; omega) (by omega) (by omega) ?_; intro v2 w2 hown2 hnb2 hg2; obtain ⟨g10, cap10, e10v, hlg10, hlt10, hadd10, hc10⟩ := own_at hown2 (by omega); subst e10v; have hsz2 : W10.heap.size ≤ w2.heap.size := hg2.size; have HB2B := hide (show Below wc.heap.size W10 w2 from grown_below hg2 (by omega) (fun j hj => by have e9 : wc.heap.size = j := Option.some.inj hj; omega)); have hkeep2 : Below wc.heap.size wc w2 ∧ True := ⟨hb10.trans HB2B.out, trivial⟩; have hblk2 : w2.heap[gs]? = W10.heap[gs]? := hg2.block gs (by omega) (fun e => by have e9 : wc.heap.size = gs := Option.some.inj e.symm; omega); have HTC2 := hide (show ∀ j u, (stV (L.take q))[j]? = some u → w2.cell? ((⟨gs, 0, none⟩ : Addr).add j) = some u from fun j u hu => (World.cell?_of_block (a := (⟨gs, 0, none⟩ : Addr).add j) (by rw [addR]; exact hblk2)).trans (HTC10.out j u hu)); have HL3 := hide (show (stV [(sa, sb)] ++ stV (L.drop q)).length = (1 + (k - q)) * 2 by rw [List.length_append, HDL.out]; show 2 + _ = _; omega); have HADD := hide hadd10; clear hadd10 hc10 hown2 hnb2 hg2 hblk2
        refine hK.out _ _ kp (fun hHeld => ?_)
        clear hK K
        try simp only [PT]
        refine wpAnyH_ready (rs := [14]) (by kernel_rfl) (by simp) ?_
        refine AllReadyH.cons (o := ⟨some 95, .call ⟨.builtin .append, #[.tmp 84, .tmp 94], #[23, 23]⟩, 23, "ref.go:308", #[⟨3, .data⟩, ⟨13, .data⟩, ⟨13, .chain⟩], none⟩) rfl (fun K hK => ?_) AllReadyH.nil
        refine step_append_full w2 (by rfl) (.tmp 84) (.tmp 94) 23 (by rfl) l2 69 strmInfo Tryz.underlying23 (by rfl) ⟨gs, 0, none⟩ q (stV (L.take q)) HTL.out HTC2.out ⟨g10, 0, none⟩ (1 + (k - q)) cap10 (stV [(sa, sb)] ++ stV (L.drop q)) (by rfl) (by rfl) HL3.out HADD.out (by omega) (by unfold maxLen; omega) (by omega) (by omega) ?_; intro c11n w3 hown3 hb3; have hkeep3 : Below wc.heap.size wc w3 ∧ True := ⟨hkeep2.1.trans (hb3.mono (by have := hkeep2.1.size; omega)), trivial⟩; have HOW3 := hide hown3; clear hown3 hb3
        refine hK.out _ _ kp (fun hHeld => ?_)
        clear hK K
        try simp only [PT]
        refine tkY 15 ⟨some 7, .assign (.tmp 95), 23, "ref.go:308", #[⟨14, .data⟩, ⟨14, .chain⟩, ⟨0, .phase⟩, ⟨1, .phase⟩, ⟨2, .phase⟩, ⟨3, .phase⟩, ⟨4, .phase⟩, ⟨5, .phase⟩, ⟨6, .phase⟩, ⟨7, .phase⟩, ⟨8, .phase⟩, ⟨9, .phase⟩, ⟨10, .phase⟩, ⟨11, .phase⟩, ⟨12, .phase⟩, ⟨13, .phase⟩, ⟨14, .phase⟩], none⟩ ?_ ?_ ?_
        rotate_left
        · intro w hSw; (try dsimp only at hSw); go_simp; (try with_reducible rfl)
        try simp only [PT]
        refine wpAnyH_done (by kernel_rfl) ?_ _
        refine NoPanic.normal ?_
        have e9 : q + (1 + (k - q)) = k + 1 := by omega
        rw [e9] at HOW3
        rw [e9]
        have hLl : k < t.ss.length := hlt
        have HLN := hide (show L.take q ++ (sa, sb) :: L.drop q = sortL (·.1) (t.ss.take (k + 1)) from by
          have e1 : t.ss.take (k + 1) = t.ss.take k ++ [(sa, sb)] := by rw [List.take_add_one, HSK.out]; rfl
          rw [e1, sortL_snoc, ← HLL.out, ins_at (·.1) (sa, sb) L q (by omega)]
          · exact HGT.out
          · exact HLE.out)
        have HOWN := hide (show w3.ownsRow l2 69 2 (.slice (some ⟨w2.heap.size, 0, none⟩) (k + 1) c11n) (k + 1) (stV (L.take q ++ (sa, sb) :: L.drop q)) from by
          have e1 : stV (L.take q ++ (sa, sb) :: L.drop q) = stV (L.take q) ++ (stV [(sa, sb)] ++ stV (L.drop q)) := by rw [stV_app, show (sa, sb) :: L.drop q = [(sa, sb)] ++ L.drop q from rfl, stV_app]
          rw [e1]
          exact HOW3.out)
        have hbrN : Below l2 w9 w3 := hbrc.trans (hkeep3.1.mono hl2c)
        clear hkeep10 hkeep2 hkeep3 hkeepc hkeepd HB2B HOW3 hb10 HOWc
        go_wp2_with fail
        go_roundw
        case rel => exact ⟨k + 1, w2.heap.size, c11n, L.take q ++ (sa, sb) :: L.drop q, by go_num, by omega, HLN.out, rfl, HOWN.out, hbrN⟩
        case measure => simp [intOf]; omega
    obtain ⟨gs, cs, rfl, hstr, hbw2⟩ := hcut
    have hwb2 : Below w9.heap.size w9 wc := by rw [← HL2.out]; exact hbw2
    have HB5 := hide (show Blk wc b (t.h.cells (.slice A t.ks.len c) (.slice A2 t.ss.length c2)) 25 from (hbw2.block b (by omega)).trans HBc.out)
    have HR5 := hide (show Blk wc r zeroN 25 from (hbw2.block r (by omega)).trans HRc.out)
    have hbel5 : Below w.heap.size w wc := hbelc.trans (hbw2.mono hwl2)
    have HK5 := hide (below_row' HOK.out hwb2)
    have HRD5 := hide (HRD.out.below hwb2)
    have HS5 := hide hstr
    have hszc : lo ≤ wc.heap.size := by have := hwb2.size; omega
    have e10 : wc.cell? ⟨b, 10, none⟩ = some (.slice A t.ks.len c) := HB5.out.cells 10
    have f10 := HB5.out.free 10
    have e11 : wc.cell? ⟨b, 11, none⟩ = some (.slice A2 t.ss.length c2) := HB5.out.cells 11
    have f11 := HB5.out.free 11
    clear hstr hbw2 hwb2 HBc HRc hbelc HOK HRD HO4 hb4 HS0
    go_upto_region 19 with fail
    obtain ⟨kv, hkv⟩ : ∃ kv, kv = Value.slice (some ⟨gk, 0, none⟩) t.ks.len ck := ⟨_, rfl⟩
    obtain ⟨sv, hsv⟩ : ∃ sv, sv = Value.slice (some ⟨gs, 0, none⟩) t.ss.length cs := ⟨_, rfl⟩
    have hkb : ∀ j, kv.ownBlock = some j → lo ≤ j := fun j hj => by rw [hkv] at hj; exact (HK5.out.lt j hj).1
    have hsb : ∀ j, sv.ownBlock = some j → lo ≤ j := fun j hj => by rw [hsv] at hj; have := (HS5.out.lt j hj).1; omega
    have hlit : (t.h.cells kv sv).all (·.oneCell') = true := by rw [hkv, hsv]; exact nodeLit _ _ _ _ _ _ _
    rw [← hkv] at HK5 ⊢
    rw [← hsv] at HS5 ⊢
    have HB6 := hide (show Blk ((wc.setCell ⟨b, 10, none⟩ kv).setCell ⟨b, 11, none⟩ sv) b (t.h.cells kv sv) 25 from (HB5.out.put rfl).put rfl)
    have HR6 := hide (show Blk ((wc.setCell ⟨b, 10, none⟩ kv).setCell ⟨b, 11, none⟩ sv) r zeroN 25 from Blk.other (Ne.symm hbr) (Blk.other (Ne.symm hbr) HR5.out))
    have F6 : FrO (fun j => j = b ∨ j = r) wc ((wc.setCell ⟨b, 10, none⟩ kv).setCell ⟨b, 11, none⟩ sv) := (FrO.set (O := fun j => j = b ∨ j = r) (Or.inl rfl)).trans (FrO.set (O := fun j => j = b ∨ j = r) (Or.inl rfl)) (fun j h => Or.inl h)
    have HF6 := hide F6
    generalize (wc.setCell ⟨b, 10, none⟩ kv).setCell ⟨b, 11, none⟩ sv = W6 at *
    clear e10 f10 e11 f11 HB5 HR5 F6 hkv hsv
    go_wp2_with (first | (refine wpList_load_row rfl 25 (.tmp 1) rfl b rfl 25 (t.h.cells kv sv) (0, 0) _ HB6.out Tryz.underlying25 rfl (infN rfl) ?_) | (refine wpList_store_row rfl 25 (.tmp 2) (.tmp 100) rfl r (t.h.cells kv sv) rfl rfl 25 zeroN HR6.out (infN rfl) rfl hlit ?_))
    refine bodyPost_ret (results_cell_row rfl _ _ r 25 (t.h.cells kv sv) (0, 0) _ rfl (setRow_heap _ _ _ _ _ _ HR6.out) Tryz.underlying25 rfl (infN rfl)) rfl ?_
    have F7 : FrO (fun j => j = b ∨ j = r) wc (W6.setRow r (t.h.cells kv sv)) := HF6.out.trans (FrO.setRow (O := fun j => j = b ∨ j = r) (Or.inr rfl)) (fun j h => Or.inl h)
    obtain ⟨hl1, hl2'⟩ := sortT_lens t
    refine ⟨_, rfl, fun w' hf => ?_, hbel5.trans (F7.below (by omega) (fun j hj => by rcases hj with rfl | rfl <;> assumption))⟩
    have F8 : FrO (fun j => j < lo) wc w' := (FrO.mono (fun j hj => by rcases hj with rfl | rfl <;> assumption) F7).trans hf (fun j hj => Or.inl (by omega))
    have hk8 := own_fr F8 HK5.out (fun g e h => by have := hkb g e; omega)
    have hs8 := own_fr F8 HS5.out (fun g e h => by have := hsb g e; omega)
    have hr8 := HRD5.out w' F8
    have e1 : sortT t = ⟨t.h, sortL (·.1) t.ss, Fo.of (lx.map (·.t))⟩ := by
      show (⟨t.h, sortL (·.1) t.ss, Fo.of (sortL (·.h.name) (sortF t.ks))⟩ : Tr) = _
      rw [sortF_map, ← HMP.out]
    have e2 : (sortT t).ss = sortL (·.1) t.ss := by rw [e1]
    have e3 : (sortT t).ks = Fo.of (lx.map (·.t)) := by rw [e1]
    refine ⟨kv, sv, by rw [e1], ?_, ?_⟩
    · rw [e2, ← e2]
      rw [e2]
      refine StR.of_own (lo := l2) (Nat.le_refl _) ?_
      rw [← e2, hl1, e2]
      exact hs8
    · refine KidR.of_own (lo := lo) (Nat.le_refl _) (xs := lx.flatMap encI) ?_ ?_
      · rw [hl2']
        exact hk8
      · rw [e3]
        exact hr8.row
end Go.Proofs.YtlhakdildbplkaaGreatDoor
