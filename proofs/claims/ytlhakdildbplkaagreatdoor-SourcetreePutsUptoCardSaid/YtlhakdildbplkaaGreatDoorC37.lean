/- Contracts and plain words for the laws of this chapter, part 37: Lw1. No condition. -/
import Derived.Shelf.Strings.Prefix
import Derived.Test.YtlhakdildbplkaaGreatDoorC35
import Derived.Test.YtlhakdildbplkaaGreatDoorC36
namespace Go.Proofs.YtlhakdildbplkaaGreatDoor
set_option linter.unusedSimpArgs false
set_option linter.unusedVariables false
open Go.RowKit
theorem hpre (s p : ByteArray) (w : World) : Calls Tryz.prog 42 #[.string s, .string p] w fun e w' => e = .returned (.bool (Lib.hasPrefix s.data.toList p.data.toList)) ∧ w = w' :=
  (Any.strings_HasPrefix Tryz.lays99 s p w).mono fun e w' ⟨he, hw⟩ => ⟨he, hw.symm⟩
theorem under_pre (p q : ByteArray) : Lib.hasPrefix q.data.toList (p ++ ⟨#[47]⟩).data.toList = underB p q := by unfold underB Lib.hasPrefix; rw [bytes_app]
theorem paths_len {t : Tr} (h : validB t = true) : (pathsT t).length = t.count := by
  unfold pathsT
  rw [if_pos h, List.length_cons, pathsF_len]
  rfl
theorem pathsF_size : ∀ (f : Fo) (p : ByteArray) (l : Nat) (q : ByteArray), q ∈ pathsF f p l → q.size ≤ p.size + f.wt
  | .nil, _, _, _, h => by cases h
  | .node h ss ks nx, p, l, q, hq => by
    have hb := bel_size p h.name l
    rw [Fo.wt_node]
    unfold pathsF at hq
    rcases List.mem_append.1 hq with h1 | h1
    · rcases List.mem_cons.1 h1 with rfl | h2
      · omega
      · have := pathsF_size ks _ _ _ h2
        omega
    · have := pathsF_size nx _ _ _ h1
      omega
theorem pathsT_size {t : Tr} {q : ByteArray} (h : q ∈ pathsT t) : q.size ≤ t.sz := by
  unfold pathsT at h
  split at h
  · rcases List.mem_cons.1 h with rfl | h2
    · exact Nat.zero_le _
    · have h3 := pathsF_size t.ks eS 1 q h2
      have h4 := t.ks.wt_sz
      have h5 : (eS : ByteArray).size = 0 := rfl
      unfold Tr.sz
      omega
  · cases h
theorem filt_next {f : ByteArray → Bool} {ps : List ByteArray} {k : Nat} {q : ByteArray} (h : ps[k]? = some q) : (ps.take (k + 1)).filter f = (ps.take k).filter f ++ if f q then [q] else [] := by
  rw [List.take_add_one, h, List.filter_append]
  congr 1
  simp only [Option.toList]
  cases hf : f q <;> simp [List.filter, hf]
theorem keep_same (p : ByteArray) : keepB p p = false := by unfold keepB; simp
theorem keep_under {p q : ByteArray} (h : q ≠ p) : keepB p q = !underB p q := by unfold keepB; simp [h]
theorem dropAt_sz : ∀ (f : Fo) (i : Nat), (f.dropAt i).sz ≤ f.sz
  | .nil, _ => Nat.le_refl _
  | .node h ss ks nx, 0 => by unfold Fo.dropAt; simp only [Fo.sz]; omega
  | .node h ss ks nx, i + 1 => by have := dropAt_sz nx i; unfold Fo.dropAt; simp only [Fo.sz]; omega
theorem rem_small {t m : Tr} {p : ByteArray} (h : remQ t p = (m, 0)) : m.sz ≤ t.sz := by
  unfold remQ at h
  split at h
  · cases h
  · split at h
    · cases h
    · split at h
      · cases h
      · rename_i x hx
        split at h
        · cases h
        · rename_i i hi
          have e := (Prod.mk.inj h).1
          have h1 := updT_sz (f := x.ks.dropAt i) hx
          have h2 := dropAt_sz x.ks i
          rw [e] at h1
          omega
theorem seq_true (l : List ByteArray) (hl : l.length ≤ 40) (a b : Value) (W : World) (h1 : SlR W W.heap.size a l) (h2 : SlR W W.heap.size b l) : Calls Tryz.prog 43 #[a, b] W fun e w' => e = .returned (.bool true) ∧ Below W.heap.size W w' := by
  have h3 := sequal_any l l a b W.heap.size (by omega) (by omega) W h1 h2
  rwa [decide_eq_true rfl] at h3
theorem few_sz {t : Tr} {n : Nat} (h : fewB t n = true) : t.count ≤ 40 ∧ t.sz ≤ n := by unfold fewB at h; have := of_decide_eq_true h; omega
theorem Nd.cells {w : World} {B : Nat} {v : Value} {t : Tr} (h : TreeR w B v t) : ∃ c : Array Value, v = .agg c ∧ c.size = 12 := by
  obtain ⟨c, h1, h2, _⟩ := h.cells
  exact ⟨c, h1, h2⟩
theorem few_any (W : World) (c : Array Value) (t : Tr) (b : Bool) (hb : fewB t 20000 = b) (hz : t.sz ≤ 20971520) (h : TreeR W W.heap.size (.agg c) t) : Calls Tryz.prog 12 #[.agg c, .int .i64 20000] W fun e w' => e = .returned (.bool b) ∧ Below W.heap.size W w' := by
  have h1 := rfew_any t (by omega) 20000 (.agg c) W h
  rw [hb] at h1
  exact h1
set_option maxRecDepth 100000 in
set_option maxHeartbeats 8000000 in
theorem law_removes (t : Tr) (v : Value) (k : Nat) (hk : k ≤ 255) (w : World) (hT : TabA w) (hv : TreeR w w.heap.size v t) (hz : t.sz ≤ 20971520) :
    Calls Tryz.prog 10 #[v, .int .u8 (k : Int)] w fun e w' => e = .returned (.bool true) ∧ Below w.heap.size w w' := by
  obtain ⟨cn, rfl, hzc⟩ := Nd.cells hv
  have HTA := hide hT
  have HV := hide hv
  have HZ := hide hz
  clear hv hz hT
  have HL : Live w [] := trivial
  go_enter Tryz.func10, Tryz.ntmps10
  go_upto_region 1 with fail
  have HN1 := hide (Nd.new HV.out hzc)
  have hbel1 : Below w.heap.size w (w.alloc (.cells cn 25)) := (Below.refl _ _).alloc (Nat.le_refl _) _
  generalize w.alloc (.cells cn 25) = W1 at *
  obtain ⟨b, hb⟩ : ∃ b, b = w.heap.size := ⟨_, rfl⟩
  rw [← hb] at HN1 ⊢
  clear hb HV hzc
  have AW := hide (awake_any W1 (HTA.out.below hbel1))
  go_upto_if 13 with (go_at_call 11; refine AW.out.mono ?_; rintro e w2 ⟨rfl, hb2⟩)
  have HN2 := hide (HN1.out.below hb2)
  have hbel2 := hbel1.trans (hb2.mono hbel1.size)
  clear HN1 hbel1 hb2 AW
  cases hfew : fewB t 20000 with
  | false =>
    have FW := hide (few_any w2 cn t false hfew HZ.out HN2.out.2.1)
    go_wp2_with (first | (refine wpList_load_row rfl 25 (.tmp 2) rfl b rfl 25 cn (0, 0) _ HN2.out.1 Tryz.underlying25 rfl (infN HN2.out.2.2) ?_) | (go_at_call 12; refine FW.out.mono ?_; rintro e w3 ⟨rfl, hb3⟩))
    go_ret
    exact ⟨rfl, hbel2.trans (hb3.mono hbel2.size)⟩
  | true =>
    obtain ⟨hct, hsz⟩ := few_sz hfew
    have FW := hide (few_any w2 cn t true hfew HZ.out HN2.out.2.1)
    have VN := hide (show ∀ W, Below w2.heap.size w2 W → Calls Tryz.prog 20 #[.agg cn] W fun e w' => e = .returned (.bool (validB t)) ∧ Below W.heap.size W w' from fun W h => valid_any t (Or.inl (by omega)) (.agg cn) W (HTA.out.below (hbel2.trans (h.mono hbel2.size))).1 (HN2.out.2.1.later h))
    have HF := hide hfew
    clear hfew
    cases hvd : validB t with
    | false =>
      rw [hvd] at VN
      go_wp2_with (first | (refine wpList_load_row rfl 25 (.tmp 2) rfl b rfl 25 cn (0, 0) _ HN2.out.1 Tryz.underlying25 rfl (infN HN2.out.2.2) ?_) | (refine wpList_load_rowG 25 (.tmp 2) rfl rfl b rfl 25 cn (0, 0) _ (Blk.below hb3 HN2.out.1) Tryz.underlying25 rfl (infN HN2.out.2.2) ?_) | (go_at_call 12; refine FW.out.mono ?_; rintro e w3 ⟨rfl, hb3⟩) | (go_at_call 20; refine (VN.out _ hb3).mono ?_; rintro e w4 ⟨rfl, hb4⟩))
      go_ret
      exact ⟨rfl, hbel2.trans ((hb3.trans (hb4.mono hb3.size)).mono hbel2.size)⟩
    | true =>
      rw [hvd] at VN
      have HVD := hide hvd
      clear hvd
      go_upto_region 5 with (first | (refine wpList_load_row rfl 25 (.tmp 2) rfl b rfl 25 cn (0, 0) _ HN2.out.1 Tryz.underlying25 rfl (infN HN2.out.2.2) ?_) | (refine wpList_load_rowG 25 (.tmp 2) rfl rfl b rfl 25 cn (0, 0) _ (Blk.below hb3 HN2.out.1) Tryz.underlying25 rfl (infN HN2.out.2.2) ?_) | (go_at_call 12; refine FW.out.mono ?_; rintro e w3 ⟨rfl, hb3⟩) | (go_at_call 20; refine (VN.out _ hb3).mono ?_; rintro e w4 ⟨rfl, hb4⟩))
      have HN4 := hide ((HN2.out.below hb3).below hb4)
      have hbel4 := hbel2.trans ((hb3.trans (hb4.mono hb3.size)).mono hbel2.size)
      clear HN2 hb3 hb4 hbel2 FW VN
      have PN := hide (paths_any t (by omega) (.agg cn) w4 (HTA.out.below hbel4).1 HN4.out.2.1)
      go_upto_region 6 with (first | (refine wpList_load_row rfl 25 (.tmp 2) rfl b rfl 25 cn (0, 0) _ HN4.out.1 Tryz.underlying25 rfl (infN HN4.out.2.2) ?_) | (go_at_call 27; refine PN.out.mono ?_; rintro e w5 ⟨v5, rfl, hv5, hb5⟩))
      have HN5 := hide (HN4.out.below hb5)
      have hbel5 := hbel4.trans (hb5.mono hbel4.size)
      have hsl := SlR.of hv5
      have HRL := hide (fun p (hp : p ∈ pathsT t) (h0 : p ≠ eS) => rem_law HVD.out hp h0)
      have hpl := paths_len HVD.out
      have hpos : 0 < (pathsT t).length := by rw [hpl]; unfold Tr.count; omega
      have CN := hide (show ∀ W, TreeR W W.heap.size (.agg cn) t → Calls Tryz.prog 13 #[.agg cn] W fun e w' => e = .returned (.int .i64 ((pathsT t).length : Int)) ∧ Below W.heap.size W w' from fun W h => by rw [hpl]; exact rcount_any t.count (by omega) t (Nat.le_refl _) (.agg cn) W h)
      rw [← hpl] at hct
      clear hpl hv5 hb5 HN4 hbel4 PN
      generalize hps : pathsT t = ps at *
      have HPS := hide hps
      clear hps
      obtain ⟨A5, c5, rfl, h5⟩ := hsl
      obtain ⟨g, o, rfl, hg, hcl⟩ := h5 hpos
      have HCL := hide hcl
      have HG := hide hg
      clear hcl hg h5
      go_upto_region 8 with (first | (refine wpList_load_row rfl 25 (.tmp 2) rfl b rfl 25 cn (0, 0) _ HN5.out.1 Tryz.underlying25 rfl (infN HN5.out.2.2) ?_) | (go_at_call 13; refine (CN.out _ HN5.out.2.1).mono ?_; rintro e w6 ⟨rfl, hb6⟩))
      have HN6 := hide (HN5.out.below hb6)
      have hbel6 := hbel5.trans (hb6.mono hbel5.size)
      have HCL6 := hide (show g < w6.heap.size ∧ ∀ j s, ps[j]? = some s → w6.cell? ⟨g, o + j, none⟩ = some (.string s) from ⟨Nat.lt_of_lt_of_le HG.out hb6.size, fun j s hj => (hb6.cell (p := ⟨g, o + j, none⟩) HG.out).trans (HCL.out j s hj)⟩)
      clear HN5 hbel5 hb6 HCL HG CN
      have hkm : k % ps.length < ps.length := Nat.mod_lt _ hpos
      have hmod : (k : Int).tmod (ps.length : Int) = ((k % ps.length : Nat) : Int) := by rw [Int.tmod_eq_emod_of_nonneg (by omega)]; rfl
      obtain ⟨p, hp⟩ : ∃ p, ps[k % ps.length]? = some p := ⟨_, List.getElem?_eq_getElem hkm⟩
      have cp := HCL6.out.2 _ _ hp
      have HP := hide (List.mem_of_getElem? hp)
      generalize k % ps.length = kk at *
      clear hp
      go_upto_region 9 with fail
      have hpz : p.size ≤ 2000000 := by have h1 := HP.out; rw [← HPS.out] at h1; have := pathsT_size h1; omega
      have RMN := hide (remove_any t p (by omega) hpz (.agg cn) w6 (HTA.out.below hbel6).1 HN6.out.2.1)
      go_upto_region 10 with (first | (refine wpList_load_row rfl 25 (.tmp 2) rfl b rfl 25 cn (0, 0) _ HN6.out.1 Tryz.underlying25 rfl (infN HN6.out.2.2) ?_) | (go_at_call 32; refine RMN.out.mono ?_; rintro e w7 ⟨v7, rfl, hv7, hb7⟩; have HV7 := hide hv7; have HB7 := hide hb7; clear hv7 hb7) | ((with_reducible show wpList _ _ _ _ _ _); refine store_tree rfl (.tmp 7) (.tmp 41) rfl v7 _ rfl rfl rfl HV7.out ?_; rintro cm rfl hzcm h1cm))
      have HM := hide (Nd.new HV7.out hzcm)
      have hb8 : Below w6.heap.size w6 (w7.alloc (.cells cm 25)) := HB7.out.alloc HB7.out.size _
      have hbel8 := hbel6.trans (hb8.mono hbel6.size)
      have HCL8 := hide (show g < (w7.alloc (.cells cm 25)).heap.size ∧ ∀ j s, ps[j]? = some s → (w7.alloc (.cells cm 25)).cell? ⟨g, o + j, none⟩ = some (.string s) from ⟨Nat.lt_of_lt_of_le HCL6.out.1 hb8.size, fun j s hj => (hb8.cell (p := ⟨g, o + j, none⟩) HCL6.out.1).trans (HCL6.out.2 j s hj)⟩)
      clear HV7 HB7 hb8 hzcm h1cm HN6 HCL6 RMN hbel6 cp hmod hkm
      generalize w7.alloc (.cells cm 25) = W8 at *
      obtain ⟨bm, hbm⟩ : ∃ bm, bm = w7.heap.size := ⟨_, rfl⟩
      rw [← hbm] at HM ⊢
      clear hbm
      by_cases hpe : p = eS
      case pos =>
        subst hpe
        rw [remQ_root HVD.out] at HM ⊢
        go_wp2_with fail
        go_ret
        exact ⟨rfl, hbel8⟩
      case neg =>
      have q1 : (p.toList == []) = false := by
        rw [beq_eq_false_iff_ne]
        exact fun e => hpe (nil_list e)
      obtain ⟨m, hm1, hm2, hm3⟩ := HRL.out p HP.out hpe
      rw [hm1] at HM ⊢
      clear hpe HRL HP
      have HM2 := hide (And.intro hm2 hm3)
      have HMZ := hide (show m.sz ≤ 20000 from Nat.le_trans (rem_small hm1) hsz)
      clear hm1 hm2 hm3
      go_upto_region 13 with fail
      go_wp2_with fail
      go_loopw [9, 49] (fun wv i wr => ∃ k : Nat, i = .int .i64 (k : Int) ∧ k ≤ ps.length ∧ wr.ownsRow W8.heap.size 9 1 wv ((ps.take k).filter (keepB p)).length (strV ((ps.take k).filter (keepB p))) ∧ Below W8.heap.size W8 wr) (fun _ i _ => ps.length - (intOf i).toNat)
      case atStart => exact ⟨0, rfl, by omega, World.ownsRow_nil _ _ _ _, Below.refl _ _⟩
      case round =>
        obtain ⟨k2, rfl, hk2, hown, hbr⟩ := hrel
        have HO := hide hown
        clear hown
        have hsz2 := hbr.size
        by_cases hlt : k2 < ps.length
        case neg =>
          obtain rfl : k2 = ps.length := by omega
          rw [List.take_length] at HO
          have hbel := hbel8.trans (hbr.mono hbel8.size)
          have HMr := hide (HM.out.below hbr)
          have VM := hide (valid_any m (Or.inl (by have := HMZ.out; omega)) (.agg cm) wr (HTA.out.below hbel).1 HMr.out.2.1)
          rw [HM2.out.1] at VM
          have PM := hide (show ∀ W, Below wr.heap.size wr W → Calls Tryz.prog 27 #[.agg cm] W fun e w' => ∃ r, e = .returned r ∧ SlR w' w'.heap.size r (ps.filter (keepB p)) ∧ Below W.heap.size W w' from fun W h => by
            have h1 := paths_any m (by have := HMZ.out; omega) (.agg cm) W (HTA.out.below (hbel.trans (h.mono hbel.size))).1 (HMr.out.2.1.later h)
            rw [HM2.out.2] at h1
            exact h1.mono fun e w' ⟨r, h2, h3, h4⟩ => ⟨r, h2, SlR.of h3, h4⟩)
          have HW := hide (SlR.of (show StrsR wr W8.heap.size _ (ps.filter (keepB p)) from HO.out))
          have hfl : (ps.filter (keepB p)).length ≤ 40 := Nat.le_trans (List.length_filter_le _ _) hct
          generalize ps.filter (keepB p) = fs at *
          have SQ := hide (seq_true fs hfl)
          clear hbel8 hbr HO HM2 HM HMZ hk2 hlt
          go_wp2_with (first | (refine wpList_load_rowG 25 (.tmp 7) rfl rfl bm rfl 25 cm (0, 0) _ (Blk.below hb9 HMr.out.1) Tryz.underlying25 rfl (infN HMr.out.2.2) ?_) | (refine wpList_load_rowG 25 (.tmp 7) rfl rfl bm rfl 25 cm (0, 0) _ HMr.out.1 Tryz.underlying25 rfl (infN HMr.out.2.2) ?_) | (go_at_call 20; refine VM.out.mono ?_; rintro e w9 ⟨rfl, hb9⟩) | (go_at_call 27; refine (PM.out _ hb9).mono ?_; rintro e w10 ⟨v10, rfl, hv10, hb10⟩) | (go_at_call 43; refine (SQ.out _ _ _ hv10 ((HW.out.later2 hb9).later2 hb10)).mono ?_; rintro e w11 ⟨rfl, hb11⟩))
          go_ret
          exact ⟨rfl, hbel.trans ((hb9.trans ((hb10.trans (hb11.mono hb10.size)).mono hb9.size)).mono hbel.size)⟩
        case pos =>
        obtain ⟨q, hq⟩ : ∃ q, ps[k2]? = some q := ⟨_, List.getElem?_eq_getElem hlt⟩
        have s1 : wr.cell? ⟨g, o + k2, none⟩ = some (.string q) := (hbr.cell (p := ⟨g, o + k2, none⟩) HCL8.out.1).trans (HCL8.out.2 _ _ hq)
        have HNX := hide (filt_next (f := keepB p) hq)
        have hfl : ((ps.take k2).filter (keepB p)).length ≤ 40 := by have := List.length_filter_le (keepB p) (ps.take k2); rw [List.length_take] at this; omega
        have HFL := hide hfl
        clear hq hfl
        by_cases hqp : q = p
        case pos =>
          have q2 : (q.toList == p.toList) = true := by rw [hqp]; exact beq_self_eq_true _
          rw [show keepB p q = false by rw [hqp]; exact keep_same p, if_neg (by decide), List.append_nil] at HNX
          clear hqp
          go_wp2_with fail
          go_roundw
          case rel => exact ⟨k2 + 1, by go_num, by omega, by rw [HNX.out]; exact HO.out, hbr⟩
          case measure => simp [intOf]; omega
        case neg =>
        have q2 : (q.toList == p.toList) = false := by
          rw [beq_eq_false_iff_ne]
          intro e
          exact hqp (ByteArray.ext (Array.toList_inj.1 (by rw [← ByteArray.toList_eq, ← ByteArray.toList_eq]; exact e)))
        rw [keep_under hqp] at HNX
        have HP1 := hide (hpre q (p ++ ⟨#[47]⟩))
        rw [under_pre] at HP1
        clear hqp
        cases hun : underB p q with
        | true =>
          rw [hun] at HP1 HNX
          rw [if_neg (by decide), List.append_nil] at HNX
          clear hun
          go_wp2_with (go_at_call 42; refine (HP1.out _).mono ?_; rintro e w9 ⟨rfl, rfl⟩)
          go_roundw
          case rel => exact ⟨k2 + 1, by go_num, by omega, by rw [HNX.out]; exact HO.out, hbr⟩
          case measure => simp [intOf]; omega
        | false =>
          rw [hun] at HP1 HNX
          rw [if_pos (by decide)] at HNX
          clear hun
          go_wp2_with (first | (go_at_call 42; refine (HP1.out _).mono ?_; rintro e w9 ⟨rfl, rfl⟩) | (at_builtin; refine wpList_append_one _ rfl _ _ 38 rfl W8.heap.size 9 strInfo Tryz.underlying38 rfl (by decide) _ _ _ HO.out #[.string q] rfl rfl rfl (by simp [Value.oneCell']) (by have := HFL.out; unfold maxLen; omega) (by have := HFL.out; omega) (by omega) ?_; intro v2 w2 hown2 hb2 hot2 hz2))
          rw [strV_snoc] at hown2
          go_roundw
          case rel => exact ⟨k2 + 1, by go_num, by omega, by rw [HNX.out, List.length_append]; exact hown2, hbr.trans hb2⟩
          case measure => simp [intOf]; omega
end Go.Proofs.YtlhakdildbplkaaGreatDoor
