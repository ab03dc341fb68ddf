/- Contracts and plain words for the laws of this chapter, part 29: K8. No condition. -/
import Derived.Test.YtocgindpjjolpaaGreatDoorG28
import Derived.Test.YtocgindpjjolpaaGreatDoorG15
namespace Go.Proofs.YtocgindpjjolpaaGreatDoor
set_option linter.unusedSimpArgs false
set_option linter.unusedVariables false
open Go.RowKit
theorem step_load_rowS {P : Program} {ops : Array Oper} {o : Oper} {a : Act} {w : World} {K : Act → World → Prop} {Q : Exit → Act → World → Prop} {E : Prop} (hgd : o.guard = none) (ty : TypeId) (x : Operand) (ho : o.op = .load ty x)
    (g : Nat) (hx : a.eval x = .pointer (some ⟨g, 0, none⟩)) (t : TypeId) (cs : Array Value) (fr : Nat × Nat) (d : TypeDesc) (hg : w.heap[g]? = some (.cells cs t fr))
    (hu : P.underlying ty = some d) (hd : (match d with | .struct _ | .array _ _ => true | _ => false) = true) (hi : (P.info? ty).map (·.size) = some cs.size)
    (h : K (a.put o.dst (.agg cs)) w) : if Region.wanted o (yielded ops a.tmps) = true then Oper.wp P o a w K Q else E := by
  have hw : Region.wanted o (yielded ops a.tmps) = true := by simp [Region.wanted, hgd]
  rw [if_pos hw]
  exact wp_load_row ty x ho g hx t cs fr d hg hu hd hi h
set_option maxRecDepth 100000 in
set_option maxHeartbeats 8000000 in
theorem rweight_any (t : Tr) (p : ByteArray) (hsz : t.sz ≤ 120000) (hp : p.size ≤ 2000000) (hfd : (findT t (partsP p)).isSome = true) (v : Value) (w : World) (hv : TreeR w w.heap.size v t) : Calls Tryz.prog 50 #[v, .string p] w fun e w' => e = .returned (.int .i64 (weightP t p)) ∧ Below w.heap.size w w' := by
  have HV := hide hv
  obtain ⟨A, c, A2, c2, rfl, hkl, hstl⟩ := hv.openL
  clear hv hkl hstl
  have HL : Live w [] := trivial
  go_enter Tryz.func50, Tryz.ntmps50
  go_upto_region 1 with fail
  have HB := hide (show Blk (w.alloc (.cells (t.h.cells (.slice A t.ks.len c) (.slice A2 t.ss.length c2)) 25)) w.heap.size (t.h.cells (.slice A t.ks.len c) (.slice A2 t.ss.length c2)) 25 from Blk.newAt rfl)
  have hbel1 : Below w.heap.size w (w.alloc (.cells (t.h.cells (.slice A t.ks.len c) (.slice A2 t.ss.length c2)) 25)) := (Below.refl _ _).alloc (Nat.le_refl _) _
  generalize w.alloc (.cells (t.h.cells (.slice A t.ks.len c) (.slice A2 t.ss.length c2)) 25) = W1 at *
  obtain ⟨b, hb⟩ : ∃ b, b = w.heap.size := ⟨_, rfl⟩
  rw [← hb] at HB ⊢
  have hwb : w.heap.size ≤ b := by omega
  clear hb
  have d80 : W1.cell? ⟨b, 8, none⟩ = some (.int .i64 t.h.weight) := HB.out.cells 8
  by_cases hpe : p = eS
  case pos =>
    have HE := hide (show weightP t p = t.h.weight by unfold weightP partsP; rw [if_pos hpe]; rfl)
    subst hpe
    go_wp2_with fail
    go_loopw [5, 6, 7] (fun o i _ wr => o = .int .i64 t.h.weight ∧ i = .int .i64 0 ∧ wr = W1) (fun _ _ _ _ => 0)
    case atStart => exact ⟨rfl, rfl, rfl⟩
    case round =>
      obtain ⟨rfl, rfl, rfl⟩ := hrel
      go_wp2_with fail
      go_ret
      exact ⟨by rw [HE.out]; rfl, hbel1⟩
  case neg =>
  have hpp : partsP p = restP p 0 := by rw [restP_0]; unfold partsP; rw [if_neg hpe]
  have q1 : (p.toList == []) = false := by
    rw [beq_eq_false_iff_ne]
    exact fun e => hpe (nil_list e)
  have q2 : (p.toList != []) = true := by rw [bne, q1]; rfl
  have HPP := hide hpp
  have HFD := hide hfd
  clear hpe hpp hfd
  go_wp2_with fail
  clear d80
  go_loopw [5, 6, 7] (fun ov i _ wr => ∃ (f : Nat) (x : Tr) (kv sv : Value) (ow : Int), ov = .int .i64 ow ∧ i = .int .i64 (f : Int) ∧ f ≤ p.size + 1 ∧ Blk wr b (x.h.cells kv sv) 25 ∧ TreeR w w.heap.size (.agg (x.h.cells kv sv)) x ∧ x.sz ≤ 120000 ∧ (findT x (restP p f)).isSome = true ∧ wF x (restP p f) ow = weightP t p ∧ FrO (fun j => j = b) W1 wr) (fun _ i _ _ => p.size + 1 - (intOf i).toNat)
  case atStart => exact ⟨0, t, _, _, t.h.weight, rfl, rfl, Nat.zero_le _, HB.out, HV.out, hsz, by rw [← HPP.out]; exact HFD.out, by unfold weightP; rw [HPP.out], FrO.of (Below.refl _ _)⟩
  case round =>
    clear HB HV HPP HFD
    obtain ⟨f, x, kv, sv, ow, rfl, rfl, hf, hB, htx, hxs, hfd, hwf, hfr⟩ := hrel
    have HB := hide hB
    have HBd := hide (show Blk wr.drew b (x.h.cells kv sv) 25 from hB)
    have HTX := hide htx
    have HF := hide hfd
    have HWF := hide hwf
    have HFR := hide hfr
    obtain ⟨A3, c3, A4, c4, ecells, hkl, -⟩ := htx.openL
    injection ecells with ecells
    have ekv : kv = .slice A3 x.ks.len c3 := by have := congrArg (fun a : Array Value => a[10]?) ecells; simpa [Hd.cells] using this
    have esv : sv = .slice A4 x.ss.length c4 := by have := congrArg (fun a : Array Value => a[11]?) ecells; simpa [Hd.cells] using this
    subst ekv; subst esv
    have HKL := hide hkl
    have hbel : Below w.heap.size w wr := hbel1.trans (hfr.below hbel1.size fun j hj => by subst hj; exact hwb)
    clear hB htx hfd hwf hfr ecells hkl
    by_cases hlt : f ≤ p.size
    case neg =>
      have HE := hide (show ow = weightP t p by rw [← HWF.out, restP, if_neg hlt]; rfl)
      go_wp2_with fail
      go_ret
      exact ⟨by rw [HE.out]; rfl, hbel⟩
    case pos =>
    have hkl2 : x.ks.len ≤ 120000 := by have := x.ks.len_sz; unfold Tr.sz at hxs; omega
    have HTD := hide (show TreeR wr.drew wr.drew.heap.size (.agg (x.h.cells (.slice A3 x.ks.len c3) (.slice A4 x.ss.length c4))) x from (HTX.out.own_below hbel).own_below ((Below.refl _ _).drew))
    have hk0 : FrO (fun j => j = b) W1 wr ∧ True := ⟨HFR.out, trivial⟩
    have hk0d : FrO (fun j => j = b) W1 wr.drew ∧ True := ⟨HFR.out.trans (FrO.of (O := fun j => j = b) (Below.refl wr.heap.size wr).drew) (fun j h => Or.inl h), trivial⟩
    go_wp2_with fail
    go_loop [7] (fun v => ∃ k : Nat, v = .int .i64 (k : Int) ∧ f ≤ k ∧ k ≤ p.size ∧ Scan p f k) (fun v => p.size - (intOf v).toNat)
    case atStart => exact ⟨f, rfl, Nat.le_refl _, hlt, scan_0 p f⟩
    case round =>
      obtain ⟨k, rfl, hfk, hks, hsc⟩ := hrel
      have HSC := hide hsc
      have RKW := hide (fun W hW => rkid_any x (p.extract f k) (by omega) (.agg (x.h.cells (.slice A3 x.ks.len c3) (.slice A4 x.ss.length c4))) W hW)
      clear hsc
      by_cases hkl3 : k < p.size
      · by_cases hc : (p[k]'hkl3) = 47
        · have hcb : (((p[k]'hkl3).toNat : Int) != 47) = false := by rw [hc]; rfl
          have hcb2 : (((p[k]'hkl3).toNat : Int) == 47) = true := by rw [hc]; rfl
          have hxx : k = p.size ∨ ∃ hk : k < p.size, (p[k]'hk) = 47 := Or.inr ⟨hkl3, hc⟩
          clear hc
          have HDR := hide (scan_out HSC.out ⟨hfk, hks⟩ hxx)
          clear hxx HSC
          cases hki : kidI x.ks (p.extract f k) with
          | none =>
            have h1 := HF.out
            rw [HDR.out, findT_miss (kid_none hki)] at h1
            cases h1
          | some i =>
            have hil := kidI_lt hki
            obtain ⟨kk, hk1, hk2, -⟩ := kid_some hki
            have HZ := hide (show (findT kk (restP p (k + 1))).isSome = true by have h1 := HF.out; rw [HDR.out, findT_hit hk2] at h1; exact h1)
            have HWS := hide (show wF kk (restP p (k + 1)) (if kk.h.weight = 0 then ow else kk.h.weight) = weightP t p by have h1 := HWF.out; rw [HDR.out, wF, hk2] at h1; exact h1)
            obtain ⟨g, o', hA, hg, hfo⟩ := HKL.out (by omega)
            subst hA
            obtain ⟨hsk, kv', sv', h3, h4, h5⟩ := hfo.at hk1
            have XR := hide (fun (z : World) (hz : Below w.heap.size w z) => (show z.rangeAt g (o' + i * 12) (kk.h.cells kv' sv').toList by
              have h := range_below hz hg h3
              rw [show o' + 0 * 12 + i * 12 = o' + i * 12 by omega] at h
              exact h))
            have HTK := hide (show TreeR w w.heap.size (.agg (kk.h.cells kv' sv')) kk from ⟨kv', sv', rfl, h4, h5⟩)
            obtain ⟨A7, c7, rfl⟩ : ∃ A7 c7, kv' = .slice A7 kk.ks.len c7 := by obtain ⟨A, c, e, _⟩ := h5; exact ⟨A, c, e⟩
            obtain ⟨A8, c8, rfl⟩ : ∃ A8 c8, sv' = .slice A8 kk.ss.length c8 := by obtain ⟨A, c, e, _⟩ := h4; exact ⟨A, c, e⟩
            have d10 : wr.cell? ⟨b, 10, none⟩ = some (.slice (some ⟨g, o', none⟩) x.ks.len c3) := HB.out.cells 10
            have hks6 : kk.sz ≤ 120000 := by unfold Tr.sz at hxs; omega
            have hkv : kidV (some i) = (i : Int) := rfl
            rw [hki, hkv] at RKW
            clear hki hk1 hk2 HF HDR HWF h3 h4 h5 hfo hsk HKL hkv
            go_upto_region 7 with fail
            go_cut [40] (fun _ W5 => Blk W5 b (kk.h.cells (.slice A7 kk.ks.len c7) (.slice A8 kk.ss.length c8)) 25 ∧ FrO (fun j => j = b) W1 W5)
            case first =>
              refine wp_region_noPanic ?_
              refine wp_region_held_drew (S := (fun z => FrO (fun j => j = b) W1 z ∧ True)) (by kernel_rfl) kp (fun hHeld => ?_)
              refine tkZ 0 ⟨some 31, .fieldAddr 25 (.tmp 2) 10, 0, "ref.go:57", #[], none⟩ ?_
              refine tkZ 3 ⟨some 34, .move (.tmp 1), 9, "ref.go:57", #[], none⟩ ?_
              refine tkZ 4 ⟨some 35, .move (.tmp 6), 3, "ref.go:57", #[], none⟩ ?_
              refine tkZ 5 ⟨some 36, .move (.tmp 7), 3, "ref.go:57", #[], none⟩ ?_
              refine tkZ 6 ⟨some 37, .slice 9 (.tmp 34) (some (.tmp 35)) (some (.tmp 36)) none, 9, "ref.go:57", #[⟨3, .data⟩, ⟨4, .data⟩, ⟨5, .data⟩], none⟩ ?_
              refine rqS [1, 2] (rqC ⟨some 32, .load 22 (.tmp 31), 22, "ref.go:57", #[⟨0, .data⟩], none⟩ (fun K hK => ?_) (rqC ⟨some 33, .load 25 (.tmp 2), 25, "ref.go:57", #[], none⟩ (fun K hK => ?_) rq0))
              focus
                go_simp
                refine hK.out _ _ kp (fun hHeld => ?_)
                clear hK K
                try simp only [PT]
                refine rqS [2] (rqC ⟨some 33, .load 25 (.tmp 2), 25, "ref.go:57", #[], none⟩ (fun K hK => ?_) rq0)
                refine step_load_rowS rfl 25 (.tmp 2) rfl b rfl 25 (x.h.cells (.slice (some ⟨g, o', none⟩) x.ks.len c3) (.slice A4 x.ss.length c4)) (0, 0) _ HBd.out Tryz.underlying25 rfl (infN rfl) ?_
                refine hK.out _ _ kp (fun hHeld => ?_)
                clear hK K
                try simp only [PT]
                refine rqS [7] (rqC ⟨some 38, .call ⟨.value (.func 67), #[.tmp 33, .tmp 37], #[25, 9]⟩, 3, "ref.go:57", #[⟨2, .data⟩, ⟨6, .data⟩], none⟩ (fun K hK => ?_) rq0)
                go_simp
                (go_at_call 67; (with_reducible refine (RKW.out _ HTD.out).mono ?_); rintro e w8 ⟨rfl, hb8⟩; have hk8 : FrO (fun j => j = b) W1 w8 ∧ True := ⟨hk0d.1.trans (FrO.of (O := fun j => j = b) hb8) (fun j h => Or.inl h), trivial⟩; have HB8 := hide (Blk.below hb8 HBd.out); have d10b : w8.cell? ⟨b, 10, none⟩ = some (.slice (some ⟨g, o', none⟩) x.ks.len c3) := HB8.out.cells 10)
                go_wp2_with fail
                refine hK.out _ _ kp (fun hHeld => ?_)
                clear hK K
                try simp only [PT]
                refine tkZ 8 ⟨some 39, .indexAddr 22 (.tmp 32) (.tmp 38), 0, "ref.go:57", #[⟨1, .data⟩, ⟨7, .data⟩], none⟩ ?_
                refine tkZ 9 ⟨some 40, .load 25 (.tmp 39), 25, "ref.go:57", #[⟨8, .data⟩], none⟩ ?_ (by intro w hSw; (try dsimp only at hSw); have hbz := hbel1.trans (hSw.1.below hbel1.size (fun j hj => by subst hj; exact hwb)); refine (exec_load_mid 25 (.tmp 39) (by rfl) g (o' + i * 12) (by rfl) (kk.h.cells (.slice A7 kk.ks.len c7) (.slice A8 kk.ss.length c8)) _ (XR.out _ hbz) Tryz.underlying25 (by rfl) (infNl rfl)).trans ?_; with_reducible rfl)
                refine rqS [10] (rqC ⟨none, .store 25 (.tmp 2) (.tmp 40), 0, "ref.go:57", #[⟨9, .data⟩, ⟨7, .chain⟩, ⟨0, .phase⟩, ⟨1, .phase⟩, ⟨2, .phase⟩, ⟨3, .phase⟩, ⟨4, .phase⟩, ⟨5, .phase⟩, ⟨6, .phase⟩, ⟨7, .phase⟩, ⟨8, .phase⟩, ⟨9, .phase⟩], none⟩ (fun K hK => ?_) rq0)
                refine step_store_rowG rfl 25 (.tmp 2) (.tmp 40) rfl b (kk.h.cells (.slice A7 kk.ks.len c7) (.slice A8 kk.ss.length c8)) rfl rfl 25 (x.h.cells (.slice (some ⟨g, o', none⟩) x.ks.len c3) (.slice A4 x.ss.length c4)) HB8.out (infN rfl) rfl (nodeLit _ _ _ _ _ _ _) ?_; have hk9 : FrO (fun j => j = b) W1 (w8.setRow b (kk.h.cells (.slice A7 kk.ks.len c7) (.slice A8 kk.ss.length c8))) ∧ True := ⟨hk8.1.trans (FrO.setRow (O := fun j => j = b) rfl) (fun j h => Or.inl h), trivial⟩
                refine hK.out _ _ kp (fun hHeld => ?_)
                clear hK K
                try simp only [PT]
                refine wpAnyH_done (by kernel_rfl) ?_ _
                refine NoPanic.normal ?_
                go_wp2_with fail
                go_meet
                exact ⟨setRow_heap _ _ _ _ _ _ HB8.out, hk9.1⟩
              focus
                refine step_load_rowS rfl 25 (.tmp 2) rfl b rfl 25 (x.h.cells (.slice (some ⟨g, o', none⟩) x.ks.len c3) (.slice A4 x.ss.length c4)) (0, 0) _ HBd.out Tryz.underlying25 rfl (infN rfl) ?_
                refine hK.out _ _ kp (fun hHeld => ?_)
                clear hK K
                try simp only [PT]
                refine rqS [1, 7] (rqC ⟨some 32, .load 22 (.tmp 31), 22, "ref.go:57", #[⟨0, .data⟩], none⟩ (fun K hK => ?_) (rqC ⟨some 38, .call ⟨.value (.func 67), #[.tmp 33, .tmp 37], #[25, 9]⟩, 3, "ref.go:57", #[⟨2, .data⟩, ⟨6, .data⟩], none⟩ (fun K hK => ?_) rq0))
                focus
                  go_simp
                  refine hK.out _ _ kp (fun hHeld => ?_)
                  clear hK K
                  try simp only [PT]
                  refine rqS [7] (rqC ⟨some 38, .call ⟨.value (.func 67), #[.tmp 33, .tmp 37], #[25, 9]⟩, 3, "ref.go:57", #[⟨2, .data⟩, ⟨6, .data⟩], none⟩ (fun K hK => ?_) rq0)
                  go_simp
                  (go_at_call 67; (with_reducible refine (RKW.out _ HTD.out).mono ?_); rintro e w8 ⟨rfl, hb8⟩; have hk8 : FrO (fun j => j = b) W1 w8 ∧ True := ⟨hk0d.1.trans (FrO.of (O := fun j => j = b) hb8) (fun j h => Or.inl h), trivial⟩; have HB8 := hide (Blk.below hb8 HBd.out); have d10b : w8.cell? ⟨b, 10, none⟩ = some (.slice (some ⟨g, o', none⟩) x.ks.len c3) := HB8.out.cells 10)
                  go_wp2_with fail
                  refine hK.out _ _ kp (fun hHeld => ?_)
                  clear hK K
                  try simp only [PT]
                  refine tkZ 8 ⟨some 39, .indexAddr 22 (.tmp 32) (.tmp 38), 0, "ref.go:57", #[⟨1, .data⟩, ⟨7, .data⟩], none⟩ ?_
                  refine tkZ 9 ⟨some 40, .load 25 (.tmp 39), 25, "ref.go:57", #[⟨8, .data⟩], none⟩ ?_ (by intro w hSw; (try dsimp only at hSw); have hbz := hbel1.trans (hSw.1.below hbel1.size (fun j hj => by subst hj; exact hwb)); refine (exec_load_mid 25 (.tmp 39) (by rfl) g (o' + i * 12) (by rfl) (kk.h.cells (.slice A7 kk.ks.len c7) (.slice A8 kk.ss.length c8)) _ (XR.out _ hbz) Tryz.underlying25 (by rfl) (infNl rfl)).trans ?_; with_reducible rfl)
                  refine rqS [10] (rqC ⟨none, .store 25 (.tmp 2) (.tmp 40), 0, "ref.go:57", #[⟨9, .data⟩, ⟨7, .chain⟩, ⟨0, .phase⟩, ⟨1, .phase⟩, ⟨2, .phase⟩, ⟨3, .phase⟩, ⟨4, .phase⟩, ⟨5, .phase⟩, ⟨6, .phase⟩, ⟨7, .phase⟩, ⟨8, .phase⟩, ⟨9, .phase⟩], none⟩ (fun K hK => ?_) rq0)
                  refine step_store_rowG rfl 25 (.tmp 2) (.tmp 40) rfl b (kk.h.cells (.slice A7 kk.ks.len c7) (.slice A8 kk.ss.length c8)) rfl rfl 25 (x.h.cells (.slice (some ⟨g, o', none⟩) x.ks.len c3) (.slice A4 x.ss.length c4)) HB8.out (infN rfl) rfl (nodeLit _ _ _ _ _ _ _) ?_; have hk9 : FrO (fun j => j = b) W1 (w8.setRow b (kk.h.cells (.slice A7 kk.ks.len c7) (.slice A8 kk.ss.length c8))) ∧ True := ⟨hk8.1.trans (FrO.setRow (O := fun j => j = b) rfl) (fun j h => Or.inl h), trivial⟩
                  refine hK.out _ _ kp (fun hHeld => ?_)
                  clear hK K
                  try simp only [PT]
                  refine wpAnyH_done (by kernel_rfl) ?_ _
                  refine NoPanic.normal ?_
                  go_wp2_with fail
                  go_meet
                  exact ⟨setRow_heap _ _ _ _ _ _ HB8.out, hk9.1⟩
                focus
                  go_simp
                  (go_at_call 67; (with_reducible refine (RKW.out _ HTD.out).mono ?_); rintro e w8 ⟨rfl, hb8⟩; have hk8 : FrO (fun j => j = b) W1 w8 ∧ True := ⟨hk0d.1.trans (FrO.of (O := fun j => j = b) hb8) (fun j h => Or.inl h), trivial⟩; have HB8 := hide (Blk.below hb8 HBd.out); have d10b : w8.cell? ⟨b, 10, none⟩ = some (.slice (some ⟨g, o', none⟩) x.ks.len c3) := HB8.out.cells 10)
                  go_wp2_with fail
                  refine hK.out _ _ kp (fun hHeld => ?_)
                  clear hK K
                  try simp only [PT]
                  refine rqS [1] (rqC ⟨some 32, .load 22 (.tmp 31), 22, "ref.go:57", #[⟨0, .data⟩], none⟩ (fun K hK => ?_) rq0)
                  go_simp
                  refine hK.out _ _ kp (fun hHeld => ?_)
                  clear hK K
                  try simp only [PT]
                  refine tkZ 8 ⟨some 39, .indexAddr 22 (.tmp 32) (.tmp 38), 0, "ref.go:57", #[⟨1, .data⟩, ⟨7, .data⟩], none⟩ ?_
                  refine tkZ 9 ⟨some 40, .load 25 (.tmp 39), 25, "ref.go:57", #[⟨8, .data⟩], none⟩ ?_ (by intro w hSw; (try dsimp only at hSw); have hbz := hbel1.trans (hSw.1.below hbel1.size (fun j hj => by subst hj; exact hwb)); refine (exec_load_mid 25 (.tmp 39) (by rfl) g (o' + i * 12) (by rfl) (kk.h.cells (.slice A7 kk.ks.len c7) (.slice A8 kk.ss.length c8)) _ (XR.out _ hbz) Tryz.underlying25 (by rfl) (infNl rfl)).trans ?_; with_reducible rfl)
                  refine rqS [10] (rqC ⟨none, .store 25 (.tmp 2) (.tmp 40), 0, "ref.go:57", #[⟨9, .data⟩, ⟨7, .chain⟩, ⟨0, .phase⟩, ⟨1, .phase⟩, ⟨2, .phase⟩, ⟨3, .phase⟩, ⟨4, .phase⟩, ⟨5, .phase⟩, ⟨6, .phase⟩, ⟨7, .phase⟩, ⟨8, .phase⟩, ⟨9, .phase⟩], none⟩ (fun K hK => ?_) rq0)
                  refine step_store_rowG rfl 25 (.tmp 2) (.tmp 40) rfl b (kk.h.cells (.slice A7 kk.ks.len c7) (.slice A8 kk.ss.length c8)) rfl rfl 25 (x.h.cells (.slice (some ⟨g, o', none⟩) x.ks.len c3) (.slice A4 x.ss.length c4)) HB8.out (infN rfl) rfl (nodeLit _ _ _ _ _ _ _) ?_; have hk9 : FrO (fun j => j = b) W1 (w8.setRow b (kk.h.cells (.slice A7 kk.ks.len c7) (.slice A8 kk.ss.length c8))) ∧ True := ⟨hk8.1.trans (FrO.setRow (O := fun j => j = b) rfl) (fun j h => Or.inl h), trivial⟩
                  refine hK.out _ _ kp (fun hHeld => ?_)
                  clear hK K
                  try simp only [PT]
                  refine wpAnyH_done (by kernel_rfl) ?_ _
                  refine NoPanic.normal ?_
                  go_wp2_with fail
                  go_meet
                  exact ⟨setRow_heap _ _ _ _ _ _ HB8.out, hk9.1⟩
            case rest =>
            obtain ⟨hB5, hF5⟩ := hcut
            rename World => W5
            have d8 : W5.cell? ⟨b, 8, none⟩ = some (.int .i64 kk.h.weight) := hB5.cells 8
            have HB5 := hide hB5
            have HF5 := hide hF5
            clear hB5 hF5 HB HFR XR d10 RKW HTD HBd hk0 hk0d
            by_cases hw : kk.h.weight = 0
            · have n1 : (kk.h.weight != 0) = false := by rw [hw]; rfl
              rw [if_pos hw] at HWS
              clear hw
              go_wp2_with fail
              go_roundw
              case rel => exact ⟨k + 1, kk, _, _, ow, rfl, by go_num, by omega, HB5.out, HTK.out, hks6, HZ.out, HWS.out, HF5.out⟩
              case measure => simp [intOf]; omega
            · have n1 : (kk.h.weight != 0) = true := by simp; exact hw
              rw [if_neg hw] at HWS
              clear hw
              go_wp2_with fail
              go_roundw
              case rel => exact ⟨k + 1, kk, _, _, _, rfl, by go_num, by omega, HB5.out, HTK.out, hks6, HZ.out, HWS.out, HF5.out⟩
              case measure => simp [intOf]; omega
        · have hcb2 : (((p[k]'hkl3).toNat : Int) == 47) = false := by
            rw [beq_eq_false_iff_ne]; intro h; exact hc (UInt8.toNat_inj.1 (by simpa using (show ((p[k]'hkl3).toNat) = 47 by omega)))
          have hcb : (((p[k]'hkl3).toNat : Int) != 47) = true := by rw [bne, hcb2]; rfl
          have HSN := hide (scan_next HSC.out hfk hkl3 hc)
          clear hc
          go_wp2_with fail
          go_round
          case rel => exact ⟨k + 1, by go_num, by omega, by omega, HSN.out⟩
          case measure => simp [intOf]; omega
      · have hxx : k = p.size ∨ ∃ hk : k < p.size, (p[k]'hk) = 47 := Or.inl (by omega)
        have HDR := hide (scan_out HSC.out ⟨hfk, hks⟩ hxx)
        clear hxx HSC
        cases hki : kidI x.ks (p.extract f k) with
        | none =>
          have h1 := HF.out
          rw [HDR.out, findT_miss (kid_none hki)] at h1
          cases h1
        | some i =>
          have hil := kidI_lt hki
          obtain ⟨kk, hk1, hk2, -⟩ := kid_some hki
          have HZ := hide (show (findT kk (restP p (k + 1))).isSome = true by have h1 := HF.out; rw [HDR.out, findT_hit hk2] at h1; exact h1)
          have HWS := hide (show wF kk (restP p (k + 1)) (if kk.h.weight = 0 then ow else kk.h.weight) = weightP t p by have h1 := HWF.out; rw [HDR.out, wF, hk2] at h1; exact h1)
          obtain ⟨g, o', hA, hg, hfo⟩ := HKL.out (by omega)
          subst hA
          obtain ⟨hsk, kv', sv', h3, h4, h5⟩ := hfo.at hk1
          have XR := hide (fun (z : World) (hz : Below w.heap.size w z) => (show z.rangeAt g (o' + i * 12) (kk.h.cells kv' sv').toList by
            have h := range_below hz hg h3
            rw [show o' + 0 * 12 + i * 12 = o' + i * 12 by omega] at h
            exact h))
          have HTK := hide (show TreeR w w.heap.size (.agg (kk.h.cells kv' sv')) kk from ⟨kv', sv', rfl, h4, h5⟩)
          obtain ⟨A7, c7, rfl⟩ : ∃ A7 c7, kv' = .slice A7 kk.ks.len c7 := by obtain ⟨A, c, e, _⟩ := h5; exact ⟨A, c, e⟩
          obtain ⟨A8, c8, rfl⟩ : ∃ A8 c8, sv' = .slice A8 kk.ss.length c8 := by obtain ⟨A, c, e, _⟩ := h4; exact ⟨A, c, e⟩
          have d10 : wr.cell? ⟨b, 10, none⟩ = some (.slice (some ⟨g, o', none⟩) x.ks.len c3) := HB.out.cells 10
          have hks6 : kk.sz ≤ 120000 := by unfold Tr.sz at hxs; omega
          have hkv : kidV (some i) = (i : Int) := rfl
          rw [hki, hkv] at RKW
          clear hki hk1 hk2 HF HDR HWF h3 h4 h5 hfo hsk HKL hkv
          go_upto_region 7 with fail
          go_cut [40] (fun _ W5 => Blk W5 b (kk.h.cells (.slice A7 kk.ks.len c7) (.slice A8 kk.ss.length c8)) 25 ∧ FrO (fun j => j = b) W1 W5)
          case first =>
            refine wp_region_noPanic ?_
            refine wp_region_held_drew (S := (fun z => FrO (fun j => j = b) W1 z ∧ True)) (by kernel_rfl) kp (fun hHeld => ?_)
            refine tkZ 0 ⟨some 31, .fieldAddr 25 (.tmp 2) 10, 0, "ref.go:57", #[], none⟩ ?_
            refine tkZ 3 ⟨some 34, .move (.tmp 1), 9, "ref.go:57", #[], none⟩ ?_
            refine tkZ 4 ⟨some 35, .move (.tmp 6), 3, "ref.go:57", #[], none⟩ ?_
            refine tkZ 5 ⟨some 36, .move (.tmp 7), 3, "ref.go:57", #[], none⟩ ?_
            refine tkZ 6 ⟨some 37, .slice 9 (.tmp 34) (some (.tmp 35)) (some (.tmp 36)) none, 9, "ref.go:57", #[⟨3, .data⟩, ⟨4, .data⟩, ⟨5, .data⟩], none⟩ ?_
            refine rqS [1, 2] (rqC ⟨some 32, .load 22 (.tmp 31), 22, "ref.go:57", #[⟨0, .data⟩], none⟩ (fun K hK => ?_) (rqC ⟨some 33, .load 25 (.tmp 2), 25, "ref.go:57", #[], none⟩ (fun K hK => ?_) rq0))
            focus
              go_simp
              refine hK.out _ _ kp (fun hHeld => ?_)
              clear hK K
              try simp only [PT]
              refine rqS [2] (rqC ⟨some 33, .load 25 (.tmp 2), 25, "ref.go:57", #[], none⟩ (fun K hK => ?_) rq0)
              refine step_load_rowS rfl 25 (.tmp 2) rfl b rfl 25 (x.h.cells (.slice (some ⟨g, o', none⟩) x.ks.len c3) (.slice A4 x.ss.length c4)) (0, 0) _ HBd.out Tryz.underlying25 rfl (infN rfl) ?_
              refine hK.out _ _ kp (fun hHeld => ?_)
              clear hK K
              try simp only [PT]
              refine rqS [7] (rqC ⟨some 38, .call ⟨.value (.func 67), #[.tmp 33, .tmp 37], #[25, 9]⟩, 3, "ref.go:57", #[⟨2, .data⟩, ⟨6, .data⟩], none⟩ (fun K hK => ?_) rq0)
              go_simp
              (go_at_call 67; (with_reducible refine (RKW.out _ HTD.out).mono ?_); rintro e w8 ⟨rfl, hb8⟩; have hk8 : FrO (fun j => j = b) W1 w8 ∧ True := ⟨hk0d.1.trans (FrO.of (O := fun j => j = b) hb8) (fun j h => Or.inl h), trivial⟩; have HB8 := hide (Blk.below hb8 HBd.out); have d10b : w8.cell? ⟨b, 10, none⟩ = some (.slice (some ⟨g, o', none⟩) x.ks.len c3) := HB8.out.cells 10)
              go_wp2_with fail
              refine hK.out _ _ kp (fun hHeld => ?_)
              clear hK K
              try simp only [PT]
              refine tkZ 8 ⟨some 39, .indexAddr 22 (.tmp 32) (.tmp 38), 0, "ref.go:57", #[⟨1, .data⟩, ⟨7, .data⟩], none⟩ ?_
              refine tkZ 9 ⟨some 40, .load 25 (.tmp 39), 25, "ref.go:57", #[⟨8, .data⟩], none⟩ ?_ (by intro w hSw; (try dsimp only at hSw); have hbz := hbel1.trans (hSw.1.below hbel1.size (fun j hj => by subst hj; exact hwb)); refine (exec_load_mid 25 (.tmp 39) (by rfl) g (o' + i * 12) (by rfl) (kk.h.cells (.slice A7 kk.ks.len c7) (.slice A8 kk.ss.length c8)) _ (XR.out _ hbz) Tryz.underlying25 (by rfl) (infNl rfl)).trans ?_; with_reducible rfl)
              refine rqS [10] (rqC ⟨none, .store 25 (.tmp 2) (.tmp 40), 0, "ref.go:57", #[⟨9, .data⟩, ⟨7, .chain⟩, ⟨0, .phase⟩, ⟨1, .phase⟩, ⟨2, .phase⟩, ⟨3, .phase⟩, ⟨4, .phase⟩, ⟨5, .phase⟩, ⟨6, .phase⟩, ⟨7, .phase⟩, ⟨8, .phase⟩, ⟨9, .phase⟩], none⟩ (fun K hK => ?_) rq0)
              refine step_store_rowG rfl 25 (.tmp 2) (.tmp 40) rfl b (kk.h.cells (.slice A7 kk.ks.len c7) (.slice A8 kk.ss.length c8)) rfl rfl 25 (x.h.cells (.slice (some ⟨g, o', none⟩) x.ks.len c3) (.slice A4 x.ss.length c4)) HB8.out (infN rfl) rfl (nodeLit _ _ _ _ _ _ _) ?_; have hk9 : FrO (fun j => j = b) W1 (w8.setRow b (kk.h.cells (.slice A7 kk.ks.len c7) (.slice A8 kk.ss.length c8))) ∧ True := ⟨hk8.1.trans (FrO.setRow (O := fun j => j = b) rfl) (fun j h => Or.inl h), trivial⟩
              refine hK.out _ _ kp (fun hHeld => ?_)
              clear hK K
              try simp only [PT]
              refine wpAnyH_done (by kernel_rfl) ?_ _
              refine NoPanic.normal ?_
              go_wp2_with fail
              go_meet
              exact ⟨setRow_heap _ _ _ _ _ _ HB8.out, hk9.1⟩
            focus
              refine step_load_rowS rfl 25 (.tmp 2) rfl b rfl 25 (x.h.cells (.slice (some ⟨g, o', none⟩) x.ks.len c3) (.slice A4 x.ss.length c4)) (0, 0) _ HBd.out Tryz.underlying25 rfl (infN rfl) ?_
              refine hK.out _ _ kp (fun hHeld => ?_)
              clear hK K
              try simp only [PT]
              refine rqS [1, 7] (rqC ⟨some 32, .load 22 (.tmp 31), 22, "ref.go:57", #[⟨0, .data⟩], none⟩ (fun K hK => ?_) (rqC ⟨some 38, .call ⟨.value (.func 67), #[.tmp 33, .tmp 37], #[25, 9]⟩, 3, "ref.go:57", #[⟨2, .data⟩, ⟨6, .data⟩], none⟩ (fun K hK => ?_) rq0))
              focus
                go_simp
                refine hK.out _ _ kp (fun hHeld => ?_)
                clear hK K
                try simp only [PT]
                refine rqS [7] (rqC ⟨some 38, .call ⟨.value (.func 67), #[.tmp 33, .tmp 37], #[25, 9]⟩, 3, "ref.go:57", #[⟨2, .data⟩, ⟨6, .data⟩], none⟩ (fun K hK => ?_) rq0)
                go_simp
                (go_at_call 67; (with_reducible refine (RKW.out _ HTD.out).mono ?_); rintro e w8 ⟨rfl, hb8⟩; have hk8 : FrO (fun j => j = b) W1 w8 ∧ True := ⟨hk0d.1.trans (FrO.of (O := fun j => j = b) hb8) (fun j h => Or.inl h), trivial⟩; have HB8 := hide (Blk.below hb8 HBd.out); have d10b : w8.cell? ⟨b, 10, none⟩ = some (.slice (some ⟨g, o', none⟩) x.ks.len c3) := HB8.out.cells 10)
                go_wp2_with fail
                refine hK.out _ _ kp (fun hHeld => ?_)
                clear hK K
                try simp only [PT]
                refine tkZ 8 ⟨some 39, .indexAddr 22 (.tmp 32) (.tmp 38), 0, "ref.go:57", #[⟨1, .data⟩, ⟨7, .data⟩], none⟩ ?_
                refine tkZ 9 ⟨some 40, .load 25 (.tmp 39), 25, "ref.go:57", #[⟨8, .data⟩], none⟩ ?_ (by intro w hSw; (try dsimp only at hSw); have hbz := hbel1.trans (hSw.1.below hbel1.size (fun j hj => by subst hj; exact hwb)); refine (exec_load_mid 25 (.tmp 39) (by rfl) g (o' + i * 12) (by rfl) (kk.h.cells (.slice A7 kk.ks.len c7) (.slice A8 kk.ss.length c8)) _ (XR.out _ hbz) Tryz.underlying25 (by rfl) (infNl rfl)).trans ?_; with_reducible rfl)
                refine rqS [10] (rqC ⟨none, .store 25 (.tmp 2) (.tmp 40), 0, "ref.go:57", #[⟨9, .data⟩, ⟨7, .chain⟩, ⟨0, .phase⟩, ⟨1, .phase⟩, ⟨2, .phase⟩, ⟨3, .phase⟩, ⟨4, .phase⟩, ⟨5, .phase⟩, ⟨6, .phase⟩, ⟨7, .phase⟩, ⟨8, .phase⟩, ⟨9, .phase⟩], none⟩ (fun K hK => ?_) rq0)
                refine step_store_rowG rfl 25 (.tmp 2) (.tmp 40) rfl b (kk.h.cells (.slice A7 kk.ks.len c7) (.slice A8 kk.ss.length c8)) rfl rfl 25 (x.h.cells (.slice (some ⟨g, o', none⟩) x.ks.len c3) (.slice A4 x.ss.length c4)) HB8.out (infN rfl) rfl (nodeLit _ _ _ _ _ _ _) ?_; have hk9 : FrO (fun j => j = b) W1 (w8.setRow b (kk.h.cells (.slice A7 kk.ks.len c7) (.slice A8 kk.ss.length c8))) ∧ True := ⟨hk8.1.trans (FrO.setRow (O := fun j => j = b) rfl) (fun j h => Or.inl h), trivial⟩
                refine hK.out _ _ kp (fun hHeld => ?_)
                clear hK K
                try simp only [PT]
                refine wpAnyH_done (by kernel_rfl) ?_ _
                refine NoPanic.normal ?_
                go_wp2_with fail
                go_meet
                exact ⟨setRow_heap _ _ _ _ _ _ HB8.out, hk9.1⟩
              focus
                go_simp
                (go_at_call 67; (with_reducible refine (RKW.out _ HTD.out).mono ?_); rintro e w8 ⟨rfl, hb8⟩; have hk8 : FrO (fun j => j = b) W1 w8 ∧ True := ⟨hk0d.1.trans (FrO.of (O := fun j => j = b) hb8) (fun j h => Or.inl h), trivial⟩; have HB8 := hide (Blk.below hb8 HBd.out); have d10b : w8.cell? ⟨b, 10, none⟩ = some (.slice (some ⟨g, o', none⟩) x.ks.len c3) := HB8.out.cells 10)
                go_wp2_with fail
                refine hK.out _ _ kp (fun hHeld => ?_)
                clear hK K
                try simp only [PT]
                refine rqS [1] (rqC ⟨some 32, .load 22 (.tmp 31), 22, "ref.go:57", #[⟨0, .data⟩], none⟩ (fun K hK => ?_) rq0)
                go_simp
                refine hK.out _ _ kp (fun hHeld => ?_)
                clear hK K
                try simp only [PT]
                refine tkZ 8 ⟨some 39, .indexAddr 22 (.tmp 32) (.tmp 38), 0, "ref.go:57", #[⟨1, .data⟩, ⟨7, .data⟩], none⟩ ?_
                refine tkZ 9 ⟨some 40, .load 25 (.tmp 39), 25, "ref.go:57", #[⟨8, .data⟩], none⟩ ?_ (by intro w hSw; (try dsimp only at hSw); have hbz := hbel1.trans (hSw.1.below hbel1.size (fun j hj => by subst hj; exact hwb)); refine (exec_load_mid 25 (.tmp 39) (by rfl) g (o' + i * 12) (by rfl) (kk.h.cells (.slice A7 kk.ks.len c7) (.slice A8 kk.ss.length c8)) _ (XR.out _ hbz) Tryz.underlying25 (by rfl) (infNl rfl)).trans ?_; with_reducible rfl)
                refine rqS [10] (rqC ⟨none, .store 25 (.tmp 2) (.tmp 40), 0, "ref.go:57", #[⟨9, .data⟩, ⟨7, .chain⟩, ⟨0, .phase⟩, ⟨1, .phase⟩, ⟨2, .phase⟩, ⟨3, .phase⟩, ⟨4, .phase⟩, ⟨5, .phase⟩, ⟨6, .phase⟩, ⟨7, .phase⟩, ⟨8, .phase⟩, ⟨9, .phase⟩], none⟩ (fun K hK => ?_) rq0)
                refine step_store_rowG rfl 25 (.tmp 2) (.tmp 40) rfl b (kk.h.cells (.slice A7 kk.ks.len c7) (.slice A8 kk.ss.length c8)) rfl rfl 25 (x.h.cells (.slice (some ⟨g, o', none⟩) x.ks.len c3) (.slice A4 x.ss.length c4)) HB8.out (infN rfl) rfl (nodeLit _ _ _ _ _ _ _) ?_; have hk9 : FrO (fun j => j = b) W1 (w8.setRow b (kk.h.cells (.slice A7 kk.ks.len c7) (.slice A8 kk.ss.length c8))) ∧ True := ⟨hk8.1.trans (FrO.setRow (O := fun j => j = b) rfl) (fun j h => Or.inl h), trivial⟩
                refine hK.out _ _ kp (fun hHeld => ?_)
                clear hK K
                try simp only [PT]
                refine wpAnyH_done (by kernel_rfl) ?_ _
                refine NoPanic.normal ?_
                go_wp2_with fail
                go_meet
                exact ⟨setRow_heap _ _ _ _ _ _ HB8.out, hk9.1⟩
          case rest =>
          obtain ⟨hB5, hF5⟩ := hcut
          rename World => W5
          have d8 : W5.cell? ⟨b, 8, none⟩ = some (.int .i64 kk.h.weight) := hB5.cells 8
          have HB5 := hide hB5
          have HF5 := hide hF5
          clear hB5 hF5 HB HFR XR d10 RKW HTD HBd hk0 hk0d
          by_cases hw : kk.h.weight = 0
          · have n1 : (kk.h.weight != 0) = false := by rw [hw]; rfl
            rw [if_pos hw] at HWS
            clear hw
            go_wp2_with fail
            go_roundw
            case rel => exact ⟨k + 1, kk, _, _, ow, rfl, by go_num, by omega, HB5.out, HTK.out, hks6, HZ.out, HWS.out, HF5.out⟩
            case measure => simp [intOf]; omega
          · have n1 : (kk.h.weight != 0) = true := by simp; exact hw
            rw [if_neg hw] at HWS
            clear hw
            go_wp2_with fail
            go_roundw
            case rel => exact ⟨k + 1, kk, _, _, _, rfl, by go_num, by omega, HB5.out, HTK.out, hks6, HZ.out, HWS.out, HF5.out⟩
            case measure => simp [intOf]; omega
end Go.Proofs.YtocgindpjjolpaaGreatDoor
