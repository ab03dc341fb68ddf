/- Contracts and plain words for the laws of this chapter, part 25: K1, K3, K4. No condition. -/
import Derived.Test.YtocgindpjjolpaaGreatDoorY21
import Derived.Test.YtocgindpjjolpaaGreatDoorY14
import Derived.Test.YtocgindpjjolpaaGreatDoorY12
import Derived.Test.YtocgindpjjolpaaGreatDoorY9
import Derived.Test.YtocgindpjjolpaaGreatDoorY15
namespace Go.Proofs.YtocgindpjjolpaaGreatDoor
set_option linter.unusedSimpArgs false
set_option linter.unusedVariables false
open Go.RowKit
set_option maxHeartbeats 2000000 in
theorem rblocks_any (n : Int) (h : -9223372036854775808 ≤ n ∧ n ≤ 9223372036854775807) (w : World) : Calls Tryz.prog 25 #[.int .i64 n] w fun e w' => e = .returned (.int .i64 (blocksI n)) ∧ w = w' := by
  by_cases hn : n ≤ 0
  · have e : blocksI n = 0 := by unfold blocksI; rw [if_pos hn]
    have HL : Live w [] := trivial
    go_enter Tryz.func25, Tryz.ntmps25
    go_wp2
    go_ret
    first | exact ⟨rfl, rfl⟩ | exact ⟨ret_i e.symm, rfl⟩
  · have e : blocksI n = (n - 1) / 2048 + 1 := by unfold blocksI; rw [if_neg hn]
    have k1 : IntKind.i64.wrap (n - 1) = n - 1 := IntWalk.i64_in _ (by omega)
    have k2 : IntKind.i64.wrap ((n - 1) / 2048) = (n - 1) / 2048 := IntWalk.i64_in _ (by omega)
    have k3 : IntKind.i64.wrap ((n - 1) / 2048 + 1) = (n - 1) / 2048 + 1 := IntWalk.i64_in _ (by omega)
    have HL : Live w [] := trivial
    go_enter Tryz.func25, Tryz.ntmps25
    go_wp2
    go_ret
    first | exact ⟨rfl, rfl⟩ | exact ⟨ret_i e.symm, rfl⟩
set_option maxRecDepth 100000 in
set_option maxHeartbeats 4000000 in
theorem has_any (L : List ByteArray) (s : ByteArray) (v : Value) (B : Nat) (hL : L.length ≤ 100000000) (w : World) (hv : SlR w B v L) : Calls Tryz.prog 55 #[v, .string s] w fun e w' => e = .returned (.bool (hasS L s)) ∧ w = w' := by
  obtain ⟨A, c, rfl, h⟩ := hv
  have HC := hide h
  clear h
  have HL : Live w [] := trivial
  go_enter Tryz.func55, Tryz.ntmps55
  go_wp2_with fail
  go_loop [5] (fun i => ∃ k : Nat, k ≤ L.length ∧ i = .int .i64 (k : Int) ∧ hasS (L.take k) s = false) (fun i => L.length - (intOf i).toNat)
  case atStart => exact ⟨0, by omega, rfl, rfl⟩
  case round =>
    obtain ⟨k, hk, rfl, ha⟩ := hrel
    have HA := hide ha
    clear ha
    by_cases hlt : k < L.length
    · obtain ⟨x, hx⟩ : ∃ x, L[k]? = some x := ⟨_, List.getElem?_eq_getElem hlt⟩
      obtain ⟨g, o, rfl, hg, hcl⟩ := HC.out (by omega)
      have hcell := hcl k x hx
      have HM := hide (List.mem_of_getElem? hx)
      have HTK := hide (show L.take (k + 1) = L.take k ++ [x] by rw [List.take_add_one, hx]; rfl)
      clear hx hcl
      by_cases q : x = s
      · have q1 : (x.toList == s.toList) = true := seq_y q
        have HZ := hide (show hasS L s = true from hasS_iff.2 (q ▸ HM.out))
        clear q
        go_wp2_with fail
        go_ret
        exact ⟨ret_b HZ.out.symm, rfl⟩
      · have q1 : (x.toList == s.toList) = false := seq_n q
        have HZ := hide (show hasS (L.take (k + 1)) s = false by rw [HTK.out, hasS_no, List.mem_append, List.mem_singleton]; exact fun h => h.elim (hasS_no.1 HA.out) (fun e => q e.symm))
        clear q
        go_wp2_with fail
        go_round
        case rel => exact ⟨k + 1, by omega, by go_num, HZ.out⟩
        case measure => simp [intOf]; omega
    · obtain rfl : k = L.length := by omega
      have HZ := hide (show hasS L s = false by have h := HA.out; rwa [List.take_length] at h)
      go_wp2
      go_ret
      exact ⟨ret_b HZ.out.symm, rfl⟩
def findR (t : Tr) (p : ByteArray) : Tr × Bool := match findT t (partsP p) with
  | some x => (x, true)
  | none => (Tr.zero, false)
def restP (p : ByteArray) (f : Nat) : List ByteArray := if f ≤ p.size then (partsL (p.data.toList.drop f) []).map (fun q => (⟨q.toArray⟩ : ByteArray)) else []
theorem words_pieces (s : ByteArray) : words s = (partsL s.data.toList []).map (fun q => (⟨q.toArray⟩ : ByteArray)) := by
  have h := congrArg (List.map (fun v => match v with | Value.string s => s | _ => eS)) (words_strs s)
  unfold strsOf at h
  rw [List.map_map, List.map_map] at h
  have e1 : ((fun v => match v with | Value.string s => s | _ => eS) ∘ Value.string) = (id : ByteArray → ByteArray) := rfl
  rw [e1, List.map_id] at h
  rw [h]
  rfl
theorem restP_0 (p : ByteArray) : restP p 0 = words p := by rw [words_pieces, restP, if_pos (Nat.zero_le _), List.drop_zero]
def Scan (p : ByteArray) (f k : Nat) : Prop := partsL (p.data.toList.drop f) [] = partsL (p.data.toList.drop k) ((p.data.toList.drop f).take (k - f))
theorem scan_0 (p : ByteArray) (f : Nat) : Scan p f f := by unfold Scan; rw [Nat.sub_self, List.take_zero]
theorem scan_next {p : ByteArray} {f k : Nat} (h : Scan p f k) (hf : f ≤ k) (hk : k < p.size) (hc : (p[k]'hk) ≠ 47) : Scan p f (k + 1) := by
  have hk' : k < p.data.toList.length := by simpa using hk
  unfold Scan at h ⊢
  rw [h, List.drop_eq_getElem_cons hk', partsL, if_neg (by rw [Array.getElem_toList]; exact hc)]
  congr 1
  rw [show k + 1 - f = (k - f) + 1 by omega, List.take_add_one, List.getElem?_drop, show f + (k - f) = k by omega, List.getElem?_eq_getElem hk']
  rfl
theorem extract_at (p : ByteArray) (f k : Nat) : p.extract f k = ⟨((p.data.toList.drop f).take (k - f)).toArray⟩ := by
  apply ByteArray.ext
  apply Array.toList_inj.1
  rw [← ByteArray.toList_eq, Lib.extract_toList]
theorem scan_out {p : ByteArray} {f k : Nat} (h : Scan p f k) (hf : f ≤ k ∧ k ≤ p.size) (hx : k = p.size ∨ ∃ hk : k < p.size, (p[k]'hk) = 47) : restP p f = p.extract f k :: restP p (k + 1) := by
  unfold Scan at h
  rw [restP, if_pos (by omega), h, extract_at]
  rcases hx with rfl | ⟨hk, hc⟩
  · rw [List.drop_of_length_le (show p.data.toList.length ≤ p.size by simp), restP, if_neg (by omega), partsL]
    rfl
  · have hk' : k < p.data.toList.length := by simpa using hk
    rw [List.drop_eq_getElem_cons hk', partsL, if_pos (by rw [Array.getElem_toList]; exact hc), restP, if_pos (by omega)]
    rfl
set_option maxRecDepth 100000 in
set_option maxHeartbeats 8000000 in
theorem rfind_any (t : Tr) (p : ByteArray) (hsz : t.sz ≤ 120000) (hp : p.size ≤ 2000000) (v : Value) (w : World) (hv : TreeR w w.heap.size v t) : Calls Tryz.prog 49 #[v, .string p] w fun e w' => ∃ r, e = .returned (.tuple #[r, .bool (findR t p).2]) ∧ TreeR w' w'.heap.size r (findR t p).1 ∧ Below w.heap.size w w' := by
  have HV := hide hv
  obtain ⟨A, c, A2, c2, rfl, hkl, hstl⟩ := hv.openL
  clear hv hkl hstl
  have HL : Live w [] := trivial
  go_enter Tryz.func49, Tryz.ntmps49
  go_upto_region 1 with fail
  have HB := hide (show Blk ((w.alloc (.cells (t.h.cells (.slice A t.ks.len c) (.slice A2 t.ss.length c2)) 25)).alloc (.cells zeroN 25)) w.heap.size (t.h.cells (.slice A t.ks.len c) (.slice A2 t.ss.length c2)) 25 from (Blk.newAt rfl).alloc _)
  have HR := hide (show Blk ((w.alloc (.cells (t.h.cells (.slice A t.ks.len c) (.slice A2 t.ss.length c2)) 25)).alloc (.cells zeroN 25)) (w.heap.size + 1) zeroN 25 from Blk.newAt (by rw [World.size_alloc]))
  have hbel1 : Below w.heap.size w ((w.alloc (.cells (t.h.cells (.slice A t.ks.len c) (.slice A2 t.ss.length c2)) 25)).alloc (.cells zeroN 25)) := ((Below.refl _ _).alloc (Nat.le_refl _) _).alloc (by rw [World.size_alloc]; omega) _
  obtain ⟨W1, hW1⟩ : ∃ W1, W1 = (w.alloc (.cells (t.h.cells (.slice A t.ks.len c) (.slice A2 t.ss.length c2)) 25)).alloc (.cells zeroN 25) := ⟨_, rfl⟩
  rw [← hW1] at HB HR hbel1
  unfold zeroN at hW1
  rw [← hW1]
  clear hW1
  obtain ⟨r, hr⟩ : ∃ r, r = w.heap.size + 1 := ⟨_, rfl⟩
  rw [← hr] at HR ⊢
  obtain ⟨b, hb⟩ : ∃ b, b = w.heap.size := ⟨_, rfl⟩
  rw [← hb] at HB ⊢
  have hlo : b ≠ r ∧ w.heap.size ≤ b ∧ w.heap.size ≤ r := by omega
  obtain ⟨hbr, hwb, hwr⟩ := hlo
  clear hb hr
  have BZ := hide built_zero
  by_cases hpe : p = eS
  case pos =>
    have HE := hide (show findR t p = (t, true) by unfold findR partsP; rw [if_pos hpe]; rfl)
    subst hpe
    have hbel9 := hbel1.trans ((FrO.setRow (O := fun j => j = r) (w := W1) (cs := (t.h.cells (.slice A t.ks.len c) (.slice A2 t.ss.length c2))) rfl).below (B := w.heap.size) hbel1.size fun j hj => by subst hj; exact hwr)
    go_wp2_with fail
    go_loopw [6, 7, 8] (fun i _ _ wr => i = .int .i64 0 ∧ wr = W1) (fun _ _ _ _ => 0)
    case atStart => exact ⟨rfl, rfl⟩
    case round =>
      obtain ⟨rfl, rfl⟩ := hrel
      go_wp2_with (first | (refine wpList_load_row rfl 25 (.tmp 2) rfl b rfl 25 (t.h.cells (.slice A t.ks.len c) (.slice A2 t.ss.length c2)) (0, 0) _ HB.out Tryz.underlying25 rfl (infN rfl) ?_) | (refine wpList_store_row rfl 25 (.tmp 4) (.tmp 46) rfl r (t.h.cells (.slice A t.ks.len c) (.slice A2 t.ss.length c2)) rfl rfl 25 zeroN HR.out (infN rfl) rfl (nodeLit _ _ _ _ _ _ _) ?_))
      refine bodyPost_ret (results_cell2 rfl _ _ r 25 (t.h.cells (.slice A t.ks.len c) (.slice A2 t.ss.length c2)) (0, 0) _ rfl (setRow_heap _ _ _ _ _ _ HR.out) (.bool true) rfl Tryz.underlying25 rfl (infN rfl)) rfl ?_
      rw [HE.out]
      exact ⟨_, rfl, HV.out.own_below hbel9, hbel9⟩
  case neg =>
  have hpp : partsP p = restP p 0 := by rw [restP_0]; unfold partsP; rw [if_neg hpe]
  have q1 : (p.toList == []) = false := by
    rw [beq_eq_false_iff_ne]
    exact fun e => hpe (nil_list e)
  have q2 : (p.toList != []) = true := by rw [bne, q1]; rfl
  have HPP := hide hpp
  clear hpe hpp
  go_wp2_with fail
  go_loopw [6, 7, 8] (fun i _ _ wr => ∃ (f : Nat) (x : Tr) (kv sv : Value), i = .int .i64 (f : Int) ∧ f ≤ p.size + 1 ∧ Blk wr b (x.h.cells kv sv) 25 ∧ Blk wr r zeroN 25 ∧ TreeR w w.heap.size (.agg (x.h.cells kv sv)) x ∧ x.sz ≤ 120000 ∧ findT t (partsP p) = findT x (restP p f) ∧ FrO (fun j => j = b) W1 wr) (fun i _ _ _ => p.size + 1 - (intOf i).toNat)
  case atStart => exact ⟨0, t, _, _, rfl, Nat.zero_le _, HB.out, HR.out, HV.out, hsz, by rw [HPP.out], FrO.of (Below.refl _ _)⟩
  case round =>
    clear HB HR HV HPP
    obtain ⟨f, x, kv, sv, rfl, hf, hB, hRz, htx, hxs, hfd, hfr⟩ := hrel
    have HB := hide hB
    have HR := hide hRz
    have HTX := hide htx
    have HF := hide hfd
    have HFR := hide hfr
    obtain ⟨A3, c3, A4, c4, ecells, hkl, -⟩ := htx.openL
    injection ecells with ecells
    have ekv : kv = .slice A3 x.ks.len c3 := by have := congrArg (fun a : Array Value => a[10]?) ecells; simpa [Hd.cells] using this
    have esv : sv = .slice A4 x.ss.length c4 := by have := congrArg (fun a : Array Value => a[11]?) ecells; simpa [Hd.cells] using this
    subst ekv; subst esv
    have HKL := hide hkl
    have hbel : Below w.heap.size w wr := hbel1.trans (hfr.below hbel1.size fun j hj => by subst hj; exact hwb)
    clear hB hRz htx hfd hfr ecells hkl
    by_cases hlt : f ≤ p.size
    case neg =>
      have HE := hide (show findR t p = (x, true) by unfold findR; rw [HF.out, restP, if_neg hlt]; rfl)
      go_wp2_with (first | (refine wpList_load_row rfl 25 (.tmp 2) rfl b rfl 25 (x.h.cells (.slice A3 x.ks.len c3) (.slice A4 x.ss.length c4)) (0, 0) _ HB.out Tryz.underlying25 rfl (infN rfl) ?_) | (refine wpList_store_row rfl 25 (.tmp 4) (.tmp 46) rfl r (x.h.cells (.slice A3 x.ks.len c3) (.slice A4 x.ss.length c4)) rfl rfl 25 zeroN HR.out (infN rfl) rfl (nodeLit _ _ _ _ _ _ _) ?_))
      refine bodyPost_ret (results_cell2 rfl _ _ r 25 (x.h.cells (.slice A3 x.ks.len c3) (.slice A4 x.ss.length c4)) (0, 0) _ rfl (setRow_heap _ _ _ _ _ _ HR.out) (.bool true) rfl Tryz.underlying25 rfl (infN rfl)) rfl ?_
      have hbel9 := hbel.trans ((FrO.setRow (O := fun j => j = r) (cs := (x.h.cells (.slice A3 x.ks.len c3) (.slice A4 x.ss.length c4))) rfl).below (B := w.heap.size) hbel.size fun j hj => by subst hj; exact hwr)
      rw [HE.out]
      exact ⟨_, rfl, HTX.out.own_below hbel9, hbel9⟩
    case pos =>
    have hkl2 : x.ks.len ≤ 120000 := by have := x.ks.len_sz; unfold Tr.sz at hxs; omega
    have HTD := hide (show TreeR wr.drew wr.drew.heap.size (.agg (x.h.cells (.slice A3 x.ks.len c3) (.slice A4 x.ss.length c4))) x from (HTX.out.own_below hbel).own_below ((Below.refl _ _).drew))
    have hkeepd : Blk wr.drew b (x.h.cells (.slice A3 x.ks.len c3) (.slice A4 x.ss.length c4)) 25 ∧ True := ⟨HB.out, trivial⟩
    have hkeep : Blk wr b (x.h.cells (.slice A3 x.ks.len c3) (.slice A4 x.ss.length c4)) 25 ∧ True := ⟨HB.out, trivial⟩
    go_wp2_with fail
    go_loop [7] (fun v => ∃ k : Nat, v = .int .i64 (k : Int) ∧ f ≤ k ∧ k ≤ p.size ∧ Scan p f k) (fun v => p.size - (intOf v).toNat)
    case atStart => exact ⟨f, rfl, Nat.le_refl _, hlt, scan_0 p f⟩
    case round =>
      obtain ⟨k, rfl, hfk, hks, hsc⟩ := hrel
      have HSC := hide hsc
      have RKF := hide (fun W hW => rkid_any x (p.extract f k) (by omega) (.agg (x.h.cells (.slice A3 x.ks.len c3) (.slice A4 x.ss.length c4))) W hW)
      clear hsc
      by_cases hkl3 : k < p.size
      · by_cases hc : (p[k]'hkl3) = 47
        · have hcb : (((p[k]'hkl3).toNat : Int) != 47) = false := by rw [hc]; rfl
          have hcb2 : (((p[k]'hkl3).toNat : Int) == 47) = true := by rw [hc]; rfl
          have hxx : k = p.size ∨ ∃ hk : k < p.size, (p[k]'hk) = 47 := Or.inr ⟨hkl3, hc⟩
          clear hc
          have HDR := hide (scan_out HSC.out ⟨hfk, hks⟩ hxx)
          clear hxx HSC
          go_upto_region 6 with fail
          refine wp_region_noPanic ?_
          refine wp_region_held_drew (S := (fun z => Blk z b (x.h.cells (.slice A3 x.ks.len c3) (.slice A4 x.ss.length c4)) 25 ∧ True)) (by kernel_rfl) kp (fun hHeld => ?_)
          refine tkZ 0 ⟨some 30, .load 25 (.tmp 2), 25, "ref.go:16", #[], none⟩ ?_ (by intro w hSw; (try dsimp only at hSw); refine (exec_load_row 25 (.tmp 2) (by rfl) b (by rfl) 25 (x.h.cells (.slice A3 x.ks.len c3) (.slice A4 x.ss.length c4)) (0, 0) _ hSw.1 Tryz.underlying25 (by rfl) (infN rfl)).trans ?_; with_reducible rfl)
          refine tkZ 1 ⟨some 31, .move (.tmp 1), 9, "ref.go:16", #[], none⟩ ?_
          refine tkZ 2 ⟨some 32, .move (.tmp 6), 3, "ref.go:16", #[], none⟩ ?_
          refine tkZ 3 ⟨some 33, .move (.tmp 7), 3, "ref.go:16", #[], none⟩ ?_
          refine tkZ 4 ⟨some 34, .slice 9 (.tmp 31) (some (.tmp 32)) (some (.tmp 33)) none, 9, "ref.go:16", #[⟨1, .data⟩, ⟨2, .data⟩, ⟨3, .data⟩], none⟩ ?_
          refine rqS [5] (rqC ⟨some 35, .call ⟨.value (.func 67), #[.tmp 30, .tmp 34], #[25, 9]⟩, 3, "ref.go:16", #[⟨0, .data⟩, ⟨4, .data⟩], none⟩ (fun K hK => ?_) rq0)
          go_simp
          (go_at_call 67; (with_reducible refine (RKF.out _ HTD.out).mono ?_); rintro e w8 ⟨rfl, hb8⟩; have hkeep8 : Blk w8 b (x.h.cells (.slice A3 x.ks.len c3) (.slice A4 x.ss.length c4)) 25 ∧ True := ⟨Blk.below hb8 hkeepd.1, trivial⟩)
          go_wp2_with fail
          refine hK.out _ _ kp (fun hHeld => ?_)
          clear hK K
          try simp only [PT]
          refine tkZ 6 ⟨some 8, .assign (.tmp 35), 3, "ref.go:16", #[⟨5, .data⟩, ⟨5, .chain⟩, ⟨0, .phase⟩, ⟨1, .phase⟩, ⟨2, .phase⟩, ⟨3, .phase⟩, ⟨4, .phase⟩, ⟨5, .phase⟩], none⟩ ?_
          refine wpAnyH_done (by kernel_rfl) ?_ _
          refine NoPanic.normal ?_
          have hbr8 : Below wr.heap.size wr w8 := (Below.refl wr.heap.size wr).drew.trans hb8
          have HB8 := hide (Blk.below hbr8 HB.out)
          have HR8 := hide (Blk.below hbr8 HR.out)
          have HFR8 := hide (HFR.out.trans (FrO.of (O := fun j => j = b) hbr8) (fun j h => Or.inl h))
          have hbel8 := hbel.trans (hbr8.mono hbel.size)
          clear hkeep hkeepd hkeep8 hHeld HB HR HFR hb8 hbr8 RKF
          cases hki : kidI x.ks (p.extract f k) with
          | none =>
            have HZ := hide (show findT t (partsP p) = none by rw [HF.out, HDR.out, findT_miss (kid_none hki)])
            clear hki
            go_wp2_with (first | (refine wpList_build_is rfl 25 #[] rfl [] (by simp) _ BZ.out ?_) | (refine wpList_store_row rfl 25 (.tmp 4) (.tmp 38) rfl r zeroN rfl rfl 25 zeroN HR8.out (infN rfl) rfl (by kernel_rfl) ?_))
            refine bodyPost_ret (results_cell2 rfl _ _ r 25 zeroN (0, 0) _ rfl (setRow_heap _ _ _ _ _ _ HR8.out) (.bool false) rfl Tryz.underlying25 rfl (infN rfl)) rfl ?_
            have e : findR t p = (Tr.zero, false) := by unfold findR; rw [HZ.out]
            rw [e]
            exact ⟨_, rfl, zero_reads _ _, hbel8.trans ((FrO.setRow (O := fun j => j = r) rfl).below hbel8.size fun j hj => by subst hj; exact hwr)⟩
          | some i =>
            have hil := kidI_lt hki
            obtain ⟨kk, hk1, hk2, -⟩ := kid_some hki
            have HZ := hide (show findT t (partsP p) = findT kk (restP p (k + 1)) by rw [HF.out, HDR.out, findT_hit hk2])
            obtain ⟨g, o', hA, hg, hfo⟩ := HKL.out (by omega)
            subst hA
            obtain ⟨hsk, kv', sv', h3, h4, h5⟩ := hfo.at hk1
            have XR := hide (show w8.rangeAt g (o' + i * 12) (kk.h.cells kv' sv').toList by
              have h := range_below hbel8 hg h3
              rw [show o' + 0 * 12 + i * 12 = o' + i * 12 by omega] at h
              exact h)
            have HTK := hide (show TreeR w w.heap.size (.agg (kk.h.cells kv' sv')) kk from ⟨kv', sv', rfl, h4, h5⟩)
            obtain ⟨A7, c7, rfl⟩ : ∃ A7 c7, kv' = .slice A7 kk.ks.len c7 := by obtain ⟨A, c, e, _⟩ := h5; exact ⟨A, c, e⟩
            obtain ⟨A8, c8, rfl⟩ : ∃ A8 c8, sv' = .slice A8 kk.ss.length c8 := by obtain ⟨A, c, e, _⟩ := h4; exact ⟨A, c, e⟩
            have d10 : w8.cell? ⟨b, 10, none⟩ = some (.slice (some ⟨g, o', none⟩) x.ks.len c3) := HB8.out.cells 10
            have hks6 : kk.sz ≤ 120000 := by unfold Tr.sz at hxs; omega
            have hkv : kidV (some i) = (i : Int) := rfl
            rw [hkv]
            clear hki hk1 hk2 HF HDR h3 h4 h5 hfo hsk HKL hkv
            go_wp2_with (first | (refine wpList_load_midA rfl 25 (.tmp 42) rfl g (o' + i * 12) rfl (kk.h.cells (.slice A7 kk.ks.len c7) (.slice A8 kk.ss.length c8)) _ XR.out Tryz.underlying25 rfl (infNl rfl) ?_) | (refine wpList_store_row rfl 25 (.tmp 2) (.tmp 43) rfl b (kk.h.cells (.slice A7 kk.ks.len c7) (.slice A8 kk.ss.length c8)) rfl rfl 25 (x.h.cells (.slice (some ⟨g, o', none⟩) x.ks.len c3) (.slice A4 x.ss.length c4)) HB8.out (infN rfl) rfl (nodeLit _ _ _ _ _ _ _) ?_))
            have HBn := hide (show Blk (w8.setRow b (kk.h.cells (.slice A7 kk.ks.len c7) (.slice A8 kk.ss.length c8))) b (kk.h.cells (.slice A7 kk.ks.len c7) (.slice A8 kk.ss.length c8)) 25 from setRow_heap _ _ _ _ _ _ HB8.out)
            have HRn := hide (show Blk (w8.setRow b (kk.h.cells (.slice A7 kk.ks.len c7) (.slice A8 kk.ss.length c8))) r zeroN 25 from (setRow_other _ _ _ _ (Ne.symm hbr)).trans HR8.out)
            have HFn := hide (HFR8.out.trans (FrO.setRow (O := fun j => j = b) (w := w8) (cs := (kk.h.cells (.slice A7 kk.ks.len c7) (.slice A8 kk.ss.length c8))) rfl) (fun j h => Or.inl h))
            clear HB8 HR8 HFR8 XR d10
            go_roundw
            case rel => exact ⟨k + 1, kk, _, _, by go_num, by omega, HBn.out, HRn.out, HTK.out, hks6, HZ.out, HFn.out⟩
            case measure => simp [intOf]; omega
        · have hcb2 : (((p[k]'hkl3).toNat : Int) == 47) = false := by
            rw [beq_eq_false_iff_ne]; intro h; exact hc (UInt8.toNat_inj.1 (by simpa using (show ((p[k]'hkl3).toNat) = 47 by omega)))
          have hcb : (((p[k]'hkl3).toNat : Int) != 47) = true := by rw [bne, hcb2]; rfl
          have HSN := hide (scan_next HSC.out hfk hkl3 hc)
          clear hc
          go_wp2_with fail
          go_round
          case rel => exact ⟨k + 1, by go_num, by omega, by omega, HSN.out⟩
          case measure => simp [intOf]; omega
      · have hxx : k = p.size ∨ ∃ hk : k < p.size, (p[k]'hk) = 47 := Or.inl (by omega)
        have HDR := hide (scan_out HSC.out ⟨hfk, hks⟩ hxx)
        clear hxx HSC
        go_upto_region 6 with fail
        refine wp_region_noPanic ?_
        refine wp_region_held_drew (S := (fun z => Blk z b (x.h.cells (.slice A3 x.ks.len c3) (.slice A4 x.ss.length c4)) 25 ∧ True)) (by kernel_rfl) kp (fun hHeld => ?_)
        refine tkZ 0 ⟨some 30, .load 25 (.tmp 2), 25, "ref.go:16", #[], none⟩ ?_ (by intro w hSw; (try dsimp only at hSw); refine (exec_load_row 25 (.tmp 2) (by rfl) b (by rfl) 25 (x.h.cells (.slice A3 x.ks.len c3) (.slice A4 x.ss.length c4)) (0, 0) _ hSw.1 Tryz.underlying25 (by rfl) (infN rfl)).trans ?_; with_reducible rfl)
        refine tkZ 1 ⟨some 31, .move (.tmp 1), 9, "ref.go:16", #[], none⟩ ?_
        refine tkZ 2 ⟨some 32, .move (.tmp 6), 3, "ref.go:16", #[], none⟩ ?_
        refine tkZ 3 ⟨some 33, .move (.tmp 7), 3, "ref.go:16", #[], none⟩ ?_
        refine tkZ 4 ⟨some 34, .slice 9 (.tmp 31) (some (.tmp 32)) (some (.tmp 33)) none, 9, "ref.go:16", #[⟨1, .data⟩, ⟨2, .data⟩, ⟨3, .data⟩], none⟩ ?_
        refine rqS [5] (rqC ⟨some 35, .call ⟨.value (.func 67), #[.tmp 30, .tmp 34], #[25, 9]⟩, 3, "ref.go:16", #[⟨0, .data⟩, ⟨4, .data⟩], none⟩ (fun K hK => ?_) rq0)
        go_simp
        (go_at_call 67; (with_reducible refine (RKF.out _ HTD.out).mono ?_); rintro e w8 ⟨rfl, hb8⟩; have hkeep8 : Blk w8 b (x.h.cells (.slice A3 x.ks.len c3) (.slice A4 x.ss.length c4)) 25 ∧ True := ⟨Blk.below hb8 hkeepd.1, trivial⟩)
        go_wp2_with fail
        refine hK.out _ _ kp (fun hHeld => ?_)
        clear hK K
        try simp only [PT]
        refine tkZ 6 ⟨some 8, .assign (.tmp 35), 3, "ref.go:16", #[⟨5, .data⟩, ⟨5, .chain⟩, ⟨0, .phase⟩, ⟨1, .phase⟩, ⟨2, .phase⟩, ⟨3, .phase⟩, ⟨4, .phase⟩, ⟨5, .phase⟩], none⟩ ?_
        refine wpAnyH_done (by kernel_rfl) ?_ _
        refine NoPanic.normal ?_
        have hbr8 : Below wr.heap.size wr w8 := (Below.refl wr.heap.size wr).drew.trans hb8
        have HB8 := hide (Blk.below hbr8 HB.out)
        have HR8 := hide (Blk.below hbr8 HR.out)
        have HFR8 := hide (HFR.out.trans (FrO.of (O := fun j => j = b) hbr8) (fun j h => Or.inl h))
        have hbel8 := hbel.trans (hbr8.mono hbel.size)
        clear hkeep hkeepd hkeep8 hHeld HB HR HFR hb8 hbr8 RKF
        cases hki : kidI x.ks (p.extract f k) with
        | none =>
          have HZ := hide (show findT t (partsP p) = none by rw [HF.out, HDR.out, findT_miss (kid_none hki)])
          clear hki
          go_wp2_with (first | (refine wpList_build_is rfl 25 #[] rfl [] (by simp) _ BZ.out ?_) | (refine wpList_store_row rfl 25 (.tmp 4) (.tmp 38) rfl r zeroN rfl rfl 25 zeroN HR8.out (infN rfl) rfl (by kernel_rfl) ?_))
          refine bodyPost_ret (results_cell2 rfl _ _ r 25 zeroN (0, 0) _ rfl (setRow_heap _ _ _ _ _ _ HR8.out) (.bool false) rfl Tryz.underlying25 rfl (infN rfl)) rfl ?_
          have e : findR t p = (Tr.zero, false) := by unfold findR; rw [HZ.out]
          rw [e]
          exact ⟨_, rfl, zero_reads _ _, hbel8.trans ((FrO.setRow (O := fun j => j = r) rfl).below hbel8.size fun j hj => by subst hj; exact hwr)⟩
        | some i =>
          have hil := kidI_lt hki
          obtain ⟨kk, hk1, hk2, -⟩ := kid_some hki
          have HZ := hide (show findT t (partsP p) = findT kk (restP p (k + 1)) by rw [HF.out, HDR.out, findT_hit hk2])
          obtain ⟨g, o', hA, hg, hfo⟩ := HKL.out (by omega)
          subst hA
          obtain ⟨hsk, kv', sv', h3, h4, h5⟩ := hfo.at hk1
          have XR := hide (show w8.rangeAt g (o' + i * 12) (kk.h.cells kv' sv').toList by
            have h := range_below hbel8 hg h3
            rw [show o' + 0 * 12 + i * 12 = o' + i * 12 by omega] at h
            exact h)
          have HTK := hide (show TreeR w w.heap.size (.agg (kk.h.cells kv' sv')) kk from ⟨kv', sv', rfl, h4, h5⟩)
          obtain ⟨A7, c7, rfl⟩ : ∃ A7 c7, kv' = .slice A7 kk.ks.len c7 := by obtain ⟨A, c, e, _⟩ := h5; exact ⟨A, c, e⟩
          obtain ⟨A8, c8, rfl⟩ : ∃ A8 c8, sv' = .slice A8 kk.ss.length c8 := by obtain ⟨A, c, e, _⟩ := h4; exact ⟨A, c, e⟩
          have d10 : w8.cell? ⟨b, 10, none⟩ = some (.slice (some ⟨g, o', none⟩) x.ks.len c3) := HB8.out.cells 10
          have hks6 : kk.sz ≤ 120000 := by unfold Tr.sz at hxs; omega
          have hkv : kidV (some i) = (i : Int) := rfl
          rw [hkv]
          clear hki hk1 hk2 HF HDR h3 h4 h5 hfo hsk HKL hkv
          go_wp2_with (first | (refine wpList_load_midA rfl 25 (.tmp 42) rfl g (o' + i * 12) rfl (kk.h.cells (.slice A7 kk.ks.len c7) (.slice A8 kk.ss.length c8)) _ XR.out Tryz.underlying25 rfl (infNl rfl) ?_) | (refine wpList_store_row rfl 25 (.tmp 2) (.tmp 43) rfl b (kk.h.cells (.slice A7 kk.ks.len c7) (.slice A8 kk.ss.length c8)) rfl rfl 25 (x.h.cells (.slice (some ⟨g, o', none⟩) x.ks.len c3) (.slice A4 x.ss.length c4)) HB8.out (infN rfl) rfl (nodeLit _ _ _ _ _ _ _) ?_))
          have HBn := hide (show Blk (w8.setRow b (kk.h.cells (.slice A7 kk.ks.len c7) (.slice A8 kk.ss.length c8))) b (kk.h.cells (.slice A7 kk.ks.len c7) (.slice A8 kk.ss.length c8)) 25 from setRow_heap _ _ _ _ _ _ HB8.out)
          have HRn := hide (show Blk (w8.setRow b (kk.h.cells (.slice A7 kk.ks.len c7) (.slice A8 kk.ss.length c8))) r zeroN 25 from (setRow_other _ _ _ _ (Ne.symm hbr)).trans HR8.out)
          have HFn := hide (HFR8.out.trans (FrO.setRow (O := fun j => j = b) (w := w8) (cs := (kk.h.cells (.slice A7 kk.ks.len c7) (.slice A8 kk.ss.length c8))) rfl) (fun j h => Or.inl h))
          clear HB8 HR8 HFR8 XR d10
          go_roundw
          case rel => exact ⟨k + 1, kk, _, _, by go_num, by omega, HBn.out, HRn.out, HTK.out, hks6, HZ.out, HFn.out⟩
          case measure => simp [intOf]; omega
theorem step_store_tree {ops : Array Oper} {o : Oper} {a : Act} {W : World} {K : Act → World → Prop} {Q : Exit → Act → World → Prop} {E : Prop} (hgd : o.guard = none) (x y : Operand) (ho : o.op = .store 25 x y)
    (v : Value) (t : Tr) (hx : a.eval x = .pointer (some ⟨W.heap.size, 0, none⟩)) (hy : a.eval y = v) (hv : TreeR W W.heap.size v t)
    (h : ∀ cells : Array Value, v = .agg cells → cells.size = 12 → cells.all (·.oneCell') = true → K (a.put o.dst undef) (W.alloc (.cells cells 25))) : if Region.wanted o (yielded ops a.tmps) = true then Oper.wp Tryz.prog o a (W.alloc (.cells zeroN 25)) K Q else E := by
  have hw : Region.wanted o (yielded ops a.tmps) = true := by simp [Region.wanted, hgd]
  rw [if_pos hw]
  obtain ⟨cells, e, hz, h1⟩ := hv.cells
  refine wp_store_row 25 x y ho W.heap.size cells hx (hy.trans e) 25 zeroN (heap_alloc_new W _) (infN hz) (by rw [hz]; rfl) h1 ?_
  rw [setRow_alloc]
  exact h cells e hz h1
theorem step_store_rowG {P : Program} {w : World} {ops : Array Oper} {o : Oper} {a : Act} {K : Act → World → Prop} {Q : Exit → Act → World → Prop} {E : Prop} (hgd : o.guard = none) (ty : TypeId) (x y : Operand) (ho : o.op = .store ty x y)
    (g : Nat) (cells : Array Value) (hx : a.eval x = .pointer (some ⟨g, 0, none⟩)) (hy : a.eval y = .agg cells) (t : TypeId) (old : Array Value) (hg : w.heap[g]? = some (.cells old t (0, 0))) (hi : (P.info? ty).map (·.size) = some cells.size) (hold : old.size = cells.size) (h1 : cells.all (·.oneCell') = true)
    (h : K (a.put o.dst undef) (w.setRow g cells)) : if Region.wanted o (yielded ops a.tmps) = true then Oper.wp P o a w K Q else E := by
  have hw : Region.wanted o (yielded ops a.tmps) = true := by simp [Region.wanted, hgd]
  rw [if_pos hw]
  exact wp_store_row ty x y ho g cells hx hy t old hg hi hold h1 h
def NodeX (wr : World) (x : Tr) (v : Value) (W : World) : Prop := ∃ b5 A4 c4 A2 c2, v = .pointer (some ⟨b5, 0, none⟩) ∧ NodeB W b5 x.h (.slice A4 x.ks.len c4) (.slice A2 x.ss.length c2) ∧ Below wr.heap.size wr W ∧ wr.heap.size ≤ b5
theorem NodeX.of {wr W : World} {x : Tr} {g : Nat} {ca : Array Value} {W' : World} {B : Nat} (h : TreeR W' B (.agg ca) x) (hB : Blk W g ca 25) (hb : Below wr.heap.size wr W) (hg : wr.heap.size ≤ g) : NodeX wr x (.pointer (some ⟨g, 0, none⟩)) W := by
  obtain ⟨A4, c4, A2, c2, e4, -, -⟩ := h.open
  injection e4 with e4
  subst e4
  exact ⟨g, A4, c4, A2, c2, rfl, ⟨hB⟩, hb, hg⟩
theorem isF_find (t : Tr) (p : ByteArray) : isF t p = fileB (findR t p).1 := by
  unfold isF findR
  cases findT t (partsP p) with
  | some x => rfl
  | none => rfl
set_option maxRecDepth 100000 in
set_option maxHeartbeats 4000000 in
theorem rfiles_any (t : Tr) (hsz : t.sz ≤ 120000) (v : Value) (w : World) (hv : TreeR w w.heap.size v t) : Calls Tryz.prog 17 #[v] w fun e w' => ∃ r, e = .returned r ∧ StrsR w' w.heap.size r (filesT t) ∧ Below w.heap.size w w' := by
  have PN := hide (fun W hW => rpathsT_any t hsz v W hW)
  have GN := hide (fun p hp W hW => rfind_any t p hsz hp v W hW)
  have HFT := hide (show filesT t = (pathsT t).filter (isF t) from rfl)
  have hpl : (pathsT t).length ≤ 6000 := by have := paths_count t; have := t.count_sz; omega
  have HPS := hide (fun p (hp : p ∈ pathsT t) => Nat.le_trans (pathsT_size hp) hsz)
  obtain ⟨cn, rfl, hzc⟩ := Nd.cells hv
  have HV := hide hv
  clear hv
  have HL : Live w [] := trivial
  go_enter Tryz.func17, Tryz.ntmps17
  go_upto_region 1 with fail
  have HN1 := hide (Nd.new HV.out hzc)
  have hbel1 : Below w.heap.size w (w.alloc (.cells cn 25)) := (Below.refl _ _).alloc (Nat.le_refl _) _
  generalize w.alloc (.cells cn 25) = W1 at *
  obtain ⟨b, hb⟩ : ∃ b, b = w.heap.size := ⟨_, rfl⟩
  rw [← hb] at HN1 ⊢
  clear hb HV hzc
  have PA := hide (PN.out W1 HN1.out.2.1)
  clear PN
  generalize pathsT t = ps at *
  go_wp2_with (first | ((with_reducible show wpList _ _ _ (Oper.mk (some 8) _ _ _ _ _ :: _) _ _); refine wpList_load_row rfl 25 (.tmp 1) rfl b rfl 25 cn (0, 0) _ HN1.out.1 Tryz.underlying25 rfl (infN HN1.out.2.2) ?_) | (go_at_call 34; refine (PA.out).mono ?_; rintro e w3 ⟨r3, rfl, hr3, hb3⟩; have HP3 := hide (SlR.of hr3); have HN3 := hide (HN1.out.below hb3); have hbel3 := hide (hbel1.trans (hb3.mono hbel1.size)); clear hr3 hb3; obtain ⟨A3, c3, e3, -⟩ := HP3.out; subst e3))
  clear PA HN1
  obtain ⟨A', c', ev, hps⟩ := HP3.out
  injection ev with ev1 ev2 ev3
  subst ev1; subst ev3
  have HRD := hide hps
  clear hps HP3
  go_loopw [3, 5, 6, 7] (fun ov i _ _ wr => ∃ (k : Nat), i = .int .i64 (k : Int) ∧ k ≤ ps.length ∧ wr.ownsRow w3.heap.size 9 1 ov ((ps.take k).filter (isF t)).length (strV ((ps.take k).filter (isF t))) ∧ Below w3.heap.size w3 wr) (fun _ i _ _ _ => ps.length - (intOf i).toNat)
  case atStart => exact ⟨0, rfl, Nat.zero_le _, World.ownsRow_nil _ _ _ _, Below.refl _ _⟩
  case round =>
    obtain ⟨k, rfl, hk, hown, hbelr⟩ := hrel
    have HO := hide hown
    have HB := hide hbelr
    have hszr := hbelr.size
    obtain ⟨ao, cap, rfl⟩ := own_slice hown
    clear hown hbelr
    by_cases hlt : k < ps.length
    · obtain ⟨p, hp⟩ : ∃ p, ps[k]? = some p := ⟨ps[k], List.getElem?_eq_getElem hlt⟩
      obtain ⟨g, o, rfl, hg, hcl⟩ := HRD.out (by omega)
      have c0 : wr.cell? ⟨g, o + k, none⟩ = some (.string p) := (HB.out.cell (p := ⟨g, o + k, none⟩) hg).trans (hcl k p hp)
      have HC0 := hide c0
      have hgl : g < wr.heap.size := by omega
      have hps1 := HPS.out p (List.mem_of_getElem? hp)
      have HNX := hide (filt_next (f := isF t) hp)
      have HNr := hide (HN3.out.below HB.out)
      have hps3 : p.size ≤ 2000000 := by omega
      have RFI := hide (fun W (hW : Below wr.heap.size wr W) => GN.out p hps3 W (HNr.out.2.1.later hW))
      have HIF := hide (isF_find t p)
      have hkz2 : Below wr.heap.size wr (wr.alloc (.cells zeroN 25)).drew ∧ True := ⟨((Below.refl wr.heap.size wr).alloc (Nat.le_refl _) _).drew, trivial⟩
      unfold zeroN at hkz2
      have hk0 : Below wr.heap.size wr wr ∧ True := ⟨Below.refl _ _, trivial⟩
      have hk0d : Below wr.heap.size wr wr.drew ∧ True := ⟨(Below.refl wr.heap.size wr).drew, trivial⟩
      clear hcl hp c0
      obtain ⟨x, er, hxe⟩ : ∃ x er, findR t p = (x, er) := ⟨_, _, rfl⟩
      rw [hxe] at RFI HIF
      dsimp only at RFI HIF
      clear hxe
      have hkz : Below wr.heap.size wr (wr.drew.alloc (.cells zeroN 25)) ∧ True := ⟨hk0d.1.alloc hk0d.1.size _, trivial⟩
      unfold zeroN at hkz
      go_upto_region 6 with fail
      go_cut [6, 7] (fun v _ W5 => NodeX wr x v W5)
      case first =>
        refine wp_region_noPanic ?_
        refine wp_region_held_drew (S := (fun z => Below wr.heap.size wr z ∧ True)) (by kernel_rfl) kp (fun hHeld => ?_)
        refine tkZ 0 ⟨some 17, .load 25 (.tmp 1), 25, "ref.go:30", #[], none⟩ ?_ (by intro w hSw; (try dsimp only at hSw); refine (exec_load_row 25 (.tmp 1) (by rfl) b (by rfl) 25 cn (0, 0) _ (Blk.below hSw.1 HNr.out.1) Tryz.underlying25 (by rfl) (infN HNr.out.2.2)).trans ?_; with_reducible rfl)
        refine tkZ 1 ⟨some 18, .move (.tmp 4), 26, "ref.go:30", #[], none⟩ ?_
        refine tkZ 2 ⟨some 19, .move (.tmp 5), 3, "ref.go:30", #[], none⟩ ?_
        refine tkZ 3 ⟨some 20, .indexAddr 26 (.tmp 18) (.tmp 19), 0, "ref.go:30", #[⟨1, .data⟩, ⟨2, .data⟩], none⟩ ?_
        refine tkZ 4 ⟨some 21, .load 9 (.tmp 20), 9, "ref.go:30", #[⟨3, .data⟩], none⟩ ?_ (by intro w hSw; (try dsimp only at hSw); have c1 := (hSw.1.cell (p := ⟨g, o + k, none⟩) hgl).trans HC0.out; go_simp; (try with_reducible rfl))
        refine rqS [5, 9] (rqC ⟨some 22, .call ⟨.value (.func 49), #[.tmp 17, .tmp 21], #[25, 9]⟩, 73, "ref.go:30", #[⟨0, .data⟩, ⟨4, .data⟩], none⟩ (fun K hK => ?_) (rqC ⟨some 6, .alloc 25, 0, "ref.go:30", #[], none⟩ (fun K hK => ?_) rq0))
        focus
          go_simp
          (go_at_call 49; (with_reducible refine (RFI.out _ hHeld.1).mono ?_); rintro e w8 ⟨v8, rfl, hv8, hb8⟩; have HV8 := hide hv8; have hk8 : Below wr.heap.size wr w8 ∧ True := ⟨hHeld.1.trans (hb8.mono hHeld.1.size), trivial⟩; have hk8z : Below wr.heap.size wr (w8.alloc (.cells zeroN 25)) ∧ True := ⟨hk8.1.alloc hk8.1.size _, trivial⟩; unfold zeroN at hk8z; (try have HBz := hide (Blk.below hb8 (show Blk _ wr.heap.size zeroN 25 from Blk.newAt rfl))); clear hv8)
          go_wp2_with fail
          refine hK.out _ _ kp (fun hHeld => ?_)
          clear hK K
          try simp only [PT]
          refine tkZ 6 ⟨some 16, .move (.tmp 22), 73, "ref.go:30", #[⟨5, .data⟩], none⟩ ?_
          refine tkZ 7 ⟨some 23, .extract (.tmp 16) 0, 25, "ref.go:30", #[⟨6, .data⟩], none⟩ ?_
          refine tkZ 8 ⟨some 24, .extract (.tmp 16) 1, 4, "ref.go:30", #[⟨6, .data⟩, ⟨10, .gcOnly .lateStores⟩], none⟩ ?_
          refine rqS [9] (rqC ⟨some 6, .alloc 25, 0, "ref.go:30", #[], none⟩ (fun K hK => ?_) rq0)
          go_simp
          refine hK.out _ _ kp (fun hHeld => ?_)
          clear hK K
          try simp only [PT]
          refine rqS [10] (rqC ⟨none, .store 25 (.tmp 6) (.tmp 23), 0, "ref.go:30", #[⟨9, .data⟩, ⟨7, .data⟩, ⟨5, .chain⟩, ⟨0, .phase⟩, ⟨1, .phase⟩, ⟨2, .phase⟩, ⟨3, .phase⟩, ⟨4, .phase⟩, ⟨5, .phase⟩, ⟨6, .phase⟩, ⟨7, .phase⟩, ⟨8, .textOnly .lateStores⟩, ⟨9, .phase⟩], none⟩ (fun K hK => ?_) rq0)
          obtain ⟨ca, hca, hzca, h1ca⟩ := HV8.out.cells; subst hca; (first | (refine step_store_tree rfl (.tmp 6) (.tmp 23) rfl (.agg ca) _ rfl rfl HV8.out ?_; rintro ca2 e2 - -; injection e2 with e2; subst e2; have hk9 : Below wr.heap.size wr (w8.alloc (.cells ca 25)) ∧ True := ⟨hk8.1.alloc hk8.1.size _, trivial⟩; have HNX := hide (NodeX.of HV8.out (show Blk (w8.alloc (.cells ca 25)) w8.heap.size ca 25 from Blk.newAt rfl) hk9.1 hk8.1.size)) | (refine step_store_rowG rfl 25 (.tmp 6) (.tmp 23) rfl wr.heap.size ca rfl rfl 25 zeroN HBz.out (infN hzca) (by rw [hzca]; rfl) h1ca ?_; have hk9 : Below wr.heap.size wr (w8.setRow wr.heap.size ca) ∧ True := ⟨hk8.1.trans ((FrO.setRow (O := fun j => j = wr.heap.size) rfl).below hk8.1.size (fun j hj => by omega)), trivial⟩; have HNX := hide (NodeX.of HV8.out (setRow_heap _ _ _ _ _ _ HBz.out) hk9.1 (Nat.le_refl _))))
          refine hK.out _ _ kp (fun hHeld => ?_)
          clear hK K
          try simp only [PT]
          refine tkZ 11 ⟨some 7, .assign (.tmp 24), 4, "ref.go:30", #[⟨8, .data⟩, ⟨10, .chain⟩, ⟨0, .phase⟩, ⟨1, .phase⟩, ⟨2, .phase⟩, ⟨3, .phase⟩, ⟨4, .phase⟩, ⟨5, .phase⟩, ⟨6, .phase⟩, ⟨7, .phase⟩, ⟨8, .phase⟩, ⟨9, .phase⟩, ⟨10, .phase⟩], none⟩ ?_
          refine wpAnyH_done (by kernel_rfl) ?_ _
          refine NoPanic.normal ?_
          go_wp2_with fail
          go_meet
          exact HNX.out
        focus
          go_simp
          refine hK.out _ _ kp (fun hHeld => ?_)
          clear hK K
          try simp only [PT]
          refine rqS [5] (rqC ⟨some 22, .call ⟨.value (.func 49), #[.tmp 17, .tmp 21], #[25, 9]⟩, 73, "ref.go:30", #[⟨0, .data⟩, ⟨4, .data⟩], none⟩ (fun K hK => ?_) rq0)
          go_simp
          (go_at_call 49; (with_reducible refine (RFI.out _ hHeld.1).mono ?_); rintro e w8 ⟨v8, rfl, hv8, hb8⟩; have HV8 := hide hv8; have hk8 : Below wr.heap.size wr w8 ∧ True := ⟨hHeld.1.trans (hb8.mono hHeld.1.size), trivial⟩; have hk8z : Below wr.heap.size wr (w8.alloc (.cells zeroN 25)) ∧ True := ⟨hk8.1.alloc hk8.1.size _, trivial⟩; unfold zeroN at hk8z; (try have HBz := hide (Blk.below hb8 (show Blk _ wr.heap.size zeroN 25 from Blk.newAt rfl))); clear hv8)
          go_wp2_with fail
          refine hK.out _ _ kp (fun hHeld => ?_)
          clear hK K
          try simp only [PT]
          refine tkZ 6 ⟨some 16, .move (.tmp 22), 73, "ref.go:30", #[⟨5, .data⟩], none⟩ ?_
          refine tkZ 7 ⟨some 23, .extract (.tmp 16) 0, 25, "ref.go:30", #[⟨6, .data⟩], none⟩ ?_
          refine tkZ 8 ⟨some 24, .extract (.tmp 16) 1, 4, "ref.go:30", #[⟨6, .data⟩, ⟨10, .gcOnly .lateStores⟩], none⟩ ?_
          refine rqS [10] (rqC ⟨none, .store 25 (.tmp 6) (.tmp 23), 0, "ref.go:30", #[⟨9, .data⟩, ⟨7, .data⟩, ⟨5, .chain⟩, ⟨0, .phase⟩, ⟨1, .phase⟩, ⟨2, .phase⟩, ⟨3, .phase⟩, ⟨4, .phase⟩, ⟨5, .phase⟩, ⟨6, .phase⟩, ⟨7, .phase⟩, ⟨8, .textOnly .lateStores⟩, ⟨9, .phase⟩], none⟩ (fun K hK => ?_) rq0)
          obtain ⟨ca, hca, hzca, h1ca⟩ := HV8.out.cells; subst hca; (first | (refine step_store_tree rfl (.tmp 6) (.tmp 23) rfl (.agg ca) _ rfl rfl HV8.out ?_; rintro ca2 e2 - -; injection e2 with e2; subst e2; have hk9 : Below wr.heap.size wr (w8.alloc (.cells ca 25)) ∧ True := ⟨hk8.1.alloc hk8.1.size _, trivial⟩; have HNX := hide (NodeX.of HV8.out (show Blk (w8.alloc (.cells ca 25)) w8.heap.size ca 25 from Blk.newAt rfl) hk9.1 hk8.1.size)) | (refine step_store_rowG rfl 25 (.tmp 6) (.tmp 23) rfl wr.heap.size ca rfl rfl 25 zeroN HBz.out (infN hzca) (by rw [hzca]; rfl) h1ca ?_; have hk9 : Below wr.heap.size wr (w8.setRow wr.heap.size ca) ∧ True := ⟨hk8.1.trans ((FrO.setRow (O := fun j => j = wr.heap.size) rfl).below hk8.1.size (fun j hj => by omega)), trivial⟩; have HNX := hide (NodeX.of HV8.out (setRow_heap _ _ _ _ _ _ HBz.out) hk9.1 (Nat.le_refl _))))
          refine hK.out _ _ kp (fun hHeld => ?_)
          clear hK K
          try simp only [PT]
          refine tkZ 11 ⟨some 7, .assign (.tmp 24), 4, "ref.go:30", #[⟨8, .data⟩, ⟨10, .chain⟩, ⟨0, .phase⟩, ⟨1, .phase⟩, ⟨2, .phase⟩, ⟨3, .phase⟩, ⟨4, .phase⟩, ⟨5, .phase⟩, ⟨6, .phase⟩, ⟨7, .phase⟩, ⟨8, .phase⟩, ⟨9, .phase⟩, ⟨10, .phase⟩], none⟩ ?_
          refine wpAnyH_done (by kernel_rfl) ?_ _
          refine NoPanic.normal ?_
          go_wp2_with fail
          go_meet
          exact HNX.out
      case rest =>
      obtain ⟨b5, A4, c4, A2, c2, rfl, hNB, hb5, -⟩ := hcut
      have HNB := hide hNB
      rename World => W5
      clear RFI HNr hk0 hk0d hkz hkz2 hNB
      have d1 := HNB.out.c1
      have d2 := HNB.out.c2
      have hbel5 := HB.out.trans (hb5.mono hszr)
      have HO5 := hide (below_row' HO.out hb5)
      have c5 : W5.cell? ⟨g, o + k, none⟩ = some (.string p) := (hb5.cell (p := ⟨g, o + k, none⟩) hgl).trans HC0.out
      clear HO HNB hb5 HB HC0
      have hlen : ((ps.take k).filter (isF t)).length ≤ 6000 := Nat.le_trans (List.length_filter_le _ _) (by rw [List.length_take]; omega)
      by_cases q : x.h.kind = 1 ∧ x.h.data ≠ eS
      · obtain ⟨q2, q3⟩ := q
        have hIF : isF t p = true := by rw [HIF.out]; exact decide_eq_true ⟨q2, q3⟩
        rw [hIF, if_pos rfl] at HNX
        have n3 := bne_nil_n q3
        have n4 := beq_nil_n q3
        rw [q2] at d1
        clear hIF HIF q2
        have hbw5 := hbel5.size
        go_wp2_with (at_builtin; refine wpList_append_blk _ rfl _ _ 26 rfl w3.heap.size 9 strInfo Tryz.underlying26 rfl (by decide) (.slice ao ((ps.take k).filter (isF t)).length cap) _ _ (HO5.out.alloc _) W5.heap.size #[.string p] (Blk.newAt rfl) rfl rfl rfl (by simp [Value.oneCell']) (by unfold maxLen; omega) (by omega) (by rw [World.size_alloc]; omega) ?_; intro v6 w6 hown6 hnb6 hg6)
        have hbel6 : Below w3.heap.size w3 w6 := (hbel5.alloc hbw5 _).grown hg6 (by rw [World.size_alloc]; omega) (fun q hq => (HO5.out.lt q hq).1)
        go_roundw
        case rel => exact ⟨k + 1, by go_num, by omega, by rw [HNX.out, List.length_append, ← strV_snoc]; exact hown6, hbel6⟩
        case measure => simp [intOf]; omega
      · have hIF : isF t p = false := by rw [HIF.out]; exact decide_eq_false q
        rw [hIF] at HNX
        have HNX2 := hide (show (ps.take (k + 1)).filter (isF t) = (ps.take k).filter (isF t) by rw [HNX.out, if_neg (by decide), List.append_nil])
        clear hIF HIF HNX
        by_cases q2 : x.h.kind = 1
        · have q3 : x.h.data = eS := by
            rcases Classical.em (x.h.data = eS) with h | h
            · exact h
            · exact absurd ⟨q2, h⟩ q
          have n3 := bne_nil_y q3
          have n4 := beq_nil_y q3
          rw [q2] at d1
          clear q q2 q3
          go_wp2_with fail
          go_roundw
          case rel => exact ⟨k + 1, by go_num, by omega, by rw [HNX2.out]; exact HO5.out, hbel5⟩
          case measure => simp [intOf]; omega
        · have n1 : (x.h.kind == 1) = false := by rw [beq_eq_false_iff_ne]; exact q2
          clear q q2
          go_wp2_with fail
          go_roundw
          case rel => exact ⟨k + 1, by go_num, by omega, by rw [HNX2.out]; exact HO5.out, hbel5⟩
          case measure => simp [intOf]; omega
    · obtain rfl : k = ps.length := by omega
      have HO2 := HO.out
      rw [List.take_length] at HO2
      have HO3 := hide HO2
      clear HO2
      go_wp2_with fail
      go_ret
      exact ⟨_, rfl, by rw [HFT.out]; exact own_base HO3.out hbel3.out.size, hbel3.out.trans (HB.out.mono hbel3.out.size)⟩
end Go.Proofs.YtocgindpjjolpaaGreatDoor
