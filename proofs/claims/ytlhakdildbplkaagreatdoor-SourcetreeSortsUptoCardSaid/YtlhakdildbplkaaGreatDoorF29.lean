/- Contracts and plain words for the laws of this chapter, part 29: So3, X11. No condition. -/
import Derived.Test.YtlhakdildbplkaaGreatDoorF28
import Derived.Test.YtlhakdildbplkaaGreatDoorF16
import Derived.Test.YtlhakdildbplkaaGreatDoorF22
namespace Go.Proofs.YtlhakdildbplkaaGreatDoor
set_option linter.unusedSimpArgs false
set_option linter.unusedVariables false
open Go.Shelf Go.RowKit Go.Lib Go.Sort
theorem own_keepLo {w w' : World} {lo : Nat} {T : TypeId} {v : Value} {n k : Nat} {xs : List Value} (hk : ∀ j, lo ≤ j → j < w.heap.size → w'.heap[j]? = w.heap[j]?) (h : w.ownsRow lo T k v n xs) : w'.ownsRow lo T k v n xs :=
  own_keep h fun g cs hg hh => hk g (h.lt g hg).1 (h.lt g hg).2
theorem RowS.keepLo {w w' : World} {lo : Nat} (hk : ∀ j, lo ≤ j → j < w.heap.size → w'.heap[j]? = w.heap[j]?) : ∀ {f : Fo} {xs : List Value} {O : Nat → Prop}, RowS w lo f xs O → RowS w' lo f xs O
  | .nil, _, _, h => h
  | .node h ss ks nx, _, O, ⟨kv, sv, xs', O1, On, e, hs, ⟨xk, Ok, hkk, hr, h1, h2⟩, hn, h3, h4⟩ =>
    ⟨kv, sv, xs', O1, On, e, own_keepLo hk hs, ⟨xk, Ok, own_keepLo hk hkk, RowS.keepLo hk hr, h1, h2⟩, RowS.keepLo hk hn, h3, h4⟩
theorem ItS.keepLo {w w' : World} {lo : Nat} (hk : ∀ j, lo ≤ j → j < w.heap.size → w'.heap[j]? = w.heap[j]?) {x : It} (h : ItS w lo x) : ItS w' lo x := by
  obtain ⟨h1, xk, Ok, h2, h3, h4⟩ := h
  exact ⟨own_keepLo hk h1, xk, Ok, own_keepLo hk h2, h3.keepLo hk, h4⟩
theorem RowL.keepLo {w w' : World} {lo : Nat} (hk : ∀ j, lo ≤ j → j < w.heap.size → w'.heap[j]? = w.heap[j]?) {l : List It} (h : RowL w lo l) : RowL w' lo l := ⟨fun x hx => (h.1 x hx).keepLo hk, h.2⟩
theorem RowL.frame {w w' : World} {lo : Nat} {l : List It} (hS : StrK w w') (hO : ∀ x ∈ l, ∀ j, j < w.heap.size → x.O j → w'.heap[j]? = w.heap[j]?) (h : RowL w lo l) : RowL w' lo l := ⟨fun x hx => (h.1 x hx).frame hS (hO x hx), h.2⟩
theorem RowL.below {w w' : World} {lo : Nat} {l : List It} (hb : Below w.heap.size w w') (h : RowL w lo l) : RowL w' lo l := h.frame (StrK.below hb) (fun _ _ j hj _ => hb.block j hj)
theorem ItS.base {w : World} {lo lo' : Nat} (hl : lo' ≤ lo) {x : It} (h : ItS w lo x) : ItS w lo' x := ⟨own_base h.1 hl, h.2.base hl⟩
theorem setsL_flat : ∀ (l : List It) (k : Nat) (y : It), k < l.length → setsL (l.flatMap encI) (k * 12) (encI y) = (l.set k y).flatMap encI := fun l k y hk => by
  have e1 : l = l.take k ++ l[k] :: l.drop (k + 1) := by
    conv => lhs; rw [← List.take_append_drop k l, List.drop_eq_getElem_cons hk]
  have hl : (l.take k).length = k := by rw [List.length_take]; omega
  have e2 : l.set k y = l.take k ++ y :: l.drop (k + 1) := by
    conv => lhs; rw [e1]
    rw [List.set_append_right _ _ (by omega), hl, Nat.sub_self, List.set_cons_zero]
  have e3 : l.flatMap encI = (l.take k).flatMap encI ++ encI l[k] ++ (l.drop (k + 1)).flatMap encI := by
    conv => lhs; rw [e1]
    rw [List.flatMap_append, List.flatMap_cons, List.append_assoc]
  rw [e2, e3, List.flatMap_append, List.flatMap_cons, ← List.append_assoc]
  have hx : ((l.take k).flatMap encI).length = k * 12 := by rw [flat_len encI 12 encI_len, hl]
  rw [← hx]
  exact setsL_app _ _ _ _ rfl
theorem set_pair {R : It → It → Prop} (hs : ∀ x y, R x y → R y x) : ∀ (l : List It) (k : Nat) (y : It), l.Pairwise R → (∀ x ∈ l, R x y) → (l.set k y).Pairwise R
  | [], _, _, h, _ => h
  | x :: l, 0, y, h, hy => by
    rw [List.set_cons_zero]
    exact List.pairwise_cons.2 ⟨fun z hz => hs _ _ (hy z (List.mem_cons_of_mem _ hz)), (List.pairwise_cons.1 h).2⟩
  | x :: l, k + 1, y, h, hy => by
    rw [List.set_cons_succ]
    refine List.pairwise_cons.2 ⟨fun z hz => ?_, set_pair hs l k y (List.pairwise_cons.1 h).2 (fun z hz => hy z (List.mem_cons_of_mem _ hz))⟩
    rcases List.mem_or_eq_of_mem_set hz with hz | rfl
    · exact (List.pairwise_cons.1 h).1 z hz
    · exact hy x (List.mem_cons_self ..)
theorem set_sorted {S : List Tr} {l : List It} {k : Nat} {y : It} (hk : k < S.length) (h : l.map (·.t) = (S.take k).map sortT ++ S.drop k) (hy : y.t = sortT S[k]) : (l.set k y).map (·.t) = (S.take (k + 1)).map sortT ++ S.drop (k + 1) := by
  have hl : ((S.take k).map sortT).length = k := by rw [List.length_map, List.length_take]; omega
  rw [List.map_set, h, List.set_append_right _ _ (by omega), hl, Nat.sub_self, List.drop_eq_getElem_cons hk, List.set_cons_zero, List.take_add_one, List.getElem?_eq_getElem hk, List.map_append, hy, List.append_assoc]
  rfl
theorem at_sorted {S : List Tr} {l : List It} {k : Nat} (hk : k < S.length) (h : l.map (·.t) = (S.take k).map sortT ++ S.drop k) : ∃ x, l[k]? = some x ∧ x.t = S[k] := by
  have hl : ((S.take k).map sortT).length = k := by rw [List.length_map, List.length_take]; omega
  have e : (l.map (·.t))[k]? = some S[k] := by
    rw [h, List.getElem?_append_right (by omega), hl, Nat.sub_self, List.drop_eq_getElem_cons hk]
    rfl
  rw [List.getElem?_map] at e
  cases hx : l[k]? with
  | none => rw [hx] at e; cases e
  | some x => rw [hx] at e; exact ⟨x, rfl, Option.some.inj e⟩
theorem sortT_lens (t : Tr) : (sortT t).ss.length = t.ss.length ∧ (sortT t).ks.len = t.ks.len := by
  rw [sortT_kids]
  refine ⟨sortL_len _ _, ?_⟩
  rw [← Fo.list_len, Fo.list_of, List.length_map, sortL_len, Fo.list_len]
theorem list_parts : ∀ (f : Fo) (x : Tr), x ∈ f.list → x.count ≤ f.count ∧ x.sz ≤ f.sz
  | .nil, x, h => by cases h
  | .node h ss ks nx, x, hx => by
    rw [Fo.list] at hx
    rw [Fo.count_node, Fo.sz_node]
    rcases List.mem_cons.1 hx with rfl | hx
    · exact ⟨by show ks.count + 1 ≤ _; omega, by show h.sz + szS ss + ks.sz ≤ _; omega⟩
    · have := list_parts nx x hx
      omega
theorem sortL_mem {β : Type} (key : β → ByteArray) (l : List β) (x : β) : x ∈ sortL key l ↔ x ∈ l := by
  rw [sortL_srt]
  exact (srt_perm _ l).mem_iff
set_option maxRecDepth 100000 in
set_option maxHeartbeats 40000000 in
theorem sort_any : ∀ (N : Nat), ∀ (t : Tr), t.count ≤ N → t.sz ≤ 500000 → ∀ (v : Value) (w : World), TreeR w w.heap.size v t → Calls Tryz.prog 38 #[v] w fun e w' => ∃ r, e = .returned r ∧ OwnT w' w.heap.size r (sortT t) ∧ Below w.heap.size w w'
  | 0, t, ht, _, _, _, _ => by unfold Tr.count at ht; omega
  | N + 1, t, ht, hsz, v, w, hv => by
    have IH := hide (sort_any N)
    have CL3 := hide (fun W hW => clone_two t hsz v W hW)
    have HV := hide hv
    obtain ⟨A, c, A2, c2, rfl, hk, hst⟩ := hv.openL
    have HLEN := hide (sortT_lens t)
    have hlss : t.ss.length ≤ 2000000000 := by have := szS_len t.ss; have : t.sz = t.h.sz + szS t.ss + t.ks.sz := rfl; omega
    have hlks : t.ks.len ≤ 2000000000 := by have := t.ks.len_sz; have : t.sz = t.h.sz + szS t.ss + t.ks.sz := rfl; omega
    have HSZ := hide (show t.ks.count ≤ N ∧ t.ks.sz ≤ 500000 from ⟨by unfold Tr.count at ht; omega, by have : t.sz = t.h.sz + szS t.ss + t.ks.sz := rfl; omega⟩)
    clear hk hv hst ht hsz
    have HL : Live w [] := trivial
    go_enter Tryz.func38, Tryz.ntmps38
    go_upto_region 1 with fail
    have HB := hide (show Blk ((w.alloc (.cells (t.h.cells (.slice A t.ks.len c) (.slice A2 t.ss.length c2)) 25)).alloc (.cells zeroN 25)) w.heap.size (t.h.cells (.slice A t.ks.len c) (.slice A2 t.ss.length c2)) 25 from (Blk.newAt rfl).alloc _)
    have HR := hide (show Blk ((w.alloc (.cells (t.h.cells (.slice A t.ks.len c) (.slice A2 t.ss.length c2)) 25)).alloc (.cells zeroN 25)) (w.heap.size + 1) zeroN 25 from Blk.newAt (by rw [World.size_alloc]))
    have hbel1 : Below w.heap.size w ((w.alloc (.cells (t.h.cells (.slice A t.ks.len c) (.slice A2 t.ss.length c2)) 25)).alloc (.cells zeroN 25)) := ((Below.refl _ _).alloc (Nat.le_refl _) _).alloc (by rw [World.size_alloc]; omega) _
    have hz1 : ((w.alloc (.cells (t.h.cells (.slice A t.ks.len c) (.slice A2 t.ss.length c2)) 25)).alloc (.cells zeroN 25)).heap.size = w.heap.size + 2 := by rw [World.size_alloc, World.size_alloc]
    obtain ⟨W1, hW1⟩ : ∃ W1, W1 = (w.alloc (.cells (t.h.cells (.slice A t.ks.len c) (.slice A2 t.ss.length c2)) 25)).alloc (.cells zeroN 25) := ⟨_, rfl⟩
    rw [← hW1] at HB HR hbel1 hz1
    unfold zeroN at hW1
    rw [← hW1]
    clear hW1
    obtain ⟨r, hr⟩ : ∃ r, r = w.heap.size + 1 := ⟨_, rfl⟩
    rw [← hr] at HR ⊢
    obtain ⟨b, hb⟩ : ∃ b, b = w.heap.size := ⟨_, rfl⟩
    rw [← hb] at HB ⊢
    have hlo : b < W1.heap.size ∧ r < W1.heap.size ∧ b ≠ r ∧ w.heap.size ≤ b ∧ w.heap.size ≤ r := by omega
    obtain ⟨hbW, hrW, hbr, hwb, hwr⟩ := hlo
    clear hb hr hz1
    have HV1 := hide (HV.out.own_below hbel1)
    clear HV
    go_upto_region 2 with (first | (refine wpList_load_row rfl 25 (.tmp 1) rfl b rfl 25 (t.h.cells (.slice A t.ks.len c) (.slice A2 t.ss.length c2)) (0, 0) _ HB.out Tryz.underlying25 rfl (infN rfl) ?_) | (first | (go_at_call 64; (with_reducible refine (CL3.out _ HV1.out).mono ?_); rintro e w3 ⟨r3, rfl, ⟨kv3, sv3, O3, lo2, rfl, hs3, hsb3, hlo2, hlw2, hk3, ho3⟩, hb3⟩; obtain ⟨A3, c3, rfl⟩ := hk3.slice; obtain ⟨A4, c4, rfl⟩ := own_slice hs3; have HB3 := hide (Blk.below hb3 HB.out))) | (refine wpList_store_row rfl 25 (.tmp 1) (.tmp 6) rfl b (t.h.cells (.slice A3 t.ks.len c3) (.slice A4 t.ss.length c4)) rfl rfl 25 (t.h.cells (.slice A t.ks.len c) (.slice A2 t.ss.length c2)) HB3.out (infN rfl) rfl (nodeLit _ _ _ _ _ _ _) ?_))
    have hf : FrO (fun j => j = b) w3 (w3.setRow b (t.h.cells (.slice A3 t.ks.len c3) (.slice A4 t.ss.length c4))) := FrO.setRow rfl
    have hSK : StrK w3 (w3.setRow b (t.h.cells (.slice A3 t.ks.len c3) (.slice A4 t.ss.length c4))) := StrK.of hf (fun j cs fr e => by subst e; exact HB3.out.notStr cs fr)
    have HB4 := hide (show Blk (w3.setRow b (t.h.cells (.slice A3 t.ks.len c3) (.slice A4 t.ss.length c4))) b (t.h.cells (.slice A3 t.ks.len c3) (.slice A4 t.ss.length c4)) 25 from setRow_heap _ _ _ _ _ _ HB3.out)
    have HR4 := hide (hf.blk (Blk.below hb3 HR.out) (fun e => hbr e.symm))
    have HS4 := hide (own_fr hf hs3 (fun g e => by have := (hs3.lt g e).1; omega))
    obtain ⟨xk, Ok, hk4, hrow4, ho4, hon4⟩ := hk3.frame hSK (fun j hj ho => hf.block j hj (by have := (ho3 j ho).1; omega))
    have hbel4 : Below w.heap.size w (w3.setRow b (t.h.cells (.slice A3 t.ks.len c3) (.slice A4 t.ss.length c4))) := (hbel1.trans (hb3.mono hbel1.size)).trans (hf.below (by have := hbel1.size; have := hb3.size; omega) fun j hj => by subst hj; exact hwb)
    have hz4 : lo2 ≤ (w3.setRow b (t.h.cells (.slice A3 t.ks.len c3) (.slice A4 t.ss.length c4))).heap.size := by have := hf.size; omega
    obtain ⟨l0, hl0, hx0, hrl0, ho0⟩ := hrow4.toL
    have HO4 := hide (fun (x : It) (hx : x ∈ l0) j (hj : x.O j) => (show lo2 ≤ j ∧ j < (w3.setRow b (t.h.cells (.slice A3 t.ks.len c3) (.slice A4 t.ss.length c4))).heap.size ∧ (Value.slice A3 t.ks.len c3).ownBlock ≠ some j by have h1 := ho4 j (ho0 x hx j hj); have h2 := ho3 j h1.1; have h3 := hf.size; exact ⟨h2.1, by omega, h1.2⟩))
    have hll0 : l0.length = t.ks.len := by rw [← Fo.list_len, ← hl0, List.length_map]
    rw [hx0] at hk4
    have HK4 := hide hk4
    have HRow4 := hide hrl0
    have HSB := hide hsb3
    have HL0 := hide hl0
    have hlo2W : W1.heap.size ≤ lo2 := hlo2
    generalize w3.setRow b (t.h.cells (.slice A3 t.ks.len c3) (.slice A4 t.ss.length c4)) = W3 at *
    clear HB HR HB3 HV1 CL3 hs3 hk3 ho3 hb3 hf hSK hk4 hrow4 ho4 hon4 hbel1 hsb3 hlo2 hlw2 hl0 hx0 hrl0 ho0
    have SS3 := hide (sortS_any W1.heap.size (.slice A4 t.ss.length c4) t.ss hlss W3 HS4.out)
    have c11 : W3.cell? ⟨b, 11, none⟩ = some (.slice A4 t.ss.length c4) := HB4.out.cells 11
    go_upto_region 3 with ((first | (go_at_call 101; (with_reducible refine (SS3.out ).mono ?_); rintro e w5 ⟨rfl, hs5, hf5⟩)))
    have hnb : ∀ g, (Value.slice A4 t.ss.length c4).ownBlock = some g → g < lo2 ∧ W1.heap.size ≤ g := fun g e => ⟨HSB.out g e, (HS4.out.lt g e).1⟩
    have HB5 := hide (hf5.blk HB4.out (fun e => by have := (hnb b e).2; omega))
    have HR5 := hide (hf5.blk HR4.out (fun e => by have := (hnb r e).2; omega))
    have HS5 := hide hs5
    have hk5 : ∀ j, lo2 ≤ j → j < W3.heap.size → w5.heap[j]? = W3.heap[j]? := fun j h1 h2 => hf5.block j h2 (fun e => by have := (hnb j e).1; omega)
    have HK5 := hide (own_keepLo hk5 HK4.out)
    have HRow5 := hide (HRow4.out.keepLo hk5)
    have hz5 : W3.heap.size ≤ w5.heap.size := hf5.size
    have HO5 := hide (fun (x : It) (hx : x ∈ l0) j (hj : x.O j) => (show lo2 ≤ j ∧ j < w5.heap.size ∧ (Value.slice A3 t.ks.len c3).ownBlock ≠ some j by have h1 := HO4.out x hx j hj; exact ⟨h1.1, by omega, h1.2.2⟩))
    have hbel5 : Below w.heap.size w w5 := hbel4.trans (hf5.below hbel4.size (fun j hj => by have := (hnb j hj).2; omega))
    have HNB := hide hnb
    clear hnb hk5 hs5 hf5 SS3 c11 HB4 HR4 HS4 HK4 HRow4 HO4 hbel4
    have SN3 := hide (sortN_any lo2 (.slice A3 t.ks.len c3) l0 (by omega) w5 (by rw [hll0]; exact HK5.out) HRow5.out (fun x hx j hj => (HO5.out x hx j hj).2.2))
    have c10 : w5.cell? ⟨b, 10, none⟩ = some (.slice A3 t.ks.len c3) := HB5.out.cells 10
    go_upto_region 4 with ((first | (go_at_call 103; (with_reducible refine (SN3.out ).mono ?_); rintro e w6 ⟨rfl, ⟨l2, hp6, hm6, hk6, hr6⟩, hf6⟩)))
    have hkb : ∀ g, (Value.slice A3 t.ks.len c3).ownBlock = some g → lo2 ≤ g ∧ g < w5.heap.size := fun g e => HK5.out.lt g e
    have HB6 := hide (hf6.blk HB5.out (fun e => by have := (hkb b e).1; omega))
    have HR6 := hide (hf6.blk HR5.out (fun e => by have := (hkb r e).1; omega))
    have HS6 := hide (own_fr hf6 HS5.out (fun g e e2 => by have := (HNB.out g e).1; have := (hkb g e2).1; omega))
    rw [hll0] at hk6
    have HK6 := hide hk6
    have HRow6 := hide hr6
    have hz6 : w5.heap.size ≤ w6.heap.size := hf6.size
    have HO6 := hide (fun (x : It) (hx : x ∈ l2) j (hj : x.O j) => (show lo2 ≤ j ∧ j < w6.heap.size ∧ (Value.slice A3 t.ks.len c3).ownBlock ≠ some j by have h1 := HO5.out x (hp6.mem_iff.1 hx) j hj; exact ⟨h1.1, by omega, h1.2.2⟩))
    have hbel6 : Below w.heap.size w w6 := hbel5.trans (hf6.below hbel5.size (fun j hj => by have := (hkb j hj).1; omega))
    rw [HL0.out] at hm6
    have hSm : ∀ x ∈ sortL (·.h.name) t.ks.list, x.count ≤ N ∧ x.sz ≤ 500000 := fun x hx => by
      have h1 := list_parts t.ks x ((sortL_mem _ _ x).1 hx)
      have h2 := HSZ.out
      omega
    have HSM := hide hSm
    have hSl : (sortL (·.h.name) t.ks.list).length = t.ks.len := by rw [sortL_len, Fo.list_len]
    have HST := hide (sortT_kids t)
    generalize sortL (·.h.name) t.ks.list = S at *
    have HM6 := hide (show l2.map (·.t) = (S.take 0).map sortT ++ S.drop 0 by rw [hm6]; rfl)
    have hw6 : lo2 ≤ w6.heap.size := by omega
    clear hkb hk6 hf6 hr6 hp6 SN3 c10 HB5 HR5 HS5 HK5 HRow5 HO5 hbel5 hm6 hSm hz6 hz5 hz4 HL0 HSZ
    have c10 : w6.cell? ⟨b, 10, none⟩ = some (.slice A3 t.ks.len c3) := HB6.out.cells 10
    go_wp2_with fail
    clear c10
    go_loopw [16] (fun i wr => ∃ (k : Nat) (lx : List It), i = .int .i64 (k : Int) ∧ k ≤ t.ks.len ∧ Below w.heap.size w wr ∧ lo2 ≤ wr.heap.size ∧ Blk wr b (t.h.cells (.slice A3 t.ks.len c3) (.slice A4 t.ss.length c4)) 25 ∧ Blk wr r zeroN 25 ∧ wr.ownsRow W1.heap.size 69 2 (.slice A4 t.ss.length c4) t.ss.length (stV (sortL (·.1) t.ss)) ∧ wr.ownsRow lo2 25 12 (.slice A3 t.ks.len c3) t.ks.len (lx.flatMap encI) ∧ RowL wr lo2 lx ∧ lx.map (·.t) = (S.take k).map sortT ++ S.drop k ∧ (∀ x ∈ lx, ∀ j, x.O j → lo2 ≤ j ∧ j < wr.heap.size ∧ (Value.slice A3 t.ks.len c3).ownBlock ≠ some j)) (fun i _ => t.ks.len - (intOf i).toNat)
    case atStart => exact ⟨0, l2, rfl, Nat.zero_le _, hbel6, hw6, HB6.out, HR6.out, HS6.out, HK6.out, HRow6.out, HM6.out, HO6.out⟩
    case round =>
      clear HB6 HR6 HS6 HK6 HRow6 HO6 hbel6 HM6 hw6
      obtain ⟨k, lx, rfl, hkl, hbel, hzr, hB, hRz, hSt, hK, hRow, hMap, hO⟩ := hrel
      have HB := hide hB
      have HR := hide hRz
      have HSt := hide hSt
      have HK := hide hK
      have HRow := hide hRow
      have HMap := hide hMap
      have HO := hide hO
      clear hB hRz hSt hK hRow hO hMap
      rcases Nat.lt_or_ge k t.ks.len with hlt | hge
      case inr =>
        have hki : k = t.ks.len := by omega
        subst hki
        clear hge
        go_wp2_with (first | (refine wpList_load_row rfl 25 (.tmp 1) rfl b rfl 25 (t.h.cells (.slice A3 t.ks.len c3) (.slice A4 t.ss.length c4)) (0, 0) _ HB.out Tryz.underlying25 rfl (infN rfl) ?_) | (refine wpList_store_row rfl 25 (.tmp 2) (.tmp 28) rfl r (t.h.cells (.slice A3 t.ks.len c3) (.slice A4 t.ss.length c4)) rfl rfl 25 zeroN HR.out (infN rfl) rfl (nodeLit _ _ _ _ _ _ _) ?_))
        refine bodyPost_ret (results_cell_row rfl _ _ r 25 (t.h.cells (.slice A3 t.ks.len c3) (.slice A4 t.ss.length c4)) (0, 0) _ rfl (setRow_heap _ _ _ _ _ _ HR.out) Tryz.underlying25 rfl (infN rfl)) rfl ?_
        have hf : FrO (fun j => j = r) wr (wr.setRow r (t.h.cells (.slice A3 t.ks.len c3) (.slice A4 t.ss.length c4))) := FrO.setRow rfl
        have hSK := StrK.of hf (fun j cs fr e => by subst e; exact HR.out.notStr cs fr)
        have hn1 : ∀ g, (Value.slice A4 t.ss.length c4).ownBlock = some g → ¬ g = r := fun g e => by have := (HSt.out.lt g e).1; omega
        have hn2 : ∀ g, (Value.slice A3 t.ks.len c3).ownBlock = some g → ¬ g = r := fun g e => by have := (HK.out.lt g e).1; omega
        have hwl : w.heap.size ≤ W1.heap.size := by omega
        have hwl2 : w.heap.size ≤ lo2 := by omega
        have hfin : lx.map (·.t) = S.map sortT := by
          rw [HMap.out, ← hSl, List.take_length, List.drop_length, List.append_nil]
        have hrS : RowS (wr.setRow r (t.h.cells (.slice A3 t.ks.len c3) (.slice A4 t.ss.length c4))) lo2 (Fo.of (S.map sortT)) (lx.flatMap encI) (fun j => ∃ x ∈ lx, x.O j) := by
          rw [← hfin]
          exact RowS.ofL (HRow.out.frame hSK (fun x hx j hj ho => hf.block j hj (by have := (HO.out x hx j ho).1; omega))) (fun x hx j hj => ⟨x, hx, hj⟩)
        have e1 := HST.out
        have hlen := HLEN.out
        refine ⟨_, rfl, ⟨.slice A3 t.ks.len c3, .slice A4 t.ss.length c4, fun j => (∃ x ∈ lx, x.O j) ∨ (Value.slice A3 t.ks.len c3).ownBlock = some j, by rw [e1], ?_, ⟨lx.flatMap encI, fun j => ∃ x ∈ lx, x.O j, ?_, ?_, fun j ⟨x, hx, hj⟩ => ⟨Or.inl ⟨x, hx, hj⟩, (HO.out x hx j hj).2.2⟩, fun j hj => Or.inr hj⟩, fun j hj => ?_⟩, hbel.trans (hf.below (by omega) fun j hj => by subst hj; exact hwr)⟩
        · rw [hlen.1]
          have e2 : (sortT t).ss = sortL (·.1) t.ss := by rw [e1]
          rw [e2]
          exact own_base (own_fr hf HSt.out hn1) hwl
        · rw [hlen.2]
          exact own_base (own_fr hf HK.out hn2) hwl2
        · have e2 : (sortT t).ks = Fo.of (S.map sortT) := by rw [e1]
          rw [e2]
          exact hrS.base hwl2
        · have hsz : wr.heap.size ≤ (wr.setRow r (t.h.cells (.slice A3 t.ks.len c3) (.slice A4 t.ss.length c4))).heap.size := hf.size
          rcases hj with ⟨x, hx, h⟩ | h
          · have := HO.out x hx j h; omega
          · have := HK.out.lt j h; omega
      case inl =>
      have hkS : k < S.length := hSl ▸ hlt
      obtain ⟨x, hxk, hxt⟩ := at_sorted hkS HMap.out
      have hxm : x ∈ lx := List.mem_of_getElem? hxk
      obtain ⟨g, cap, cur, hsl, hlg, hBg, hnc, hcm, hcs, hxs2⟩ := own_blk HK.out (by omega)
      injection hsl with hsl1 hsl2 hsl3
      subst hsl1; subst hsl3
      obtain ⟨hs1, hk1⟩ := HRow.out.1 x hxm
      have hlxl : lx.length = t.ks.len := by
        have := congrArg List.length HMap.out
        rw [List.length_map, List.length_append, List.length_map, List.length_take, List.length_drop] at this
        omega
      have hx12 : ∀ j u, (encI x)[j]? = some u → (lx.flatMap encI)[k * 12 + j]? = some u := fun j u hj => by
        have hj12 : j < 12 := (List.getElem?_eq_some_iff.1 hj).1
        have e1 : lx = lx.take k ++ x :: lx.drop (k + 1) := by
          have hkx : k < lx.length := by omega
          conv => lhs; rw [← List.take_append_drop k lx, List.drop_eq_getElem_cons hkx]
          rw [(List.getElem?_eq_some_iff.1 hxk).2]
        have e2 : ((lx.take k).flatMap encI).length = k * 12 := by rw [flat_len encI 12 encI_len, List.length_take]; congr 1; omega
        rw [e1, List.flatMap_append, List.flatMap_cons, List.getElem?_append_right (by omega), e2, Nat.add_sub_cancel_left, List.getElem?_append_left (by rw [encI_len]; exact hj12)]
        exact hj
      obtain ⟨⟨h, ss, ks⟩, kvx, svx, Ox⟩ := x
      have hxt' : (⟨h, ss, ks⟩ : Tr) = S[k]'hkS := hxt
      obtain ⟨hcn, hsn⟩ : (⟨h, ss, ks⟩ : Tr).count ≤ N ∧ (⟨h, ss, ks⟩ : Tr).sz ≤ 500000 := by rw [hxt']; exact HSM.out _ (List.getElem_mem _)
      obtain ⟨AK, cK, hkv⟩ : ∃ AK cK, kvx = .slice AK ks.len cK := by obtain ⟨xk1, Ok1, hk2, _⟩ := hk1; exact own_slice hk2
      subst hkv
      obtain ⟨AS, cS, hsv⟩ := own_slice hs1
      have hsv' : svx = .slice AS ss.length cS := hsv
      subst hsv'
      have HT := hide (show TreeR wr wr.heap.size (.agg (h.cells (.slice AK ks.len cK) (.slice AS ss.length cS))) ⟨h, ss, ks⟩ from ⟨_, _, rfl, StR.of_own (Nat.le_refl _) hs1, (show KidS wr lo2 (.slice AK ks.len cK) ks Ox from hk1).read (Nat.le_refl _)⟩)
      obtain ⟨kc, hkc⟩ : ∃ kc, kc = h.cells (.slice AK ks.len cK) (.slice AS ss.length cS) := ⟨_, rfl⟩
      have HZ := hide (show kc.size = 12 by rw [hkc]; rfl)
      have H1C := hide (show kc.all (·.oneCell') = true by rw [hkc]; exact nodeLit _ _ _ _ _ _ _)
      have R1 := hide (show ∀ j u, kc.toList[j]? = some u → wr.cell? ⟨g, k * 12 + j, none⟩ = some u from fun j u hj => by rw [hBg.cells]; exact hxs2 _ u (hx12 j u (by rw [hkc] at hj; exact hj)))
      rw [← hkc] at HT
      have HXT := hide hxt'
      have HXM := hide hxm
      have HLX := hide hlxl
      have hgW : lo2 ≤ g := hlg
      have HBG := hide hBg
      have HCS := hide hcs
      obtain ⟨hls8, hlk8⟩ := sortT_lens ⟨h, ss, ks⟩
      have HL8 := hide (And.intro hls8 hlk8)
      clear hsl2 hBg hxs2 hs1 hk1 hkc hcs hcm hx12 hxk hxt hxm hxt' hlxl hls8 hlk8
      go_upto_region 7 with (first | (refine wpList_load_midA rfl 25 (.tmp 19) rfl g (k * 12) rfl kc _ R1.out Tryz.underlying25 rfl (infNl HZ.out) ?_) | (refine wpList_store_new rfl 25 (.tmp 4) (.tmp 20) rfl kc rfl rfl 25 _ (infN HZ.out) (by rw [HZ.out]; rfl) H1C.out ?_))
      have hbN : Below wr.heap.size wr (wr.alloc (.cells kc 25)) := (Below.refl _ _).alloc (Nat.le_refl _) _
      have HD5 := hide (show Blk (wr.alloc (.cells kc 25)) wr.heap.size kc 25 from Blk.newAt rfl)
      have HB5 := hide (Blk.below hbN HB.out)
      have HR5 := hide (Blk.below hbN HR.out)
      have HG5 := hide (Blk.below hbN HBG.out)
      have HSt5 := hide (below_row' HSt.out hbN)
      have HK5 := hide (below_row' HK.out hbN)
      have HRow5 := hide (HRow.out.below hbN)
      have hbel5 : Below w.heap.size w (wr.alloc (.cells kc 25)) := hbel.alloc hbel.size _
      have hz5 : (wr.alloc (.cells kc 25)).heap.size = wr.heap.size + 1 := by rw [World.size_alloc]
      have HT5 := hide (HT.out.own_below hbN)
      have hgw : g < wr.heap.size := HBG.out.lt
      have HO5 := hide (fun (x : It) (hx : x ∈ lx) j (hj : x.O j) => (show lo2 ≤ j ∧ j < wr.heap.size ∧ g ≠ j by have h1 := HO.out x hx j hj; exact ⟨h1.1, h1.2.1, fun e => h1.2.2 (by rw [e]; rfl)⟩))
      generalize wr.alloc (.cells kc 25) = W5 at *
      obtain ⟨d, hd⟩ : ∃ d, d = wr.heap.size := ⟨_, rfl⟩
      rw [← hd] at HD5 hz5 hgw HO5 ⊢
      have hzd : lo2 ≤ d := by omega
      clear HB HR HSt HK HRow HT HO hbN R1 hbel hd hzr HBG
      have SO3 := hide (fun W (hW : TreeR W W.heap.size (.agg kc) ⟨h, ss, ks⟩) => (IH.out ⟨h, ss, ks⟩ hcn hsn (.agg kc) W hW).mono (R' := fun e w' => ∃ r, e = .returned r ∧ (∃ kv sv O, r = .agg (h.cells kv sv) ∧ w'.ownsRow W.heap.size 69 2 sv ss.length (stV (sortT ⟨h, ss, ks⟩).ss) ∧ (∃ xk Ok, w'.ownsRow W.heap.size 25 12 kv ks.len xk ∧ RowS w' W.heap.size (sortT ⟨h, ss, ks⟩).ks xk Ok ∧ (∀ j, Ok j → O j ∧ kv.ownBlock ≠ some j) ∧ (∀ j, kv.ownBlock = some j → O j)) ∧ ∀ j, O j → W.heap.size ≤ j ∧ j < w'.heap.size) ∧ Below W.heap.size W w') fun e w' ⟨r, h1, ⟨kv, sv, O, h2, h3, h4, h5⟩, h6⟩ => ⟨r, h1, ⟨kv, sv, O, h2, by have h7 := HL8.out.1; rw [h7] at h3; exact h3, by
        obtain ⟨xk, Ok, g1, g2⟩ := h4
        have h7 := HL8.out.2
        rw [h7] at g1
        exact ⟨xk, Ok, g1, g2⟩, h5⟩, h6⟩)
      have HTD := hide (show TreeR W5.drew W5.drew.heap.size (.agg kc) ⟨h, ss, ks⟩ from HT5.out.below ((Below.refl _ _).drew))
      have hkeepd : Blk W5.drew d kc 25 ∧ W5.drew.cell? ⟨b, 10, none⟩ = some (.slice (some ⟨g, 0, none⟩) t.ks.len c3) := ⟨HD5.out, HB5.out.cells 10⟩
      have hkeep5 : Blk W5 d kc 25 ∧ W5.cell? ⟨b, 10, none⟩ = some (.slice (some ⟨g, 0, none⟩) t.ks.len c3) := ⟨HD5.out, HB5.out.cells 10⟩
      have hgb : g ≠ b ∧ g ≠ d ∧ g ≠ r := by omega
      have hcap1 : k + 1 ≤ c3 := by omega
      clear IH
      refine wp_region_noPanic ?_
      refine wp_region_held_drew (S := (fun z => Blk z d kc 25 ∧ z.cell? ⟨b, 10, none⟩ = some (.slice (some ⟨g, 0, none⟩) t.ks.len c3))) (by kernel_rfl) kp (fun hHeld => ?_)
      refine tkY 0 ⟨some 21, .fieldAddr 25 (.tmp 1) 10, 0, "sourcetree.go:313", #[], none⟩ ?_ ?_ ?_
      rotate_left
      · intro w hSw; (try dsimp only at hSw); go_simp; (try with_reducible rfl)
      try simp only [PT]
      refine tkY 1 ⟨some 22, .load 22 (.tmp 21), 22, "sourcetree.go:313", #[⟨0, .data⟩], none⟩ ?_ ?_ ?_
      rotate_left
      · intro w hSw; (try dsimp only at hSw); have c1 := hSw.2; go_simp; (try with_reducible rfl)
      try simp only [PT]
      refine tkY 2 ⟨some 23, .move (.tmp 3), 3, "sourcetree.go:313", #[], none⟩ ?_ ?_ ?_
      rotate_left
      · intro w hSw; (try dsimp only at hSw); go_simp; (try with_reducible rfl)
      try simp only [PT]
      refine tkY 3 ⟨some 24, .load 25 (.tmp 4), 25, "sourcetree.go:313", #[], none⟩ ?_ ?_ ?_
      rotate_left
      · intro w hSw; (try dsimp only at hSw); refine (exec_load_row 25 (.tmp 4) (by rfl) d (by rfl) 25 kc (0, 0) _ hSw.1 Tryz.underlying25 (by rfl) (infN HZ.out)).trans ?_; with_reducible rfl
      try simp only [PT]
      refine wpAnyH_ready (rs := [4]) (by kernel_rfl) (by simp) ?_
      refine AllReadyH.cons (o := ⟨some 25, .call ⟨.value (.func 38), #[.tmp 24], #[25]⟩, 25, "sourcetree.go:313", #[⟨3, .data⟩], none⟩) rfl (fun K hK => ?_) AllReadyH.nil
      go_simp
      (go_at_call 38; (with_reducible refine (SO3.out _ HTD.out).mono ?_); rintro e w8 ⟨r8, rfl, ⟨kv8, sv8, O8, rfl, hs8, hk8, ho8⟩, hb8⟩; obtain ⟨A8, c8, rfl⟩ : ∃ A8 c8, kv8 = .slice A8 ks.len c8 := (by obtain ⟨xk9, Ok9, g9, _⟩ := hk8; exact own_slice g9); obtain ⟨A9, c9, rfl⟩ := own_slice hs8; have hb58 : Below W5.heap.size W5 w8 := (Below.refl W5.heap.size W5).drew.trans hb8; have hkeep8 : Blk w8 d kc 25 ∧ w8.cell? ⟨b, 10, none⟩ = some (.slice (some ⟨g, 0, none⟩) t.ks.len c3) := ⟨Blk.below hb8 hkeepd.1, (hb8.cell (p := ⟨b, 10, none⟩) (cell_lt hkeepd.2)).trans hkeepd.2⟩)
      go_wp2_with fail
      refine hK.out _ _ kp (fun hHeld => ?_)
      clear hK K
      try simp only [PT]
      refine tkY 5 ⟨some 26, .indexAddr 22 (.tmp 22) (.tmp 23), 0, "sourcetree.go:313", #[⟨1, .data⟩, ⟨2, .data⟩, ⟨0, .phase⟩, ⟨1, .phase⟩, ⟨2, .phase⟩, ⟨3, .phase⟩, ⟨4, .phase⟩], none⟩ ?_ ?_ ?_
      rotate_left
      · intro w hSw; (try dsimp only at hSw); go_simp; (try with_reducible rfl)
      try simp only [PT]
      refine wpAnyH_ready (rs := [6]) (by kernel_rfl) (by simp) ?_
      refine AllReadyH.cons (o := ⟨none, .store 25 (.tmp 26) (.tmp 25), 0, "sourcetree.go:313", #[⟨5, .data⟩, ⟨4, .data⟩, ⟨4, .chain⟩, ⟨0, .phase⟩, ⟨1, .phase⟩, ⟨2, .phase⟩, ⟨3, .phase⟩, ⟨4, .phase⟩], none⟩) rfl (fun K hK => ?_) AllReadyH.nil
      refine step_store_mid (by rfl) 25 _ _ (by rfl) g (k * 12) (h.cells (.slice A8 ks.len c8) (.slice A9 ss.length c9)) (by rfl) (by rfl) (fun j hj => ?_) (infN rfl) (nodeLit _ _ _ _ _ _ _) ?_; exact ⟨by rw [(Blk.below hb58 HG5.out).cells, Array.getElem?_eq_getElem (show k * 12 + j < cur.size by rw [HCS.out]; have : j < 12 := hj; have h2 := Nat.mul_le_mul_right 12 hcap1; omega)]; rfl, (Blk.below hb58 HG5.out).free _⟩; have hkeep11 : Blk (w8.setCells g (k * 12) (h.cells (.slice A8 ks.len c8) (.slice A9 ss.length c9)).toList) d kc 25 ∧ (w8.setCells g (k * 12) (h.cells (.slice A8 ks.len c8) (.slice A9 ss.length c9)).toList).cell? ⟨b, 10, none⟩ = some (.slice (some ⟨g, 0, none⟩) t.ks.len c3) := ⟨(FrO.sets (O := fun j => j = g) rfl _ _ _).blk hkeep8.1 (fun e => hgb.2.1 e.symm), (World.cell?_of_block ((FrO.sets (O := fun j => j = g) rfl _ _ _).block b (cell_lt hkeep8.2) (fun e => hgb.1 e.symm))).trans hkeep8.2⟩
      refine hK.out _ _ kp (fun hHeld => ?_)
      clear hK K
      try simp only [PT]
      refine wpAnyH_done (by kernel_rfl) ?_ _
      refine NoPanic.normal ?_
      have hfs : FrO (fun j => j = g) w8 (w8.setCells g (k * 12) (h.cells (.slice A8 ks.len c8) (.slice A9 ss.length c9)).toList) := FrO.sets (O := fun j => j = g) rfl _ _ _
      have hG8 := Blk.below hb58 HG5.out
      have hSK : StrK w8 (w8.setCells g (k * 12) (h.cells (.slice A8 ks.len c8) (.slice A9 ss.length c9)).toList) := StrK.of hfs (fun j cs fr e => by subst e; exact hG8.notStr cs fr)
      have e5 : W5.drew.heap.size = W5.heap.size := rfl
      rw [e5] at hs8 hk8 ho8
      have hwl : lo2 ≤ W5.heap.size := by omega
      have hz8 : W5.heap.size ≤ w8.heap.size := hb58.size
      obtain ⟨y, hy⟩ : ∃ y : It, y = ⟨sortT ⟨h, ss, ks⟩, .slice A8 ks.len c8, .slice A9 ss.length c9, O8⟩ := ⟨_, rfl⟩
      have hye : encI y = (h.cells (.slice A8 ks.len c8) (.slice A9 ss.length c9)).toList := by rw [hy]; rfl
      have hyS : ItS (w8.setCells g (k * 12) (h.cells (.slice A8 ks.len c8) (.slice A9 ss.length c9)).toList) lo2 y := by
        rw [hy]
        refine ItS.base hwl ⟨?_, ?_⟩
        · show World.ownsRow _ _ _ _ _ (sortT ⟨h, ss, ks⟩).ss.length _
          rw [HL8.out.1]
          exact own_keep hs8 fun q cs _ hq => hSK q cs _ hq
        · obtain ⟨xk, Ok, g1, g2, g3, g4⟩ := hk8
          have : KidS w8 W5.heap.size (.slice A8 ks.len c8) (sortT ⟨h, ss, ks⟩).ks O8 := ⟨xk, Ok, by rw [HL8.out.2]; exact g1, g2, g3, g4⟩
          exact this.frame hSK fun j hj ho => hfs.block j hj (fun e => by have := (ho8 j ho).1; omega)
      have hrowN : RowL (w8.setCells g (k * 12) (h.cells (.slice A8 ks.len c8) (.slice A9 ss.length c9)).toList) lo2 (lx.set k y) := by
        have h1 : RowL (w8.setCells g (k * 12) (h.cells (.slice A8 ks.len c8) (.slice A9 ss.length c9)).toList) lo2 lx := (HRow5.out.below hb58).frame hSK (fun x hx j hj ho => hfs.block j hj (fun e => (HO5.out x hx j ho).2.2 e.symm))
        refine ⟨fun x hx => ?_, set_pair (fun x y hxy j hy hx => hxy j hx hy) lx k y h1.2 (fun x hx j hj hyj => ?_)⟩
        · rcases List.mem_or_eq_of_mem_set hx with hx | rfl
          · exact h1.1 x hx
          · exact hyS
        · rw [hy] at hyj
          have := (ho8 j hyj).1
          have := (HO5.out x hx j hj).2.1
          omega
      have HRN := hide hrowN
      have HKN := hide (show (w8.setCells g (k * 12) (h.cells (.slice A8 ks.len c8) (.slice A9 ss.length c9)).toList).ownsRow lo2 25 12 (.slice (some ⟨g, 0, none⟩) t.ks.len c3) t.ks.len ((lx.set k y).flatMap encI) from by
        have h1 := own_cells (h.cells (.slice A8 ks.len c8) (.slice A9 ss.length c9)).toList (k * 12) w8 _ (below_row' HK5.out hb58)
        rw [← hye, setsL_flat lx k y (by rw [HLX.out]; exact hlt)] at h1
        rw [hye] at h1
        exact h1)
      have HBN := hide (hfs.blk (Blk.below hb58 HB5.out) (fun e => hgb.1 e.symm))
      have HRZ := hide (hfs.blk (Blk.below hb58 HR5.out) (fun e => hgb.2.2 e.symm))
      have HSN := hide (own_keep (below_row' HSt5.out hb58) fun q cs _ hq => hSK q cs _ hq)
      have hbelN : Below w.heap.size w (w8.setCells g (k * 12) (h.cells (.slice A8 ks.len c8) (.slice A9 ss.length c9)).toList) := (hbel5.trans (hb58.mono hbel5.size)).trans (hfs.below (Nat.le_trans hbel5.size hb58.size) (fun j hj => by subst hj; omega))
      have hzN : lo2 ≤ (w8.setCells g (k * 12) (h.cells (.slice A8 ks.len c8) (.slice A9 ss.length c9)).toList).heap.size := by have := hfs.size; omega
      have HMN := hide (show (lx.set k y).map (·.t) = (S.take (k + 1)).map sortT ++ S.drop (k + 1) from set_sorted hkS HMap.out (by rw [hy, ← HXT.out]))
      have HON := hide (fun (x : It) (hx : x ∈ lx.set k y) j (hj : x.O j) => (show lo2 ≤ j ∧ j < (w8.setCells g (k * 12) (h.cells (.slice A8 ks.len c8) (.slice A9 ss.length c9)).toList).heap.size ∧ (Value.slice (some ⟨g, 0, none⟩) t.ks.len c3).ownBlock ≠ some j from by
        have hsz := hfs.size
        rcases List.mem_or_eq_of_mem_set hx with hx | rfl
        · have h1 := HO5.out x hx j hj
          exact ⟨h1.1, by omega, fun e => h1.2.2 (Option.some.inj e)⟩
        · rw [hy] at hj
          have h1 := ho8 j hj
          exact ⟨by omega, by omega, fun e => by have e2 : g = j := Option.some.inj e; omega⟩))
      generalize (w8.setCells g (k * 12) (h.cells (.slice A8 ks.len c8) (.slice A9 ss.length c9)).toList) = wn at *
      clear hrowN hSK hfs hG8 hs8 hk8 ho8 hkeep11 hkeep8 hkeepd hkeep5 hy hye hyS
      go_wp2_with fail
      go_roundw
      case rel => exact ⟨k + 1, _, by go_num, by omega, hbelN, hzN, HBN.out, HRZ.out, HSN.out, HKN.out, HRN.out, HMN.out, HON.out⟩
      case measure => simp [intOf]; omega
end Go.Proofs.YtlhakdildbplkaaGreatDoor
namespace Go.Proofs.YtlhakdildbplkaaGreatDoor
set_option linter.unusedSimpArgs false
set_option linter.unusedVariables false
open Go.RowKit
theorem ForR.eq_node {h h' : Hd} {ss ss' : List St} {ks ks' nx nx' : Fo} : Fo.node h ss ks nx = .node h' ss' ks' nx' ↔ (⟨h, ss, ks⟩ : Tr) = ⟨h', ss', ks'⟩ ∧ nx = nx' := by
  rw [Fo.node.injEq, Tr.mk.injEq]
  constructor
  · rintro ⟨a, b, c, d⟩; exact ⟨⟨a, b, c⟩, d⟩
  · rintro ⟨⟨a, b, c⟩, d⟩; exact ⟨a, b, c, d⟩
def EqOK (g : FuncId) (N : Nat) : Prop := ∀ a b : Tr, a.count ≤ N → a.sz ≤ 500000 → b.sz ≤ 500000 → ∀ (v1 v2 : Value) (W : World), TreeR W W.heap.size v1 a → TreeR W W.heap.size v2 b → Calls Tryz.prog g #[v1, v2] W fun e w' => e = .returned (.bool (decide (a = b))) ∧ Below W.heap.size W w'
set_option maxRecDepth 100000 in
set_option maxHeartbeats 4000000 in
theorem eqfunc_any (N : Nat) (EQ : EqOK 40 N) (L M : Fo) (A A2 : Option Addr) (c c2 B : Nat) (hLc : L.count ≤ N) (hL : L.sz ≤ 500000) (hM : M.sz ≤ 500000) (w : World) (hB : B ≤ w.heap.size) (ha : Left w B A L 0) (hb : Left w B A2 M 0) :
    Calls Tryz.prog 106 #[.slice A L.len c, .slice A2 M.len c2, .func (.func 40) #[] #[]] w fun e w' => e = .returned (.bool (decide (L = M))) ∧ Below w.heap.size w w' := by
  have HA := hide ha
  have HB := hide hb
  have HEQ := hide EQ
  have hL2 := L.len_sz
  have hM2 := M.len_sz
  have hL3 : L.len ≤ 500000 := by omega
  have hM3 : M.len ≤ 500000 := by omega
  have eg := enters_of Tryz.func40 (by kernel_rfl) rfl
  clear ha hb EQ hL2 hM2
  have HL : Live w [] := trivial
  go_enter Tryz.func106, Tryz.ntmps106
  by_cases hlen : L.len = M.len
  case neg =>
    have HZ := hide (show decide (L = M) = false from decide_eq_false (fun e => hlen (by rw [e])))
    have q : ((L.len : Int) != (M.len : Int)) = true := by simp; omega
    have HQ := hide hlen
    clear hlen
    go_wp2_with fail
    go_ret
    exact ⟨ret_b HZ.out.symm, Below.refl _ _⟩
  case pos =>
  have HLN := hide hlen
  have q : ((L.len : Int) != (M.len : Int)) = false := by simp; omega
  clear hlen
  go_wp2_with fail
  go_loopw [17] (fun i wr => ∃ (k : Nat) (r s : Fo), i = .int .i64 (k : Int) ∧ k + r.len = L.len ∧ k + s.len = M.len ∧ (L = M ↔ r = s) ∧ r.count ≤ N ∧ r.sz ≤ 500000 ∧ s.sz ≤ 500000 ∧ Left w B A r k ∧ Left w B A2 s k ∧ Below w.heap.size w wr) (fun i _ => L.len - (intOf i).toNat)
  case atStart => exact ⟨0, L, M, rfl, by omega, by omega, Iff.rfl, hLc, hL, hM, HA.out, HB.out, Below.refl _ _⟩
  case round =>
    clear HA HB
    obtain ⟨k, r, s, rfl, hkr, hks, hiff, hrc, hrs, hss, hl, hm, hbel⟩ := hrel
    have HI := hide hiff
    have HLr := hide hl
    have HMr := hide hm
    clear hiff hl hm
    have HLN2 := HLN.out
    cases r with
    | nil =>
      rw [Fo.len_nil] at hkr
      obtain rfl : k = L.len := by omega
      have hs0 : s = .nil := Fo.nil_of (by omega)
      have HZ := hide (show decide (L = M) = true from decide_eq_true (HI.out.2 hs0.symm))
      clear HLN2 hs0 HI
      go_wp2_with fail
      go_ret
      exact ⟨ret_b HZ.out.symm, hbel⟩
    | node h ss ks nx =>
    cases s with
    | nil => rw [Fo.len_nil] at hks; rw [Fo.len_node] at hkr; omega
    | node h' ss' ks' nx' =>
    rw [Fo.len_node] at hkr hks
    rw [Fo.count_node] at hrc
    rw [Fo.sz_node] at hrs hss
    have hlt : k < L.len := by omega
    have hltM : k < M.len := by omega
    clear HLN2
    obtain ⟨g, o, kc, rfl, hg, hr, hz, h1c, htr, hln⟩ := HLr.out.next
    obtain ⟨g2, o2, kc2, rfl, hg2, hr2, hz2, h1c2, htr2, hln2⟩ := HMr.out.next
    have R1 := hide (range_below (hbel.mono hB) hg hr)
    have R2 := hide (range_below (hbel.mono hB) hg2 hr2)
    have HLn := hide hln
    have HMn := hide hln2
    have HZ1 := hide hz
    have HZ2 := hide hz2
    have H1C := hide h1c
    have H1D := hide h1c2
    have hBr : B ≤ wr.heap.size := Nat.le_trans hB hbel.size
    have HT1 := hide ((htr.below (hbel.mono hB)).mono hBr)
    have HT2 := hide ((htr2.below (hbel.mono hB)).mono hBr)
    clear hr hr2 hz hz2 h1c h1c2 htr htr2 hln hln2 HLr HMr
    go_upto_region 6 with (first | (refine wpList_load_midA rfl 25 (.tmp 20) rfl g (o + k * 12) rfl kc _ R1.out Tryz.underlying25 rfl (infNl HZ1.out) ?_) | (refine wpList_store_new rfl 25 (.tmp 8) (.tmp 21) rfl kc rfl rfl 25 _ (infN HZ1.out) (by rw [HZ1.out]; rfl) H1C.out ?_))
    have hb5 : Below wr.heap.size wr (wr.alloc (.cells kc 25)) := (Below.refl _ _).alloc (Nat.le_refl _) _
    have HB5 := hide (show Blk (wr.alloc (.cells kc 25)) wr.heap.size kc 25 from Blk.newAt rfl)
    generalize wr.alloc (.cells kc 25) = W5 at *
    obtain ⟨d, hd⟩ : ∃ d, d = wr.heap.size := ⟨_, rfl⟩
    rw [← hd] at HB5 ⊢
    have R25 := hide (range_below hb5 (by omega) R2.out)
    clear hd R1 R2
    go_upto_region 7 with (first | (refine wpList_load_midA rfl 25 (.tmp 24) rfl g2 (o2 + k * 12) rfl kc2 _ R25.out Tryz.underlying25 rfl (infNl HZ2.out) ?_) | (refine wpList_store_new rfl 25 (.tmp 9) (.tmp 25) rfl kc2 rfl rfl 25 _ (infN HZ2.out) (by rw [HZ2.out]; rfl) H1D.out ?_))
    have hb6 : Below wr.heap.size wr (W5.alloc (.cells kc2 25)) := hb5.alloc hb5.size _
    have HB6 := hide (HB5.out.alloc (.cells kc2 25))
    have HC6 := hide (show Blk (W5.alloc (.cells kc2 25)) W5.heap.size kc2 25 from Blk.newAt rfl)
    generalize W5.alloc (.cells kc2 25) = W6 at *
    generalize W5.heap.size = d2 at *
    have HT16 := hide (HT1.out.own_below hb6)
    have HT26 := hide (HT2.out.own_below hb6)
    have hbel6 := hbel.trans (hb6.mono hbel.size)
    have CE0 := HEQ.out ⟨h, ss, ks⟩ ⟨h', ss', ks'⟩ (by show ks.count + 1 ≤ N; omega) (by show h.sz + szS ss + ks.sz ≤ _; omega) (by show h'.sz + szS ss' + ks'.sz ≤ _; omega) (.agg kc) (.agg kc2) W6 HT16.out HT26.out
    have HD := hide (show (L = M ↔ (⟨h, ss, ks⟩ : Tr) = ⟨h', ss', ks'⟩ ∧ nx = nx') by rw [HI.out, ForR.eq_node])
    obtain ⟨q2, hq2⟩ : ∃ q2, decide ((⟨h, ss, ks⟩ : Tr) = ⟨h', ss', ks'⟩) = q2 := ⟨_, rfl⟩
    rw [hq2] at CE0
    have CE := hide CE0
    clear HB5 R25 hb5 HI CE0 HT1 HT2 HT16 HT26
    cases q2
    case true =>
      have HE := hide (show (L = M ↔ nx = nx') by rw [HD.out]; simp only [of_decide_eq_true hq2, true_and])
      clear hq2 HD
      go_wp2_with (first | (refine wpList_load_row rfl 25 (.tmp 8) rfl d rfl 25 kc (0, 0) _ HB6.out Tryz.underlying25 rfl (infN HZ1.out) ?_) | (refine wpList_load_row rfl 25 (.tmp 9) rfl d2 rfl 25 kc2 (0, 0) _ HC6.out Tryz.underlying25 rfl (infN HZ2.out) ?_) | ((first | go_at_fn 40 | go_at_call 40); refine CE.out.mono ?_; rintro e w7 ⟨rfl, hb7⟩))
      go_roundw
      case rel => exact ⟨k + 1, nx, nx', by go_num, by omega, by omega, HE.out, by omega, by omega, by omega, HLn.out, HMn.out, hbel6.trans (hb7.mono hbel6.size)⟩
      case measure => simp [intOf]; omega
    case false =>
      have HE := hide (show decide (L = M) = false from decide_eq_false (fun e => of_decide_eq_false hq2 (HD.out.1 e).1))
      clear hq2 HD
      go_wp2_with (first | (refine wpList_load_row rfl 25 (.tmp 8) rfl d rfl 25 kc (0, 0) _ HB6.out Tryz.underlying25 rfl (infN HZ1.out) ?_) | (refine wpList_load_row rfl 25 (.tmp 9) rfl d2 rfl 25 kc2 (0, 0) _ HC6.out Tryz.underlying25 rfl (infN HZ2.out) ?_) | ((first | go_at_fn 40 | go_at_call 40); refine CE.out.mono ?_; rintro e w7 ⟨rfl, hb7⟩))
      go_ret
      exact ⟨ret_b HE.out.symm, hbel6.trans (hb7.mono hbel6.size)⟩
end Go.Proofs.YtlhakdildbplkaaGreatDoor
