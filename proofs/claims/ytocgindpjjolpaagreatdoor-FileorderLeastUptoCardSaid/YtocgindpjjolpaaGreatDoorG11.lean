/- Contracts and plain words for the laws of this chapter, part 11: X5, X6. No condition. -/
import Derived.Test.YtocgindpjjolpaaGreatDoorG10
namespace Go.Proofs.YtocgindpjjolpaaGreatDoor
set_option linter.unusedSimpArgs false
set_option linter.unusedVariables false
open Go.RowKit
def OwnT (w : World) (lo : Nat) (v : Value) (t : Tr) : Prop := ∃ kv sv O, v = .agg (t.h.cells kv sv) ∧ w.ownsRow lo 136 2 sv t.ss.length (stV t.ss) ∧ KidS w lo kv t.ks O ∧ ∀ j, O j → lo ≤ j ∧ j < w.heap.size
theorem OwnT.read {w : World} {lo : Nat} {v : Value} {t : Tr} (h : OwnT w lo v t) : TreeR w w.heap.size v t := by
  obtain ⟨kv, sv, O, rfl, hs, hk, _⟩ := h
  exact ⟨kv, sv, rfl, StR.of_own (Nat.le_refl _) hs, hk.read (Nat.le_refl _)⟩
theorem OwnT.base {w : World} {lo lo' : Nat} (hl : lo' ≤ lo) {v : Value} {t : Tr} (h : OwnT w lo v t) : OwnT w lo' v t := by
  obtain ⟨kv, sv, O, rfl, hs, hk, ho⟩ := h
  exact ⟨kv, sv, O, rfl, own_base hs hl, hk.base hl, fun j hj => ⟨Nat.le_trans hl (ho j hj).1, (ho j hj).2⟩⟩
theorem OwnT.below {w w' : World} {lo : Nat} {v : Value} {t : Tr} (hb : Below w.heap.size w w') (h : OwnT w lo v t) : OwnT w' lo v t := by
  obtain ⟨kv, sv, O, rfl, hs, hk, ho⟩ := h
  exact ⟨kv, sv, O, rfl, below_row' hs hb, hk.below hb, fun j hj => ⟨(ho j hj).1, Nat.lt_of_lt_of_le (ho j hj).2 hb.size⟩⟩
theorem KidS.slice {w : World} {lo : Nat} {kv : Value} {ks : Fo} {O : Nat → Prop} (h : KidS w lo kv ks O) : ∃ A c, kv = .slice A ks.len c := by
  obtain ⟨xk, Ok, hk, _⟩ := h
  exact own_slice hk
abbrev zeroN : Array Value := #[.string ⟨#[]⟩, .int .i64 0, .string ⟨#[]⟩, .string ⟨#[]⟩, .int .i64 0, .int .i64 0, .int .i64 0, .int .i64 0, .int .i64 0, .int .i64 0, .slice none 0 0, .slice none 0 0]
theorem FrO.setRow {O : Nat → Prop} {w : World} {n : Nat} {cs : Array Value} (h : O n) : FrO O w (w.setRow n cs) := ⟨rfl, rfl, rfl, by simp [World.setRow], fun j _ hn => setRow_other _ _ _ _ (fun e => hn (by rw [e]; exact h))⟩
theorem StrK.of {O : Nat → Prop} {w w' : World} (h : FrO O w w') (ho : ∀ (j : Nat) (cs : Array Value) (fr : Nat × Nat), O j → w.heap[j]? ≠ some (Obj.cells cs 136 fr)) : StrK w w' := fun j cs fr hj => h.block j (by
  rcases Nat.lt_or_ge j w.heap.size with h' | h'
  · exact h'
  · rw [Array.getElem?_eq_none h'] at hj; cases hj) fun e => ho j cs fr e hj
theorem Blk.notStr {w : World} {g : Nat} {cs : Array Value} (h : Blk w g cs 25) (cs' : Array Value) (fr : Nat × Nat) : w.heap[g]? ≠ some (Obj.cells cs' 136 fr) := by
  unfold Blk at h
  rw [h]
  intro e
  injection e with e
  injection e with _ e
  cases e
theorem Fo.app_nil : ∀ f : Fo, f.app .nil = f
  | .nil => rfl
  | .node h ss ks nx => by rw [Fo.app, Fo.app_nil nx]
theorem Fo.app_node : ∀ (a : Fo) (h : Hd) (ss : List St) (ks nx : Fo), a.app (.node h ss ks nx) = (a.app (.node h ss ks .nil)).app nx
  | .nil, _, _, _, _ => rfl
  | .node h' ss' ks' nx', h, ss, ks, nx => by rw [Fo.app, Fo.app, Fo.app, Fo.app_node nx']
theorem own_fr {O : Nat → Prop} {w w' : World} {B : Nat} {T : TypeId} {v : Value} {n k : Nat} {xs : List Value} (hf : FrO O w w') (h : w.ownsRow B T k v n xs) (hn : ∀ g, v.ownBlock = some g → ¬ O g) : w'.ownsRow B T k v n xs :=
  own_keep h fun g _ hg _ => hf.block g (h.lt g hg).2 (hn g hg)
theorem nodeLit (h : Hd) (A : Option Addr) (n c : Nat) (A2 : Option Addr) (n2 c2 : Nat) : (h.cells (.slice A n c) (.slice A2 n2 c2)).all (·.oneCell') = true := by kernel_rfl
def OwnU (w : World) (lo : Nat) (v : Value) (t : Tr) : Prop := ∃ kv sv O lo2, v = .agg (t.h.cells kv sv) ∧ w.ownsRow lo 136 2 sv t.ss.length (stV t.ss) ∧ (∀ j, sv.ownBlock = some j → j < lo2) ∧ lo ≤ lo2 ∧ lo2 ≤ w.heap.size ∧ KidS w lo2 kv t.ks O ∧ ∀ j, O j → lo2 ≤ j ∧ j < w.heap.size
theorem OwnU.own {w : World} {lo : Nat} {v : Value} {t : Tr} (h : OwnU w lo v t) : OwnT w lo v t := by
  obtain ⟨kv, sv, O, lo2, e, hs, _, hl, _, hk, ho⟩ := h
  exact ⟨kv, sv, O, e, hs, hk.base hl, fun j hj => ⟨Nat.le_trans hl (ho j hj).1, (ho j hj).2⟩⟩
set_option maxRecDepth 100000 in
set_option maxHeartbeats 40000000 in
theorem clone_ind : ∀ (N : Nat), ∀ (t : Tr), t.count ≤ N → t.sz ≤ 500000 → ∀ (v : Value) (w : World), TreeR w w.heap.size v t → Calls Tryz.prog 79 #[v] w fun e w' => ∃ r, e = .returned r ∧ OwnU w' w.heap.size r t ∧ Below w.heap.size w w'
  | 0, t, ht, _, _, _, _ => by unfold Tr.count at ht; omega
  | N + 1, t, ht, hsz, v, w, hv => by
    have IH := hide (fun t ht hsz v W hW => (clone_ind N t ht hsz v W hW).mono (R' := fun e w' => ∃ r, e = .returned r ∧ OwnT w' W.heap.size r t ∧ Below W.heap.size W w') fun e w' ⟨r, h1, h2, h3⟩ => ⟨r, h1, h2.own, h3⟩)
    obtain ⟨A, c, A2, c2, rfl, hk, hst⟩ := hv.openL
    have HL0 := hide hk
    have hls := szS_len t.ss
    have hlk := t.ks.len_sz
    have hts : t.sz = t.h.sz + szS t.ss + t.ks.sz := rfl
    have hls2 : t.ss.length ≤ 500000 := by omega
    have hlk2 : t.ks.len ≤ 500000 := by omega
    have SC := hide (fun W (hW : StR W W.heap.size (.slice A2 t.ss.length c2) t.ss) => sclone_any t.ss _ (by omega) W hW)
    have HST := hide (show StR w w.heap.size (.slice A2 t.ss.length c2) t.ss from ⟨A2, c2, rfl, hst⟩)
    clear hk hv hst hls hlk hts
    have HL : Live w [] := trivial
    go_enter Tryz.func79, Tryz.ntmps79
    go_upto_region 1 with fail
    have HB := hide (show Blk ((w.alloc (.cells (t.h.cells (.slice A t.ks.len c) (.slice A2 t.ss.length c2)) 25)).alloc (.cells zeroN 25)) w.heap.size (t.h.cells (.slice A t.ks.len c) (.slice A2 t.ss.length c2)) 25 from (Blk.newAt rfl).alloc _)
    have HR := hide (show Blk ((w.alloc (.cells (t.h.cells (.slice A t.ks.len c) (.slice A2 t.ss.length c2)) 25)).alloc (.cells zeroN 25)) (w.heap.size + 1) zeroN 25 from Blk.newAt (by rw [World.size_alloc]))
    have hbel1 : Below w.heap.size w ((w.alloc (.cells (t.h.cells (.slice A t.ks.len c) (.slice A2 t.ss.length c2)) 25)).alloc (.cells zeroN 25)) := ((Below.refl _ _).alloc (Nat.le_refl _) _).alloc (by rw [World.size_alloc]; omega) _
    have hz1 : ((w.alloc (.cells (t.h.cells (.slice A t.ks.len c) (.slice A2 t.ss.length c2)) 25)).alloc (.cells zeroN 25)).heap.size = w.heap.size + 2 := by rw [World.size_alloc, World.size_alloc]
    obtain ⟨W1, hW1⟩ : ∃ W1, W1 = (w.alloc (.cells (t.h.cells (.slice A t.ks.len c) (.slice A2 t.ss.length c2)) 25)).alloc (.cells zeroN 25) := ⟨_, rfl⟩
    rw [← hW1] at HB HR hbel1 hz1
    unfold zeroN at hW1
    rw [← hW1]
    clear hW1
    obtain ⟨r, hr⟩ : ∃ r, r = w.heap.size + 1 := ⟨_, rfl⟩
    rw [← hr] at HR ⊢
    obtain ⟨b, hb⟩ : ∃ b, b = w.heap.size := ⟨_, rfl⟩
    rw [← hb] at HB ⊢
    have hlo : b < W1.heap.size ∧ r < W1.heap.size ∧ b ≠ r ∧ w.heap.size ≤ b ∧ w.heap.size ≤ r := by omega
    obtain ⟨hbW, hrW, hbr, hwb, hwr⟩ := hlo
    clear hb hr hz1
    have HS1 := hide (StR.below (hbel1.mono (Nat.le_refl _)) HST.out |>.mono hbel1.size)
    have c11 : W1.cell? ⟨b, 11, none⟩ = some (.slice A2 t.ss.length c2) := HB.out.cells 11
    go_upto_region 4 with (go_at_call 113; refine (SC.out _ HS1.out).mono ?_; rintro e w2 ⟨r2, rfl, hr2, hb2⟩; obtain ⟨A3, c3, rfl⟩ := own_slice hr2; have HB2 := hide (Blk.below hb2 HB.out); have g11 := HB2.out.cells 11; have f11 := HB2.out.free 11; have g10 : w2.cell? ⟨b, 10, none⟩ = some (.slice A t.ks.len c) := HB2.out.cells 10; have f10 := HB2.out.free 10; have HR2 := hide (Blk.below hb2 HR.out))
    have HB3 := hide (show Blk ((w2.setCell ⟨b, 11, none⟩ (.slice A3 t.ss.length c3)).setCell ⟨b, 10, none⟩ (.slice none 0 0)) b (t.h.cells (.slice none 0 0) (.slice A3 t.ss.length c3)) 25 from (HB2.out.put rfl).put rfl)
    have HR3 := hide (show Blk ((w2.setCell ⟨b, 11, none⟩ (.slice A3 t.ss.length c3)).setCell ⟨b, 10, none⟩ (.slice none 0 0)) r zeroN 25 from Blk.other (Ne.symm hbr) (Blk.other (Ne.symm hbr) HR2.out))
    have hbn : (Value.slice A3 t.ss.length c3).ownBlock ≠ some b := fun e => by have := (hr2.lt b e).1; omega
    have HS3 := hide (show ((w2.setCell ⟨b, 11, none⟩ (.slice A3 t.ss.length c3)).setCell ⟨b, 10, none⟩ (.slice none 0 0)).ownsRow W1.heap.size 136 2 (.slice A3 t.ss.length c3) t.ss.length (stV t.ss) from own_set (own_set hr2 hbn) hbn)
    have hbel3 : Below w.heap.size w ((w2.setCell ⟨b, 11, none⟩ (.slice A3 t.ss.length c3)).setCell ⟨b, 10, none⟩ (.slice none 0 0)) := ((hbel1.trans (hb2.mono hbel1.size)).setCell hwb _).setCell hwb _
    have hsb : ∀ j, (Value.slice A3 t.ss.length c3).ownBlock = some j → j < ((w2.setCell ⟨b, 11, none⟩ (.slice A3 t.ss.length c3)).setCell ⟨b, 10, none⟩ (.slice none 0 0)).heap.size := fun j hj => by rw [World.size_setCell, World.size_setCell]; exact (hr2.lt j hj).2
    have hz3 : W1.heap.size ≤ ((w2.setCell ⟨b, 11, none⟩ (.slice A3 t.ss.length c3)).setCell ⟨b, 10, none⟩ (.slice none 0 0)).heap.size := by rw [World.size_setCell, World.size_setCell]; exact hb2.size
    generalize (w2.setCell ⟨b, 11, none⟩ (.slice A3 t.ss.length c3)).setCell ⟨b, 10, none⟩ (.slice none 0 0) = W3 at *
    have HSB := hide hsb
    clear hsb
    clear HB HR HB2 HR2 hr2 hb2 c11 g11 f11 g10 f10 hbn hbel1 HS1 HST SC
    go_wp2_with fail
    go_loopw [15] (fun i wr => ∃ (k : Nat) (done rest : Fo) (kv : Value) (xs : List Value) (O : Nat → Prop), i = .int .i64 (k : Int) ∧ done.len = k ∧ done.app rest = t.ks ∧ Left w w.heap.size A rest k ∧ Below w.heap.size w wr ∧ W3.heap.size ≤ wr.heap.size ∧ Blk wr b (t.h.cells kv (.slice A3 t.ss.length c3)) 25 ∧ Blk wr r zeroN 25 ∧ wr.ownsRow W1.heap.size 136 2 (.slice A3 t.ss.length c3) t.ss.length (stV t.ss) ∧ wr.ownsRow W3.heap.size 25 12 kv k xs ∧ RowS wr W3.heap.size done xs O ∧ (∀ j, O j → W3.heap.size ≤ j ∧ j < wr.heap.size ∧ kv.ownBlock ≠ some j) ∧ rest.count + 1 ≤ t.count ∧ rest.sz ≤ t.sz) (fun i _ => t.ks.len - (intOf i).toNat)
    case atStart => exact ⟨0, .nil, t.ks, _, [], fun _ => False, rfl, rfl, rfl, HL0.out, hbel3, Nat.le_refl _, HB3.out, HR3.out, HS3.out, World.ownsRow_nil _ _ _ _, rfl, fun _ h => h.elim, by unfold Tr.count; omega, by unfold Tr.sz; omega⟩
    case round =>
      clear HB3 HR3 HS3 hbel3 HL0
      obtain ⟨k, done, rest, kv, xs, O, rfl, hdk, hdr, hl, hbel, hzr, hB, hRz, hSt, hK, hRow, hO, hrc, hrs⟩ := hrel
      have HLr := hide hl
      have HB := hide hB
      have HR := hide hRz
      have HSt := hide hSt
      have HK := hide hK
      have HRow := hide hRow
      have HO := hide hO
      have HDR := hide hdr
      have hlen : k + rest.len = t.ks.len := by rw [← hdr, Fo.len_app, hdk]
      have HDK := hide hdk
      clear hl hB hRz hSt hRow hO hdr
      obtain ⟨Ak, ck, rfl⟩ := own_slice hK
      clear hK
      cases rest with
      | nil =>
        obtain rfl : k = t.ks.len := by rw [Fo.len_nil] at hlen; omega
        have hdn : done = t.ks := by have := HDR.out; rw [Fo.app_nil] at this; exact this
        have HRow2 := hide (show RowS wr W3.heap.size t.ks xs O by rw [← hdn]; exact HRow.out)
        clear HRow HDR HDK hdn
        go_wp2_with (first | (refine wpList_load_row rfl 25 (.tmp 1) rfl b rfl 25 (t.h.cells (.slice Ak t.ks.len ck) (.slice A3 t.ss.length c3)) (0, 0) _ HB.out Tryz.underlying25 rfl (infN rfl) ?_) | (refine wpList_store_row rfl 25 (.tmp 2) (.tmp 27) rfl r (t.h.cells (.slice Ak t.ks.len ck) (.slice A3 t.ss.length c3)) rfl rfl 25 zeroN HR.out (infN rfl) rfl (nodeLit _ _ _ _ _ _ _) ?_))
        refine bodyPost_ret (results_cell_row rfl _ _ r 25 (t.h.cells (.slice Ak t.ks.len ck) (.slice A3 t.ss.length c3)) (0, 0) _ rfl (setRow_heap _ _ _ _ _ _ HR.out) Tryz.underlying25 rfl (infN rfl)) rfl ?_
        have hf : FrO (fun j => j = r) wr (wr.setRow r (t.h.cells (.slice Ak t.ks.len ck) (.slice A3 t.ss.length c3))) := FrO.setRow rfl
        have hSK := StrK.of hf (fun j cs fr e => by subst e; exact HR.out.notStr cs fr)
        have hn1 : ∀ g, (Value.slice A3 t.ss.length c3).ownBlock = some g → ¬ g = r := fun g e => by have := (HSt.out.lt g e).1; omega
        have hn2 : ∀ g, (Value.slice Ak t.ks.len ck).ownBlock = some g → ¬ g = r := fun g e => by have := (HK.out.lt g e).1; omega
        have hwl : w.heap.size ≤ W3.heap.size := by omega
        have hwl1 : w.heap.size ≤ W1.heap.size := by omega
        refine ⟨_, rfl, ⟨_, _, fun j => O j ∨ (Value.slice Ak t.ks.len ck).ownBlock = some j, W3.heap.size, rfl, own_base (own_fr hf HSt.out hn1) hwl1, HSB.out, hwl, by have := hf.size; omega, ⟨xs, O, own_fr hf HK.out hn2, HRow2.out.frame hSK fun j hj ho => hf.block j hj (by have := (HO.out j ho).1; omega), fun j hj => ⟨Or.inl hj, (HO.out j hj).2.2⟩, fun j hj => Or.inr hj⟩, fun j hj => ?_⟩, hbel.trans (hf.below (by omega) fun j hj => by subst hj; exact hwr)⟩
        have hsz : wr.heap.size ≤ (wr.setRow r (t.h.cells (.slice Ak t.ks.len ck) (.slice A3 t.ss.length c3))).heap.size := hf.size
        rcases hj with h | h
        · have := HO.out j h; omega
        · have := HK.out.lt j h; omega
      | node h ss ks nx =>
      rw [Fo.len_node] at hlen
      rw [Fo.count_node] at hrc
      rw [Fo.sz_node] at hrs
      have hlt : k < t.ks.len := by omega
      obtain ⟨g, o, kc, rfl, hg, hr, hz, h1c, htr, hln⟩ := HLr.out.next
      have R1 := hide (range_below hbel hg hr)
      have HLn := hide hln
      have HZ := hide hz
      have H1C := hide h1c
      have HT := hide (htr.below hbel)
      clear hr hz h1c htr hln HLr
      go_upto_region 7 with (first | (refine wpList_load_midA rfl 25 (.tmp 17) rfl g (o + k * 12) rfl kc _ R1.out Tryz.underlying25 rfl (infNl HZ.out) ?_) | (refine wpList_store_new rfl 25 (.tmp 5) (.tmp 18) rfl kc rfl rfl 25 _ (infN HZ.out) (by rw [HZ.out]; rfl) H1C.out ?_))
      have hbN : Below wr.heap.size wr (wr.alloc (.cells kc 25)) := (Below.refl _ _).alloc (Nat.le_refl _) _
      have HD5 := hide (show Blk (wr.alloc (.cells kc 25)) wr.heap.size kc 25 from Blk.newAt rfl)
      have HB5 := hide (Blk.below hbN HB.out)
      have HR5 := hide (Blk.below hbN HR.out)
      have HSt5 := hide (below_row' HSt.out hbN)
      have HK5 := hide (below_row' HK.out hbN)
      have HRow5 := hide (HRow.out.below hbN)
      have hKd : ∀ g, (Value.slice Ak k ck).ownBlock = some g → W3.heap.size ≤ g ∧ g < wr.heap.size := HK.out.lt
      have HKd := hide hKd
      have hbel5 : Below w.heap.size w (wr.alloc (.cells kc 25)) := hbel.alloc hbel.size _
      have hz5 : (wr.alloc (.cells kc 25)).heap.size = wr.heap.size + 1 := by rw [World.size_alloc]
      have HT5 := hide ((HT.out.below (hbN.mono hbel.size)).mono hbel5.size)
      have HO5 := hide (fun j hj => (show W3.heap.size ≤ j ∧ j < wr.heap.size ∧ (Value.slice Ak k ck).ownBlock ≠ some j from HO.out j hj))
      generalize wr.alloc (.cells kc 25) = W5 at *
      obtain ⟨d, hd⟩ : ∃ d, d = wr.heap.size := ⟨_, rfl⟩
      rw [← hd] at HD5 HKd HO5 hz5 ⊢
      have hzd : W3.heap.size ≤ d := by omega
      clear HB HR HSt HK HRow HT HO hbN hKd R1 hbel hd hzr
      have CLO := hide (fun W (hW : TreeR W W.heap.size (.agg kc) ⟨h, ss, ks⟩) => IH.out ⟨h, ss, ks⟩ (by show ks.count + 1 ≤ N; omega) (by show h.sz + szS ss + ks.sz ≤ _; omega) (.agg kc) W hW)
      have HTD := hide (show TreeR W5.drew W5.drew.heap.size (.agg kc) ⟨h, ss, ks⟩ from HT5.out.below ((Below.refl _ _).drew))
      have hkeepd : Blk W5.drew d kc 25 ∧ True := ⟨HD5.out, trivial⟩
      have hkeep5 : Blk W5 d kc 25 ∧ True := ⟨HD5.out, trivial⟩
      have c1 : W5.cell? ⟨b, 10, none⟩ = some (.slice Ak k ck) := HB5.out.cells 10
      clear IH
      refine wp_region_noPanic ?_
      refine wp_region_held_drew (S := (fun z => Blk z d kc 25 ∧ True)) (by kernel_rfl) kp (fun hHeld => ?_)
      refine tkZ 0 ⟨some 19, .fieldAddr 25 (.tmp 1) 10, 0, "sourcetree.go:222", #[], none⟩ ?_
      refine tkZ 2 ⟨some 21, .load 25 (.tmp 5), 25, "sourcetree.go:222", #[], none⟩ ?_ (by intro w hSw; (try dsimp only at hSw); refine (exec_load_row 25 (.tmp 5) (by rfl) d (by rfl) 25 kc (0, 0) _ hSw.1 Tryz.underlying25 (by rfl) (infN HZ.out)).trans ?_; with_reducible rfl)
      refine rqS [1, 3] (rqC ⟨some 20, .load 22 (.tmp 19), 22, "sourcetree.go:222", #[⟨0, .data⟩], none⟩ (fun K hK => ?_) (rqC ⟨some 22, .call ⟨.value (.func 79), #[.tmp 21], #[25]⟩, 25, "sourcetree.go:222", #[⟨2, .data⟩], none⟩ (fun K hK => ?_) rq0))
      focus
        go_simp
        refine hK.out _ _ kp (fun hHeld => ?_)
        clear hK K
        try simp only [PT]
        refine rqS [3] (rqC ⟨some 22, .call ⟨.value (.func 79), #[.tmp 21], #[25]⟩, 25, "sourcetree.go:222", #[⟨2, .data⟩], none⟩ (fun K hK => ?_) rq0)
        go_simp
        (go_at_call 79; (with_reducible refine (CLO.out _ HTD.out).mono ?_); rintro e w8 ⟨r8, rfl, ⟨kv8, sv8, O8, rfl, hs8, hk8, ho8⟩, hb8⟩; obtain ⟨A8, c8, rfl⟩ := hk8.slice; obtain ⟨A9, c9, rfl⟩ := own_slice hs8; have hkeep8 : Blk w8 d kc 25 ∧ True := ⟨Blk.below hb8 hkeepd.1, trivial⟩; have HB8 := hide (Blk.below (show Below W5.heap.size W5 w8 from (Below.refl _ _).drew.trans hb8) HB5.out); have d1 : w8.cell? ⟨b, 10, none⟩ = some (.slice Ak k ck) := HB8.out.cells 10)
        go_wp2_with fail
        refine hK.out _ _ kp (fun hHeld => ?_)
        clear hK K
        try simp only [PT]
        refine rqS [4] (rqC ⟨some 23, .buildSlice 22 1 #[(0, .tmp 22)], 22, "sourcetree.go:222", #[⟨3, .data⟩], none⟩ (fun K hK => ?_) rq0)
        refine step_buildNode (by rfl) (.tmp 22) (by rfl) h (.slice A8 ks.len c8) (.slice A9 ss.length c9) (by rfl) ?_; have hz8 : W5.heap.size ≤ w8.heap.size := hb8.size; have HB9 := hide (HB8.out.alloc (.cells (h.cells (.slice A8 ks.len c8) (.slice A9 ss.length c9)) 25)); have HK9 := hide ((below_row' HK5.out ((Below.refl W5.heap.size W5).drew.trans hb8)).alloc (.cells (h.cells (.slice A8 ks.len c8) (.slice A9 ss.length c9)) 25)); have HN9 := hide (show Blk (w8.alloc (.cells (h.cells (.slice A8 ks.len c8) (.slice A9 ss.length c9)) 25)) w8.heap.size (h.cells (.slice A8 ks.len c8) (.slice A9 ss.length c9)) 25 from Blk.newAt rfl); have hkeep9 : Blk (w8.alloc (.cells (h.cells (.slice A8 ks.len c8) (.slice A9 ss.length c9)) 25)) d kc 25 ∧ True := ⟨hkeep8.1.alloc _, trivial⟩; have hz9 : (w8.alloc (.cells (h.cells (.slice A8 ks.len c8) (.slice A9 ss.length c9)) 25)).heap.size = w8.heap.size + 1 := World.size_alloc ..; have hb9 : Below w8.heap.size w8 (w8.alloc (.cells (h.cells (.slice A8 ks.len c8) (.slice A9 ss.length c9)) 25)) := (Below.refl _ _).alloc (Nat.le_refl _) _; obtain ⟨W9, hW9⟩ : ∃ W9, W9 = (w8.alloc (.cells (h.cells (.slice A8 ks.len c8) (.slice A9 ss.length c9)) 25)) := ⟨_, rfl⟩; rw [← hW9] at HB9 HK9 HN9 hkeep9 hz9 hb9; rw [← hW9]; clear hW9; have d9 : W9.cell? ⟨b, 10, none⟩ = some (.slice Ak k ck) := HB9.out.cells 10
        refine hK.out _ _ kp (fun hHeld => ?_)
        clear hK K
        try simp only [PT]
        refine rqS [5] (rqC ⟨some 24, .call ⟨.builtin .append, #[.tmp 20, .tmp 23], #[22, 22]⟩, 22, "sourcetree.go:222", #[⟨1, .data⟩, ⟨4, .data⟩, ⟨3, .chain⟩], none⟩ (fun K hK => ?_) rq0)
        refine step_append_rows W9 (by rfl) _ _ 22 (by rfl) W3.heap.size 25 nodeInfo Tryz.underlying22 (by rfl) (by decide) (.slice Ak k ck) k xs HK9.out ⟨w8.heap.size, 0, none⟩ 1 1 (h.cells (.slice A8 ks.len c8) (.slice A9 ss.length c9)).toList (by rfl) (by rfl) (by rfl) (World.news_of_block HN9.out) (fun u hu => List.all_eq_true.1 ((Array.all_toList ..).trans (nodeLit h A8 ks.len c8 A9 ss.length c9)) u hu) (by unfold maxLen; omega) (by omega) (by omega) ?_; intro v2 w2 hown2 hnb2 hg2; obtain ⟨A10, c10, rfl⟩ := own_slice hown2; have HB10 := hide (show Blk w2 b (t.h.cells (.slice Ak k ck) (.slice A3 t.ss.length c3)) 25 from (hg2.block b HB9.out.lt (fun e => by have := (HKd.out b e.symm).1; omega)).trans HB9.out); have e10 : w2.cell? ⟨b, 10, none⟩ = some (.slice Ak k ck) := HB10.out.cells 10; have f10 : w2.frozen? ⟨b, 10, none⟩ = false := HB10.out.free 10; have hkeep10 : Blk w2 d kc 25 ∧ True := ⟨(hg2.block d hkeep9.1.lt (fun e => by have := (HKd.out d e.symm).2; omega)).trans hkeep9.1, trivial⟩
        refine hK.out _ _ kp (fun hHeld => ?_)
        clear hK K
        try simp only [PT]
        refine tkZ 6 ⟨some 25, .fieldAddr 25 (.tmp 1) 10, 0, "sourcetree.go:222", #[⟨0, .phase⟩, ⟨1, .phase⟩, ⟨2, .phase⟩, ⟨3, .phase⟩, ⟨4, .phase⟩, ⟨5, .phase⟩], none⟩ ?_
        refine rqS [7] (rqC ⟨none, .store 22 (.tmp 25) (.tmp 24), 0, "sourcetree.go:222", #[⟨6, .data⟩, ⟨5, .data⟩, ⟨5, .chain⟩, ⟨0, .phase⟩, ⟨1, .phase⟩, ⟨2, .phase⟩, ⟨3, .phase⟩, ⟨4, .phase⟩, ⟨5, .phase⟩], none⟩ (fun K hK => ?_) rq0)
        go_simp; have hkeep11 : Blk (w2.setCell ⟨b, 10, none⟩ (.slice A10 (k + 1) c10)) d kc 25 ∧ True := ⟨Blk.other (by omega) hkeep10.1, trivial⟩
        refine hK.out _ _ kp (fun hHeld => ?_)
        clear hK K
        try simp only [PT]
        refine wpAnyH_done (by kernel_rfl) ?_ _
        refine NoPanic.normal ?_
      rotate_left 1
      focus
        go_simp
        (go_at_call 79; (with_reducible refine (CLO.out _ HTD.out).mono ?_); rintro e w8 ⟨r8, rfl, ⟨kv8, sv8, O8, rfl, hs8, hk8, ho8⟩, hb8⟩; obtain ⟨A8, c8, rfl⟩ := hk8.slice; obtain ⟨A9, c9, rfl⟩ := own_slice hs8; have hkeep8 : Blk w8 d kc 25 ∧ True := ⟨Blk.below hb8 hkeepd.1, trivial⟩; have HB8 := hide (Blk.below (show Below W5.heap.size W5 w8 from (Below.refl _ _).drew.trans hb8) HB5.out); have d1 : w8.cell? ⟨b, 10, none⟩ = some (.slice Ak k ck) := HB8.out.cells 10)
        go_wp2_with fail
        refine hK.out _ _ kp (fun hHeld => ?_)
        clear hK K
        try simp only [PT]
        refine rqS [1, 4] (rqC ⟨some 20, .load 22 (.tmp 19), 22, "sourcetree.go:222", #[⟨0, .data⟩], none⟩ (fun K hK => ?_) (rqC ⟨some 23, .buildSlice 22 1 #[(0, .tmp 22)], 22, "sourcetree.go:222", #[⟨3, .data⟩], none⟩ (fun K hK => ?_) rq0))
        focus
          go_simp
          refine hK.out _ _ kp (fun hHeld => ?_)
          clear hK K
          try simp only [PT]
          refine rqS [4] (rqC ⟨some 23, .buildSlice 22 1 #[(0, .tmp 22)], 22, "sourcetree.go:222", #[⟨3, .data⟩], none⟩ (fun K hK => ?_) rq0)
          refine step_buildNode (by rfl) (.tmp 22) (by rfl) h (.slice A8 ks.len c8) (.slice A9 ss.length c9) (by rfl) ?_; have hz8 : W5.heap.size ≤ w8.heap.size := hb8.size; have HB9 := hide (HB8.out.alloc (.cells (h.cells (.slice A8 ks.len c8) (.slice A9 ss.length c9)) 25)); have HK9 := hide ((below_row' HK5.out ((Below.refl W5.heap.size W5).drew.trans hb8)).alloc (.cells (h.cells (.slice A8 ks.len c8) (.slice A9 ss.length c9)) 25)); have HN9 := hide (show Blk (w8.alloc (.cells (h.cells (.slice A8 ks.len c8) (.slice A9 ss.length c9)) 25)) w8.heap.size (h.cells (.slice A8 ks.len c8) (.slice A9 ss.length c9)) 25 from Blk.newAt rfl); have hkeep9 : Blk (w8.alloc (.cells (h.cells (.slice A8 ks.len c8) (.slice A9 ss.length c9)) 25)) d kc 25 ∧ True := ⟨hkeep8.1.alloc _, trivial⟩; have hz9 : (w8.alloc (.cells (h.cells (.slice A8 ks.len c8) (.slice A9 ss.length c9)) 25)).heap.size = w8.heap.size + 1 := World.size_alloc ..; have hb9 : Below w8.heap.size w8 (w8.alloc (.cells (h.cells (.slice A8 ks.len c8) (.slice A9 ss.length c9)) 25)) := (Below.refl _ _).alloc (Nat.le_refl _) _; obtain ⟨W9, hW9⟩ : ∃ W9, W9 = (w8.alloc (.cells (h.cells (.slice A8 ks.len c8) (.slice A9 ss.length c9)) 25)) := ⟨_, rfl⟩; rw [← hW9] at HB9 HK9 HN9 hkeep9 hz9 hb9; rw [← hW9]; clear hW9; have d9 : W9.cell? ⟨b, 10, none⟩ = some (.slice Ak k ck) := HB9.out.cells 10
          refine hK.out _ _ kp (fun hHeld => ?_)
          clear hK K
          try simp only [PT]
          refine rqS [5] (rqC ⟨some 24, .call ⟨.builtin .append, #[.tmp 20, .tmp 23], #[22, 22]⟩, 22, "sourcetree.go:222", #[⟨1, .data⟩, ⟨4, .data⟩, ⟨3, .chain⟩], none⟩ (fun K hK => ?_) rq0)
          refine step_append_rows W9 (by rfl) _ _ 22 (by rfl) W3.heap.size 25 nodeInfo Tryz.underlying22 (by rfl) (by decide) (.slice Ak k ck) k xs HK9.out ⟨w8.heap.size, 0, none⟩ 1 1 (h.cells (.slice A8 ks.len c8) (.slice A9 ss.length c9)).toList (by rfl) (by rfl) (by rfl) (World.news_of_block HN9.out) (fun u hu => List.all_eq_true.1 ((Array.all_toList ..).trans (nodeLit h A8 ks.len c8 A9 ss.length c9)) u hu) (by unfold maxLen; omega) (by omega) (by omega) ?_; intro v2 w2 hown2 hnb2 hg2; obtain ⟨A10, c10, rfl⟩ := own_slice hown2; have HB10 := hide (show Blk w2 b (t.h.cells (.slice Ak k ck) (.slice A3 t.ss.length c3)) 25 from (hg2.block b HB9.out.lt (fun e => by have := (HKd.out b e.symm).1; omega)).trans HB9.out); have e10 : w2.cell? ⟨b, 10, none⟩ = some (.slice Ak k ck) := HB10.out.cells 10; have f10 : w2.frozen? ⟨b, 10, none⟩ = false := HB10.out.free 10; have hkeep10 : Blk w2 d kc 25 ∧ True := ⟨(hg2.block d hkeep9.1.lt (fun e => by have := (HKd.out d e.symm).2; omega)).trans hkeep9.1, trivial⟩
          refine hK.out _ _ kp (fun hHeld => ?_)
          clear hK K
          try simp only [PT]
          refine tkZ 6 ⟨some 25, .fieldAddr 25 (.tmp 1) 10, 0, "sourcetree.go:222", #[⟨0, .phase⟩, ⟨1, .phase⟩, ⟨2, .phase⟩, ⟨3, .phase⟩, ⟨4, .phase⟩, ⟨5, .phase⟩], none⟩ ?_
          refine rqS [7] (rqC ⟨none, .store 22 (.tmp 25) (.tmp 24), 0, "sourcetree.go:222", #[⟨6, .data⟩, ⟨5, .data⟩, ⟨5, .chain⟩, ⟨0, .phase⟩, ⟨1, .phase⟩, ⟨2, .phase⟩, ⟨3, .phase⟩, ⟨4, .phase⟩, ⟨5, .phase⟩], none⟩ (fun K hK => ?_) rq0)
          go_simp; have hkeep11 : Blk (w2.setCell ⟨b, 10, none⟩ (.slice A10 (k + 1) c10)) d kc 25 ∧ True := ⟨Blk.other (by omega) hkeep10.1, trivial⟩
          refine hK.out _ _ kp (fun hHeld => ?_)
          clear hK K
          try simp only [PT]
          refine wpAnyH_done (by kernel_rfl) ?_ _
          refine NoPanic.normal ?_
        rotate_left 1
        focus
          refine step_buildNode (by rfl) (.tmp 22) (by rfl) h (.slice A8 ks.len c8) (.slice A9 ss.length c9) (by rfl) ?_; have hz8 : W5.heap.size ≤ w8.heap.size := hb8.size; have HB9 := hide (HB8.out.alloc (.cells (h.cells (.slice A8 ks.len c8) (.slice A9 ss.length c9)) 25)); have HK9 := hide ((below_row' HK5.out ((Below.refl W5.heap.size W5).drew.trans hb8)).alloc (.cells (h.cells (.slice A8 ks.len c8) (.slice A9 ss.length c9)) 25)); have HN9 := hide (show Blk (w8.alloc (.cells (h.cells (.slice A8 ks.len c8) (.slice A9 ss.length c9)) 25)) w8.heap.size (h.cells (.slice A8 ks.len c8) (.slice A9 ss.length c9)) 25 from Blk.newAt rfl); have hkeep9 : Blk (w8.alloc (.cells (h.cells (.slice A8 ks.len c8) (.slice A9 ss.length c9)) 25)) d kc 25 ∧ True := ⟨hkeep8.1.alloc _, trivial⟩; have hz9 : (w8.alloc (.cells (h.cells (.slice A8 ks.len c8) (.slice A9 ss.length c9)) 25)).heap.size = w8.heap.size + 1 := World.size_alloc ..; have hb9 : Below w8.heap.size w8 (w8.alloc (.cells (h.cells (.slice A8 ks.len c8) (.slice A9 ss.length c9)) 25)) := (Below.refl _ _).alloc (Nat.le_refl _) _; obtain ⟨W9, hW9⟩ : ∃ W9, W9 = (w8.alloc (.cells (h.cells (.slice A8 ks.len c8) (.slice A9 ss.length c9)) 25)) := ⟨_, rfl⟩; rw [← hW9] at HB9 HK9 HN9 hkeep9 hz9 hb9; rw [← hW9]; clear hW9; have d9 : W9.cell? ⟨b, 10, none⟩ = some (.slice Ak k ck) := HB9.out.cells 10
          refine hK.out _ _ kp (fun hHeld => ?_)
          clear hK K
          try simp only [PT]
          refine rqS [1] (rqC ⟨some 20, .load 22 (.tmp 19), 22, "sourcetree.go:222", #[⟨0, .data⟩], none⟩ (fun K hK => ?_) rq0)
          go_simp
          refine hK.out _ _ kp (fun hHeld => ?_)
          clear hK K
          try simp only [PT]
          refine rqS [5] (rqC ⟨some 24, .call ⟨.builtin .append, #[.tmp 20, .tmp 23], #[22, 22]⟩, 22, "sourcetree.go:222", #[⟨1, .data⟩, ⟨4, .data⟩, ⟨3, .chain⟩], none⟩ (fun K hK => ?_) rq0)
          refine step_append_rows W9 (by rfl) _ _ 22 (by rfl) W3.heap.size 25 nodeInfo Tryz.underlying22 (by rfl) (by decide) (.slice Ak k ck) k xs HK9.out ⟨w8.heap.size, 0, none⟩ 1 1 (h.cells (.slice A8 ks.len c8) (.slice A9 ss.length c9)).toList (by rfl) (by rfl) (by rfl) (World.news_of_block HN9.out) (fun u hu => List.all_eq_true.1 ((Array.all_toList ..).trans (nodeLit h A8 ks.len c8 A9 ss.length c9)) u hu) (by unfold maxLen; omega) (by omega) (by omega) ?_; intro v2 w2 hown2 hnb2 hg2; obtain ⟨A10, c10, rfl⟩ := own_slice hown2; have HB10 := hide (show Blk w2 b (t.h.cells (.slice Ak k ck) (.slice A3 t.ss.length c3)) 25 from (hg2.block b HB9.out.lt (fun e => by have := (HKd.out b e.symm).1; omega)).trans HB9.out); have e10 : w2.cell? ⟨b, 10, none⟩ = some (.slice Ak k ck) := HB10.out.cells 10; have f10 : w2.frozen? ⟨b, 10, none⟩ = false := HB10.out.free 10; have hkeep10 : Blk w2 d kc 25 ∧ True := ⟨(hg2.block d hkeep9.1.lt (fun e => by have := (HKd.out d e.symm).2; omega)).trans hkeep9.1, trivial⟩
          refine hK.out _ _ kp (fun hHeld => ?_)
          clear hK K
          try simp only [PT]
          refine tkZ 6 ⟨some 25, .fieldAddr 25 (.tmp 1) 10, 0, "sourcetree.go:222", #[⟨0, .phase⟩, ⟨1, .phase⟩, ⟨2, .phase⟩, ⟨3, .phase⟩, ⟨4, .phase⟩, ⟨5, .phase⟩], none⟩ ?_
          refine rqS [7] (rqC ⟨none, .store 22 (.tmp 25) (.tmp 24), 0, "sourcetree.go:222", #[⟨6, .data⟩, ⟨5, .data⟩, ⟨5, .chain⟩, ⟨0, .phase⟩, ⟨1, .phase⟩, ⟨2, .phase⟩, ⟨3, .phase⟩, ⟨4, .phase⟩, ⟨5, .phase⟩], none⟩ (fun K hK => ?_) rq0)
          go_simp; have hkeep11 : Blk (w2.setCell ⟨b, 10, none⟩ (.slice A10 (k + 1) c10)) d kc 25 ∧ True := ⟨Blk.other (by omega) hkeep10.1, trivial⟩
          refine hK.out _ _ kp (fun hHeld => ?_)
          clear hK K
          try simp only [PT]
          refine wpAnyH_done (by kernel_rfl) ?_ _
          refine NoPanic.normal ?_
        rotate_left 1
      rotate_left 2
      all_goals
        have hbel58 : Below W5.heap.size W5 w8 := (Below.refl W5.heap.size W5).drew.trans hb8
        have e5 : W5.drew.heap.size = W5.heap.size := rfl
        rw [e5] at hs8 hk8 ho8
        have F83 : FrO (fun j => (Value.slice Ak k ck).ownBlock = some j ∨ j = b) w8 (w2.setCell ⟨b, 10, none⟩ (.slice A10 (k + 1) c10)) :=
          ((FrO.of (O := fun j => (Value.slice Ak k ck).ownBlock = some j ∨ j = b) hb9).trans (FrO.grown (O := fun j => (Value.slice Ak k ck).ownBlock = some j ∨ j = b) hg2 (fun j h => Or.inl h)) (fun j h => Or.inl h)).trans (FrO.set (O := fun j => (Value.slice Ak k ck).ownBlock = some j ∨ j = b) (Or.inr rfl)) (fun j h => Or.inl h)
        have HK8 := below_row' HK5.out hbel58
        have hSK : StrK w8 (w2.setCell ⟨b, 10, none⟩ (.slice A10 (k + 1) c10)) := StrK.of F83 (fun j cs fr hj => by
          rcases hj with hj | rfl
          · intro e
            rcases HK8.2 with ⟨h1, _⟩ | ⟨g', cap, cur, hv, _, hh, _⟩
            · rw [h1] at hj; cases hj
            · rw [hv] at hj
              injection hj with hj
              have hj' : g' = j := hj
              subst hj'
              exact Blk.notStr hh cs fr e
          · exact HB8.out.notStr cs fr)
        have hnew : ∀ j, (Value.slice A10 (k + 1) c10).ownBlock = some j → (Value.slice Ak k ck).ownBlock = some j ∨ j = W9.heap.size := fun j hj => by
          rcases hnb2 with h1 | h1
          · left; rw [← h1]; exact hj
          · right; rw [h1] at hj; injection hj with hj; exact hj.symm
        have hle15 : W3.heap.size ≤ W5.heap.size := by omega
        have hRowN := RowS.snoc (h := h) (own_base (own_keep hs8 fun g cs _ hg => hSK g cs _ hg) hle15) (KidS.base hle15 <| hk8.frame hSK fun j hj hoj => F83.block j hj (fun e => by
          have := (ho8 j hoj).1
          rcases e with e | e
          · have := (HKd.out j e).2; omega
          · omega)) (fun j hj hoj => by have := (ho8 j hj).1; have := (HO5.out j hoj).2.1; omega)
          ((HRow5.out.below hbel58).frame hSK fun j hj hoj => F83.block j hj (fun e => by
          have := HO5.out j hoj
          rcases e with e | e
          · exact this.2.2 e
          · omega))
        have HRN2 := hide hRowN
        clear hRowN
        have hb2n : (Value.slice A10 (k + 1) c10).ownBlock ≠ some b := fun e => by
          rcases hnew b e with h | h
          · have := (HKd.out b h).1; omega
          · omega
        have HKN := hide (own_set (i := 10) (u := .slice A10 (k + 1) c10) hown2 hb2n)
        have HBN := hide (HB10.out.put (j := 10) (v := .slice A10 (k + 1) c10) (cs' := t.h.cells (.slice A10 (k + 1) c10) (.slice A3 t.ss.length c3)) rfl)
        have HRZ := hide (F83.blk (Blk.below hbel58 HR5.out) (fun e => by
          rcases e with e | e
          · have := (HKd.out r e).1; omega
          · exact hbr e.symm))
        have HSN := hide (own_keep (below_row' HSt5.out hbel58) fun g cs _ hg => hSK g cs _ hg)
        have hbelN : Below w.heap.size w (w2.setCell ⟨b, 10, none⟩ (.slice A10 (k + 1) c10)) := (hbel5.trans (hbel58.mono hbel5.size)).trans (F83.below (Nat.le_trans hbel5.size hbel58.size) (fun j hj => by
          rcases hj with hj | rfl
          · have := (HKd.out j hj).1; omega
          · exact hwb))
        have hzN : W3.heap.size ≤ (w2.setCell ⟨b, 10, none⟩ (.slice A10 (k + 1) c10)).heap.size := by have := F83.size; omega
        have hON : ∀ j, (O j ∨ O8 j) → W3.heap.size ≤ j ∧ j < (w2.setCell ⟨b, 10, none⟩ (.slice A10 (k + 1) c10)).heap.size ∧ (Value.slice A10 (k + 1) c10).ownBlock ≠ some j := fun j hj => by
          have hz := F83.size
          have hz2 : w8.heap.size < W9.heap.size := by omega
          refine ⟨?_, ?_, fun e => ?_⟩
          · rcases hj with hj | hj
            · exact (HO5.out j hj).1
            · have := (ho8 j hj).1; omega
          · rcases hj with hj | hj
            · have := (HO5.out j hj).2.1; omega
            · have := (ho8 j hj).2; omega
          · rcases hj with hj | hj
            · have := HO5.out j hj
              rcases hnew j e with h | h
              · exact this.2.2 h
              · omega
            · have h8 := ho8 j hj
              rcases hnew j e with h | h
              · have := (HKd.out j h).2; omega
              · omega
        have HON := hide hON
        have HDN := hide (show (done.app (.node h ss ks .nil)).len = k + 1 by rw [Fo.len_app, HDK.out]; rfl)
        have HAN := hide (show (done.app (.node h ss ks .nil)).app nx = t.ks by rw [← HDR.out, ← Fo.app_node])
        clear hON hnew hSK HK8 F83 hs8 hk8 ho8 hown2 hnb2 hg2 hkeep11 hkeep10 hkeep9 hkeep8 hkeepd hkeep5
        go_wp2_with fail
        go_roundw
        case rel => exact ⟨k + 1, _, nx, _, _, _, by go_num, HDN.out, HAN.out, HLn.out, hbelN, hzN, HBN.out, HRZ.out, HSN.out, HKN.out, HRN2.out, HON.out, by omega, by omega⟩
        case measure => simp [intOf]; omega
theorem clone_any (N : Nat) (t : Tr) (ht : t.count ≤ N) (hsz : t.sz ≤ 500000) (v : Value) (w : World) (hv : TreeR w w.heap.size v t) : Calls Tryz.prog 79 #[v] w fun e w' => ∃ r, e = .returned r ∧ OwnT w' w.heap.size r t ∧ Below w.heap.size w w' :=
  (clone_ind N t ht hsz v w hv).mono fun e w' ⟨r, h1, h2, h3⟩ => ⟨r, h1, h2.own, h3⟩
theorem FnName0 {w : World} {c : Nat} {n : ByteArray} (h : Blk w c #[.string n] 9) : w.cell? ⟨c, 0, none⟩ = some (.string n) := h.cells 0
set_option maxRecDepth 100000 in
set_option maxHeartbeats 1000000 in
theorem fnd1_any (h : Hd) (kv sv : Value) (n : ByteArray) (c : Nat) (w : World) (hc : Blk w c #[.string n] 9) : Calls Tryz.prog 112 #[.agg (h.cells kv sv), .pointer (some ⟨c, 0, none⟩)] w fun e w' => e = .returned (.bool (h.name.toList == n.toList)) ∧ Below w.heap.size w w' := by
  have HC := hide hc
  clear hc
  have HL : Live w [] := trivial
  go_enter Tryz.func112, Tryz.ntmps112
  go_upto_region 1 with fail
  have HC1 := hide (HC.out.alloc (.cells (h.cells kv sv) 25))
  have HN := hide (NodeB.new w h kv sv)
  have hbel1 : Below w.heap.size w (w.alloc (.cells (h.cells kv sv) 25)) := by (exact bl)
  generalize w.alloc (.cells (h.cells kv sv) 25) = W1 at *
  obtain ⟨b, hb⟩ : ∃ b, b = w.heap.size := ⟨_, rfl⟩
  rw [← hb] at HN ⊢
  clear hb
  have c0 := FnName0 HC1.out
  have d0 := HN.out.c0
  go_wp2_with fail
  go_ret
  exact ⟨rfl, hbel1⟩
structure NameFn (g : FuncId) (n : ByteArray) (c : Nat) : Prop where
  enters : ∀ args w, (callFunc g args).run Tryz.prog w = .ok (.enter g args) w
  call : ∀ (h : Hd) (kv sv : Value) (w : World), Blk w c #[.string n] 9 → Calls Tryz.prog g (#[.agg (h.cells kv sv)] ++ #[.pointer (some ⟨c, 0, none⟩)]) w fun e w' => e = .returned (.bool (h.name.toList == n.toList)) ∧ Below w.heap.size w w'
theorem fnd_name (n : ByteArray) (c : Nat) : NameFn 112 n c := ⟨enters_of Tryz.func112 (by kernel_rfl) rfl, fun h kv sv w hc => fnd1_any h kv sv n c w hc⟩
set_option maxRecDepth 100000 in
set_option maxHeartbeats 2000000 in
theorem index_any (g : FuncId) (n : ByteArray) (c : Nat) (G : NameFn g n c) (ks : Fo) (A : Option Addr) (cap B : Nat) (hlen : ks.len ≤ 2000000000) (w : World) (hB : B ≤ w.heap.size) (hk : Left w B A ks 0) (hc : Blk w c #[.string n] 9) :
    Calls Tryz.prog 111 #[.slice A ks.len cap, .func (.func g) #[] #[.pointer (some ⟨c, 0, none⟩)]] w fun e w' => e = .returned (.int .i64 (kidV (kidI ks n))) ∧ Below w.heap.size w w' := by
  have HL0 := hide hk
  have HC := hide hc
  have eg := G.enters
  have HG := hide G.call
  clear hk hc G
  have HL : Live w [] := trivial
  go_enter Tryz.func111, Tryz.ntmps111
  go_wp2_with fail
  go_loopw [8] (fun i wr => ∃ (k : Nat) (r : Fo), i = .int .i64 (k : Int) ∧ k + r.len = ks.len ∧ kidI ks n = (kidI r n).map (· + k) ∧ Left w B A r k ∧ Below w.heap.size w wr) (fun i _ => ks.len - (intOf i).toNat)
  case atStart => exact ⟨0, ks, rfl, by omega, by simp, HL0.out, Below.refl _ _⟩
  case round =>
    clear HL0
    obtain ⟨k, r, rfl, hkr, hki, hl, hbel⟩ := hrel
    have HI := hide hki
    have HLr := hide hl
    clear hki hl
    cases r with
    | nil =>
      rw [Fo.len_nil] at hkr
      obtain rfl : k = ks.len := by omega
      go_wp2_with fail
      go_ret
      exact ⟨ret_i (by rw [HI.out]; rfl), hbel⟩
    | node h ss kk nx =>
      rw [Fo.len_node] at hkr
      have hlt : k < ks.len := by omega
      obtain ⟨ga, o, kc, rfl, hg, hr, hz, h1c, htr, hln⟩ := HLr.out.next
      have R1 := hide (range_below (hbel.mono hB) hg hr)
      have HLn := hide hln
      obtain ⟨kv, sv, ekc, -, -⟩ := htr
      injection ekc with ekc
      subst ekc
      have HZ := hide hz
      have CL := hide (HG.out h kv sv wr (Blk.below hbel HC.out))
      clear hr hz h1c hln HLr
      by_cases q : h.name = n
      · have q1 : (h.name.toList == n.toList) = true := seq_y q
        have HQ := hide (show kidI ks n = some (0 + k) by rw [HI.out, kidI_hit q]; rfl)
        rw [q1] at CL
        clear q
        go_wp2_with (first | (refine wpList_load_midA rfl 25 (.tmp 14) rfl ga (o + k * 12) rfl (h.cells kv sv) _ R1.out Tryz.underlying25 rfl (infNl HZ.out) ?_) | (go_at_fn g; refine CL.out.mono ?_; rintro e w3 ⟨rfl, hb3⟩))
        go_ret
        exact ⟨ret_i (by rw [HQ.out]; show (k : Int) = ((0 + k : Nat) : Int); omega), hbel.trans (hb3.mono hbel.size)⟩
      · have q1 : (h.name.toList == n.toList) = false := seq_n q
        have HQ := hide (show kidI ks n = (kidI nx n).map (· + (k + 1)) by rw [HI.out, kidI_miss q, Option.map_map]; congr 1; funext x; show x + 1 + k = x + (k + 1); omega)
        rw [q1] at CL
        clear q
        go_wp2_with (first | (refine wpList_load_midA rfl 25 (.tmp 14) rfl ga (o + k * 12) rfl (h.cells kv sv) _ R1.out Tryz.underlying25 rfl (infNl HZ.out) ?_) | (go_at_fn g; refine CL.out.mono ?_; rintro e w3 ⟨rfl, hb3⟩))
        go_roundw
        case rel => exact ⟨k + 1, nx, by go_num, by omega, HQ.out, HLn.out, hbel.trans (hb3.mono hbel.size)⟩
        case measure => simp [intOf]; omega
end Go.Proofs.YtocgindpjjolpaaGreatDoor
