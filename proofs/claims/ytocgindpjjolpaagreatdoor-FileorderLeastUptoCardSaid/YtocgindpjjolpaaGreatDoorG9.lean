/- Contracts and plain words for the laws of this chapter, part 9: X2, U11, X3. No condition. -/
import Derived.Test.YtocgindpjjolpaaGreatDoorG8
import Derived.Test.YtocgindpjjolpaaGreatDoorG6
namespace Go.Proofs.YtocgindpjjolpaaGreatDoor
set_option linter.unusedSimpArgs false
set_option linter.unusedVariables false
open Go.RowKit
def strV (l : List ByteArray) : List Value := l.map .string
theorem strV_snoc (l : List ByteArray) (s : ByteArray) : strV l ++ (#[Value.string s] : Array Value).toList = strV (l ++ [s]) := by unfold strV; rw [List.map_append]; rfl
def PthI (B c : Nat) (s : List ByteArray) (O : Nat → Prop) (w : World) : Prop := ∃ v, Blk w c #[v] 26 ∧ w.ownsRow B 9 1 v s.length (strV s) ∧ O = (fun j => j = c ∨ v.ownBlock = some j) ∧ v.ownBlock ≠ some c
theorem FrO.grown {O : Nat → Prop} {w w' : World} {row : Option Nat} (h : w.grownBy w' row) (ho : ∀ j, row = some j → O j) : FrO O w w' := ⟨h.os, h.tape, h.output, h.size, fun j hj hn => h.block j hj (fun e => hn (ho j e.symm))⟩
theorem own_neBlk {w : World} {B g : Nat} {T U : TypeId} {v : Value} {n k : Nat} {xs : List Value} {cs : Array Value} (h : w.ownsRow B T k v n xs) (hb : Blk w g cs U) (hTU : T ≠ U) : v.ownBlock ≠ some g := by
  intro e
  rcases h.2 with ⟨rfl, _⟩ | ⟨g', cap, cur, rfl, _, hh, _⟩
  · cases e
  · injection e with e
    have e' : g' = g := e
    subst e'
    unfold Blk at hb
    rw [hb] at hh
    injection hh with hh
    injection hh with _ h2
    exact hTU h2.symm
theorem own_slice {w : World} {B : Nat} {T : TypeId} {v : Value} {n k : Nat} {xs : List Value} (h : w.ownsRow B T k v n xs) : ∃ A cap, v = .slice A n cap := by
  rcases h.2 with ⟨rfl, rfl⟩ | ⟨g', cap, cur, rfl, _⟩
  · exact ⟨_, _, rfl⟩
  · exact ⟨_, _, rfl⟩
theorem own_set {w : World} {B : Nat} {T : TypeId} {v u : Value} {n k g i : Nat} {xs : List Value} (h : w.ownsRow B T k v n xs) (hn : v.ownBlock ≠ some g) : (w.setCell ⟨g, i, none⟩ u).ownsRow B T k v n xs := by
  refine ⟨h.1, ?_⟩
  rcases h.2 with h2 | ⟨g', cap, cur, hv, hg, hh, r⟩
  · exact Or.inl h2
  · exact Or.inr ⟨g', cap, cur, hv, hg, (Below.heap_setCell _ _ _ _ (fun e => hn (by rw [hv, e]; rfl))).trans hh, r⟩
set_option maxRecDepth 100000 in
set_option maxHeartbeats 1000000 in
theorem pth1_any (B c : Nat) (s : List ByteArray) (cells : Array Value) (p : ByteArray) (l : Int) (O : Nat → Prop) (w : World) (hs : s.length ≤ 1000000) (hBw : B ≤ w.heap.size) (hc : PthI B c s O w) :
    Calls Tryz.prog 81 #[.agg cells, .string p, .int .i64 l, .pointer (some ⟨c, 0, none⟩)] w fun e w' => e = .returned (.bool true) ∧ (∃ O', PthI B c (s ++ [p]) O' w' ∧ ∀ j, O' j → O j ∨ w.heap.size ≤ j) ∧ FrO O w w' := by
  obtain ⟨v, hv, hown, rfl, hne⟩ := hc
  have HV := hide hv
  have HO := hide hown
  have hlt := hv.lt
  clear hv hown
  have HL : Live w [] := trivial
  go_enter Tryz.func81, Tryz.ntmps81
  go_upto_region 1 with fail
  have HV1 := hide (HV.out.alloc (.cells cells 25))
  have HO1 := hide (HO.out.alloc (.cells cells 25))
  have hbel1 : Below w.heap.size w (w.alloc (.cells cells 25)) := by (exact bl)
  generalize w.alloc (.cells cells 25) = W1 at *
  have c0 : W1.cell? ⟨c, 0, none⟩ = some v := HV1.out.cells 0
  have hB1 := hbel1.size
  clear HV HO
  go_upto_region 2 with ((at_builtin; refine wpList_append_blk _ rfl _ _ 26 rfl B 9 strInfo Tryz.underlying26 rfl (by decide) v _ _ (HO1.out.alloc _) W1.heap.size #[.string p] (Blk.newAt rfl) rfl rfl rfl (by simp [Value.oneCell']) (by unfold maxLen; omega) (by omega) (by rw [World.size_alloc]; omega) ?_; intro v2 w2 hown2 hnb2 hg2; obtain ⟨A2, cap2, hv2⟩ := own_slice hown2; subst hv2; have HV2 := hide (show Blk w2 c #[v] 26 from (hg2.block c (by rw [World.size_alloc]; omega) (fun e => hne e.symm)).trans (HV1.out.alloc _)); have f2 := HV2.out.free 0; have c2 := HV2.out.cells 0))
  go_wp2_with fail
  go_ret
  have hn2 : (Value.slice A2 (s.length + 1) cap2).ownBlock ≠ some c := by
    rcases hnb2 with h | h
    · rw [h]; exact hne
    · rw [h, World.size_alloc]; intro e; injection e with e; omega
  refine ⟨rfl, ⟨fun j => j = c ∨ (Value.slice A2 (s.length + 1) cap2).ownBlock = some j, ⟨_, HV2.out.put rfl, ?_, rfl, hn2⟩, ?_⟩, ?_⟩
  · rw [List.length_append, ← strV_snoc]
    exact own_set hown2 hn2
  · intro j hj
    rcases hj with h | h
    · left; exact Or.inl h
    · rcases hnb2 with h2 | h2
      · left; exact Or.inr (h2 ▸ h)
      · right; rw [h2, World.size_alloc] at h; injection h with h; omega
  · have f1 : FrO (fun j => j = c ∨ v.ownBlock = some j) w W1 := FrO.of hbel1
    have f2 : FrO (fun j => j = c ∨ v.ownBlock = some j) w (W1.alloc (.cells #[.string p] 9)) := f1.trans (FrO.of (O := fun j => j = c ∨ v.ownBlock = some j) ((Below.refl _ _).alloc (Nat.le_refl _) _)) (fun j h => Or.inl h)
    have f3 : FrO (fun j => j = c ∨ v.ownBlock = some j) w w2 := f2.trans (FrO.grown (O := fun j => j = c ∨ v.ownBlock = some j) hg2 (fun j h => by exact Or.inr h)) (fun j h => Or.inl h)
    exact f3.trans (FrO.set (O := fun j => j = c ∨ v.ownBlock = some j) (by exact Or.inl rfl)) (fun j h => Or.inl h)
theorem pth_visit (B c Z : Nat) (hc : B ≤ c) : VisitOK (fun (s : List ByteArray) _ p _ => (true, s ++ [p])) (fun s _ => s.length ≤ 1000000) (PthI B c) B Z 81 #[.pointer (some ⟨c, 0, none⟩)] :=
  ⟨enters_of Tryz.func81 (by kernel_rfl) rfl,
  fun s O w j ⟨v, hb, ho, e, _⟩ h => by
    subst e
    rcases h with rfl | h
    · exact ⟨hc, hb.lt⟩
    · exact ho.lt j h,
  fun s O w w' ⟨v, hb, ho, e, h4⟩ h => ⟨v, Blk.below h hb, below_row' ho h, e, h4⟩,
  fun s t p l v O w hG _ _ _ hI hBw hv => by
    obtain ⟨cells, rfl, -, -⟩ := hv.cells
    exact pth1_any B c s cells p l O w hG hBw hI⟩
theorem pathsF_len : ∀ (f : Fo) (p : ByteArray) (l : Nat), (pathsF f p l).length = f.count
  | .nil, _, _ => rfl
  | .node h ss ks nx, p, l => by
    unfold pathsF Fo.count
    rw [List.length_append, List.length_cons, pathsF_len ks, pathsF_len nx]
theorem good_paths : ∀ (f : Fo) (p : ByteArray) (l : Nat) (s : List ByteArray) (M : Nat), s.length + f.count ≤ M + 1 → goodF (fun (s : List ByteArray) (_ : Tr) p (_ : Nat) => (true, s ++ [p])) (fun s _ => s.length ≤ M) f p l s
  | .nil, _, _, _, _, _ => trivial
  | .node h ss ks nx, p, l, s, M, hM => by
    rw [Fo.count_node] at hM
    have hw : walkT (fun (s : List ByteArray) (_ : Tr) p (_ : Nat) => (true, s ++ [p])) ⟨h, ss, ks⟩ (belowP p h.name l) (l + 1) s = (true, s ++ [belowP p h.name l] ++ pathsF ks (belowP p h.name l) (l + 1)) := by
      unfold walkT
      dsimp only
      rw [if_pos rfl, walk_paths]
    refine ⟨⟨by omega, fun _ => good_paths ks _ _ _ M (by rw [List.length_append]; show s.length + 1 + _ ≤ _; omega)⟩, fun _ => ?_⟩
    rw [hw]
    exact good_paths nx _ _ _ M (by simp only [List.length_append, List.length_cons, List.length_nil, pathsF_len]; omega)
def StrsR (w : World) (B : Nat) (v : Value) (l : List ByteArray) : Prop := w.ownsRow B 9 1 v l.length (strV l)
set_option maxRecDepth 100000 in
set_option maxHeartbeats 2000000 in
theorem paths_any (t : Tr) (hsz : t.sz ≤ 120000) (v : Value) (w : World) (hT : TabV w) (hv : TreeR w w.heap.size v t) : Calls Tryz.prog 51 #[v] w fun e w' => ∃ r, e = .returned r ∧ StrsR w' w.heap.size r (pathsT t) ∧ Below w.heap.size w w' := by
  have HP := hide (show pathsT t = if validB t then eS :: pathsF t.ks eS 1 else [] from rfl)
  have VN := hide (fun W hTW hW => valid_any t (Or.inl hsz) v W hTW hW)
  have HV := hide hv
  obtain ⟨cells, rfl, hz, h1c⟩ := hv.cells
  have HZ := hide hz
  clear hv hz h1c
  have HL : Live w [] := trivial
  go_enter Tryz.func51, Tryz.ntmps51
  go_upto_region 1 with fail
  have HB := hide (show Blk (w.alloc (.cells cells 25)) w.heap.size cells 25 from Blk.newAt rfl)
  have hbel1 : Below w.heap.size w (w.alloc (.cells cells 25)) := by (exact bl)
  have HV1 := hide (HV.out.later hbel1)
  have HT1 := hide (hT.below hbel1)
  generalize w.alloc (.cells cells 25) = W1 at *
  obtain ⟨b, hb⟩ : ∃ b, b = w.heap.size := ⟨_, rfl⟩
  rw [← hb] at HB ⊢
  clear hb hT
  cases hvb : validB t
  case false =>
    have HR := hide (show pathsT t = [] by rw [HP.out, hvb]; rfl)
    rw [hvb] at VN
    clear hvb
    go_wp2_with (first | (refine wpList_load_row rfl 25 (.tmp 1) rfl b rfl 25 cells (0, 0) _ HB.out Tryz.underlying25 rfl (infN HZ.out) ?_) | (go_at_call 56; refine (VN.out _ HT1.out HV1.out).mono ?_; rintro e w3 ⟨rfl, hb3⟩))
    go_ret
    exact ⟨_, rfl, by rw [HR.out]; exact World.ownsRow_nil _ _ _ _, hbel1.trans (hb3.mono hbel1.size)⟩
  case true =>
    have HR := hide (show pathsT t = eS :: pathsF t.ks eS 1 by rw [HP.out, hvb]; rfl)
    rw [hvb] at VN
    clear hvb
    go_upto_region 4 with (first | (refine wpList_load_row rfl 25 (.tmp 1) rfl b rfl 25 cells (0, 0) _ HB.out Tryz.underlying25 rfl (infN HZ.out) ?_) | (go_at_call 56; refine (VN.out _ HT1.out HV1.out).mono ?_; rintro e w3 ⟨rfl, hb3⟩))
    have hbel3 := hbel1.trans (hb3.mono hbel1.size)
    have HB3 := hide ((Blk.below hb3 HB.out).alloc (.cells #[.slice none 0 0] 26))
    have hbel4 : Below w.heap.size w (w3.alloc (.cells #[.slice none 0 0] 26)) := hbel3.alloc hbel3.size _
    have HI := hide (show PthI w.heap.size w3.heap.size [] (fun j => j = w3.heap.size ∨ (Value.slice none 0 0).ownBlock = some j) (w3.alloc (.cells #[.slice none 0 0] 26)) from ⟨_, Blk.newAt rfl, World.ownsRow_nil _ _ _ _, rfl, fun e => by cases e⟩)
    have hc0 : w.heap.size ≤ w3.heap.size := hbel3.size
    generalize w3.alloc (.cells #[.slice none 0 0] 26) = W4 at *
    generalize w3.heap.size = c at *
    have hcn : t.count ≤ 500000 := by have := t.count_sz; omega
    have WK0 := walk_any (pth_visit w.heap.size c 120000 hc0) 500000 t hcn hsz (by omega) eS 1 (by omega) (by have := t.ks.wt_sz; unfold Tr.sz at hsz; show 0 + 1 + _ ≤ _; omega) [] _ (.agg cells) W4
      ⟨by simp, fun _ => good_paths t.ks eS 1 _ 1000000 (by unfold Tr.count at hcn; simp; omega)⟩ HI.out hbel4.size (HV.out.below hbel4)
    rw [walkT_paths] at WK0
    have WK := hide (show Calls Tryz.prog 80 #[.agg cells, .string ⟨#[]⟩, .int .i64 1, .func (.func 81) #[] #[.pointer (some ⟨c, 0, none⟩)]] W4 (WPost (PthI w.heap.size c) (fun j => j = c ∨ (Value.slice none 0 0).ownBlock = some j) W4 (true, eS :: pathsF t.ks eS 1)) from WK0)
    clear WK0 HI
    go_upto_region 5 with (first | (refine wpList_load_row rfl 25 (.tmp 1) rfl b rfl 25 cells (0, 0) _ HB3.out Tryz.underlying25 rfl (infN HZ.out) ?_) | (go_at_call 80; refine WK.out.mono ?_; rintro e w5 ⟨rfl, ⟨O5, ⟨v5, hv5, ho5, hO5, hne5⟩, hO52⟩, hf5⟩))
    have c0 := hv5.cells 0
    have hbel5 : Below w.heap.size w w5 := hbel4.trans (hf5.below hbel4.size (fun j h => by rcases h with rfl | h; exact hc0; cases h))
    have HO5 := hide ho5
    clear WK HB3 hv5 hO52 hf5 ho5 hO5 hne5
    go_wp2_with fail
    go_ret
    exact ⟨_, rfl, by rw [HR.out]; exact HO5.out, hbel5⟩
def pathsR (t : Tr) (p : ByteArray) (l : Nat) : List ByteArray := p :: pathsF t.ks p l
theorem pathsR_len (t : Tr) (p : ByteArray) (l : Nat) : (pathsR t p l).length = t.count := by show (pathsF t.ks p l).length + 1 = _; rw [pathsF_len]; rfl
theorem pathsF_node (h : Hd) (ss : List St) (ks nx : Fo) (p : ByteArray) (l : Nat) : pathsF (.node h ss ks nx) p l = pathsR ⟨h, ss, ks⟩ (belowP p h.name l) (l + 1) ++ pathsF nx p l := rfl
theorem own_base {w : World} {B B' : Nat} {T : TypeId} {v : Value} {n k : Nat} {xs : List Value} (h : w.ownsRow B' T k v n xs) (hB : B ≤ B') : w.ownsRow B T k v n xs := by
  refine ⟨h.1, ?_⟩
  rcases h.2 with h2 | ⟨g', cap, cur, hv, hg, r⟩
  · exact Or.inl h2
  · exact Or.inr ⟨g', cap, cur, hv, Nat.le_trans hB hg, r⟩
theorem KeepC.grown {g o k b : Nat} {kc : Array Value} {nm : ByteArray} {v : Value} {z z' : World} {row : Option Nat} (hg : g < z.heap.size) (hb : b < z.heap.size) (hgr : row ≠ some g) (hbr : row ≠ some b) (h : KeepC g o k b kc nm v z) (hz : z.grownBy z' row) : KeepC g o k b kc nm v z' :=
  have e : ∀ i j, i < z.heap.size → row ≠ some i → z'.cell? ⟨i, j, none⟩ = z.cell? ⟨i, j, none⟩ := fun i j h1 h2 => World.cell?_of_block (hz.block i h1 (fun e => h2 e.symm))
  ⟨fun j u hu => (e g _ hg hgr).trans (h.1 j u hu), (e g _ hg hgr).trans h.2.1, (e b _ hb hbr).trans h.2.2⟩
set_option maxRecDepth 100000 in
set_option maxHeartbeats 2000000 in
theorem rpaths_any : ∀ (N : Nat), N ≤ 120000 → ∀ (t : Tr), t.count ≤ N → t.sz ≤ 120000 → ∀ (p : ByteArray) (l : Nat), 1 ≤ l → p.size + l + t.ks.wt ≤ 1000000 → ∀ (v : Value) (w : World), TreeR w w.heap.size v t → Calls Tryz.prog 65 #[v, .string p, .int .i64 (l : Int)] w fun e w' => ∃ r, e = .returned r ∧ StrsR w' w.heap.size r (pathsR t p l) ∧ Below w.heap.size w w'
  | 0, _, t, ht, _, _, _, _, _, _, _, _ => by unfold Tr.count at ht; omega
  | N + 1, hN, t, ht, hsz, p, l, hl1, hpl, v, w, hv => by
    have IH := hide (rpaths_any N (by omega))
    have HV := hide hv
    obtain ⟨A, c, A2, c2, rfl, hk, -⟩ := hv.open
    have HL0 := hide (Left.of hk)
    clear hv hk
    have hcn : t.count ≤ 120000 := by omega
    have HL : Live w [] := trivial
    go_enter Tryz.func65, Tryz.ntmps65
    go_upto_region 1 with fail
    have HN := hide (NodeB.new w t.h (.slice A t.ks.len c) (.slice A2 t.ss.length c2))
    have hbel1 : Below w.heap.size w (w.alloc (.cells (t.h.cells (.slice A t.ks.len c) (.slice A2 t.ss.length c2)) 25)) := by (exact bl)
    generalize w.alloc (.cells (t.h.cells (.slice A t.ks.len c) (.slice A2 t.ss.length c2)) 25) = W1 at *
    obtain ⟨b, hb⟩ : ∃ b, b = w.heap.size := ⟨_, rfl⟩
    rw [← hb] at HN ⊢
    have hbw0 : w.heap.size ≤ b := by omega
    clear hb HV
    go_wp2_with fail
    have HN2 := hide (HN.out.below ((Below.refl _ _).alloc (Nat.le_refl _) (.cells #[.string p] 9)))
    have hbel2 : Below w.heap.size w (W1.alloc (.cells #[.string p] 9)) := hbel1.alloc hbel1.size _
    have HO2 := hide (show (W1.alloc (.cells #[.string p] 9)).ownsRow w.heap.size 9 1 (.slice (some ⟨W1.heap.size, 0, none⟩) 1 1) 1 (strV [p]) from World.ownsRow_lit W1 #[.string p] 1 hbel1.size (by decide) rfl)
    generalize W1.alloc (.cells #[.string p] 9) = W2 at *
    generalize Value.slice (some ⟨W1.heap.size, 0, none⟩) 1 1 = o2 at *
    clear HN hbel1
    go_loopw [7, 8] (fun ov i wr => ∃ (k : Nat) (r : Fo) (done : List ByteArray), i = .int .i64 (k : Int) ∧ k + r.len = t.ks.len ∧ r.count + 1 ≤ t.count ∧ r.sz ≤ t.sz ∧ r.wt ≤ t.ks.wt ∧ Left w w.heap.size A r k ∧ wr.ownsRow w.heap.size 9 1 ov done.length (strV done) ∧ done ++ pathsF r p l = pathsR t p l ∧ NodeB wr b t.h (.slice A t.ks.len c) (.slice A2 t.ss.length c2) ∧ Below w.heap.size w wr) (fun _ i _ => t.ks.len - (intOf i).toNat)
    case atStart => exact ⟨0, t.ks, [p], rfl, by omega, by unfold Tr.count; omega, by unfold Tr.sz; omega, by omega, HL0.out, HO2.out, rfl, HN2.out, hbel2⟩
    case round =>
      clear HL0 HO2 HN2 hbel2
      obtain ⟨k, r, done, rfl, hkr, hrc, hrs, hrw, hl, hown, hpt, hnb, hbel4⟩ := hrel
      have HLr := hide hl
      have HO := hide hown
      have HC := hide hpt
      have HN4 := hide hnb
      have e10 := HN4.out.c10
      have hsz4 := hbel4.size
      have hbw : b < wr.heap.size := HN4.out.blk.lt
      obtain ⟨ao, cap, rfl⟩ := own_slice hown
      clear hl hown hpt hnb
      have hlk := t.ks.len_sz
      have hts : t.sz = t.h.sz + szS t.ss + t.ks.sz := rfl
      have hlk2 : t.ks.len ≤ 120000 := by omega
      clear hlk hts
      cases r with
      | nil =>
        rw [Fo.len_nil] at hkr
        obtain rfl : k = t.ks.len := by omega
        have HZ := hide (show pathsR t p l = done by rw [← HC.out]; exact List.append_nil _)
        go_wp2_with fail
        go_ret
        exact ⟨_, rfl, by rw [HZ.out]; exact HO.out, hbel4⟩
      | node h ss ks nx =>
      rw [Fo.len_node] at hkr
      rw [Fo.count_node] at hrc
      rw [Fo.sz_node] at hrs
      rw [Fo.wt_node] at hrw
      have hlt : k < t.ks.len := by omega
      obtain ⟨g, o, kc, rfl, hg, hr, hz, -, htr, hln⟩ := HLr.out.next
      obtain ⟨g', o', eg, -, hnm, -⟩ := HLr.out.name hbel4
      injection eg with eg
      injection eg with eg1 eg2
      subst eg1; subst eg2
      have HLn := hide hln
      have HZ := hide hz
      have HT := hide ((htr.below hbel4).mono hsz4)
      have hgw : g < wr.heap.size := by omega
      have hkeep : KeepC g o k b kc h.name (.slice (some ⟨g, o, none⟩) t.ks.len c) wr := ⟨range_below hbel4 hg hr, hnm, e10⟩
      have hpn : p.size + h.name.size ≤ 2000000000 := by omega
      have hdl : done.length + (pathsF (.node h ss ks nx) p l).length = t.count := by rw [← List.length_append, HC.out, pathsR_len]
      rw [pathsF_len, Fo.count_node] at hdl
      clear hr hz htr hln HLr
      obtain ⟨q, hq⟩ : ∃ q, belowP p h.name l = q := ⟨_, rfl⟩
      have hqs : q.size ≤ p.size + 1 + h.name.size := by rw [← hq]; exact bel_size p h.name l
      have hks : Tr.sz ⟨h, ss, ks⟩ = h.sz + szS ss + ks.sz := rfl
      have hkc : Tr.count ⟨h, ss, ks⟩ = ks.count + 1 := rfl
      have CC := fun W hW => IH.out ⟨h, ss, ks⟩ (by omega) (by omega) q (l + 1) (by omega) (by show q.size + (l + 1) + ks.wt ≤ 1000000; omega) (.agg kc) W hW
      have HQ := hide hq
      have CR := hide (show (done ++ pathsR ⟨h, ss, ks⟩ q (l + 1)) ++ pathsF nx p l = pathsR t p l by rw [← HC.out, pathsF_node, hq, List.append_assoc])
      have hlen8 := pathsR_len ⟨h, ss, ks⟩ q (l + 1)
      rw [hkc] at hlen8
      have HLEN := hide hlen8
      clear hlen8
      generalize pathsR ⟨h, ss, ks⟩ q (l + 1) = ps at HLEN CC CR
      clear HC hq IH
      have PAA := hide (fun W hW => (show Calls Tryz.prog 65 #[.agg kc, .string q, .int .i64 ((l : Int) + 1)] W fun e w' => ∃ r, e = .returned r ∧ StrsR w' W.heap.size r ps ∧ Below W.heap.size W w' from CC W hW))
      have BE := hide (fun W => rbelow_any p h.name l hl1 hpn W)
      rw [HQ.out] at BE
      have hkeepd : KeepC g o k b kc h.name (.slice (some ⟨g, o, none⟩) t.ks.len c) wr.drew ∧ True := ⟨hkeep, trivial⟩
      have hkeepB : ∀ w8, Below wr.drew.heap.size wr.drew w8 → KeepC g o k b kc h.name (.slice (some ⟨g, o, none⟩) t.ks.len c) w8 := fun w8 h8 => KeepC.below (z := wr.drew) hgw hbw hkeepd.1 h8
      have HTd : TreeR wr.drew wr.drew.heap.size (.agg kc) ⟨h, ss, ks⟩ := HT.out.later ((Below.refl _ _).drew)
      have HTD := hide HTd
      have hl64 : IntKind.i64.wrap ((l : Int) + 1) = (l : Int) + 1 := IntWalk.i64_in _ (by omega)
      have hob : (Value.slice ao done.length cap).ownBlock ≠ some b := own_neBlk HO.out HN4.out.blk (by decide)
      have hog : (Value.slice ao done.length cap).ownBlock ≠ some g := fun e => by have := (HO.out.lt g e).1; omega
      clear CC HTd HT
      go_upto_region 5 with fail
      refine wp_region_noPanic ?_
      refine wp_region_held_drew (S := (fun z => KeepC g o k b kc h.name (.slice (some ⟨g, o, none⟩) t.ks.len c) z ∧ True)) (by kernel_rfl) kp (fun hHeld => ?_)
      refine tkZ 0 ⟨some 18, .move (.tmp 7), 26, "ref.go:175", #[], none⟩ ?_
      refine tkZ 1 ⟨some 19, .fieldAddr 25 (.tmp 3) 10, 0, "ref.go:175", #[], none⟩ ?_
      refine tkZ 2 ⟨some 20, .load 22 (.tmp 19), 22, "ref.go:175", #[⟨1, .data⟩], none⟩ ?_ (by intro w hSw; (try dsimp only at hSw); have c1 := hSw.1.2.2; go_simp; (try with_reducible rfl))
      refine tkZ 3 ⟨some 21, .move (.tmp 8), 3, "ref.go:175", #[], none⟩ ?_
      refine tkZ 4 ⟨some 22, .indexAddr 22 (.tmp 20) (.tmp 21), 0, "ref.go:175", #[⟨2, .data⟩, ⟨3, .data⟩], none⟩ ?_
      refine tkZ 5 ⟨some 23, .load 25 (.tmp 22), 25, "ref.go:175", #[⟨4, .data⟩], none⟩ ?_ (by intro w hSw; (try dsimp only at hSw); refine (exec_load_mid 25 (.tmp 22) (by rfl) g (o + k * 12) (by rfl) kc _ hSw.1.1 Tryz.underlying25 (by rfl) (infNl HZ.out)).trans ?_; with_reducible rfl)
      refine tkZ 6 ⟨some 24, .move (.tmp 1), 9, "ref.go:175", #[], none⟩ ?_
      refine tkZ 7 ⟨some 25, .fieldAddr 25 (.tmp 3) 10, 0, "ref.go:175", #[], none⟩ ?_
      refine tkZ 8 ⟨some 26, .load 22 (.tmp 25), 22, "ref.go:175", #[⟨7, .data⟩], none⟩ ?_ (by intro w hSw; (try dsimp only at hSw); have c1 := hSw.1.2.2; go_simp; (try with_reducible rfl))
      refine tkZ 9 ⟨some 27, .move (.tmp 8), 3, "ref.go:175", #[], none⟩ ?_
      refine tkZ 10 ⟨some 28, .indexAddr 22 (.tmp 26) (.tmp 27), 0, "ref.go:175", #[⟨8, .data⟩, ⟨9, .data⟩], none⟩ ?_
      refine tkZ 11 ⟨some 29, .fieldAddr 25 (.tmp 28) 0, 0, "ref.go:175", #[⟨10, .data⟩], none⟩ ?_
      refine tkZ 12 ⟨some 30, .load 9 (.tmp 29), 9, "ref.go:175", #[⟨11, .data⟩], none⟩ ?_ (by intro w hSw; (try dsimp only at hSw); have c1 := hSw.1.2.1; go_simp; (try with_reducible rfl))
      refine tkZ 13 ⟨some 31, .move (.tmp 2), 3, "ref.go:175", #[], none⟩ ?_
      refine tkZ 15 ⟨some 33, .move (.tmp 2), 3, "ref.go:175", #[], none⟩ ?_
      refine tkZ 16 ⟨some 34, .binOp .add 3 (.tmp 33) (.const (.int .i64 1)) 3, 3, "ref.go:175", #[⟨15, .data⟩], none⟩ ?_
      refine rqS [14] (rqC ⟨some 32, .call ⟨.value (.func 91), #[.tmp 24, .tmp 30, .tmp 31], #[9, 9, 3]⟩, 9, "ref.go:175", #[⟨6, .data⟩, ⟨12, .data⟩, ⟨13, .data⟩], none⟩ (fun K hK => ?_) rq0)
      go_simp
      (go_at_call 91; (with_reducible refine (BE.out _).mono ?_); rintro e w' ⟨rfl, rfl⟩)
      go_wp2_with fail
      refine hK.out _ _ kp (fun hHeld => ?_)
      clear hK K
      try simp only [PT]
      refine rqS [17] (rqC ⟨some 35, .call ⟨.value (.func 65), #[.tmp 23, .tmp 32, .tmp 34], #[25, 9, 3]⟩, 26, "ref.go:175", #[⟨5, .data⟩, ⟨14, .data⟩, ⟨16, .data⟩, ⟨14, .chain⟩], none⟩ (fun K hK => ?_) rq0)
      go_simp
      (go_at_call 65; (with_reducible refine (PAA.out _ HTD.out).mono ?_); rintro e w8 ⟨r8, rfl, hr8, hb8⟩; obtain ⟨g8, cap8, hv8, hg8, hl8, hc8, -⟩ := own_at hr8 (by rw [HLEN.out]; omega); subst hv8; have hkeep8 : KeepC g o k b kc h.name (.slice (some ⟨g, o, none⟩) t.ks.len c) w8 ∧ True := ⟨hkeepB w8 hb8, trivial⟩)
      go_wp2_with fail
      refine hK.out _ _ kp (fun hHeld => ?_)
      clear hK K
      try simp only [PT]
      refine rqS [18] (rqC ⟨some 36, .call ⟨.builtin .append, #[.tmp 18, .tmp 35], #[26, 26]⟩, 26, "ref.go:175", #[⟨0, .data⟩, ⟨17, .data⟩, ⟨17, .chain⟩], none⟩ (fun K hK => ?_) rq0)
      refine step_append_rows _ (by rfl) _ _ 26 (by rfl) w.heap.size 9 strInfo Tryz.underlying26 (by rfl) (by decide) (.slice ao done.length cap) _ _ (below_row' HO.out ((Below.refl wr.heap.size wr).drew.trans hb8)) ⟨g8, 0, none⟩ ps.length cap8 (strV ps) (by rfl) (by rfl) (by simp [strV]) hc8 (by intro u hu; unfold strV at hu; obtain ⟨x, -, rfl⟩ := List.mem_map.1 hu; rfl) (by have := HLEN.out; unfold maxLen; omega) (by have := HLEN.out; omega) (by have := hb8.size; exact Nat.le_trans hsz4 this) ?_; intro v2 w2 hown2 hnb2 hg2; have hkeep9 : KeepC g o k b kc h.name (.slice (some ⟨g, o, none⟩) t.ks.len c) w2 ∧ True := ⟨KeepC.grown (Nat.lt_of_lt_of_le hgw hb8.size) (Nat.lt_of_lt_of_le hbw hb8.size) hog hob hkeep8.1 hg2, trivial⟩
      refine hK.out _ _ kp (fun hHeld => ?_)
      clear hK K
      try simp only [PT]
      refine tkZ 19 ⟨some 7, .assign (.tmp 36), 26, "ref.go:175", #[⟨18, .data⟩, ⟨18, .chain⟩, ⟨0, .phase⟩, ⟨1, .phase⟩, ⟨2, .phase⟩, ⟨3, .phase⟩, ⟨4, .phase⟩, ⟨5, .phase⟩, ⟨6, .phase⟩, ⟨7, .phase⟩, ⟨8, .phase⟩, ⟨9, .phase⟩, ⟨10, .phase⟩, ⟨11, .phase⟩, ⟨12, .phase⟩, ⟨13, .phase⟩, ⟨14, .phase⟩, ⟨15, .phase⟩, ⟨16, .phase⟩, ⟨17, .phase⟩, ⟨18, .phase⟩], none⟩ ?_
      refine wpAnyH_done (by kernel_rfl) ?_ _
      refine NoPanic.normal ?_
      have hbel8 : Below w.heap.size w w8 := hbel4.trans (((Below.refl wr.heap.size wr).drew.trans hb8).mono hsz4)
      have hbel9 : Below w.heap.size w w2 := hbel8.grown hg2 hbel8.size (fun q hq => (HO.out.lt q hq).1)
      have HN9 : NodeB w2 b t.h (.slice (some ⟨g, o, none⟩) t.ks.len c) (.slice A2 t.ss.length c2) := NodeB.mk ((hg2.block b (Nat.lt_of_lt_of_le hbw hb8.size) (fun e => hob e.symm)).trans (Blk.below ((Below.refl wr.heap.size wr).drew.trans hb8) HN4.out.blk))
      rw [show strV done ++ strV ps = strV (done ++ ps) from (List.map_append ..).symm] at hown2
      have HO9 := hide (show w2.ownsRow w.heap.size 9 1 v2 (done ++ ps).length (strV (done ++ ps)) by rw [List.length_append]; exact hown2)
      have HN9' := hide HN9
      clear hkeep hkeepd hkeepB hkeep8 hkeep9 hHeld hb8 hl64 hown2 hg2 hnb2 HN9
      go_wp2_with fail
      go_roundw
      case rel => exact ⟨k + 1, nx, done ++ ps, by go_num, by omega, by omega, by omega, by omega, HLn.out, HO9.out, CR.out, HN9'.out, hbel9⟩
      case measure => simp [intOf]; omega
set_option maxHeartbeats 2000000 in
theorem rpathsT_any (t : Tr) (hsz : t.sz ≤ 120000) (v : Value) (w : World) (hv : TreeR w w.heap.size v t) : Calls Tryz.prog 34 #[v] w fun e w' => ∃ r, e = .returned r ∧ StrsR w' w.heap.size r (pathsT t) ∧ Below w.heap.size w w' := by
  have HP := hide (show pathsT t = if validB t then pathsR t eS 1 else [] from rfl)
  have VN := hide (fun W hW => rvalid_any t (Or.inl hsz) v W hW)
  have PN := hide (fun W hW => rpaths_any 120000 (by omega) t (by have := t.count_sz; omega) hsz eS 1 (by omega) (by have := t.ks.wt_sz; show 0 + 1 + _ ≤ _; unfold Tr.sz at hsz; omega) v W hW)
  have HV := hide hv
  obtain ⟨cells, rfl, hz, h1c⟩ := hv.cells
  have HZ := hide hz
  clear hv hz h1c
  have HL : Live w [] := trivial
  go_enter Tryz.func34, Tryz.ntmps34
  go_upto_region 1 with fail
  have HB := hide (show Blk (w.alloc (.cells cells 25)) w.heap.size cells 25 from Blk.newAt rfl)
  have hbel1 : Below w.heap.size w (w.alloc (.cells cells 25)) := by (exact bl)
  have HV1 := hide (HV.out.later hbel1)
  generalize w.alloc (.cells cells 25) = W1 at *
  obtain ⟨b, hb⟩ : ∃ b, b = w.heap.size := ⟨_, rfl⟩
  rw [← hb] at HB ⊢
  clear hb
  cases hvb : validB t
  case false =>
    have HR := hide (show pathsT t = [] by rw [HP.out, hvb]; rfl)
    rw [hvb] at VN
    clear hvb
    go_wp2_with (first | (refine wpList_load_row rfl 25 (.tmp 1) rfl b rfl 25 cells (0, 0) _ HB.out Tryz.underlying25 rfl (infN HZ.out) ?_) | (go_at_call 31; refine (VN.out _ HV1.out).mono ?_; rintro e w3 ⟨rfl, hb3⟩))
    go_ret
    exact ⟨_, rfl, by rw [HR.out]; exact World.ownsRow_nil _ _ _ _, hbel1.trans (hb3.mono hbel1.size)⟩
  case true =>
    have HR := hide (show pathsT t = pathsR t eS 1 by rw [HP.out, hvb]; rfl)
    rw [hvb] at VN
    clear hvb
    go_wp2_with (first | (refine wpList_load_row rfl 25 (.tmp 1) rfl b rfl 25 cells (0, 0) _ HB.out Tryz.underlying25 rfl (infN HZ.out) ?_) | (refine wpList_load_row rfl 25 (.tmp 1) rfl b rfl 25 cells (0, 0) _ HB3.out Tryz.underlying25 rfl (infN HZ.out) ?_) | (go_at_call 31; refine (VN.out _ HV1.out).mono ?_; rintro e w3 ⟨rfl, hb3⟩; have HB3 := hide (Blk.below hb3 HB.out); have HV3 := hide (HV1.out.later hb3)) | (go_at_call 65; refine (PN.out _ HV3.out).mono ?_; rintro e w4 ⟨r4, rfl, hr4, hb4⟩))
    go_ret
    have hbel3 := hbel1.trans (hb3.mono hbel1.size)
    exact ⟨_, rfl, by rw [HR.out]; exact own_base hr4 hbel3.size, hbel3.trans (hb4.mono hbel3.size)⟩
def SlR (w : World) (B : Nat) (v : Value) (l : List ByteArray) : Prop := ∃ A c, v = .slice A l.length c ∧ (0 < l.length → ∃ g o, A = some ⟨g, o, none⟩ ∧ g < B ∧ ∀ j s, l[j]? = some s → w.cell? ⟨g, o + j, none⟩ = some (.string s))
theorem SlR.of {w : World} {B : Nat} {v : Value} {l : List ByteArray} (h : StrsR w B v l) : SlR w w.heap.size v l := by
  obtain ⟨A, c, rfl⟩ := own_slice h
  refine ⟨A, c, rfl, fun h0 => ?_⟩
  obtain ⟨g, cap, e, _, hl, _, hc⟩ := own_at h h0
  injection e with e1 e2 e3
  subst e1
  exact ⟨g, 0, rfl, hl, fun j s hs => by rw [Nat.zero_add]; exact hc j _ (by unfold strV; rw [List.getElem?_map, hs]; rfl)⟩
theorem SlR.below {w w' : World} {B : Nat} {v : Value} {l : List ByteArray} (hb : Below B w w') (h : SlR w B v l) : SlR w' B v l := by
  obtain ⟨A, c, e, h⟩ := h
  exact ⟨A, c, e, fun h0 => by
    obtain ⟨g, o, e2, hg, hc⟩ := h h0
    exact ⟨g, o, e2, hg, fun j s hs => (hb.cell (p := ⟨g, o + j, none⟩) hg).trans (hc j s hs)⟩⟩
theorem SlR.mono {w : World} {B B' : Nat} {v : Value} {l : List ByteArray} (hB : B ≤ B') (h : SlR w B v l) : SlR w B' v l := by
  obtain ⟨A, c, e, h⟩ := h
  exact ⟨A, c, e, fun h0 => by
    obtain ⟨g, o, e2, hg, hc⟩ := h h0
    exact ⟨g, o, e2, Nat.lt_of_lt_of_le hg hB, hc⟩⟩
theorem sne_y {a b : ByteArray} (h : a ≠ b) : (a.toList != b.toList) = true := by rw [bne, seq_n h]; rfl
theorem sne_n {a b : ByteArray} (h : a = b) : (a.toList != b.toList) = false := by rw [bne, seq_y h]; rfl
theorem drop_eq_cons {α : Type} {l m : List α} {k : Nat} {x y : α} (hx : l[k]? = some x) (hy : m[k]? = some y) : (l.drop k = m.drop k ↔ x = y ∧ l.drop (k + 1) = m.drop (k + 1)) := by
  obtain ⟨h1, e1⟩ := List.getElem?_eq_some_iff.1 hx
  obtain ⟨h2, e2⟩ := List.getElem?_eq_some_iff.1 hy
  rw [List.drop_eq_getElem_cons h1, List.drop_eq_getElem_cons h2, e1, e2, List.cons.injEq]
set_option maxRecDepth 100000 in
set_option maxHeartbeats 2000000 in
theorem sequal_any (L M : List ByteArray) (a b : Value) (B : Nat) (hL : L.length ≤ 100000) (hM : M.length ≤ 100000) (w : World) (ha : SlR w B a L) (hb : SlR w B b M) : Calls Tryz.prog 15 #[a, b] w fun e w' => e = .returned (.bool (decide (L = M))) ∧ Below w.heap.size w w' := by
  obtain ⟨A, c, rfl, ha⟩ := ha
  obtain ⟨A2, c2, rfl, hb⟩ := hb
  have HA := hide ha
  have HB := hide hb
  clear ha hb
  have HL : Live w [] := trivial
  go_enter Tryz.func15, Tryz.ntmps15
  by_cases hlen : L.length = M.length
  case neg =>
    have HZ := hide (show decide (L = M) = false from decide_eq_false (fun e => hlen (by rw [e])))
    have q : ((L.length : Int) != (M.length : Int)) = true := by simp; omega
    have HQ := hide hlen
    clear hlen
    go_wp2_with fail
    go_ret
    exact ⟨ret_b HZ.out.symm, Below.refl _ _⟩
  case pos =>
  have HLN := hide hlen
  have q : ((L.length : Int) != (M.length : Int)) = false := by simp; omega
  clear hlen
  go_wp2_with fail
  go_loopw [13] (fun i wr => ∃ k : Nat, i = .int .i64 (k : Int) ∧ k ≤ L.length ∧ (L = M ↔ L.drop k = M.drop k) ∧ Below w.heap.size w wr ∧ (∀ g, wr.cell? g = w.cell? g)) (fun i _ => L.length - (intOf i).toNat)
  case atStart => exact ⟨0, rfl, by omega, Iff.rfl, Below.refl _ _, fun _ => rfl⟩
  case round =>
    obtain ⟨k, rfl, hk, hiff, hbel, hcs⟩ := hrel
    have HI := hide hiff
    have HCS := hide hcs
    clear hiff hcs
    by_cases hlt : k < L.length
    case neg =>
      have HZ := hide (show decide (L = M) = true from decide_eq_true (HI.out.2 (by rw [List.drop_of_length_le (by omega), List.drop_of_length_le (by have := HLN.out; omega)])))
      go_wp2_with fail
      go_ret
      exact ⟨ret_b HZ.out.symm, hbel⟩
    case pos =>
    have hltM : k < M.length := by have := HLN.out; omega
    obtain ⟨x, hx⟩ : ∃ x, L[k]? = some x := ⟨_, List.getElem?_eq_getElem hlt⟩
    obtain ⟨y, hy⟩ : ∃ y, M[k]? = some y := ⟨_, List.getElem?_eq_getElem hltM⟩
    obtain ⟨g, o, rfl, hg, hc⟩ := HA.out (by omega)
    obtain ⟨g2, o2, rfl, hg2, hc2⟩ := HB.out (by omega)
    have c1 : wr.cell? ⟨g, o + k, none⟩ = some (.string x) := (HCS.out _).trans (hc k x hx)
    have c2' : wr.cell? ⟨g2, o2 + k, none⟩ = some (.string y) := (HCS.out _).trans (hc2 k y hy)
    have HD := hide (drop_eq_cons hx hy)
    clear hx hy hc hc2
    by_cases hxy : x = y
    · have q1 := seq_y hxy
      have HE := hide (show (L = M ↔ L.drop (k + 1) = M.drop (k + 1)) by rw [HI.out, HD.out]; simp [hxy])
      clear hxy HD
      go_upto_region 6 with fail
      go_quiet (fail)
      go_wp2_with fail
      go_roundw
      case rel => exact ⟨k + 1, by go_num, by omega, HE.out, below_drewN' hbel, fun g => HCS.out g⟩
      case measure => simp [intOf]; omega
    · have q1 := seq_n hxy
      have HE := hide (show decide (L = M) = false from decide_eq_false (fun e => hxy (HD.out.1 (HI.out.1 e)).1))
      clear hxy HD
      go_upto_region 6 with fail
      go_quiet (fail)
      go_wp2_with fail
      go_ret
      exact ⟨ret_b HE.out.symm, below_drewN' hbel⟩
end Go.Proofs.YtocgindpjjolpaaGreatDoor
