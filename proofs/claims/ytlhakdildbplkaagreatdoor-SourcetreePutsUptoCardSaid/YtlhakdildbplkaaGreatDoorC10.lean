/- Contracts and plain words for the laws of this chapter, part 10: U11, X3, T9. No condition. -/
import Derived.Test.YtlhakdildbplkaaGreatDoorC6
import Derived.Test.YtlhakdildbplkaaGreatDoorC9
namespace Go.Proofs.YtlhakdildbplkaaGreatDoor
set_option linter.unusedSimpArgs false
set_option linter.unusedVariables false
open Go.RowKit
def pathsR (t : Tr) (p : ByteArray) (l : Nat) : List ByteArray := p :: pathsF t.ks p l
theorem pathsR_len (t : Tr) (p : ByteArray) (l : Nat) : (pathsR t p l).length = t.count := by show (pathsF t.ks p l).length + 1 = _; rw [pathsF_len]; rfl
theorem pathsF_node (h : Hd) (ss : List St) (ks nx : Fo) (p : ByteArray) (l : Nat) : pathsF (.node h ss ks nx) p l = pathsR ⟨h, ss, ks⟩ (belowP p h.name l) (l + 1) ++ pathsF nx p l := rfl
theorem own_base {w : World} {B B' : Nat} {T : TypeId} {v : Value} {n k : Nat} {xs : List Value} (h : w.ownsRow B' T k v n xs) (hB : B ≤ B') : w.ownsRow B T k v n xs := by
  refine ⟨h.1, ?_⟩
  rcases h.2 with h2 | ⟨g', cap, cur, hv, hg, r⟩
  · exact Or.inl h2
  · exact Or.inr ⟨g', cap, cur, hv, Nat.le_trans hB hg, r⟩
theorem KeepC.grown {g o k b : Nat} {kc : Array Value} {nm : ByteArray} {v : Value} {z z' : World} {row : Option Nat} (hg : g < z.heap.size) (hb : b < z.heap.size) (hgr : row ≠ some g) (hbr : row ≠ some b) (h : KeepC g o k b kc nm v z) (hz : z.grownBy z' row) : KeepC g o k b kc nm v z' :=
  have e : ∀ i j, i < z.heap.size → row ≠ some i → z'.cell? ⟨i, j, none⟩ = z.cell? ⟨i, j, none⟩ := fun i j h1 h2 => World.cell?_of_block (hz.block i h1 (fun e => h2 e.symm))
  ⟨fun j u hu => (e g _ hg hgr).trans (h.1 j u hu), (e g _ hg hgr).trans h.2.1, (e b _ hb hbr).trans h.2.2⟩
set_option maxRecDepth 100000 in
set_option maxHeartbeats 2000000 in
theorem rpaths_any : ∀ (N : Nat), N ≤ 60000 → ∀ (t : Tr), t.count ≤ N → t.sz ≤ 60000 → ∀ (p : ByteArray) (l : Nat), 1 ≤ l → p.size + l + t.ks.wt ≤ 1000000 → ∀ (v : Value) (w : World), TreeR w w.heap.size v t → Calls Tryz.prog 70 #[v, .string p, .int .i64 (l : Int)] w fun e w' => ∃ r, e = .returned r ∧ StrsR w' w.heap.size r (pathsR t p l) ∧ Below w.heap.size w w'
  | 0, _, t, ht, _, _, _, _, _, _, _, _ => by unfold Tr.count at ht; omega
  | N + 1, hN, t, ht, hsz, p, l, hl1, hpl, v, w, hv => by
    have IH := hide (rpaths_any N (by omega))
    have HV := hide hv
    obtain ⟨A, c, A2, c2, rfl, hk, -⟩ := hv.open
    have HL0 := hide (Left.of hk)
    clear hv hk
    have hcn : t.count ≤ 60000 := by omega
    have HL : Live w [] := trivial
    go_enter Tryz.func70, Tryz.ntmps70
    go_upto_region 1 with fail
    have HN := hide (NodeB.new w t.h (.slice A t.ks.len c) (.slice A2 t.ss.length c2))
    have hbel1 : Below w.heap.size w (w.alloc (.cells (t.h.cells (.slice A t.ks.len c) (.slice A2 t.ss.length c2)) 25)) := by (exact bl)
    generalize w.alloc (.cells (t.h.cells (.slice A t.ks.len c) (.slice A2 t.ss.length c2)) 25) = W1 at *
    obtain ⟨b, hb⟩ : ∃ b, b = w.heap.size := ⟨_, rfl⟩
    rw [← hb] at HN ⊢
    have hbw0 : w.heap.size ≤ b := by omega
    clear hb HV
    go_wp2_with fail
    have HN2 := hide (HN.out.below ((Below.refl _ _).alloc (Nat.le_refl _) (.cells #[.string p] 9)))
    have hbel2 : Below w.heap.size w (W1.alloc (.cells #[.string p] 9)) := hbel1.alloc hbel1.size _
    have HO2 := hide (show (W1.alloc (.cells #[.string p] 9)).ownsRow w.heap.size 9 1 (.slice (some ⟨W1.heap.size, 0, none⟩) 1 1) 1 (strV [p]) from World.ownsRow_lit W1 #[.string p] 1 hbel1.size (by decide) rfl)
    generalize W1.alloc (.cells #[.string p] 9) = W2 at *
    generalize Value.slice (some ⟨W1.heap.size, 0, none⟩) 1 1 = o2 at *
    clear HN hbel1
    go_loopw [7, 8] (fun ov i wr => ∃ (k : Nat) (r : Fo) (done : List ByteArray), i = .int .i64 (k : Int) ∧ k + r.len = t.ks.len ∧ r.count + 1 ≤ t.count ∧ r.sz ≤ t.sz ∧ r.wt ≤ t.ks.wt ∧ Left w w.heap.size A r k ∧ wr.ownsRow w.heap.size 9 1 ov done.length (strV done) ∧ done ++ pathsF r p l = pathsR t p l ∧ NodeB wr b t.h (.slice A t.ks.len c) (.slice A2 t.ss.length c2) ∧ Below w.heap.size w wr) (fun _ i _ => t.ks.len - (intOf i).toNat)
    case atStart => exact ⟨0, t.ks, [p], rfl, by omega, by unfold Tr.count; omega, by unfold Tr.sz; omega, by omega, HL0.out, HO2.out, rfl, HN2.out, hbel2⟩
    case round =>
      clear HL0 HO2 HN2 hbel2
      obtain ⟨k, r, done, rfl, hkr, hrc, hrs, hrw, hl, hown, hpt, hnb, hbel4⟩ := hrel
      have HLr := hide hl
      have HO := hide hown
      have HC := hide hpt
      have HN4 := hide hnb
      have e10 := HN4.out.c10
      have hsz4 := hbel4.size
      have hbw : b < wr.heap.size := HN4.out.blk.lt
      obtain ⟨ao, cap, rfl⟩ := own_slice hown
      clear hl hown hpt hnb
      have hlk := t.ks.len_sz
      have hts : t.sz = t.h.sz + szS t.ss + t.ks.sz := rfl
      have hlk2 : t.ks.len ≤ 60000 := by omega
      clear hlk hts
      cases r with
      | nil =>
        rw [Fo.len_nil] at hkr
        obtain rfl : k = t.ks.len := by omega
        have HZ := hide (show pathsR t p l = done by rw [← HC.out]; exact List.append_nil _)
        go_wp2_with fail
        go_ret
        exact ⟨_, rfl, by rw [HZ.out]; exact HO.out, hbel4⟩
      | node h ss ks nx =>
      rw [Fo.len_node] at hkr
      rw [Fo.count_node] at hrc
      rw [Fo.sz_node] at hrs
      rw [Fo.wt_node] at hrw
      have hlt : k < t.ks.len := by omega
      obtain ⟨g, o, kc, rfl, hg, hr, hz, -, htr, hln⟩ := HLr.out.next
      obtain ⟨g', o', eg, -, hnm, -⟩ := HLr.out.name hbel4
      injection eg with eg
      injection eg with eg1 eg2
      subst eg1; subst eg2
      have HLn := hide hln
      have HZ := hide hz
      have HT := hide ((htr.below hbel4).mono hsz4)
      have hgw : g < wr.heap.size := by omega
      have hkeep : KeepC g o k b kc h.name (.slice (some ⟨g, o, none⟩) t.ks.len c) wr := ⟨range_below hbel4 hg hr, hnm, e10⟩
      have hpn : p.size + h.name.size ≤ 2000000000 := by omega
      have hdl : done.length + (pathsF (.node h ss ks nx) p l).length = t.count := by rw [← List.length_append, HC.out, pathsR_len]
      rw [pathsF_len, Fo.count_node] at hdl
      clear hr hz htr hln HLr
      obtain ⟨q, hq⟩ : ∃ q, belowP p h.name l = q := ⟨_, rfl⟩
      have hqs : q.size ≤ p.size + 1 + h.name.size := by rw [← hq]; exact bel_size p h.name l
      have hks : Tr.sz ⟨h, ss, ks⟩ = h.sz + szS ss + ks.sz := rfl
      have hkc : Tr.count ⟨h, ss, ks⟩ = ks.count + 1 := rfl
      have CC := fun W hW => IH.out ⟨h, ss, ks⟩ (by omega) (by omega) q (l + 1) (by omega) (by show q.size + (l + 1) + ks.wt ≤ 1000000; omega) (.agg kc) W hW
      have HQ := hide hq
      have CR := hide (show (done ++ pathsR ⟨h, ss, ks⟩ q (l + 1)) ++ pathsF nx p l = pathsR t p l by rw [← HC.out, pathsF_node, hq, List.append_assoc])
      have hlen8 := pathsR_len ⟨h, ss, ks⟩ q (l + 1)
      rw [hkc] at hlen8
      have HLEN := hide hlen8
      clear hlen8
      generalize pathsR ⟨h, ss, ks⟩ q (l + 1) = ps at HLEN CC CR
      clear HC hq IH
      have PAA := hide (fun W hW => (show Calls Tryz.prog 70 #[.agg kc, .string q, .int .i64 ((l : Int) + 1)] W fun e w' => ∃ r, e = .returned r ∧ StrsR w' W.heap.size r ps ∧ Below W.heap.size W w' from CC W hW))
      have BE := hide (fun W => rbelow_any p h.name l hl1 hpn W)
      rw [HQ.out] at BE
      have hkeepd : KeepC g o k b kc h.name (.slice (some ⟨g, o, none⟩) t.ks.len c) wr.drew ∧ True := ⟨hkeep, trivial⟩
      have hkeepB : ∀ w8, Below wr.drew.heap.size wr.drew w8 → KeepC g o k b kc h.name (.slice (some ⟨g, o, none⟩) t.ks.len c) w8 := fun w8 h8 => KeepC.below (z := wr.drew) hgw hbw hkeepd.1 h8
      have HTd : TreeR wr.drew wr.drew.heap.size (.agg kc) ⟨h, ss, ks⟩ := HT.out.later ((Below.refl _ _).drew)
      have HTD := hide HTd
      have hl64 : IntKind.i64.wrap ((l : Int) + 1) = (l : Int) + 1 := IntWalk.i64_in _ (by omega)
      have hob : (Value.slice ao done.length cap).ownBlock ≠ some b := own_neBlk HO.out HN4.out.blk (by decide)
      have hog : (Value.slice ao done.length cap).ownBlock ≠ some g := fun e => by have := (HO.out.lt g e).1; omega
      clear CC HTd HT
      go_upto_region 5 with fail
      refine wp_region_noPanic ?_
      refine wp_region_held_drew (S := (fun z => KeepC g o k b kc h.name (.slice (some ⟨g, o, none⟩) t.ks.len c) z ∧ True)) (by kernel_rfl) kp (fun hHeld => ?_)
      refine tkY 0 ⟨some 18, .move (.tmp 7), 38, "ref.go:175", #[], none⟩ ?_ ?_ ?_
      rotate_left
      · intro w hSw; (try dsimp only at hSw); go_simp; (try with_reducible rfl)
      try simp only [PT]
      refine tkY 1 ⟨some 19, .fieldAddr 25 (.tmp 3) 10, 0, "ref.go:175", #[], none⟩ ?_ ?_ ?_
      rotate_left
      · intro w hSw; (try dsimp only at hSw); go_simp; (try with_reducible rfl)
      try simp only [PT]
      refine tkY 2 ⟨some 20, .load 22 (.tmp 19), 22, "ref.go:175", #[⟨1, .data⟩], none⟩ ?_ ?_ ?_
      rotate_left
      · intro w hSw; (try dsimp only at hSw); have c1 := hSw.1.2.2; go_simp; (try with_reducible rfl)
      try simp only [PT]
      refine tkY 3 ⟨some 21, .move (.tmp 8), 3, "ref.go:175", #[], none⟩ ?_ ?_ ?_
      rotate_left
      · intro w hSw; (try dsimp only at hSw); go_simp; (try with_reducible rfl)
      try simp only [PT]
      refine tkY 4 ⟨some 22, .indexAddr 22 (.tmp 20) (.tmp 21), 0, "ref.go:175", #[⟨2, .data⟩, ⟨3, .data⟩], none⟩ ?_ ?_ ?_
      rotate_left
      · intro w hSw; (try dsimp only at hSw); go_simp; (try with_reducible rfl)
      try simp only [PT]
      refine tkY 5 ⟨some 23, .load 25 (.tmp 22), 25, "ref.go:175", #[⟨4, .data⟩], none⟩ ?_ ?_ ?_
      rotate_left
      · intro w hSw; (try dsimp only at hSw); refine (exec_load_mid 25 (.tmp 22) (by rfl) g (o + k * 12) (by rfl) kc _ hSw.1.1 Tryz.underlying25 (by rfl) (infNl HZ.out)).trans ?_; with_reducible rfl
      try simp only [PT]
      refine tkY 6 ⟨some 24, .move (.tmp 1), 9, "ref.go:175", #[], none⟩ ?_ ?_ ?_
      rotate_left
      · intro w hSw; (try dsimp only at hSw); go_simp; (try with_reducible rfl)
      try simp only [PT]
      refine tkY 7 ⟨some 25, .fieldAddr 25 (.tmp 3) 10, 0, "ref.go:175", #[], none⟩ ?_ ?_ ?_
      rotate_left
      · intro w hSw; (try dsimp only at hSw); go_simp; (try with_reducible rfl)
      try simp only [PT]
      refine tkY 8 ⟨some 26, .load 22 (.tmp 25), 22, "ref.go:175", #[⟨7, .data⟩], none⟩ ?_ ?_ ?_
      rotate_left
      · intro w hSw; (try dsimp only at hSw); have c1 := hSw.1.2.2; go_simp; (try with_reducible rfl)
      try simp only [PT]
      refine tkY 9 ⟨some 27, .move (.tmp 8), 3, "ref.go:175", #[], none⟩ ?_ ?_ ?_
      rotate_left
      · intro w hSw; (try dsimp only at hSw); go_simp; (try with_reducible rfl)
      try simp only [PT]
      refine tkY 10 ⟨some 28, .indexAddr 22 (.tmp 26) (.tmp 27), 0, "ref.go:175", #[⟨8, .data⟩, ⟨9, .data⟩], none⟩ ?_ ?_ ?_
      rotate_left
      · intro w hSw; (try dsimp only at hSw); go_simp; (try with_reducible rfl)
      try simp only [PT]
      refine tkY 11 ⟨some 29, .fieldAddr 25 (.tmp 28) 0, 0, "ref.go:175", #[⟨10, .data⟩], none⟩ ?_ ?_ ?_
      rotate_left
      · intro w hSw; (try dsimp only at hSw); go_simp; (try with_reducible rfl)
      try simp only [PT]
      refine tkY 12 ⟨some 30, .load 9 (.tmp 29), 9, "ref.go:175", #[⟨11, .data⟩], none⟩ ?_ ?_ ?_
      rotate_left
      · intro w hSw; (try dsimp only at hSw); have c1 := hSw.1.2.1; go_simp; (try with_reducible rfl)
      try simp only [PT]
      refine tkY 13 ⟨some 31, .move (.tmp 2), 3, "ref.go:175", #[], none⟩ ?_ ?_ ?_
      rotate_left
      · intro w hSw; (try dsimp only at hSw); go_simp; (try with_reducible rfl)
      try simp only [PT]
      refine tkY 15 ⟨some 33, .move (.tmp 2), 3, "ref.go:175", #[], none⟩ ?_ ?_ ?_
      rotate_left
      · intro w hSw; (try dsimp only at hSw); go_simp; (try with_reducible rfl)
      try simp only [PT]
      refine tkY 16 ⟨some 34, .binOp .add 3 (.tmp 33) (.const (.int .i64 1)) 3, 3, "ref.go:175", #[⟨15, .data⟩], none⟩ ?_ ?_ ?_
      rotate_left
      · intro w hSw; (try dsimp only at hSw); go_simp; (try with_reducible rfl)
      try simp only [PT]
      refine wpAnyH_ready (rs := [14]) (by kernel_rfl) (by simp) ?_
      refine AllReadyH.cons (o := ⟨some 32, .call ⟨.value (.func 115), #[.tmp 24, .tmp 30, .tmp 31], #[9, 9, 3]⟩, 9, "ref.go:175", #[⟨6, .data⟩, ⟨12, .data⟩, ⟨13, .data⟩], none⟩) rfl (fun K hK => ?_) AllReadyH.nil
      go_simp
      (go_at_call 115; (with_reducible refine (BE.out _).mono ?_); rintro e w' ⟨rfl, rfl⟩)
      go_wp2_with fail
      refine hK.out _ _ kp (fun hHeld => ?_)
      clear hK K
      try simp only [PT]
      refine wpAnyH_ready (rs := [17]) (by kernel_rfl) (by simp) ?_
      refine AllReadyH.cons (o := ⟨some 35, .call ⟨.value (.func 70), #[.tmp 23, .tmp 32, .tmp 34], #[25, 9, 3]⟩, 38, "ref.go:175", #[⟨5, .data⟩, ⟨14, .data⟩, ⟨16, .data⟩, ⟨14, .chain⟩], none⟩) rfl (fun K hK => ?_) AllReadyH.nil
      go_simp
      (go_at_call 70; (with_reducible refine (PAA.out _ HTD.out).mono ?_); rintro e w8 ⟨r8, rfl, hr8, hb8⟩; obtain ⟨g8, cap8, hv8, hg8, hl8, hc8, -⟩ := own_at hr8 (by rw [HLEN.out]; omega); subst hv8; have hkeep8 : KeepC g o k b kc h.name (.slice (some ⟨g, o, none⟩) t.ks.len c) w8 ∧ True := ⟨hkeepB w8 hb8, trivial⟩)
      go_wp2_with fail
      refine hK.out _ _ kp (fun hHeld => ?_)
      clear hK K
      try simp only [PT]
      refine wpAnyH_ready (rs := [18]) (by kernel_rfl) (by simp) ?_
      refine AllReadyH.cons (o := ⟨some 36, .call ⟨.builtin .append, #[.tmp 18, .tmp 35], #[38, 38]⟩, 38, "ref.go:175", #[⟨0, .data⟩, ⟨17, .data⟩, ⟨17, .chain⟩], none⟩) rfl (fun K hK => ?_) AllReadyH.nil
      refine step_append_rows _ (by rfl) _ _ 38 (by rfl) w.heap.size 9 strInfo Tryz.underlying38 (by rfl) (by decide) (.slice ao done.length cap) _ _ (below_row' HO.out ((Below.refl wr.heap.size wr).drew.trans hb8)) ⟨g8, 0, none⟩ ps.length cap8 (strV ps) (by rfl) (by rfl) (by simp [strV]) hc8 (by intro u hu; unfold strV at hu; obtain ⟨x, -, rfl⟩ := List.mem_map.1 hu; rfl) (by have := HLEN.out; unfold maxLen; omega) (by have := HLEN.out; omega) (by have := hb8.size; exact Nat.le_trans hsz4 this) ?_; intro v2 w2 hown2 hnb2 hg2; have hkeep9 : KeepC g o k b kc h.name (.slice (some ⟨g, o, none⟩) t.ks.len c) w2 ∧ True := ⟨KeepC.grown (Nat.lt_of_lt_of_le hgw hb8.size) (Nat.lt_of_lt_of_le hbw hb8.size) hog hob hkeep8.1 hg2, trivial⟩
      refine hK.out _ _ kp (fun hHeld => ?_)
      clear hK K
      try simp only [PT]
      refine tkY 19 ⟨some 7, .assign (.tmp 36), 38, "ref.go:175", #[⟨18, .data⟩, ⟨18, .chain⟩, ⟨0, .phase⟩, ⟨1, .phase⟩, ⟨2, .phase⟩, ⟨3, .phase⟩, ⟨4, .phase⟩, ⟨5, .phase⟩, ⟨6, .phase⟩, ⟨7, .phase⟩, ⟨8, .phase⟩, ⟨9, .phase⟩, ⟨10, .phase⟩, ⟨11, .phase⟩, ⟨12, .phase⟩, ⟨13, .phase⟩, ⟨14, .phase⟩, ⟨15, .phase⟩, ⟨16, .phase⟩, ⟨17, .phase⟩, ⟨18, .phase⟩], none⟩ ?_ ?_ ?_
      rotate_left
      · intro w hSw; (try dsimp only at hSw); go_simp; (try with_reducible rfl)
      try simp only [PT]
      refine wpAnyH_done (by kernel_rfl) ?_ _
      refine NoPanic.normal ?_
      have hbel8 : Below w.heap.size w w8 := hbel4.trans (((Below.refl wr.heap.size wr).drew.trans hb8).mono hsz4)
      have hbel9 : Below w.heap.size w w2 := hbel8.grown hg2 hbel8.size (fun q hq => (HO.out.lt q hq).1)
      have HN9 : NodeB w2 b t.h (.slice (some ⟨g, o, none⟩) t.ks.len c) (.slice A2 t.ss.length c2) := NodeB.mk ((hg2.block b (Nat.lt_of_lt_of_le hbw hb8.size) (fun e => hob e.symm)).trans (Blk.below ((Below.refl wr.heap.size wr).drew.trans hb8) HN4.out.blk))
      rw [show strV done ++ strV ps = strV (done ++ ps) from (List.map_append ..).symm] at hown2
      have HO9 := hide (show w2.ownsRow w.heap.size 9 1 v2 (done ++ ps).length (strV (done ++ ps)) by rw [List.length_append]; exact hown2)
      have HN9' := hide HN9
      clear hkeep hkeepd hkeepB hkeep8 hkeep9 hHeld hb8 hl64 hown2 hg2 hnb2 HN9
      go_wp2_with fail
      go_roundw
      case rel => exact ⟨k + 1, nx, done ++ ps, by go_num, by omega, by omega, by omega, by omega, HLn.out, HO9.out, CR.out, HN9'.out, hbel9⟩
      case measure => simp [intOf]; omega
set_option maxHeartbeats 2000000 in
theorem rpathsT_any (t : Tr) (hsz : t.sz ≤ 60000) (v : Value) (w : World) (hv : TreeR w w.heap.size v t) : Calls Tryz.prog 28 #[v] w fun e w' => ∃ r, e = .returned r ∧ StrsR w' w.heap.size r (pathsT t) ∧ Below w.heap.size w w' := by
  have HP := hide (show pathsT t = if validB t then pathsR t eS 1 else [] from rfl)
  have VN := hide (fun W hW => rvalid_any t (Or.inl hsz) v W hW)
  have PN := hide (fun W hW => rpaths_any 60000 (by omega) t (by have := t.count_sz; omega) hsz eS 1 (by omega) (by have := t.ks.wt_sz; show 0 + 1 + _ ≤ _; unfold Tr.sz at hsz; omega) v W hW)
  have HV := hide hv
  obtain ⟨cells, rfl, hz, h1c⟩ := hv.cells
  have HZ := hide hz
  clear hv hz h1c
  have HL : Live w [] := trivial
  go_enter Tryz.func28, Tryz.ntmps28
  go_upto_region 1 with fail
  have HB := hide (show Blk (w.alloc (.cells cells 25)) w.heap.size cells 25 from Blk.newAt rfl)
  have hbel1 : Below w.heap.size w (w.alloc (.cells cells 25)) := by (exact bl)
  have HV1 := hide (HV.out.later hbel1)
  generalize w.alloc (.cells cells 25) = W1 at *
  obtain ⟨b, hb⟩ : ∃ b, b = w.heap.size := ⟨_, rfl⟩
  rw [← hb] at HB ⊢
  clear hb
  cases hvb : validB t
  case false =>
    have HR := hide (show pathsT t = [] by rw [HP.out, hvb]; rfl)
    rw [hvb] at VN
    clear hvb
    go_wp2_with (first | (refine wpList_load_row rfl 25 (.tmp 1) rfl b rfl 25 cells (0, 0) _ HB.out Tryz.underlying25 rfl (infN HZ.out) ?_) | (go_at_call 65; refine (VN.out _ HV1.out).mono ?_; rintro e w3 ⟨rfl, hb3⟩))
    go_ret
    exact ⟨_, rfl, by rw [HR.out]; exact World.ownsRow_nil _ _ _ _, hbel1.trans (hb3.mono hbel1.size)⟩
  case true =>
    have HR := hide (show pathsT t = pathsR t eS 1 by rw [HP.out, hvb]; rfl)
    rw [hvb] at VN
    clear hvb
    go_wp2_with (first | (refine wpList_load_row rfl 25 (.tmp 1) rfl b rfl 25 cells (0, 0) _ HB.out Tryz.underlying25 rfl (infN HZ.out) ?_) | (refine wpList_load_row rfl 25 (.tmp 1) rfl b rfl 25 cells (0, 0) _ HB3.out Tryz.underlying25 rfl (infN HZ.out) ?_) | (go_at_call 65; refine (VN.out _ HV1.out).mono ?_; rintro e w3 ⟨rfl, hb3⟩; have HB3 := hide (Blk.below hb3 HB.out); have HV3 := hide (HV1.out.later hb3)) | (go_at_call 70; refine (PN.out _ HV3.out).mono ?_; rintro e w4 ⟨r4, rfl, hr4, hb4⟩))
    go_ret
    have hbel3 := hbel1.trans (hb3.mono hbel1.size)
    exact ⟨_, rfl, by rw [HR.out]; exact own_base hr4 hbel3.size, hbel3.trans (hb4.mono hbel3.size)⟩
end Go.Proofs.YtlhakdildbplkaaGreatDoor
namespace Go.Proofs.YtlhakdildbplkaaGreatDoor
set_option linter.unusedSimpArgs false
set_option linter.unusedVariables false
open Go.RowKit
/-- A slice of strings reads so; its block lies below B. -/
def SlR (w : World) (B : Nat) (v : Value) (l : List ByteArray) : Prop := ∃ A c, v = .slice A l.length c ∧ (0 < l.length → ∃ g o, A = some ⟨g, o, none⟩ ∧ g < B ∧ ∀ j s, l[j]? = some s → w.cell? ⟨g, o + j, none⟩ = some (.string s))
theorem SlR.of {w : World} {B : Nat} {v : Value} {l : List ByteArray} (h : StrsR w B v l) : SlR w w.heap.size v l := by
  obtain ⟨A, c, rfl⟩ := own_slice h
  refine ⟨A, c, rfl, fun h0 => ?_⟩
  obtain ⟨g, cap, e, _, hl, _, hc⟩ := own_at h h0
  injection e with e1 e2 e3
  subst e1
  exact ⟨g, 0, rfl, hl, fun j s hs => by rw [Nat.zero_add]; exact hc j _ (by unfold strV; rw [List.getElem?_map, hs]; rfl)⟩
theorem SlR.below {w w' : World} {B : Nat} {v : Value} {l : List ByteArray} (hb : Below B w w') (h : SlR w B v l) : SlR w' B v l := by
  obtain ⟨A, c, e, h⟩ := h
  exact ⟨A, c, e, fun h0 => by
    obtain ⟨g, o, e2, hg, hc⟩ := h h0
    exact ⟨g, o, e2, hg, fun j s hs => (hb.cell (p := ⟨g, o + j, none⟩) hg).trans (hc j s hs)⟩⟩
theorem SlR.mono {w : World} {B B' : Nat} {v : Value} {l : List ByteArray} (hB : B ≤ B') (h : SlR w B v l) : SlR w B' v l := by
  obtain ⟨A, c, e, h⟩ := h
  exact ⟨A, c, e, fun h0 => by
    obtain ⟨g, o, e2, hg, hc⟩ := h h0
    exact ⟨g, o, e2, Nat.lt_of_lt_of_le hg hB, hc⟩⟩
theorem sne_y {a b : ByteArray} (h : a ≠ b) : (a.toList != b.toList) = true := by rw [bne, seq_n h]; rfl
theorem drop_eq_cons {α : Type} {l m : List α} {k : Nat} {x y : α} (hx : l[k]? = some x) (hy : m[k]? = some y) : (l.drop k = m.drop k ↔ x = y ∧ l.drop (k + 1) = m.drop (k + 1)) := by
  obtain ⟨h1, e1⟩ := List.getElem?_eq_some_iff.1 hx
  obtain ⟨h2, e2⟩ := List.getElem?_eq_some_iff.1 hy
  rw [List.drop_eq_getElem_cons h1, List.drop_eq_getElem_cons h2, e1, e2, List.cons.injEq]
set_option maxRecDepth 100000 in
set_option maxHeartbeats 2000000 in
theorem strings_any (L M : List ByteArray) (a b : Value) (B : Nat) (hL : L.length ≤ 100000) (hM : M.length ≤ 100000) (w : World) (ha : SlR w B a L) (hb : SlR w B b M) : Calls Tryz.prog 26 #[a, b] w fun e w' => e = .returned (.bool (decide (L = M))) ∧ Below w.heap.size w w' := by
  obtain ⟨A, c, rfl, ha⟩ := ha
  obtain ⟨A2, c2, rfl, hb⟩ := hb
  have HA := hide ha
  have HB := hide hb
  clear ha hb
  have HL : Live w [] := trivial
  go_enter Tryz.func26, Tryz.ntmps26
  by_cases hlen : L.length = M.length
  case neg =>
    have HZ := hide (show decide (L = M) = false from decide_eq_false (fun e => hlen (by rw [e])))
    have q : ((L.length : Int) != (M.length : Int)) = true := by simp; omega
    have HQ := hide hlen
    clear hlen
    go_wp2_with fail
    go_ret
    exact ⟨ret_b HZ.out.symm, Below.refl _ _⟩
  case pos =>
  have HLN := hide hlen
  have q : ((L.length : Int) != (M.length : Int)) = false := by simp; omega
  clear hlen
  go_wp2_with fail
  go_loopw [5] (fun i wr => ∃ k : Nat, i = .int .i64 (k : Int) ∧ k ≤ L.length ∧ (L = M ↔ L.drop k = M.drop k) ∧ Below w.heap.size w wr ∧ (∀ g, wr.cell? g = w.cell? g)) (fun i _ => L.length - (intOf i).toNat)
  case atStart => exact ⟨0, rfl, by omega, Iff.rfl, Below.refl _ _, fun _ => rfl⟩
  case round =>
    obtain ⟨k, rfl, hk, hiff, hbel, hcs⟩ := hrel
    have HI := hide hiff
    have HCS := hide hcs
    clear hiff hcs
    by_cases hlt : k < L.length
    case neg =>
      have HZ := hide (show decide (L = M) = true from decide_eq_true (HI.out.2 (by rw [List.drop_of_length_le (by omega), List.drop_of_length_le (by have := HLN.out; omega)])))
      go_wp2_with fail
      go_ret
      exact ⟨ret_b HZ.out.symm, hbel⟩
    case pos =>
    have hltM : k < M.length := by have := HLN.out; omega
    obtain ⟨x, hx⟩ : ∃ x, L[k]? = some x := ⟨_, List.getElem?_eq_getElem hlt⟩
    obtain ⟨y, hy⟩ : ∃ y, M[k]? = some y := ⟨_, List.getElem?_eq_getElem hltM⟩
    obtain ⟨g, o, rfl, hg, hc⟩ := HA.out (by omega)
    obtain ⟨g2, o2, rfl, hg2, hc2⟩ := HB.out (by omega)
    have c1 : wr.cell? ⟨g, o + k, none⟩ = some (.string x) := (HCS.out _).trans (hc k x hx)
    have c2' : wr.cell? ⟨g2, o2 + k, none⟩ = some (.string y) := (HCS.out _).trans (hc2 k y hy)
    have HD := hide (drop_eq_cons hx hy)
    clear hx hy hc hc2
    by_cases hxy : x = y
    · have q1 := seq_y hxy
      have HE := hide (show (L = M ↔ L.drop (k + 1) = M.drop (k + 1)) by rw [HI.out, HD.out]; simp [hxy])
      clear hxy HD
      go_upto_region 6 with fail
      go_quiet (fail)
      go_wp2_with fail
      go_roundw
      case rel => exact ⟨k + 1, by go_num, by omega, HE.out, below_drewN' hbel, fun g => HCS.out g⟩
      case measure => simp [intOf]; omega
    · have q1 := seq_n hxy
      have HE := hide (show decide (L = M) = false from decide_eq_false (fun e => hxy (HD.out.1 (HI.out.1 e)).1))
      clear hxy HD
      go_upto_region 6 with fail
      go_quiet (fail)
      go_wp2_with fail
      go_ret
      exact ⟨ret_b HE.out.symm, below_drewN' hbel⟩
set_option maxRecDepth 100000 in
set_option maxHeartbeats 2000000 in
theorem sequal_any (L M : List ByteArray) (a b : Value) (B : Nat) (hL : L.length ≤ 100000) (hM : M.length ≤ 100000) (w : World) (ha : SlR w B a L) (hb : SlR w B b M) : Calls Tryz.prog 43 #[a, b] w fun e w' => e = .returned (.bool (decide (L = M))) ∧ Below w.heap.size w w' := by
  obtain ⟨A, c, rfl, ha⟩ := ha
  obtain ⟨A2, c2, rfl, hb⟩ := hb
  have HA := hide ha
  have HB := hide hb
  clear ha hb
  have HL : Live w [] := trivial
  go_enter Tryz.func43, Tryz.ntmps43
  by_cases hlen : L.length = M.length
  case neg =>
    have HZ := hide (show decide (L = M) = false from decide_eq_false (fun e => hlen (by rw [e])))
    have q : ((L.length : Int) != (M.length : Int)) = true := by simp; omega
    have HQ := hide hlen
    clear hlen
    go_wp2_with fail
    go_ret
    exact ⟨ret_b HZ.out.symm, Below.refl _ _⟩
  case pos =>
  have HLN := hide hlen
  have q : ((L.length : Int) != (M.length : Int)) = false := by simp; omega
  clear hlen
  go_wp2_with fail
  go_loopw [13] (fun i wr => ∃ k : Nat, i = .int .i64 (k : Int) ∧ k ≤ L.length ∧ (L = M ↔ L.drop k = M.drop k) ∧ Below w.heap.size w wr ∧ (∀ g, wr.cell? g = w.cell? g)) (fun i _ => L.length - (intOf i).toNat)
  case atStart => exact ⟨0, rfl, by omega, Iff.rfl, Below.refl _ _, fun _ => rfl⟩
  case round =>
    obtain ⟨k, rfl, hk, hiff, hbel, hcs⟩ := hrel
    have HI := hide hiff
    have HCS := hide hcs
    clear hiff hcs
    by_cases hlt : k < L.length
    case neg =>
      have HZ := hide (show decide (L = M) = true from decide_eq_true (HI.out.2 (by rw [List.drop_of_length_le (by omega), List.drop_of_length_le (by have := HLN.out; omega)])))
      go_wp2_with fail
      go_ret
      exact ⟨ret_b HZ.out.symm, hbel⟩
    case pos =>
    have hltM : k < M.length := by have := HLN.out; omega
    obtain ⟨x, hx⟩ : ∃ x, L[k]? = some x := ⟨_, List.getElem?_eq_getElem hlt⟩
    obtain ⟨y, hy⟩ : ∃ y, M[k]? = some y := ⟨_, List.getElem?_eq_getElem hltM⟩
    obtain ⟨g, o, rfl, hg, hc⟩ := HA.out (by omega)
    obtain ⟨g2, o2, rfl, hg2, hc2⟩ := HB.out (by omega)
    have c1 : wr.cell? ⟨g, o + k, none⟩ = some (.string x) := (HCS.out _).trans (hc k x hx)
    have c2' : wr.cell? ⟨g2, o2 + k, none⟩ = some (.string y) := (HCS.out _).trans (hc2 k y hy)
    have HD := hide (drop_eq_cons hx hy)
    clear hx hy hc hc2
    by_cases hxy : x = y
    · have q1 := seq_y hxy
      have HE := hide (show (L = M ↔ L.drop (k + 1) = M.drop (k + 1)) by rw [HI.out, HD.out]; simp [hxy])
      clear hxy HD
      go_upto_region 6 with fail
      go_quiet (fail)
      go_wp2_with fail
      go_roundw
      case rel => exact ⟨k + 1, by go_num, by omega, HE.out, below_drewN' hbel, fun g => HCS.out g⟩
      case measure => simp [intOf]; omega
    · have q1 := seq_n hxy
      have HE := hide (show decide (L = M) = false from decide_eq_false (fun e => hxy (HD.out.1 (HI.out.1 e)).1))
      clear hxy HD
      go_upto_region 6 with fail
      go_quiet (fail)
      go_wp2_with fail
      go_ret
      exact ⟨ret_b HE.out.symm, below_drewN' hbel⟩
end Go.Proofs.YtlhakdildbplkaaGreatDoor
namespace Go.Proofs.YtlhakdildbplkaaGreatDoor
set_option linter.unusedSimpArgs false
set_option linter.unusedVariables false
open Go.RowKit
def stV (ss : List St) : List Value := ss.flatMap fun s => [.string s.1, .string s.2]
theorem stV_len (ss : List St) : (stV ss).length = ss.length * 2 := by
  induction ss with
  | nil => rfl
  | cons s l ih => show (stV l).length + 2 = _; rw [ih, List.length_cons]; omega
theorem stV_get : ∀ (ss : List St) (j : Nat) (s : St), ss[j]? = some s → (stV ss)[j * 2]? = some (.string s.1) ∧ (stV ss)[j * 2 + 1]? = some (.string s.2)
  | [], _, _, h => by simp at h
  | a :: l, 0, s, h => by
    have e : a = s := by simpa using h
    subst e
    exact ⟨rfl, rfl⟩
  | a :: l, j + 1, s, h => by
    have ih := stV_get l j s (by simpa using h)
    have e1 : (j + 1) * 2 = j * 2 + 2 := by omega
    have e2 : (j + 1) * 2 + 1 = j * 2 + 1 + 2 := by omega
    show (Value.string a.1 :: Value.string a.2 :: stV l)[_]? = _ ∧ (Value.string a.1 :: Value.string a.2 :: stV l)[_]? = _
    rw [e2, e1]
    exact ih
theorem stV_one (ss : List St) : ∀ u ∈ stV ss, u.oneCell' = true := by
  intro u hu
  unfold stV at hu
  obtain ⟨s, _, hs⟩ := List.mem_flatMap.1 hu
  simp at hs
  rcases hs with rfl | rfl <;> rfl
theorem StR.of_own {w : World} {lo B : Nat} {sv : Value} {ss : List St} (hB : w.heap.size ≤ B) (h : w.ownsRow lo 69 2 sv ss.length (stV ss)) : StR w B sv ss := by
  obtain ⟨A, c, rfl⟩ := own_slice h
  refine ⟨A, c, rfl, fun h0 => ?_⟩
  obtain ⟨g, cap, e, _, hl, _, hc⟩ := own_at h h0
  injection e with e1 e2 e3
  subst e1
  refine ⟨g, 0, rfl, by omega, fun j s hs => ?_⟩
  have := stV_get ss j s hs
  rw [Nat.zero_add, Nat.zero_add]
  exact ⟨hc _ _ this.1, hc _ _ this.2⟩
/-- A list of cells reads as a forest. -/
def RowR (w : World) (B : Nat) : Fo → List Value → Prop
  | .nil, xs => xs = []
  | .node h ss ks nx, xs => ∃ kv sv xs', xs = (h.cells kv sv).toList ++ xs' ∧ StR w B sv ss ∧ KidR w B kv ks ∧ RowR w B nx xs'
theorem RowR.len {w : World} {B : Nat} : ∀ {f : Fo} {xs : List Value}, RowR w B f xs → xs.length = f.len * 12
  | .nil, _, h => by
    have h' : _ = [] := h
    rw [h']; rfl
  | .node h ss ks nx, _, ⟨kv, sv, xs', e, _, _, hn⟩ => by
    have := RowR.len hn
    rw [e, List.length_append, this, Fo.len]
    show 12 + _ = _
    omega
theorem RowR.for {w : World} {B : Nat} {g : Nat} : ∀ {f : Fo} {xs : List Value} {o : Nat}, RowR w B f xs → (∀ j u, xs[j]? = some u → w.cell? ⟨g, o + j, none⟩ = some u) → ForR w B f g o
  | .nil, _, _, _, _ => trivial
  | .node h ss ks nx, xs, o, ⟨kv, sv, xs', e, hs, hk, hn⟩, hc => by
    subst e
    refine ⟨⟨kv, sv, fun j u hu => hc j u ?_, hs, hk⟩, RowR.for hn fun j u hu => ?_⟩
    · have hj : j < (h.cells kv sv).toList.length := (List.getElem?_eq_some_iff.1 hu).1
      rw [List.getElem?_append_left hj]; exact hu
    · have := hc (12 + j) u (by rw [List.getElem?_append_right (show (h.cells kv sv).toList.length ≤ 12 + j from Nat.le_add_right _ _)]; show xs'[12 + j - 12]? = _; rw [Nat.add_sub_cancel_left]; exact hu)
      rw [show o + 12 + j = o + (12 + j) by omega]
      exact this
theorem KidR.of_own {w : World} {lo B : Nat} {kv : Value} {ks : Fo} {xs : List Value} (hB : w.heap.size ≤ B) (h : w.ownsRow lo 25 12 kv ks.len xs) (hr : RowR w B ks xs) : KidR w B kv ks := by
  obtain ⟨A, c, rfl⟩ := own_slice h
  refine ⟨A, c, rfl, fun h0 => ?_⟩
  obtain ⟨g, cap, e, _, hl, _, hc⟩ := own_at h h0
  injection e with e1 e2 e3
  subst e1
  exact ⟨g, 0, rfl, by omega, hr.for fun j u hu => by rw [Nat.zero_add]; exact hc j u hu⟩
/-- The same of the call's own (blocks from lo on); the rows of nodes lie in O, each once. -/
def RowS (w : World) (lo : Nat) : Fo → List Value → (Nat → Prop) → Prop
  | .nil, xs, _ => xs = []
  | .node h ss ks nx, xs, O => ∃ (kv sv : Value) (xs' : List Value) (O1 On : Nat → Prop), xs = (h.cells kv sv).toList ++ xs' ∧ w.ownsRow lo 69 2 sv ss.length (stV ss) ∧
      (∃ (xk : List Value) (Ok : Nat → Prop), w.ownsRow lo 25 12 kv ks.len xk ∧ RowS w lo ks xk Ok ∧ (∀ j, Ok j → O1 j ∧ kv.ownBlock ≠ some j) ∧ (∀ j, kv.ownBlock = some j → O1 j)) ∧
      RowS w lo nx xs' On ∧ (∀ j, O1 j → O j ∧ ¬ On j) ∧ (∀ j, On j → O j)
def KidS (w : World) (lo : Nat) (kv : Value) (ks : Fo) (O : Nat → Prop) : Prop := ∃ xk Ok, w.ownsRow lo 25 12 kv ks.len xk ∧ RowS w lo ks xk Ok ∧ (∀ j, Ok j → O j ∧ kv.ownBlock ≠ some j) ∧ (∀ j, kv.ownBlock = some j → O j)
theorem RowS.len {w : World} {lo : Nat} : ∀ {f : Fo} {xs : List Value} {O : Nat → Prop}, RowS w lo f xs O → xs.length = f.len * 12
  | .nil, _, _, h => by
    have h' : _ = [] := h
    rw [h']; rfl
  | .node h ss ks nx, _, _, ⟨kv, sv, xs', O1, On, e, _, _, hn, _, _⟩ => by
    have := RowS.len hn
    rw [e, List.length_append, this, Fo.len]
    show 12 + _ = _
    omega
/-- Streams' blocks are as they were. -/
def StrK (w w' : World) : Prop := ∀ (j : Nat) (cs : Array Value) (fr : Nat × Nat), w.heap[j]? = some (Obj.cells cs 69 fr) → w'.heap[j]? = w.heap[j]?
theorem own_keep {w w' : World} {B : Nat} {T : TypeId} {v : Value} {n k : Nat} {xs : List Value} (h : w.ownsRow B T k v n xs) (he : ∀ (g : Nat) (cs : Array Value), v.ownBlock = some g → w.heap[g]? = some (Obj.cells cs T (0, 0)) → w'.heap[g]? = w.heap[g]?) : w'.ownsRow B T k v n xs := by
  refine ⟨h.1, ?_⟩
  rcases h.2 with h2 | ⟨g', cap, cur, hv, hg, hh, r⟩
  · exact Or.inl h2
  · exact Or.inr ⟨g', cap, cur, hv, hg, (he g' cur (by rw [hv]; rfl) hh).trans hh, r⟩
theorem RowS.frame {w w' : World} {lo : Nat} (hS : StrK w w') : ∀ {f : Fo} {xs : List Value} {O : Nat → Prop}, (∀ j, j < w.heap.size → O j → w'.heap[j]? = w.heap[j]?) → RowS w lo f xs O → RowS w' lo f xs O
  | .nil, _, _, _, h => h
  | .node h ss ks nx, _, O, hO, ⟨kv, sv, xs', O1, On, e, hs, ⟨xk, Ok, hk, hr, h1, h2⟩, hn, h3, h4⟩ =>
    ⟨kv, sv, xs', O1, On, e, own_keep hs fun g cs _ hg => hS g cs _ hg, ⟨xk, Ok, own_keep hk fun g cs hg hh => hO g (by
      rcases Nat.lt_or_ge g w.heap.size with h' | h'
      · exact h'
      · rw [Array.getElem?_eq_none h'] at hh; cases hh) (h3 g (h2 g hg)).1, RowS.frame hS (fun j hj hoj => hO j hj (h3 j (h1 j hoj).1).1) hr, h1, h2⟩,
      RowS.frame hS (fun j hj hoj => hO j hj (h4 j hoj)) hn, h3, h4⟩
theorem KidS.frame {w w' : World} {lo : Nat} {kv : Value} {ks : Fo} {O : Nat → Prop} (hS : StrK w w') (hO : ∀ j, j < w.heap.size → O j → w'.heap[j]? = w.heap[j]?) (h : KidS w lo kv ks O) : KidS w' lo kv ks O := by
  obtain ⟨xk, Ok, hk, hr, h1, h2⟩ := h
  exact ⟨xk, Ok, own_keep hk fun g cs hg hh => hO g (by
      rcases Nat.lt_or_ge g w.heap.size with h' | h'
      · exact h'
      · rw [Array.getElem?_eq_none h'] at hh; cases hh) (h2 g hg), hr.frame hS (fun j hj hoj => hO j hj (h1 j hoj).1), h1, h2⟩
theorem StrK.below {w w' : World} (h : Below w.heap.size w w') : StrK w w' := fun j cs fr hj => h.block j (by
  rcases Nat.lt_or_ge j w.heap.size with h' | h'
  · exact h'
  · rw [Array.getElem?_eq_none h'] at hj; cases hj)
theorem RowS.below {w w' : World} {lo : Nat} {f : Fo} {xs : List Value} {O : Nat → Prop} (hb : Below w.heap.size w w') (h : RowS w lo f xs O) : RowS w' lo f xs O := h.frame (StrK.below hb) fun j hj _ => hb.block j hj
theorem KidS.below {w w' : World} {lo : Nat} {kv : Value} {ks : Fo} {O : Nat → Prop} (hb : Below w.heap.size w w') (h : KidS w lo kv ks O) : KidS w' lo kv ks O := h.frame (StrK.below hb) fun j hj _ => hb.block j hj
theorem RowS.sub {w : World} {lo : Nat} : ∀ {f : Fo} {xs : List Value} {O O' : Nat → Prop}, (∀ j, O j → O' j) → RowS w lo f xs O → RowS w lo f xs O'
  | .nil, _, _, _, _, h => h
  | .node _ _ _ _, _, _, _, hO, ⟨kv, sv, xs', O1, On, e, hs, hk, hn, h3, h4⟩ => ⟨kv, sv, xs', O1, On, e, hs, hk, hn, fun j hj => ⟨hO j (h3 j hj).1, (h3 j hj).2⟩, fun j hj => hO j (h4 j hj)⟩
theorem RowS.base {w : World} {lo lo' : Nat} (hl : lo' ≤ lo) : ∀ {f : Fo} {xs : List Value} {O : Nat → Prop}, RowS w lo f xs O → RowS w lo' f xs O
  | .nil, _, _, h => h
  | .node _ _ _ _, _, _, ⟨kv, sv, xs', O1, On, e, hs, ⟨xk, Ok, hk, hr, h1, h2⟩, hn, h3, h4⟩ => ⟨kv, sv, xs', O1, On, e, own_base hs hl, ⟨xk, Ok, own_base hk hl, RowS.base hl hr, h1, h2⟩, RowS.base hl hn, h3, h4⟩
theorem KidS.base {w : World} {lo lo' : Nat} {kv : Value} {ks : Fo} {O : Nat → Prop} (hl : lo' ≤ lo) (h : KidS w lo kv ks O) : KidS w lo' kv ks O := by
  obtain ⟨xk, Ok, hk, hr, h1, h2⟩ := h
  exact ⟨xk, Ok, own_base hk hl, hr.base hl, h1, h2⟩
theorem RowS.read {w : World} {lo B : Nat} (hB : w.heap.size ≤ B) : ∀ {f : Fo} {xs : List Value} {O : Nat → Prop}, RowS w lo f xs O → RowR w B f xs
  | .nil, _, _, h => h
  | .node _ _ _ _, _, _, ⟨kv, sv, xs', O1, On, e, hs, ⟨xk, Ok, hk, hr, h1, h2⟩, hn, h3, h4⟩ => ⟨kv, sv, xs', e, StR.of_own hB hs, KidR.of_own hB hk (RowS.read hB hr), RowS.read hB hn⟩
theorem KidS.read {w : World} {lo B : Nat} {kv : Value} {ks : Fo} {O : Nat → Prop} (hB : w.heap.size ≤ B) (h : KidS w lo kv ks O) : KidR w B kv ks := by
  obtain ⟨xk, Ok, hk, hr, h1, h2⟩ := h
  exact KidR.of_own hB hk (hr.read hB)
/-- One more tree behind a row. -/
theorem Fo.len_app : ∀ a b : Fo, (a.app b).len = a.len + b.len
  | .nil, b => (Nat.zero_add _).symm
  | .node h ss ks nx, b => by rw [Fo.app, Fo.len, Fo.len, Fo.len_app nx b]; omega
theorem RowS.snoc {w : World} {lo : Nat} {h : Hd} {ss : List St} {ks : Fo} {kv sv : Value} {O1 : Nat → Prop} (hs : w.ownsRow lo 69 2 sv ss.length (stV ss)) (hk : KidS w lo kv ks O1) :
    ∀ {f : Fo} {xs : List Value} {O : Nat → Prop}, (∀ j, O1 j → ¬ O j) → RowS w lo f xs O → RowS w lo (f.app (.node h ss ks .nil)) (xs ++ (h.cells kv sv).toList) (fun j => O j ∨ O1 j)
  | .nil, xs, O, hd, e => by
    have e' : xs = [] := e
    subst e'
    exact ⟨kv, sv, [], O1, fun _ => False, by simp, hs, hk, rfl, fun j hj => ⟨Or.inr hj, id⟩, fun _ h => h.elim⟩
  | .node h' ss' ks' nx, xs, O, hd, ⟨kv', sv', xs', P1, Pn, e, hs', hk', hn, h3, h4⟩ => by
    subst e
    refine ⟨kv', sv', xs' ++ (h.cells kv sv).toList, P1, fun j => Pn j ∨ O1 j, by rw [List.append_assoc], hs', hk', RowS.snoc hs hk (fun j hj hp => hd j hj (h4 j hp)) hn, fun j hj => ⟨Or.inl (h3 j hj).1, fun e => e.elim (h3 j hj).2 fun e => hd j e (h3 j hj).1⟩, fun j hj => hj.elim (fun e => Or.inl (h4 j e)) Or.inr⟩
/-- A tree for another at place i. -/
def Fo.setAt : Fo → Nat → Tr → Fo
  | .nil, _, _ => .nil
  | .node _ _ _ nx, 0, k => .node k.h k.ss k.ks nx
  | .node h ss ks nx, i + 1, k => .node h ss ks (nx.setAt i k)
theorem Fo.setAt_len : ∀ (f : Fo) (i : Nat) (k : Tr), (f.setAt i k).len = f.len
  | .nil, _, _ => rfl
  | .node _ _ _ nx, 0, _ => rfl
  | .node _ _ _ nx, i + 1, k => by rw [Fo.setAt, Fo.len, Fo.len, Fo.setAt_len nx]
/-- A row's tree at place i: of its own; whatever stands there instead, the rest reads as before. -/
theorem RowS.at {w : World} {lo : Nat} : ∀ {f : Fo} {i : Nat} {k : Tr} {xs : List Value} {O : Nat → Prop}, RowS w lo f xs O → f.list[i]? = some k → ∃ kv sv O1 xa xb, xs = xa ++ (k.h.cells kv sv).toList ++ xb ∧ xa.length = i * 12 ∧
      w.ownsRow lo 69 2 sv k.ss.length (stV k.ss) ∧ KidS w lo kv k.ks O1 ∧ (∀ j, O1 j → O j) ∧
      ∀ (w' : World) (B' : Nat) (k' : Tr) (kv' sv' : Value), StrK w w' → (∀ j, j < w.heap.size → O j → ¬ O1 j → w'.heap[j]? = w.heap[j]?) → w'.heap.size ≤ B' → StR w' B' sv' k'.ss → KidR w' B' kv' k'.ks → RowR w' B' (f.setAt i k') (xa ++ (k'.h.cells kv' sv').toList ++ xb)
  | .nil, _, _, _, _, _, hi => by simp [Fo.list] at hi
  | .node h ss ks nx, 0, k, xs, O, ⟨kv, sv, xs', O1, On, e, hs, hk, hn, h3, h4⟩, hi => by
    have e2 : (⟨h, ss, ks⟩ : Tr) = k := by simpa [Fo.list] using hi
    subst e2
    refine ⟨kv, sv, O1, [], xs', by rw [e]; rfl, rfl, hs, hk, fun j hj => (h3 j hj).1, fun w' B' k' kv' sv' hS hO hB hs' hk' => ?_⟩
    exact ⟨kv', sv', xs', rfl, hs', hk', (hn.frame hS fun j hj hoj => hO j hj (h4 j hoj) fun e => (h3 j e).2 hoj).read hB⟩
  | .node h ss ks nx, i + 1, k, xs, O, ⟨kv, sv, xs', O1, On, e, hs, hk, hn, h3, h4⟩, hi => by
    obtain ⟨kv2, sv2, O2, xa, xb, e2, hl, hs2, hk2, ho2, hw⟩ := RowS.at hn (i := i) (k := k) (by simpa [Fo.list] using hi)
    subst e2
    refine ⟨kv2, sv2, O2, (h.cells kv sv).toList ++ xa, xb, by rw [e]; simp only [List.append_assoc], by rw [List.length_append, hl]; show 12 + _ = _; omega, hs2, hk2, fun j hj => h4 j (ho2 j hj), fun w' B' k' kv' sv' hS hO hB hs' hk' => ?_⟩
    refine ⟨kv, sv, xa ++ (k'.h.cells kv' sv').toList ++ xb, by simp only [List.append_assoc], ?_, ?_, hw w' B' k' kv' sv' hS (fun j hj hoj hn2 => hO j hj (h4 j hoj) hn2) hB hs' hk'⟩
    · exact StR.of_own hB (own_keep hs fun g cs _ hg => hS g cs _ hg)
    · exact KidS.read hB (KidS.frame hS (fun j hj hoj => hO j hj (h3 j hoj).1 (fun e => (h3 j hoj).2 (ho2 j e))) hk)
end Go.Proofs.YtlhakdildbplkaaGreatDoor
