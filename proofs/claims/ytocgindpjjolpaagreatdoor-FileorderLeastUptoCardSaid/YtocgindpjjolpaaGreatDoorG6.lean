/- Contracts and plain words for the laws of this chapter, part 6: U9, U10, V1, V2. No condition. -/
import Derived.Test.YtocgindpjjolpaaGreatDoorG5
namespace Go.Proofs.YtocgindpjjolpaaGreatDoor
set_option linter.unusedSimpArgs false
set_option linter.unusedVariables false
open Go.RowKit
theorem exec_load_mid {P : Program} {o : Oper} {ev : Operand → Value} {w : World} (ty : TypeId) (x : Operand) (ho : o.op = .load ty x)
    (b k : Nat) (hx : ev x = .pointer (some ⟨b, k, none⟩)) (cells : Array Value) (d : TypeDesc) (hc : w.rangeAt b k cells.toList)
    (hu : P.underlying ty = some d) (hd : d.isRow = true) (hi : (P.info? ty).map (·.size) = some cells.toList.length) : (execOp ev o).run P w = .ok (.value (.agg cells)) w := by
  unfold execOp
  simp only [ho, hx, Instr.loadAt, Instr.sureAddr, Sem.run_bind, Sem.run_pure, Result.andThen_ok, run_loadVar_mid w b k ty cells.toList d hc hu hd hi, Array.toArray_toList]
def chkR (t : Tr) (p : ByteArray) (l : Nat) : ByteArray × Int := if oneE t l ≠ 0 then (p, oneE t l) else match chkF t.ks p l with
  | some r => r
  | none => (eS, 0)
theorem chkF_node (h : Hd) (ss : List St) (ks nx : Fo) (p : ByteArray) (l : Nat) : chkF (.node h ss ks nx) p l = if oneE ⟨h, ss, ks⟩ (l + 1) ≠ 0 then some (belowP p h.name l, oneE ⟨h, ss, ks⟩ (l + 1))
    else match chkF ks (belowP p h.name l) (l + 1) with
      | some r => some r
      | none => chkF nx p l := rfl
theorem chkF_ne : ∀ (f : Fo) (p : ByteArray) (l : Nat) (r : ByteArray × Int), chkF f p l = some r → r.2 ≠ 0
  | .nil, _, _, _, h => by cases h
  | .node h ss ks nx, p, l, r, e => by
    rw [chkF_node] at e
    split at e
    · rename_i h1
      injection e with e
      rw [← e]; exact h1
    · split at e
      · rename_i r' h2
        injection e with e
        rw [← e]
        exact chkF_ne ks _ _ _ h2
      · exact chkF_ne nx _ _ _ e
theorem chkF_yes {h : Hd} {ss : List St} {ks nx : Fo} {p : ByteArray} {l : Nat} (e : (chkR ⟨h, ss, ks⟩ (belowP p h.name l) (l + 1)).2 ≠ 0) : chkF (.node h ss ks nx) p l = some (chkR ⟨h, ss, ks⟩ (belowP p h.name l) (l + 1)) := by
  unfold chkR at e ⊢
  rw [chkF_node]
  dsimp only at e ⊢
  split
  · rfl
  · rename_i h1
    rw [if_neg h1] at e
    cases hk : chkF ks (belowP p h.name l) (l + 1) with
    | some r => rfl
    | none => rw [hk] at e; exact absurd rfl e
theorem chkF_no {h : Hd} {ss : List St} {ks nx : Fo} {p : ByteArray} {l : Nat} (e : (chkR ⟨h, ss, ks⟩ (belowP p h.name l) (l + 1)).2 = 0) : chkF (.node h ss ks nx) p l = chkF nx p l := by
  unfold chkR at e
  rw [chkF_node]
  dsimp only at e
  split
  · rename_i h1
    rw [if_pos h1] at e
    exact absurd e h1
  · rename_i h1
    rw [if_neg h1] at e
    cases hk : chkF ks (belowP p h.name l) (l + 1) with
    | some r => rw [hk] at e; exact absurd e (chkF_ne _ _ _ _ hk)
    | none => rfl
def KeepC (g o k b : Nat) (kc : Array Value) (nm : ByteArray) (v : Value) (z : World) : Prop := z.rangeAt g (o + k * 12) kc.toList ∧ z.cell? ⟨g, o + k * 12, none⟩ = some (.string nm) ∧ z.cell? ⟨b, 10, none⟩ = some v
theorem KeepC.below {g o k b : Nat} {kc : Array Value} {nm : ByteArray} {v : Value} {z z' : World} (hg : g < z.heap.size) (hb : b < z.heap.size) (h : KeepC g o k b kc nm v z) (hz : Below z.heap.size z z') : KeepC g o k b kc nm v z' :=
  ⟨range_below hz hg h.1, (hz.cell (p := ⟨g, o + k * 12, none⟩) hg).trans h.2.1, (hz.cell (p := ⟨b, 10, none⟩) hb).trans h.2.2⟩
set_option maxRecDepth 100000 in
set_option maxHeartbeats 2000000 in
theorem rchk_any : ∀ (N : Nat), N ≤ 120000 → ∀ (t : Tr), t.count ≤ N → t.sz ≤ 120000 → ∀ (p : ByteArray) (l : Nat), 1 ≤ l → p.size + l + t.ks.wt ≤ 1000000 → ∀ (v : Value) (w : World), TreeR w w.heap.size v t → Calls Tryz.prog 90 #[v, .string p, .int .i64 (l : Int)] w fun e w' => e = .returned (.tuple #[.string (chkR t p l).1, .int .i64 (chkR t p l).2]) ∧ Below w.heap.size w w'
  | 0, _, t, ht, _, _, _, _, _, _, _, _ => by unfold Tr.count at ht; omega
  | N + 1, hN, t, ht, hsz, p, l, hl1, hpl, v, w, hv => by
    have IH := hide (rchk_any N (by omega))
    have ON := hide (fun W hW => rone_any t l ⟨hl1, by omega⟩ hsz v W hW)
    have HV := hide hv
    obtain ⟨A, c, A2, c2, rfl, hk, -⟩ := hv.open
    have HL0 := hide (Left.of hk)
    clear hv hk
    have HL : Live w [] := trivial
    go_enter Tryz.func90, Tryz.ntmps90
    go_upto_region 1 with fail
    have HN := hide (NodeB.new w t.h (.slice A t.ks.len c) (.slice A2 t.ss.length c2))
    have hbel1 : Below w.heap.size w (w.alloc (.cells (t.h.cells (.slice A t.ks.len c) (.slice A2 t.ss.length c2)) 25)) := by (exact bl)
    have HV1 := hide (HV.out.later hbel1)
    generalize w.alloc (.cells (t.h.cells (.slice A t.ks.len c) (.slice A2 t.ss.length c2)) 25) = W1 at *
    obtain ⟨b, hb⟩ : ∃ b, b = w.heap.size := ⟨_, rfl⟩
    rw [← hb] at HN ⊢
    clear hb HV
    go_upto_region 2 with (first | (refine wpList_load_row rfl 25 (.tmp 3) rfl b rfl 25 (t.h.cells (.slice A t.ks.len c) (.slice A2 t.ss.length c2)) (0, 0) _ HN.out.blk Tryz.underlying25 rfl (infN (Hd.size _ _ _)) ?_) | (go_at_call 128; refine (ON.out _ HV1.out).mono ?_; rintro e w3 ⟨rfl, hb3⟩))
    have hbel3 := hbel1.trans (hb3.mono hbel1.size)
    have HN3 := hide (HN.out.below hb3)
    clear HN HV1 hbel1 hb3 ON
    by_cases h1 : oneE t l = 0
    case neg =>
      have q : (oneE t l != 0) = true := by simpa using h1
      have HR := hide (show chkR t p l = (p, oneE t l) by unfold chkR; rw [if_pos h1])
      clear h1
      go_wp2_with fail
      ((try simp only [Exit.inBlock, Exit.then]); refine bodyPost_ret (by simp only [results, Tryz.results90]; go_simp; try rfl) rfl ?_)
      exact ⟨by rw [HR.out], hbel3⟩
    case pos =>
    have HR := hide (show chkR t p l = match chkF t.ks p l with | some r => r | none => (eS, 0) by unfold chkR; rw [if_neg (by simpa using h1)])
    rw [h1]
    clear h1
    go_wp2_with fail
    go_loopw [9] (fun i wr => ∃ (k : Nat) (r : Fo), i = .int .i64 (k : Int) ∧ k + r.len = t.ks.len ∧ r.count + 1 ≤ t.count ∧ r.sz ≤ t.sz ∧ r.wt ≤ t.ks.wt ∧ Left w w.heap.size A r k ∧ chkF t.ks p l = chkF r p l ∧ Below w3.heap.size w3 wr) (fun i _ => t.ks.len - (intOf i).toNat)
    case atStart => exact ⟨0, t.ks, rfl, by omega, by unfold Tr.count; omega, by unfold Tr.sz; omega, by omega, HL0.out, rfl, Below.refl _ _⟩
    case round =>
      clear HL0
      obtain ⟨k, r, rfl, hkr, hrc, hrs, hrw, hl, hcf, hbel⟩ := hrel
      have HLr := hide hl
      have HC := hide hcf
      have hbel4 := hbel3.trans (hbel.mono hbel3.size)
      have HN4 := hide (HN3.out.below hbel)
      have e10 := HN4.out.c10
      have hsz4 := hbel4.size
      have hbw : b < wr.heap.size := HN4.out.blk.lt
      clear hl hcf
      have hlk := t.ks.len_sz
      have hts : t.sz = t.h.sz + szS t.ss + t.ks.sz := rfl
      have hlk2 : t.ks.len ≤ 120000 := by omega
      clear hlk hts
      cases r with
      | nil =>
        rw [Fo.len_nil] at hkr
        obtain rfl : k = t.ks.len := by omega
        have HZ := hide (show chkR t p l = (eS, 0) by rw [HR.out, HC.out]; rfl)
        go_wp2_with fail
        ((try simp only [Exit.inBlock, Exit.then]); refine bodyPost_ret (by simp only [results, Tryz.results90]; go_simp; try rfl) rfl ?_)
        exact ⟨by rw [HZ.out], hbel4⟩
      | node h ss ks nx =>
      rw [Fo.len_node] at hkr
      rw [Fo.count_node] at hrc
      rw [Fo.sz_node] at hrs
      rw [Fo.wt_node] at hrw
      have hlt : k < t.ks.len := by omega
      obtain ⟨g, o, kc, rfl, hg, hr, hz, -, htr, hln⟩ := HLr.out.next
      obtain ⟨g', o', eg, -, hnm, -⟩ := HLr.out.name hbel4
      injection eg with eg
      injection eg with eg1 eg2
      subst eg1; subst eg2
      have HLn := hide hln
      have HZ := hide hz
      have HT := hide ((htr.below hbel4).mono hsz4)
      have hgw : g < wr.heap.size := by omega
      have hkeep : KeepC g o k b kc h.name (.slice (some ⟨g, o, none⟩) t.ks.len c) wr := ⟨range_below hbel4 hg hr, hnm, e10⟩
      have hns : h.name.size ≤ 120000 := by unfold Hd.sz at hrs; omega
      have hpn : p.size + h.name.size ≤ 2000000000 := by omega
      clear hr hz htr hln HLr
      obtain ⟨q, hq⟩ : ∃ q, belowP p h.name l = q := ⟨_, rfl⟩
      have hqs : q.size ≤ p.size + 1 + h.name.size := by rw [← hq]; exact bel_size p h.name l
      have hks : Tr.sz ⟨h, ss, ks⟩ = h.sz + szS ss + ks.sz := rfl
      have hkc : Tr.count ⟨h, ss, ks⟩ = ks.count + 1 := rfl
      have CC := fun W hW => IH.out ⟨h, ss, ks⟩ (by omega) (by omega) q (l + 1) (by omega) (by show q.size + (l + 1) + ks.wt ≤ 1000000; omega) (.agg kc) W hW
      have HQ := hide hq
      have CR := hide (show chkF t.ks p l = if (chkR ⟨h, ss, ks⟩ q (l + 1)).2 ≠ 0 then some (chkR ⟨h, ss, ks⟩ q (l + 1)) else chkF nx p l by
        rw [HC.out, ← hq]
        split
        · rename_i h1; exact chkF_yes h1
        · rename_i h1; exact chkF_no (by simpa using h1))
      clear HC hq IH
      obtain ⟨x, e, hxe⟩ : ∃ x e, chkR ⟨h, ss, ks⟩ q (l + 1) = (x, e) := ⟨_, _, rfl⟩
      rw [hxe] at CC CR
      dsimp only at CC
      have CKK := hide (fun W hW => (show Calls Tryz.prog 90 #[.agg kc, .string q, .int .i64 ((l : Int) + 1)] W fun e' w' => e' = .returned (.tuple #[.string x, .int .i64 e]) ∧ Below W.heap.size W w' from CC W hW))
      have BE := hide (fun W => rbelow_any p h.name l hl1 hpn W)
      rw [HQ.out] at BE
      have hkeepd : KeepC g o k b kc h.name (.slice (some ⟨g, o, none⟩) t.ks.len c) wr.drew ∧ True := ⟨hkeep, trivial⟩
      have hkeepB : ∀ w8, Below wr.drew.heap.size wr.drew w8 → KeepC g o k b kc h.name (.slice (some ⟨g, o, none⟩) t.ks.len c) w8 := fun w8 h8 => KeepC.below (z := wr.drew) hgw hbw hkeepd.1 h8
      have HTd : TreeR wr.drew wr.drew.heap.size (.agg kc) ⟨h, ss, ks⟩ := HT.out.later ((Below.refl _ _).drew)
      have HTD := hide HTd
      have hl64 : IntKind.i64.wrap ((l : Int) + 1) = ((l + 1 : Nat) : Int) := by rw [IntWalk.i64_in _ (by omega)]; omega
      clear hxe CC HTd HT
      go_upto_region 7 with fail
      refine wp_region_noPanic ?_
      refine wp_region_held_drew (S := (fun z => KeepC g o k b kc h.name (.slice (some ⟨g, o, none⟩) t.ks.len c) z ∧ True)) (by kernel_rfl) kp (fun hHeld => ?_)
      refine tkZ 0 ⟨some 27, .fieldAddr 25 (.tmp 3) 10, 0, "ref.go:150", #[], none⟩ ?_
      refine tkZ 1 ⟨some 28, .load 22 (.tmp 27), 22, "ref.go:150", #[⟨0, .data⟩], none⟩ ?_ (by intro w hSw; (try dsimp only at hSw); have c1 := hSw.1.2.2; go_simp; (try with_reducible rfl))
      refine tkZ 2 ⟨some 29, .move (.tmp 9), 3, "ref.go:150", #[], none⟩ ?_
      refine tkZ 3 ⟨some 30, .indexAddr 22 (.tmp 28) (.tmp 29), 0, "ref.go:150", #[⟨1, .data⟩, ⟨2, .data⟩], none⟩ ?_
      refine tkZ 4 ⟨some 31, .load 25 (.tmp 30), 25, "ref.go:150", #[⟨3, .data⟩], none⟩ ?_ (by intro w hSw; (try dsimp only at hSw); refine (exec_load_mid 25 (.tmp 30) (by rfl) g (o + k * 12) (by rfl) kc _ hSw.1.1 Tryz.underlying25 (by rfl) (infNl HZ.out)).trans ?_; with_reducible rfl)
      refine tkZ 5 ⟨some 32, .move (.tmp 1), 9, "ref.go:150", #[], none⟩ ?_
      refine tkZ 6 ⟨some 33, .fieldAddr 25 (.tmp 3) 10, 0, "ref.go:150", #[], none⟩ ?_
      refine tkZ 7 ⟨some 34, .load 22 (.tmp 33), 22, "ref.go:150", #[⟨6, .data⟩], none⟩ ?_ (by intro w hSw; (try dsimp only at hSw); have c1 := hSw.1.2.2; go_simp; (try with_reducible rfl))
      refine tkZ 8 ⟨some 35, .move (.tmp 9), 3, "ref.go:150", #[], none⟩ ?_
      refine tkZ 9 ⟨some 36, .indexAddr 22 (.tmp 34) (.tmp 35), 0, "ref.go:150", #[⟨7, .data⟩, ⟨8, .data⟩], none⟩ ?_
      refine tkZ 10 ⟨some 37, .fieldAddr 25 (.tmp 36) 0, 0, "ref.go:150", #[⟨9, .data⟩], none⟩ ?_
      refine tkZ 11 ⟨some 38, .load 9 (.tmp 37), 9, "ref.go:150", #[⟨10, .data⟩], none⟩ ?_ (by intro w hSw; (try dsimp only at hSw); have c1 := hSw.1.2.1; go_simp; (try with_reducible rfl))
      refine tkZ 12 ⟨some 39, .move (.tmp 2), 3, "ref.go:150", #[], none⟩ ?_
      refine tkZ 14 ⟨some 41, .move (.tmp 2), 3, "ref.go:150", #[], none⟩ ?_
      refine tkZ 15 ⟨some 42, .binOp .add 3 (.tmp 41) (.const (.int .i64 1)) 3, 3, "ref.go:150", #[⟨14, .data⟩], none⟩ ?_
      refine rqS [13] (rqC ⟨some 40, .call ⟨.value (.func 91), #[.tmp 32, .tmp 38, .tmp 39], #[9, 9, 3]⟩, 9, "ref.go:150", #[⟨5, .data⟩, ⟨11, .data⟩, ⟨12, .data⟩], none⟩ (fun K hK => ?_) rq0)
      go_simp
      (go_at_call 91; (with_reducible refine (BE.out _).mono ?_); rintro e w' ⟨rfl, rfl⟩)
      go_wp2_with fail
      refine hK.out _ _ kp (fun hHeld => ?_)
      clear hK K
      try simp only [PT]
      refine rqS [16] (rqC ⟨some 43, .call ⟨.value (.func 90), #[.tmp 31, .tmp 40, .tmp 42], #[25, 9, 3]⟩, 87, "ref.go:150", #[⟨4, .data⟩, ⟨13, .data⟩, ⟨15, .data⟩, ⟨13, .chain⟩], none⟩ (fun K hK => ?_) rq0)
      go_simp
      (go_at_call 90; (with_reducible refine (CKK.out _ HTD.out).mono ?_); rintro e w8 ⟨rfl, hb8⟩; have hkeep8 : KeepC g o k b kc h.name (.slice (some ⟨g, o, none⟩) t.ks.len c) w8 ∧ True := ⟨hkeepB w8 hb8, trivial⟩)
      go_wp2_with fail
      refine hK.out _ _ kp (fun hHeld => ?_)
      clear hK K
      try simp only [PT]
      refine tkZ 17 ⟨some 26, .move (.tmp 43), 87, "ref.go:150", #[⟨16, .data⟩], none⟩ ?_
      refine tkZ 18 ⟨some 44, .extract (.tmp 26) 0, 9, "ref.go:150", #[⟨17, .data⟩], none⟩ ?_
      refine tkZ 19 ⟨some 45, .extract (.tmp 26) 1, 29, "ref.go:150", #[⟨17, .data⟩, ⟨20, .gcOnly .lateStores⟩], none⟩ ?_
      refine tkZ 20 ⟨some 10, .assign (.tmp 44), 9, "ref.go:150", #[⟨18, .data⟩, ⟨16, .chain⟩, ⟨0, .phase⟩, ⟨1, .phase⟩, ⟨2, .phase⟩, ⟨3, .phase⟩, ⟨4, .phase⟩, ⟨5, .phase⟩, ⟨6, .phase⟩, ⟨7, .phase⟩, ⟨8, .phase⟩, ⟨9, .phase⟩, ⟨10, .phase⟩, ⟨11, .phase⟩, ⟨12, .phase⟩, ⟨13, .phase⟩, ⟨14, .phase⟩, ⟨15, .phase⟩, ⟨16, .phase⟩, ⟨17, .phase⟩, ⟨18, .phase⟩, ⟨19, .textOnly .lateStores⟩], none⟩ ?_
      refine tkZ 21 ⟨some 11, .assign (.tmp 45), 29, "ref.go:150", #[⟨19, .data⟩, ⟨20, .chain⟩, ⟨0, .phase⟩, ⟨1, .phase⟩, ⟨2, .phase⟩, ⟨3, .phase⟩, ⟨4, .phase⟩, ⟨5, .phase⟩, ⟨6, .phase⟩, ⟨7, .phase⟩, ⟨8, .phase⟩, ⟨9, .phase⟩, ⟨10, .phase⟩, ⟨11, .phase⟩, ⟨12, .phase⟩, ⟨13, .phase⟩, ⟨14, .phase⟩, ⟨15, .phase⟩, ⟨16, .phase⟩, ⟨17, .phase⟩, ⟨18, .phase⟩, ⟨19, .phase⟩, ⟨20, .phase⟩], none⟩ ?_
      refine wpAnyH_done (by kernel_rfl) ?_ _
      refine NoPanic.normal ?_
      have hbel8 : Below w3.heap.size w3 w8 := hbel.trans ((Below.refl _ _).drew.trans hb8 |>.mono hbel.size)
      clear hkeep hkeepd hkeepB hkeep8 hHeld hb8 hl64
      by_cases he : e = 0
      · have q1 : (e != 0) = false := by simpa using he
        have HE := hide (show chkF t.ks p l = chkF nx p l by rw [CR.out]; rw [if_neg (by simpa using he)])
        clear he
        go_wp2_with fail
        go_roundw
        case rel => exact ⟨k + 1, nx, by go_num, by omega, by omega, by omega, by omega, HLn.out, HE.out, hbel8⟩
        case measure => simp [intOf]; omega
      · have q1 : (e != 0) = true := by simpa using he
        have HE := hide (show chkR t p l = (x, e) by rw [HR.out, CR.out]; rw [if_pos he])
        clear he
        go_wp2_with fail
        ((try simp only [Exit.inBlock, Exit.then]); refine bodyPost_ret (by simp only [results, Tryz.results90]; go_simp; try rfl) rfl ?_)
        exact ⟨by rw [HE.out], hbel3.trans (hbel8.mono hbel3.size)⟩
theorem checkT_eq (t : Tr) : checkT t = if 256 < t.count then (eS, 7) else chkR t eS 1 := by
  unfold checkT chkR chkT
  split
  · rfl
  · by_cases h : oneE t 1 ≠ 0
    · rw [if_pos h, if_pos h]
    · rw [if_neg h, if_neg h]
      cases chkF t.ks eS 1 <;> rfl
set_option maxRecDepth 100000 in
set_option maxHeartbeats 2000000 in
theorem rcheckT_any (t : Tr) (hsz : t.sz ≤ 120000 ∨ (256 < t.count ∧ t.sz ≤ 2000000000)) (v : Value) (w : World) (hv : TreeR w w.heap.size v t) : Calls Tryz.prog 64 #[v] w fun e w' => e = .returned (.tuple #[.string (checkT t).1, .int .i64 (checkT t).2]) ∧ Below w.heap.size w w' := by
  have HE := hide (checkT_eq t)
  have hs9 : t.sz ≤ 2000000000 := by omega
  have CN := hide (fun W hW => rcount_any 100000000 (by omega) t (by have := t.count_sz; omega) v W hW)
  have HV := hide hv
  obtain ⟨A, c, A2, c2, rfl, -, -⟩ := hv.open
  clear hv
  have HL : Live w [] := trivial
  go_enter Tryz.func64, Tryz.ntmps64
  go_upto_region 1 with fail
  have HN := hide (NodeB.new w t.h (.slice A t.ks.len c) (.slice A2 t.ss.length c2))
  have hbel1 : Below w.heap.size w (w.alloc (.cells (t.h.cells (.slice A t.ks.len c) (.slice A2 t.ss.length c2)) 25)) := by (exact bl)
  have HV1 := hide (HV.out.later hbel1)
  generalize w.alloc (.cells (t.h.cells (.slice A t.ks.len c) (.slice A2 t.ss.length c2)) 25) = W1 at *
  obtain ⟨b, hb⟩ : ∃ b, b = w.heap.size := ⟨_, rfl⟩
  rw [← hb] at HN ⊢
  clear hb HV
  by_cases h1 : 256 < t.count
  · have q : decide ((256 : Int) < (t.count : Int)) = true := decide_eq_true (by omega)
    have q' : decide (256 < t.count) = true := decide_eq_true h1
    have HR := hide (show checkT t = (eS, 7) by rw [HE.out, if_pos h1])
    clear h1 hsz
    go_wp2_with (first | (refine wpList_load_row rfl 25 (.tmp 1) rfl b rfl 25 (t.h.cells (.slice A t.ks.len c) (.slice A2 t.ss.length c2)) (0, 0) _ HN.out.blk Tryz.underlying25 rfl (infN (Hd.size _ _ _)) ?_) | (go_at_call 75; refine (CN.out _ HV1.out).mono ?_; rintro e w3 ⟨rfl, hb3⟩))
    ((try simp only [Exit.inBlock, Exit.then]); refine bodyPost_ret (by simp only [results, Tryz.results64]; go_simp; try rfl) rfl ?_)
    exact ⟨by rw [HR.out], hbel1.trans (hb3.mono hbel1.size)⟩
  · have q : decide ((256 : Int) < (t.count : Int)) = false := decide_eq_false (by omega)
    have q' : decide (256 < t.count) = false := decide_eq_false h1
    have HR := hide (show checkT t = chkR t eS 1 by rw [HE.out, if_neg h1])
    have hsz6 : t.sz ≤ 120000 := by omega
    have CK := hide (fun W hW => rchk_any 120000 (by omega) t (by have := t.count_sz; omega) hsz6 eS 1 (by omega) (by have := t.ks.wt_sz; show 0 + 1 + _ ≤ _; unfold Tr.sz at hsz6; omega) (.agg (t.h.cells (.slice A t.ks.len c) (.slice A2 t.ss.length c2))) W hW)
    clear h1 hsz
    go_wp2_with (first | (refine wpList_load_row rfl 25 (.tmp 1) rfl b rfl 25 (t.h.cells (.slice A t.ks.len c) (.slice A2 t.ss.length c2)) (0, 0) _ HN3.out.blk Tryz.underlying25 rfl (infN (Hd.size _ _ _)) ?_) | (refine wpList_load_row rfl 25 (.tmp 1) rfl b rfl 25 (t.h.cells (.slice A t.ks.len c) (.slice A2 t.ss.length c2)) (0, 0) _ HN.out.blk Tryz.underlying25 rfl (infN (Hd.size _ _ _)) ?_) | (go_at_call 75; refine (CN.out _ HV1.out).mono ?_; rintro e w3 ⟨rfl, hb3⟩; have HN3 := hide (HN.out.below hb3); have HV3 := hide (HV1.out.later hb3)) | (go_at_call 90; refine (CK.out _ HV3.out).mono ?_; rintro e w4 ⟨rfl, hb4⟩))
    ((try simp only [Exit.inBlock, Exit.then]); refine bodyPost_ret (by simp only [results, Tryz.results64]; go_simp; try rfl) rfl ?_)
    have hbel3 := hbel1.trans (hb3.mono hbel1.size)
    exact ⟨by rw [HR.out], hbel3.trans (hb4.mono hbel3.size)⟩
set_option maxHeartbeats 2000000 in
theorem rvalid_any (t : Tr) (hsz : t.sz ≤ 120000 ∨ (256 < t.count ∧ t.sz ≤ 2000000000)) (v : Value) (w : World) (hv : TreeR w w.heap.size v t) : Calls Tryz.prog 31 #[v] w fun e w' => e = .returned (.bool (validB t)) ∧ Below w.heap.size w w' := by
  have HE := hide (show validB t = decide ((checkT t).2 = 0) from rfl)
  have CN := hide (fun W hW => rcheckT_any t hsz v W hW)
  have HV := hide hv
  obtain ⟨A, c, A2, c2, rfl, -, -⟩ := hv.open
  clear hv hsz
  obtain ⟨x, e, hxe⟩ : ∃ x e, checkT t = (x, e) := ⟨_, _, rfl⟩
  rw [hxe] at HE CN
  have CN2 := hide CN.out
  clear hxe
  have HL : Live w [] := trivial
  go_enter Tryz.func31, Tryz.ntmps31
  go_upto_region 1 with fail
  have HN := hide (NodeB.new w t.h (.slice A t.ks.len c) (.slice A2 t.ss.length c2))
  have hbel1 : Below w.heap.size w (w.alloc (.cells (t.h.cells (.slice A t.ks.len c) (.slice A2 t.ss.length c2)) 25)) := by (exact bl)
  have HV1 := hide (HV.out.later hbel1)
  generalize w.alloc (.cells (t.h.cells (.slice A t.ks.len c) (.slice A2 t.ss.length c2)) 25) = W1 at *
  obtain ⟨b, hb⟩ : ∃ b, b = w.heap.size := ⟨_, rfl⟩
  rw [← hb] at HN ⊢
  clear hb HV
  go_wp2_with (first | (refine wpList_load_row rfl 25 (.tmp 1) rfl b rfl 25 (t.h.cells (.slice A t.ks.len c) (.slice A2 t.ss.length c2)) (0, 0) _ HN.out.blk Tryz.underlying25 rfl (infN (Hd.size _ _ _)) ?_) | (go_at_call 64; refine (CN2.out _ HV1.out).mono ?_; rintro e' w3 ⟨rfl, hb3⟩))
  go_ret
  exact ⟨ret_b (by rw [HE.out, Bool.eq_iff_iff]; simp), hbel1.trans (hb3.mono hbel1.size)⟩
structure FrO (O : Nat → Prop) (w w' : World) : Prop where
  os : w'.os = w.os
  tape : w'.tape = w.tape
  output : w'.output = w.output
  size : w.heap.size ≤ w'.heap.size
  block : ∀ j, j < w.heap.size → ¬ O j → w'.heap[j]? = w.heap[j]?
theorem FrO.of {O : Nat → Prop} {w w' : World} (h : Below w.heap.size w w') : FrO O w w' := ⟨h.os, h.tape, h.output, h.size, fun j hj _ => h.block j hj⟩
theorem FrO.trans {O O' : Nat → Prop} {w w1 w2 : World} (h : FrO O w w1) (h' : FrO O' w1 w2) (ho : ∀ j, O' j → O j ∨ w.heap.size ≤ j) : FrO O w w2 :=
  ⟨h'.os.trans h.os, h'.tape.trans h.tape, h'.output.trans h.output, Nat.le_trans h.size h'.size, fun j hj hn => (h'.block j (Nat.lt_of_lt_of_le hj h.size) (fun hO => (ho j hO).elim hn (fun h2 => by omega))).trans (h.block j hj hn)⟩
theorem FrO.below {O : Nat → Prop} {w w' : World} {B : Nat} (h : FrO O w w') (hB : B ≤ w.heap.size) (ho : ∀ j, O j → B ≤ j) : Below B w w' := ⟨h.os, h.tape, h.output, h.size, fun j hj => h.block j (by omega) (fun hO => by have := ho j hO; omega)⟩
theorem FrO.blk {O : Nat → Prop} {w w' : World} {n : Nat} {cs : Array Value} {T : TypeId} (h : FrO O w w') (hb : Blk w n cs T) (hn : ¬ O n) : Blk w' n cs T := (h.block n hb.lt hn).trans hb
def goodF {S : Type} (step : S → Tr → ByteArray → Nat → Bool × S) (G : S → Tr → Prop) : Fo → ByteArray → Nat → S → Prop
  | .nil, _, _, _ => True
  | .node h ss ks nx, p, l, s => (G s ⟨h, ss, ks⟩ ∧ ((step s ⟨h, ss, ks⟩ (belowP p h.name l) (l + 1)).1 = true → goodF step G ks (belowP p h.name l) (l + 1) (step s ⟨h, ss, ks⟩ (belowP p h.name l) (l + 1)).2)) ∧
      ((walkT step ⟨h, ss, ks⟩ (belowP p h.name l) (l + 1) s).1 = true → goodF step G nx p l (walkT step ⟨h, ss, ks⟩ (belowP p h.name l) (l + 1) s).2)
def goodT {S : Type} (step : S → Tr → ByteArray → Nat → Bool × S) (G : S → Tr → Prop) (t : Tr) (p : ByteArray) (l : Nat) (s : S) : Prop := G s t ∧ ((step s t p l).1 = true → goodF step G t.ks p l (step s t p l).2)
theorem goodF_node {S : Type} {step : S → Tr → ByteArray → Nat → Bool × S} {G : S → Tr → Prop} {h : Hd} {ss : List St} {ks nx : Fo} {p : ByteArray} {l : Nat} {s : S} : goodF step G (.node h ss ks nx) p l s ↔
    goodT step G ⟨h, ss, ks⟩ (belowP p h.name l) (l + 1) s ∧ ((walkT step ⟨h, ss, ks⟩ (belowP p h.name l) (l + 1) s).1 = true → goodF step G nx p l (walkT step ⟨h, ss, ks⟩ (belowP p h.name l) (l + 1) s).2) := Iff.rfl
theorem goodF_true {S : Type} (step : S → Tr → ByteArray → Nat → Bool × S) : ∀ (f : Fo) (p : ByteArray) (l : Nat) (s : S), goodF step (fun _ _ => True) f p l s
  | .nil, _, _, _ => trivial
  | .node _ _ ks nx, _, _, _ => ⟨⟨trivial, fun _ => goodF_true step ks _ _ _⟩, fun _ => goodF_true step nx _ _ _⟩
theorem goodT_true {S : Type} (step : S → Tr → ByteArray → Nat → Bool × S) (t : Tr) (p : ByteArray) (l : Nat) (s : S) : goodT step (fun _ _ => True) t p l s := ⟨trivial, fun _ => goodF_true step _ _ _ _⟩
structure VisitOK {S : Type} (step : S → Tr → ByteArray → Nat → Bool × S) (G : S → Tr → Prop) (I : S → (Nat → Prop) → World → Prop) (B Z g : Nat) (lb : Array Value) : Prop where
  enters : ∀ args w, (callFunc g args).run Tryz.prog w = .ok (.enter g args) w
  own : ∀ s O w j, I s O w → O j → B ≤ j ∧ j < w.heap.size
  keep : ∀ s O w w', I s O w → Below w.heap.size w w' → I s O w'
  visit : ∀ (s : S) (t : Tr) (p : ByteArray) (l : Nat) (v : Value) (O : Nat → Prop) (w : World), G s t → t.sz ≤ Z → 1 ≤ l → p.size + l ≤ 100000000 → I s O w → B ≤ w.heap.size → TreeR w B v t → Calls Tryz.prog g (#[v, .string p, .int .i64 (l : Int)] ++ lb) w fun e w' =>
    e = .returned (.bool (step s t p l).1) ∧ (∃ O', I (step s t p l).2 O' w' ∧ ∀ j, O' j → O j ∨ w.heap.size ≤ j) ∧ FrO O w w'
structure VisitG {S : Type} (step : S → Tr → ByteArray → Nat → Bool × S) (G : S → Tr → Prop) (I : S → (Nat → Prop) → World → Prop) (B Z g : Nat) (lb : Array Value) : Prop where
  enters : ∀ args w, (callFunc g args).run Tryz.prog w = .ok (.enter g args) w
  own : ∀ s O w j, I s O w → O j → B ≤ j ∧ j < w.heap.size
  keepN : ∀ s O w cs, I s O w → I s O (w.alloc (.cells cs 25))
  keepD : ∀ s O w, I s O w → I s O w.drew
  visit : ∀ (s : S) (t : Tr) (p : ByteArray) (l : Nat) (v : Value) (O : Nat → Prop) (w : World), G s t → t.sz ≤ Z → 1 ≤ l → p.size + l ≤ 100000000 → I s O w → B ≤ w.heap.size → TreeR w B v t → Calls Tryz.prog g (#[v, .string p, .int .i64 (l : Int)] ++ lb) w fun e w' =>
    e = .returned (.bool (step s t p l).1) ∧ (∃ O', I (step s t p l).2 O' w' ∧ ∀ j, O' j → O j ∨ w.heap.size ≤ j) ∧ FrO O w w'
theorem VisitOK.gen {S : Type} {step : S → Tr → ByteArray → Nat → Bool × S} {G : S → Tr → Prop} {I : S → (Nat → Prop) → World → Prop} {B Z g : Nat} {lb : Array Value} (V : VisitOK step G I B Z g lb) : VisitG step G I B Z g lb :=
  ⟨V.enters, V.own, fun s O w _ h => V.keep s O w _ h ((Below.refl _ _).alloc (Nat.le_refl _) _), fun s O w h => V.keep s O w _ h ((Below.refl _ _).drew), V.visit⟩
set_option maxHeartbeats 1000000 in
theorem below_any (p n : ByteArray) (l : Nat) (hp : p.size + n.size ≤ 2000000000) (w : World) : Calls Tryz.prog 114 #[.string p, .string n, .int .i64 ((l : Int) + 1)] w fun e w' => e = .returned (.string (belowP p n l)) ∧ w = w' := by
  have HE := hide (show belowP p n l = if l ≤ 1 then n else p ++ ⟨#[47]⟩ ++ n from rfl)
  go_enter Tryz.func114, Tryz.ntmps114
  by_cases q : l ≤ 1
  · have q1 : decide ((l : Int) + 1 ≤ 2) = true := decide_eq_true (by omega)
    have q2 : (l : Int) + 1 ≤ 2 := by omega
    have HQ := hide q
    clear q
    go_wp2_with fail
    go_ret
    exact ⟨ret_s (by rw [HE.out, if_pos HQ.out]), rfl⟩
  · have q1 : decide ((l : Int) + 1 ≤ 2) = false := decide_eq_false (by omega)
    have q2 : (2 : Int) < (l : Int) + 1 := by omega
    have HQ := hide q
    clear q
    have e1 : (⟨#[47]⟩ : ByteArray).size = 1 := rfl
    go_wp2_with fail
    go_ret
    exact ⟨ret_s (by rw [HE.out, if_neg HQ.out]), rfl⟩
theorem walkT_eq {S : Type} (step : S → Tr → ByteArray → Nat → Bool × S) (t : Tr) (p : ByteArray) (l : Nat) (s : S) : walkT step t p l s = if (step s t p l).1 = true then walkF step t.ks p l (step s t p l).2 else step s t p l := rfl
theorem walkF_node {S : Type} (step : S → Tr → ByteArray → Nat → Bool × S) (h : Hd) (ss : List St) (ks nx : Fo) (p : ByteArray) (l : Nat) (s : S) : walkF step (.node h ss ks nx) p l s =
    if (walkT step ⟨h, ss, ks⟩ (belowP p h.name l) (l + 1) s).1 = true then walkF step nx p l (walkT step ⟨h, ss, ks⟩ (belowP p h.name l) (l + 1) s).2 else walkT step ⟨h, ss, ks⟩ (belowP p h.name l) (l + 1) s := by
  unfold walkT
  conv => lhs; unfold walkF
  dsimp only
  by_cases h1 : (step s ⟨h, ss, ks⟩ (belowP p h.name l) (l + 1)).1 = true
  · rw [if_pos h1, if_pos h1]
  · rw [if_neg h1, if_neg h1, if_neg h1]
theorem setRow_alloc (W : World) (old cells : Array Value) (T : TypeId) : (W.alloc (.cells old T)).setRow W.heap.size cells = W.alloc (.cells cells T) := by
  have key : (W.heap.push (Obj.cells old T)).modify W.heap.size (fun x => match x with
      | .cells _ elem frozen => .cells cells elem frozen
      | o => o) = W.heap.push (Obj.cells cells T) := by
    apply Array.ext
    · simp
    · intro i h1 h2
      rw [Array.getElem_modify, Array.getElem_push, Array.getElem_push]
      by_cases hi : i < W.heap.size
      · rw [if_neg (by omega), dif_pos hi, dif_pos hi]
      · have : i = W.heap.size := by simp at h2; omega
        subst this
        simp
  show ({ W with heap := _ } : World) = { W with heap := _ }
  congr 1
theorem wpList_store_new {P : Program} {ops : Array Oper} {rest : List Oper} {o : Oper} {a : Act} {W : World} {Q : Exit → Act → World → Prop} (hgd : o.guard = none) (ty : TypeId) (x y : Operand) (ho : o.op = .store ty x y)
    (cells : Array Value) (hx : a.eval x = .pointer (some ⟨W.heap.size, 0, none⟩)) (hy : a.eval y = .agg cells)
    (t : TypeId) (old : Array Value) (hi : (P.info? ty).map (·.size) = some cells.size)
    (hold : old.size = cells.size) (h1 : cells.all (·.oneCell') = true)
    (h : wpList P ops Q rest (a.put o.dst undef) (W.alloc (.cells cells t))) : wpList P ops Q (o :: rest) a (W.alloc (.cells old t)) := by
  refine wpList_store_row hgd ty x y ho W.heap.size cells hx hy t old (heap_alloc_new W _) hi hold h1 ?_
  rw [setRow_alloc]
  exact h
theorem TreeR.c0 {w : World} {B : Nat} {kc : Array Value} {t : Tr} (h : TreeR w B (.agg kc) t) : kc[0]? = some (.string t.h.name) := by
  obtain ⟨kv, sv, e, _⟩ := h
  injection e with e
  rw [e]; rfl
theorem exec_load_row {P : Program} {o : Oper} {ev : Operand → Value} {w : World} (ty : TypeId) (x : Operand) (ho : o.op = .load ty x)
    (g : Nat) (hx : ev x = .pointer (some ⟨g, 0, none⟩)) (t : TypeId) (cs : Array Value) (fr : Nat × Nat) (d : TypeDesc) (hg : w.heap[g]? = some (.cells cs t fr))
    (hu : P.underlying ty = some d) (hd : (match d with | .struct _ | .array _ _ => true | _ => false) = true) (hi : (P.info? ty).map (·.size) = some cs.size) : (execOp ev o).run P w = .ok (.value (.agg cs)) w := by
  unfold execOp
  simp only [ho, hx, Instr.loadAt, Instr.sureAddr, Sem.run_bind, Sem.run_pure, Result.andThen_ok, run_loadVar_row w g t ty cs fr d hg hu hd hi]
def WPost {S : Type} (I : S → (Nat → Prop) → World → Prop) (O : Nat → Prop) (w : World) (r : Bool × S) (e : Ending) (w' : World) : Prop := e = .returned (.bool r.1) ∧ (∃ O', I r.2 O' w' ∧ ∀ j, O' j → O j ∨ w.heap.size ≤ j) ∧ FrO O w w'
set_option maxRecDepth 100000 in
set_option maxHeartbeats 4000000 in
theorem walk_gen {S : Type} {step : S → Tr → ByteArray → Nat → Bool × S} {G : S → Tr → Prop} {I : S → (Nat → Prop) → World → Prop} {B Z g : Nat} {lb : Array Value} (V : VisitG step G I B Z g lb) :
    ∀ (N : Nat), ∀ (t : Tr), t.count ≤ N → t.sz ≤ Z → Z ≤ 2000000000 → ∀ (p : ByteArray) (l : Nat), 1 ≤ l → p.size + l + t.ks.wt ≤ 100000000 → ∀ (s : S) (O : Nat → Prop) (v : Value) (w : World), goodT step G t p l s → I s O w → B ≤ w.heap.size → TreeR w B v t →
      Calls Tryz.prog 80 #[v, .string p, .int .i64 (l : Int), .func (.func g) #[] lb] w (WPost I O w (walkT step t p l s))
  | 0, t, ht, _, _, _, _, _, _, _, _, _, _, _, _, _, _ => by unfold Tr.count at ht; omega
  | N + 1, t, ht, hsz, hZ, p, l, hl1, hpl, s, O, v, w, hgd, hI, hBw, hv => by
    have HG := hide hgd
    have IH := hide (walk_gen V N)
    have HVO := hide V
    have HI := hide hI
    have HV := hide hv
    have HW := hide (walkT_eq step t p l s)
    obtain ⟨A, c, A2, c2, rfl, hk, -⟩ := hv.open
    have HL0 := hide (Left.of hk)
    have eg := V.enters
    have hOB : ∀ j, O j → B ≤ j := fun j h => (V.own _ _ _ _ hI h).1
    have HOB := hide hOB
    clear hv hk hI V hOB hgd
    have HL : Live w [] := trivial
    go_enter Tryz.func80, Tryz.ntmps80
    go_upto_region 1 with fail
    have HN := hide (NodeB.new w t.h (.slice A t.ks.len c) (.slice A2 t.ss.length c2))
    have hbelA : Below w.heap.size w (w.alloc (.cells (t.h.cells (.slice A t.ks.len c) (.slice A2 t.ss.length c2)) 25)) := by (exact bl)
    have HI1 := hide (HVO.out.keepN _ _ _ (t.h.cells (.slice A t.ks.len c) (.slice A2 t.ss.length c2)) HI.out)
    have hb0 : ¬ O w.heap.size := fun h => by have := (HVO.out.own _ _ _ _ HI.out h).2; omega
    have hB1 : B ≤ (w.alloc (.cells (t.h.cells (.slice A t.ks.len c) (.slice A2 t.ss.length c2)) 25)).heap.size := Nat.le_trans hBw hbelA.size
    have HV1 := hide (HV.out.below (hbelA.mono hBw))
    generalize w.alloc (.cells (t.h.cells (.slice A t.ks.len c) (.slice A2 t.ss.length c2)) 25) = W1 at *
    obtain ⟨b, hb⟩ : ∃ b, b = w.heap.size := ⟨_, rfl⟩
    rw [← hb] at HN hb0 ⊢
    have hbw : w.heap.size ≤ b := by omega
    clear hb HV HI
    have VS := hide (HVO.out.visit s t p l (.agg (t.h.cells (.slice A t.ks.len c) (.slice A2 t.ss.length c2))) O W1 HG.out.1 hsz hl1 (by omega) HI1.out hB1 HV1.out)
    obtain ⟨ok, s1, hst⟩ : ∃ ok s1, step s t p l = (ok, s1) := ⟨_, _, rfl⟩
    have HG2 := hide HG.out.2
    rw [hst] at VS HW HG2
    clear hst HG
    cases ok
    case false =>
      have HR := hide (show walkT step t p l s = (false, s1) from HW.out)
      go_wp2_with (first | (refine wpList_load_row rfl 25 (.tmp 4) rfl b rfl 25 (t.h.cells (.slice A t.ks.len c) (.slice A2 t.ss.length c2)) (0, 0) _ HN.out.blk Tryz.underlying25 rfl (infN (Hd.size _ _ _)) ?_) | (go_at_fn g; refine VS.out.mono ?_; rintro e w3 ⟨rfl, ⟨O3, hI3, hO3⟩, hf3⟩))
      go_ret
      exact ⟨by rw [HR.out]; rfl, ⟨O3, by rw [HR.out]; exact hI3, fun j h => (hO3 j h).elim Or.inl (fun h2 => Or.inr (Nat.le_trans hbelA.size h2))⟩, (FrO.of hbelA).trans hf3 (fun j h => Or.inl h)⟩
    case true =>
    have HR := hide (show walkT step t p l s = walkF step t.ks p l s1 from HW.out)
    have HG3 := hide (show goodF step G t.ks p l s1 from HG2.out rfl)
    clear HW HG2
    go_upto_region 3 with (first | (refine wpList_load_row rfl 25 (.tmp 4) rfl b rfl 25 (t.h.cells (.slice A t.ks.len c) (.slice A2 t.ss.length c2)) (0, 0) _ HN.out.blk Tryz.underlying25 rfl (infN (Hd.size _ _ _)) ?_) | (go_at_fn g; refine VS.out.mono ?_; rintro e w3 ⟨rfl, ⟨O3, hI3, hO3⟩, hf3⟩))
    have e10 := (NodeB.mk (hf3.blk HN.out.blk hb0)).c10
    have hF3 : FrO O w w3 := (FrO.of hbelA).trans hf3 (fun j h => Or.inl h)
    have hO3' : ∀ j, O3 j → O j ∨ w.heap.size ≤ j := fun j h => (hO3 j h).elim Or.inl (fun h2 => Or.inr (Nat.le_trans hbelA.size h2))
    have hts := t.ks.len_sz
    have hlk2 : t.ks.len ≤ 2000000000 := by unfold Tr.sz at hsz; omega
    clear VS HN HI1 HV1 hb0 hB1 hbelA hbw hf3 hO3 hts
    go_wp2_with fail
    clear e10
    go_loopw [20] (fun i wr => ∃ (k : Nat) (r : Fo) (s' : S) (O' : Nat → Prop), i = .int .i64 (k : Int) ∧ k + r.len = t.ks.len ∧ r.count + 1 ≤ t.count ∧ r.sz ≤ t.sz ∧ r.wt ≤ t.ks.wt ∧ Left w B A r k ∧ I s' O' wr ∧ (∀ j, O' j → O j ∨ w.heap.size ≤ j) ∧ FrO O w wr ∧ walkF step t.ks p l s1 = walkF step r p l s' ∧ goodF step G r p l s') (fun i _ => t.ks.len - (intOf i).toNat)
    case atStart => exact ⟨0, t.ks, s1, O3, rfl, by omega, by unfold Tr.count; omega, by unfold Tr.sz; omega, by omega, HL0.out, hI3, hO3', hF3, rfl, HG3.out⟩
    case round =>
      clear HL0 hI3 hO3' hF3 HG3
      obtain ⟨k, r, s', O', rfl, hkr, hrc, hrs, hrw, hl, hI', hO', hF, hwf, hgr⟩ := hrel
      have HGR := hide hgr
      have HLr := hide hl
      have HI' := hide hI'
      have HO' := hide hO'
      have HF := hide hF
      have HC := hide hwf
      clear hl hI' hO' hF hwf hgr
      cases r with
      | nil =>
        rw [Fo.len_nil] at hkr
        obtain rfl : k = t.ks.len := by omega
        have HZ := hide (show walkT step t p l s = (true, s') by rw [HR.out, HC.out]; rfl)
        go_wp2_with fail
        go_ret
        exact ⟨by rw [HZ.out]; rfl, ⟨O', by rw [HZ.out]; exact HI'.out, HO'.out⟩, HF.out⟩
      | node h ss ks nx =>
      rw [Fo.len_node] at hkr
      rw [Fo.count_node] at hrc
      rw [Fo.sz_node] at hrs
      rw [Fo.wt_node] at hrw
      have hlt : k < t.ks.len := by omega
      have hBl : Below B w wr := HF.out.below hBw HOB.out
      obtain ⟨go, o, kc, rfl, hg, hr, hz, h1c, htr, hln⟩ := HLr.out.next
      have R1 := hide (range_below hBl hg hr)
      have HLn := hide hln
      have HZ := hide hz
      have H1C := hide h1c
      have HT := hide (htr.below hBl)
      have hBr : B ≤ wr.heap.size := Nat.le_trans hBw HF.out.size
      clear hr hz h1c htr hln HLr
      go_upto_region 6 with (first | (refine wpList_load_midA rfl 25 (.tmp 22) rfl go (o + k * 12) rfl kc _ R1.out Tryz.underlying25 rfl (infNl HZ.out) ?_) | (refine wpList_store_new rfl 25 (.tmp 10) (.tmp 23) rfl kc rfl rfl 25 _ (infN HZ.out) (by rw [HZ.out]; rfl) H1C.out ?_))
      have hbN : Below wr.heap.size wr (wr.alloc (.cells kc 25)) := (Below.refl _ _).alloc (Nat.le_refl _) _
      have HD := hide (show Blk (wr.alloc (.cells kc 25)) wr.heap.size kc 25 from Blk.newAt rfl)
      have HI5 := hide (HVO.out.keepN _ _ _ kc HI'.out)
      have hdO : ¬ O' wr.heap.size := fun h => by have := (HVO.out.own _ _ _ _ HI'.out h).2; omega
      have hF5 : FrO O w (wr.alloc (.cells kc 25)) := HF.out.trans (FrO.of (O := O') hbN) HO'.out
      have HT5 := hide (HT.out.below (hbN.mono hBr))
      have hB5 : B ≤ (wr.alloc (.cells kc 25)).heap.size := Nat.le_trans hBr hbN.size
      generalize wr.alloc (.cells kc 25) = W5 at *
      generalize wr.heap.size = d at *
      clear hbN HI' HF HT hBr hBl R1
      obtain ⟨q, hq⟩ : ∃ q, belowP p h.name l = q := ⟨_, rfl⟩
      have hqs : q.size ≤ p.size + 1 + h.name.size := by rw [← hq]; exact bel_size p h.name l
      have hpn : p.size + h.name.size ≤ 2000000000 := by omega
      have hIdr : I s' O' W5.drew := HVO.out.keepD _ _ _ HI5.out
      have WK0 := IH.out ⟨h, ss, ks⟩ (by show ks.count + 1 ≤ N; omega) (by show h.sz + szS ss + ks.sz ≤ Z; omega) hZ q (l + 1) (by omega) (by show q.size + (l + 1) + ks.wt ≤ 100000000; omega) s' O' (.agg kc) W5.drew (by have := (goodF_node.1 HGR.out).1; rw [hq] at this; exact this) hIdr hB5 (HT5.out.below ((Below.refl _ _).drew))
      obtain ⟨ok, s2, hst⟩ : ∃ ok s2, walkT step ⟨h, ss, ks⟩ q (l + 1) s' = (ok, s2) := ⟨_, _, rfl⟩
      have HGN := hide (goodF_node.1 HGR.out).2
      rw [hq, hst] at HGN
      have HW2 := hide (show walkF step t.ks p l s1 = if ok = true then walkF step nx p l s2 else (ok, s2) by rw [HC.out, walkF_node, hq, hst])
      rw [hst] at WK0
      have WK := hide (show Calls Tryz.prog 80 #[.agg kc, .string q, .int .i64 ((l : Int) + 1), .func (.func g) #[] lb] W5.drew (WPost I O' W5.drew (ok, s2)) from WK0)
      have BE := hide (fun W => below_any p h.name l hpn W)
      rw [hq] at BE
      have hkeepd : Blk W5.drew d kc 25 ∧ W5.drew.cell? ⟨d, 0, none⟩ = some (.string h.name) := ⟨HD.out, (HD.out.cells 0).trans HT5.out.c0⟩
      have hkeep : Blk W5 d kc 25 ∧ W5.cell? ⟨d, 0, none⟩ = some (.string h.name) := hkeepd
      have hl64 : IntKind.i64.wrap ((l : Int) + 1) = (l : Int) + 1 := IntWalk.i64_in _ (by omega)
      clear hst WK0 IH HC hq hIdr
      refine wp_region_noPanic ?_
      refine wp_region_held_drew (S := (fun z => Blk z d kc 25 ∧ z.cell? ⟨d, 0, none⟩ = some (.string h.name))) (by kernel_rfl) kp (fun hHeld => ?_)
      refine tkZ 0 ⟨some 24, .load 25 (.tmp 10), 25, "sourcetree.go:52", #[], none⟩ ?_ (by intro w hSw; (try dsimp only at hSw); refine (exec_load_row 25 (.tmp 10) (by rfl) d (by rfl) 25 kc (0, 0) _ hSw.1 Tryz.underlying25 (by rfl) (infN HZ.out)).trans ?_; with_reducible rfl)
      refine tkZ 1 ⟨some 25, .move (.tmp 1), 9, "sourcetree.go:52", #[], none⟩ ?_
      refine tkZ 2 ⟨some 26, .fieldAddr 25 (.tmp 10) 0, 0, "sourcetree.go:52", #[], none⟩ ?_
      refine tkZ 3 ⟨some 27, .load 9 (.tmp 26), 9, "sourcetree.go:52", #[⟨2, .data⟩], none⟩ ?_ (by intro w hSw; (try dsimp only at hSw); have c1 := hSw.2; go_simp; (try with_reducible rfl))
      refine tkZ 4 ⟨some 28, .move (.tmp 2), 3, "sourcetree.go:52", #[], none⟩ ?_
      refine tkZ 5 ⟨some 29, .binOp .add 3 (.tmp 28) (.const (.int .i64 1)) 3, 3, "sourcetree.go:52", #[⟨4, .data⟩], none⟩ ?_
      refine tkZ 7 ⟨some 31, .move (.tmp 2), 3, "sourcetree.go:52", #[], none⟩ ?_
      refine tkZ 8 ⟨some 32, .binOp .add 3 (.tmp 31) (.const (.int .i64 1)) 3, 3, "sourcetree.go:52", #[⟨7, .data⟩], none⟩ ?_
      refine tkZ 9 ⟨some 33, .move (.tmp 3), 101, "sourcetree.go:52", #[], none⟩ ?_
      refine rqS [6] (rqC ⟨some 30, .call ⟨.value (.func 114), #[.tmp 25, .tmp 27, .tmp 29], #[9, 9, 3]⟩, 9, "sourcetree.go:52", #[⟨1, .data⟩, ⟨3, .data⟩, ⟨5, .data⟩], none⟩ (fun K hK => ?_) rq0)
      go_simp
      (go_at_call 114; (with_reducible refine (BE.out _).mono ?_); rintro e w' ⟨rfl, rfl⟩)
      go_wp2_with fail
      refine hK.out _ _ kp (fun hHeld => ?_)
      clear hK K
      try simp only [PT]
      refine rqS [10] (rqC ⟨some 34, .call ⟨.value (.func 80), #[.tmp 24, .tmp 30, .tmp 32, .tmp 33], #[25, 9, 3, 101]⟩, 4, "sourcetree.go:52", #[⟨0, .data⟩, ⟨6, .data⟩, ⟨8, .data⟩, ⟨9, .data⟩, ⟨6, .chain⟩], none⟩ (fun K hK => ?_) rq0)
      go_simp
      (go_at_call 80; (with_reducible refine (WK.out ).mono ?_); rintro e w8 ⟨rfl, ⟨O8, hI8, hO8⟩, hf8⟩; have hkeep8 : Blk w8 d kc 25 ∧ w8.cell? ⟨d, 0, none⟩ = some (.string h.name) := ⟨hf8.blk hkeepd.1 hdO, ((hf8.blk hkeepd.1 hdO).cells 0).trans HT5.out.c0⟩)
      go_wp2_with fail
      refine hK.out _ _ kp (fun hHeld => ?_)
      clear hK K
      try simp only [PT]
      refine tkZ 11 ⟨some 35, .unOp .not 4 (.tmp 34), 4, "sourcetree.go:52", #[⟨10, .data⟩], none⟩ ?_
      refine wpAnyH_done (by kernel_rfl) ?_ _
      refine NoPanic.normal ?_
      have hdr : Below W5.heap.size W5 W5.drew := (Below.refl _ _).drew
      have hO8' : ∀ j, O8 j → O j ∨ w.heap.size ≤ j := fun j h => (hO8 j h).elim (HO'.out j) (fun h2 => Or.inr (Nat.le_trans hF5.size h2))
      have hF8 : FrO O w w8 := (hF5.trans (FrO.of (O := O) hdr) (fun j h => Or.inl h)).trans hf8 HO'.out
      clear hkeep hkeepd hkeep8 hHeld hl64
      cases ok
      case true =>
        have HE := hide (show walkF step t.ks p l s1 = walkF step nx p l s2 from HW2.out)
        go_wp2_with fail
        go_roundw
        case rel => exact ⟨k + 1, nx, s2, O8, by go_num, by omega, by omega, by omega, by omega, HLn.out, hI8, hO8', hF8, HE.out, HGN.out rfl⟩
        case measure => simp [intOf]; omega
      case false =>
        have HE := hide (show walkT step t p l s = (false, s2) by rw [HR.out, HW2.out]; rfl)
        go_wp2_with fail
        go_ret
        exact ⟨by rw [HE.out]; rfl, ⟨O8, by rw [HE.out]; exact hI8, hO8'⟩, hF8⟩
theorem walk_any {S : Type} {step : S → Tr → ByteArray → Nat → Bool × S} {G : S → Tr → Prop} {I : S → (Nat → Prop) → World → Prop} {B Z g : Nat} {lb : Array Value} (V : VisitOK step G I B Z g lb) :
    ∀ (N : Nat), ∀ (t : Tr), t.count ≤ N → t.sz ≤ Z → Z ≤ 2000000000 → ∀ (p : ByteArray) (l : Nat), 1 ≤ l → p.size + l + t.ks.wt ≤ 100000000 → ∀ (s : S) (O : Nat → Prop) (v : Value) (w : World), goodT step G t p l s → I s O w → B ≤ w.heap.size → TreeR w B v t →
      Calls Tryz.prog 80 #[v, .string p, .int .i64 (l : Int), .func (.func g) #[] lb] w (WPost I O w (walkT step t p l s)) := walk_gen V.gen
end Go.Proofs.YtocgindpjjolpaaGreatDoor
