/- Contracts and plain words for the laws of this chapter, part 20: Fw7, Fw8. No condition. -/
import Derived.Test.YtocgindpjjolpaaGreatDoorG19
namespace Go.Proofs.YtocgindpjjolpaaGreatDoor
set_option linter.unusedSimpArgs false
set_option linter.unusedVariables false
open Go.RowKit Go.Sort
def extC (f : Ext) : List Value := [.string f.path, .int .i64 f.start, .int .i64 f.len]
def extV (l : List Ext) : List Value := l.flatMap extC
theorem extV_snoc (l : List Ext) (f : Ext) : extV l ++ (#[Value.string f.path, .int .i64 f.start, .int .i64 f.len] : Array Value).toList = extV (l ++ [f]) := by
  unfold extV
  rw [List.flatMap_append]
  rfl
theorem fileInfo : (Tryz.prog.info? 69).map (fun i => (i.zero, i.size, i.bytes)) = some (some (.agg #[.string ⟨#[]⟩, .int .i64 0, .int .i64 0]), 3, 32) := by kernel_rfl
theorem valuesC (a : Option Addr) (n c : Nat) (w : World) : Calls Tryz.prog 43 #[.slice a n c] w fun e w' => ∃ c', e = .returned (.func (.func 72) #[] #[.pointer (some ⟨c', 0, none⟩)]) ∧ w.heap.size ≤ c' ∧ Blk w' c' #[.slice a n c] 26 ∧ Below w.heap.size w w' :=
  (values_any a n c w).mono fun e w' ⟨h1, h2⟩ => by
    subst h2
    exact ⟨_, h1, Nat.le_refl _, Blk.newAt rfl, (Below.refl _ _).alloc (Nat.le_refl _) _⟩
theorem blocks_rng {n : Int} (h : 0 ≤ n) : 0 ≤ blocksI n ∧ blocksI n ≤ n := by
  unfold blocksI
  split
  · omega
  · omega
theorem placeT_no {t : Tr} {o : List ByteArray} {s : Int} (h : ¬ (validB t = true ∧ 0 ≤ s ∧ sameB o (filesT t) = true)) : placeT t o s = ([], 1) := by unfold placeT; rw [if_neg h]
theorem placeT_yes {t : Tr} {o : List ByteArray} {s : Int} (h : validB t = true ∧ 0 ≤ s ∧ sameB o (filesT t) = true) : placeT t o s = match placeL t o s [] with | some l => (l, 0) | none => ([], 12) := by unfold placeT; rw [if_pos h]; cases placeL t o s [] <;> rfl
theorem lenP_le {t : Tr} {n : Nat} (h : t.sz ≤ n) (h20 : 20 ≤ n) (p : ByteArray) : lenP t p ≤ n := by
  have h1 := getT_sz (p := p) h h20
  unfold lenP
  unfold Tr.sz Hd.sz at h1
  omega
theorem placeL_step {t : Tr} {l : List ByteArray} {k : Nat} {p : ByteArray} (h : l[k]? = some p) (a : Int) (out : List Ext) : placeL t (l.drop k) a out = if 4096 - blocksI (lenP t p) < a then none else placeL t (l.drop (k + 1)) (a + blocksI (lenP t p)) (out ++ [⟨p, a, lenP t p⟩]) := by
  obtain ⟨hk, e⟩ := List.getElem?_eq_some_iff.1 h
  rw [List.drop_eq_getElem_cons hk, e, placeL]
set_option maxRecDepth 100000 in
set_option maxHeartbeats 8000000 in
theorem place_any (t : Tr) (order : List ByteArray) (start : Int) (hsz : t.sz ≤ 120000) (hol : order.length ≤ 100000) (hos : ∀ p ∈ order, p.size ≤ 2000000) (hst : -9223372036854775808 ≤ start ∧ start ≤ 9223372036854775807) (v vo : Value) (w : World) (hT : TabV w) (hv : TreeR w w.heap.size v t) (ho : SlR w w.heap.size vo order) :
    Calls Tryz.prog 22 #[v, vo, .int .i64 start] w fun e w' => ∃ r, e = .returned (.tuple #[r, .int .i64 (placeT t order start).2]) ∧ w'.ownsRow w.heap.size 69 3 r (placeT t order start).1.length (extV (placeT t order start).1) ∧ Below w.heap.size w w' := by
  have FN := hide (fun W hTW hW => files_any t hsz v W hTW hW)
  have VN := hide (fun W hTW hW => valid_any t (Or.inl hsz) v W hTW hW)
  have LN := hide (fun p hp W hTW hW => length_any t p hsz hp v W hTW hW)
  have hfl : (filesT t).length ≤ 6000 := by have h1 := files_len t; have h2 := t.count_sz; omega
  have HOS := hide hos
  obtain ⟨cn, rfl, hzc⟩ := Nd.cells hv
  have HV := hide hv
  have HO := hide ho
  obtain ⟨aO, cO, rfl, -⟩ := ho
  clear hv hos
  have HL : Live w [] := trivial
  go_enter Tryz.func22, Tryz.ntmps22
  go_upto_region 1 with fail
  have HN1 := hide (Nd.new HV.out hzc)
  have hbel1 : Below w.heap.size w (w.alloc (.cells cn 25)) := (Below.refl _ _).alloc (Nat.le_refl _) _
  have HT1 := hide (hT.below hbel1)
  generalize w.alloc (.cells cn 25) = W1 at *
  obtain ⟨b, hb⟩ : ∃ b, b = w.heap.size := ⟨_, rfl⟩
  rw [← hb] at HN1 ⊢
  clear hb HV hzc hT
  have HO1 := hide ((HO.out.below hbel1).mono hbel1.size)
  have PVA := hide (show ∀ W, Below W1.heap.size W1 W → Calls Tryz.prog 56 #[.agg cn] W fun e w' => e = .returned (.bool (validB t)) ∧ Below W.heap.size W w' from fun W hW => VN.out W (HT1.out.below hW) (HN1.out.2.1.later hW))
  have hk0 : Below W1.heap.size W1 W1 ∧ True := ⟨Below.refl _ _, trivial⟩
  have hk0d : Below W1.heap.size W1 W1.drew ∧ True := ⟨(Below.refl W1.heap.size W1).drew, trivial⟩
  clear VN HO
  cases hvd : validB t with
  | false =>
    have HZ := hide (placeT_no (t := t) (o := order) (s := start) (fun e => by rw [hvd] at e; exact absurd e.1 (by decide)))
    rw [hvd] at PVA
    clear hvd
    refine wp_region_noPanic ?_
    refine wp_region_held_drew (S := (fun z => Below W1.heap.size W1 z ∧ True)) (by kernel_rfl) kp (fun hHeld => ?_)
    refine tkZ 0 ⟨some 12, .load 25 (.tmp 3), 25, "fileorder.go:83", #[], none⟩ ?_ (by intro w hSw; (try dsimp only at hSw); refine (exec_load_row 25 (.tmp 3) (by rfl) b (by rfl) 25 cn (0, 0) _ (Blk.below hSw.1 HN1.out.1) Tryz.underlying25 (by rfl) (infN HN1.out.2.2)).trans ?_; with_reducible rfl)
    refine rqS [1] (rqC ⟨some 13, .call ⟨.value (.func 56), #[.tmp 12], #[25]⟩, 4, "fileorder.go:83", #[⟨0, .data⟩], none⟩ (fun K hK => ?_) rq0)
    go_simp
    (go_at_call 56; (with_reducible refine (PVA.out _ hHeld.1).mono ?_); rintro e w8 ⟨rfl, hb8⟩; have hk8 : Below W1.heap.size W1 w8 ∧ True := ⟨hHeld.1.trans (hb8.mono hHeld.1.size), trivial⟩)
    go_wp2_with fail
    refine hK.out _ _ kp (fun hHeld => ?_)
    clear hK K
    try simp only [PT]
    refine tkZ 2 ⟨some 14, .unOp .not 4 (.tmp 13), 4, "fileorder.go:83", #[⟨1, .data⟩], none⟩ ?_
    refine tkZ 3 ⟨some 15, .move (.tmp 14), 4, "fileorder.go:83", #[⟨2, .data⟩, ⟨1, .chain⟩], none⟩ ?_
    refine tkM 4 ⟨some 16, .move (.tmp 2), 3, "fileorder.go:83", #[⟨3, .guard⟩], some (3, false)⟩ ?_
    refine tkM 5 ⟨some 17, .binOp .lss 3 (.tmp 16) (.const (.int .i64 0)) 3, 4, "fileorder.go:83", #[⟨4, .data⟩, ⟨3, .guard⟩], some (3, false)⟩ ?_
    refine tkZ 6 ⟨some 18, .pick (.tmp 15) (.const (.bool true)) (.tmp 17), 4, "fileorder.go:83", #[⟨3, .data⟩, ⟨5, .data⟩], none⟩ ?_
    refine tkZ 7 ⟨some 19, .move (.tmp 18), 4, "fileorder.go:83", #[⟨6, .data⟩, ⟨3, .chain⟩], none⟩ ?_
    refine tkM 8 ⟨some 20, .move (.tmp 1), 26, "fileorder.go:83", #[⟨7, .guard⟩], some (7, false)⟩ ?_
    refine tkM 9 ⟨some 21, .call ⟨.value (.func 43), #[.tmp 20], #[26]⟩, 66, "fileorder.go:83", #[⟨8, .data⟩, ⟨7, .chain⟩, ⟨7, .guard⟩], some (7, false)⟩ ?_
    refine tkM 10 ⟨some 22, .call ⟨.value (.func 42), #[.tmp 21], #[66]⟩, 26, "fileorder.go:83", #[⟨9, .data⟩, ⟨9, .chain⟩, ⟨7, .guard⟩], some (7, false)⟩ ?_
    refine tkM 11 ⟨some 23, .load 25 (.tmp 3), 25, "fileorder.go:83", #[⟨7, .guard⟩], some (7, false)⟩ ?_
    refine tkM 12 ⟨some 24, .call ⟨.value (.func 16), #[.tmp 23], #[25]⟩, 26, "fileorder.go:83", #[⟨11, .data⟩, ⟨10, .chain⟩, ⟨7, .guard⟩], some (7, false)⟩ ?_
    refine tkM 13 ⟨some 25, .call ⟨.value (.func 43), #[.tmp 24], #[26]⟩, 66, "fileorder.go:83", #[⟨12, .data⟩, ⟨12, .chain⟩, ⟨7, .guard⟩], some (7, false)⟩ ?_
    refine tkM 14 ⟨some 26, .call ⟨.value (.func 42), #[.tmp 25], #[66]⟩, 26, "fileorder.go:83", #[⟨13, .data⟩, ⟨13, .chain⟩, ⟨7, .guard⟩], some (7, false)⟩ ?_
    refine tkM 15 ⟨some 27, .call ⟨.value (.func 15), #[.tmp 22, .tmp 26], #[26, 26]⟩, 4, "fileorder.go:83", #[⟨10, .data⟩, ⟨14, .data⟩, ⟨14, .chain⟩, ⟨7, .guard⟩], some (7, false)⟩ ?_
    refine tkM 16 ⟨some 28, .unOp .not 4 (.tmp 27), 4, "fileorder.go:83", #[⟨15, .data⟩, ⟨7, .guard⟩], some (7, false)⟩ ?_
    refine tkZ 17 ⟨some 29, .pick (.tmp 19) (.const (.bool true)) (.tmp 28), 4, "fileorder.go:83", #[⟨7, .data⟩, ⟨16, .data⟩], none⟩ ?_
    refine wpAnyH_done (by kernel_rfl) ?_ _
    refine NoPanic.normal ?_
    go_wp2_with fail
    go_ret2
    rw [HZ.out]
    exact ⟨_, rfl, World.ownsRow_nil _ _ _ _, hbel1.trans (hk8.1.mono hbel1.size)⟩
  | true =>
  rw [hvd] at PVA
  by_cases hs0 : start < 0
  case pos =>
    have HZ := hide (placeT_no (t := t) (o := order) (s := start) (fun e => by omega))
    clear hvd
    refine wp_region_noPanic ?_
    refine wp_region_held_drew (S := (fun z => Below W1.heap.size W1 z ∧ True)) (by kernel_rfl) kp (fun hHeld => ?_)
    refine tkZ 0 ⟨some 12, .load 25 (.tmp 3), 25, "fileorder.go:83", #[], none⟩ ?_ (by intro w hSw; (try dsimp only at hSw); refine (exec_load_row 25 (.tmp 3) (by rfl) b (by rfl) 25 cn (0, 0) _ (Blk.below hSw.1 HN1.out.1) Tryz.underlying25 (by rfl) (infN HN1.out.2.2)).trans ?_; with_reducible rfl)
    refine rqS [1] (rqC ⟨some 13, .call ⟨.value (.func 56), #[.tmp 12], #[25]⟩, 4, "fileorder.go:83", #[⟨0, .data⟩], none⟩ (fun K hK => ?_) rq0)
    go_simp
    (go_at_call 56; (with_reducible refine (PVA.out _ hHeld.1).mono ?_); rintro e w8 ⟨rfl, hb8⟩; have hk8 : Below W1.heap.size W1 w8 ∧ True := ⟨hHeld.1.trans (hb8.mono hHeld.1.size), trivial⟩)
    go_wp2_with fail
    refine hK.out _ _ kp (fun hHeld => ?_)
    clear hK K
    try simp only [PT]
    refine tkZ 2 ⟨some 14, .unOp .not 4 (.tmp 13), 4, "fileorder.go:83", #[⟨1, .data⟩], none⟩ ?_
    refine tkZ 3 ⟨some 15, .move (.tmp 14), 4, "fileorder.go:83", #[⟨2, .data⟩, ⟨1, .chain⟩], none⟩ ?_
    refine tkZ 4 ⟨some 16, .move (.tmp 2), 3, "fileorder.go:83", #[⟨3, .guard⟩], some (3, false)⟩ ?_
    refine tkZ 5 ⟨some 17, .binOp .lss 3 (.tmp 16) (.const (.int .i64 0)) 3, 4, "fileorder.go:83", #[⟨4, .data⟩, ⟨3, .guard⟩], some (3, false)⟩ ?_
    refine tkZ 6 ⟨some 18, .pick (.tmp 15) (.const (.bool true)) (.tmp 17), 4, "fileorder.go:83", #[⟨3, .data⟩, ⟨5, .data⟩], none⟩ ?_
    refine tkZ 7 ⟨some 19, .move (.tmp 18), 4, "fileorder.go:83", #[⟨6, .data⟩, ⟨3, .chain⟩], none⟩ ?_
    refine tkM 8 ⟨some 20, .move (.tmp 1), 26, "fileorder.go:83", #[⟨7, .guard⟩], some (7, false)⟩ ?_
    refine tkM 9 ⟨some 21, .call ⟨.value (.func 43), #[.tmp 20], #[26]⟩, 66, "fileorder.go:83", #[⟨8, .data⟩, ⟨7, .chain⟩, ⟨7, .guard⟩], some (7, false)⟩ ?_
    refine tkM 10 ⟨some 22, .call ⟨.value (.func 42), #[.tmp 21], #[66]⟩, 26, "fileorder.go:83", #[⟨9, .data⟩, ⟨9, .chain⟩, ⟨7, .guard⟩], some (7, false)⟩ ?_
    refine tkM 11 ⟨some 23, .load 25 (.tmp 3), 25, "fileorder.go:83", #[⟨7, .guard⟩], some (7, false)⟩ ?_
    refine tkM 12 ⟨some 24, .call ⟨.value (.func 16), #[.tmp 23], #[25]⟩, 26, "fileorder.go:83", #[⟨11, .data⟩, ⟨10, .chain⟩, ⟨7, .guard⟩], some (7, false)⟩ ?_
    refine tkM 13 ⟨some 25, .call ⟨.value (.func 43), #[.tmp 24], #[26]⟩, 66, "fileorder.go:83", #[⟨12, .data⟩, ⟨12, .chain⟩, ⟨7, .guard⟩], some (7, false)⟩ ?_
    refine tkM 14 ⟨some 26, .call ⟨.value (.func 42), #[.tmp 25], #[66]⟩, 26, "fileorder.go:83", #[⟨13, .data⟩, ⟨13, .chain⟩, ⟨7, .guard⟩], some (7, false)⟩ ?_
    refine tkM 15 ⟨some 27, .call ⟨.value (.func 15), #[.tmp 22, .tmp 26], #[26, 26]⟩, 4, "fileorder.go:83", #[⟨10, .data⟩, ⟨14, .data⟩, ⟨14, .chain⟩, ⟨7, .guard⟩], some (7, false)⟩ ?_
    refine tkM 16 ⟨some 28, .unOp .not 4 (.tmp 27), 4, "fileorder.go:83", #[⟨15, .data⟩, ⟨7, .guard⟩], some (7, false)⟩ ?_
    refine tkZ 17 ⟨some 29, .pick (.tmp 19) (.const (.bool true)) (.tmp 28), 4, "fileorder.go:83", #[⟨7, .data⟩, ⟨16, .data⟩], none⟩ ?_
    refine wpAnyH_done (by kernel_rfl) ?_ _
    refine NoPanic.normal ?_
    go_wp2_with fail
    go_ret2
    rw [HZ.out]
    exact ⟨_, rfl, World.ownsRow_nil _ _ _ _, hbel1.trans (hk8.1.mono hbel1.size)⟩
  case neg =>
  have hsd : decide (start < 0) = false := decide_eq_false hs0
  have PV1 := hide (fun a n c W => valuesC a n c W)
  have PS1 := hide (show ∀ c W, Below W1.heap.size W1 W → W1.heap.size ≤ c → Blk W c #[.slice aO order.length cO] 26 → Calls Tryz.prog 42 #[.func (.func 72) #[] #[.pointer (some ⟨c, 0, none⟩)]] W fun e w' => ∃ r, e = .returned r ∧ StrsR w' W.heap.size r (sortB order) ∧ Below W.heap.size W w' from fun c W h1 h2 h3 => sortedV_any order hol _ W1 W HO1.out h1 c h2 h3)
  have PFI := hide (show ∀ W, Below W1.heap.size W1 W → Calls Tryz.prog 16 #[.agg cn] W fun e w' => ∃ r, e = .returned r ∧ StrsR w' W.heap.size r (filesT t) ∧ Below W.heap.size W w' from fun W hW => FN.out W (HT1.out.below hW) (HN1.out.2.1.later hW))
  have PS2 := hide (show ∀ w0 sv c W, SlR w0 w0.heap.size sv (filesT t) → Below w0.heap.size w0 W → w0.heap.size ≤ c → Blk W c #[sv] 26 → Calls Tryz.prog 42 #[.func (.func 72) #[] #[.pointer (some ⟨c, 0, none⟩)]] W fun e w' => ∃ r, e = .returned r ∧ StrsR w' W.heap.size r (sortB (filesT t)) ∧ Below W.heap.size W w' from fun w0 sv c W h0 h1 h2 h3 => sortedV_any (filesT t) (by omega) sv w0 W h0 h1 c h2 h3)
  have PEQ0 := hide (show ∀ W a b, SlR W W.heap.size a (sortB order) → SlR W W.heap.size b (sortB (filesT t)) → Calls Tryz.prog 15 #[a, b] W fun e w' => e = .returned (.bool (decide (sortB order = sortB (filesT t)))) ∧ Below W.heap.size W w' from fun W a b h1 h2 => sequal_any _ _ a b W.heap.size (by rw [sortB_len]; omega) (by rw [sortB_len]; omega) W h1 h2)
  have hsame : sameB order (filesT t) = decide (sortB order = sortB (filesT t)) := by
    rw [Bool.eq_iff_iff, sameB_iff (files_nodup t), decide_eq_true_iff, sortB_eq]
  have HPL := hide (fun (h : sameB order (filesT t) = true) => placeT_yes (t := t) (o := order) (s := start) ⟨hvd, by omega, h⟩)
  clear FN hvd
  cases hsm : sameB order (filesT t) with
  | false =>
    have HZ := hide (placeT_no (t := t) (o := order) (s := start) (fun e => by rw [hsm] at e; exact absurd e.2.2 (by decide)))
    have PEQ := hide (by have h := PEQ0.out; rw [← hsame, hsm] at h; exact h : ∀ W a b, SlR W W.heap.size a (sortB order) → SlR W W.heap.size b (sortB (filesT t)) → Calls Tryz.prog 15 #[a, b] W fun e w' => e = .returned (.bool false) ∧ Below W.heap.size W w')
    clear PEQ0 hsame hsm HPL
    refine wp_region_noPanic ?_
    refine wp_region_held_drew (S := (fun z => Below W1.heap.size W1 z ∧ True)) (by kernel_rfl) kp (fun hHeld => ?_)
    refine tkZ 0 ⟨some 12, .load 25 (.tmp 3), 25, "fileorder.go:83", #[], none⟩ ?_ (by intro w hSw; (try dsimp only at hSw); refine (exec_load_row 25 (.tmp 3) (by rfl) b (by rfl) 25 cn (0, 0) _ (Blk.below hSw.1 HN1.out.1) Tryz.underlying25 (by rfl) (infN HN1.out.2.2)).trans ?_; with_reducible rfl)
    refine rqS [1] (rqC ⟨some 13, .call ⟨.value (.func 56), #[.tmp 12], #[25]⟩, 4, "fileorder.go:83", #[⟨0, .data⟩], none⟩ (fun K hK => ?_) rq0)
    go_simp
    (go_at_call 56; (with_reducible refine (PVA.out _ hHeld.1).mono ?_); rintro e w8 ⟨rfl, hb8⟩; have hk8 : Below W1.heap.size W1 w8 ∧ True := ⟨hHeld.1.trans (hb8.mono hHeld.1.size), trivial⟩)
    go_wp2_with fail
    refine hK.out _ _ kp (fun hHeld => ?_)
    clear hK K
    try simp only [PT]
    refine tkZ 2 ⟨some 14, .unOp .not 4 (.tmp 13), 4, "fileorder.go:83", #[⟨1, .data⟩], none⟩ ?_
    refine tkZ 3 ⟨some 15, .move (.tmp 14), 4, "fileorder.go:83", #[⟨2, .data⟩, ⟨1, .chain⟩], none⟩ ?_
    refine tkZ 4 ⟨some 16, .move (.tmp 2), 3, "fileorder.go:83", #[⟨3, .guard⟩], some (3, false)⟩ ?_
    refine tkZ 5 ⟨some 17, .binOp .lss 3 (.tmp 16) (.const (.int .i64 0)) 3, 4, "fileorder.go:83", #[⟨4, .data⟩, ⟨3, .guard⟩], some (3, false)⟩ ?_
    refine tkZ 6 ⟨some 18, .pick (.tmp 15) (.const (.bool true)) (.tmp 17), 4, "fileorder.go:83", #[⟨3, .data⟩, ⟨5, .data⟩], none⟩ ?_
    refine tkZ 7 ⟨some 19, .move (.tmp 18), 4, "fileorder.go:83", #[⟨6, .data⟩, ⟨3, .chain⟩], none⟩ ?_
    refine tkZ 8 ⟨some 20, .move (.tmp 1), 26, "fileorder.go:83", #[⟨7, .guard⟩], some (7, false)⟩ ?_
    refine tkZ 11 ⟨some 23, .load 25 (.tmp 3), 25, "fileorder.go:83", #[⟨7, .guard⟩], some (7, false)⟩ ?_ (by intro w hSw; (try dsimp only at hSw); refine (exec_load_row 25 (.tmp 3) (by rfl) b (by rfl) 25 cn (0, 0) _ (Blk.below hSw.1 HN1.out.1) Tryz.underlying25 (by rfl) (infN HN1.out.2.2)).trans ?_; with_reducible rfl)
    refine rqS [9] (rqC ⟨some 21, .call ⟨.value (.func 43), #[.tmp 20], #[26]⟩, 66, "fileorder.go:83", #[⟨8, .data⟩, ⟨7, .chain⟩, ⟨7, .guard⟩], some (7, false)⟩ (fun K hK => ?_) rq0)
    go_simp
    (go_at_call 43; (with_reducible refine (PV1.out _ _ _ _).mono ?_); rintro e w9 ⟨c9, rfl, hc9, hB9, hb9⟩; have hk9 : Below W1.heap.size W1 w9 ∧ True := ⟨hHeld.1.trans (hb9.mono hHeld.1.size), trivial⟩; have hC9 := Nat.le_trans hHeld.1.size hc9)
    go_wp2_with fail
    refine hK.out _ _ kp (fun hHeld => ?_)
    clear hK K
    try simp only [PT]
    refine rqS [10] (rqC ⟨some 22, .call ⟨.value (.func 42), #[.tmp 21], #[66]⟩, 26, "fileorder.go:83", #[⟨9, .data⟩, ⟨9, .chain⟩, ⟨7, .guard⟩], some (7, false)⟩ (fun K hK => ?_) rq0)
    go_simp
    (first | (go_at_call 42; (with_reducible refine (PS1.out c9 _ hHeld.1 hC9 hB9).mono ?_); rintro e w10 ⟨r10, rfl, hr10, hb10⟩; have hk10 : Below W1.heap.size W1 w10 ∧ True := ⟨hHeld.1.trans (hb10.mono hHeld.1.size), trivial⟩; have HR10 := hide (SlR.of hr10)) | (go_at_call 42; (with_reducible refine (PS2.out w11 _ c9 _ HP11.out hb9 hc9 hB9).mono ?_); rintro e w13 ⟨r13, rfl, hr13, hb13⟩; have hk13 : Below W1.heap.size W1 w13 ∧ True := ⟨hHeld.1.trans (hb13.mono hHeld.1.size), trivial⟩; have rA := SlR.later2 (SlR.later2 (SlR.later2 HR10.out HB11.out) hb9) hb13; have rB := SlR.of hr13))
    go_wp2_with fail
    refine hK.out _ _ kp (fun hHeld => ?_)
    clear hK K
    try simp only [PT]
    refine rqS [12] (rqC ⟨some 24, .call ⟨.value (.func 16), #[.tmp 23], #[25]⟩, 26, "fileorder.go:83", #[⟨11, .data⟩, ⟨10, .chain⟩, ⟨7, .guard⟩], some (7, false)⟩ (fun K hK => ?_) rq0)
    go_simp
    (go_at_call 16; (with_reducible refine (PFI.out _ hHeld.1).mono ?_); rintro e w11 ⟨r11, rfl, hr11, hb11⟩; have HP11 := hide (SlR.of hr11); have HB11 := hide hb11; obtain ⟨A11, cp11, hv11⟩ := own_slice hr11; subst hv11; have hk11 : Below W1.heap.size W1 w11 ∧ True := ⟨hHeld.1.trans (hb11.mono hHeld.1.size), trivial⟩)
    go_wp2_with fail
    refine hK.out _ _ kp (fun hHeld => ?_)
    clear hK K
    try simp only [PT]
    refine rqS [13] (rqC ⟨some 25, .call ⟨.value (.func 43), #[.tmp 24], #[26]⟩, 66, "fileorder.go:83", #[⟨12, .data⟩, ⟨12, .chain⟩, ⟨7, .guard⟩], some (7, false)⟩ (fun K hK => ?_) rq0)
    go_simp
    (go_at_call 43; (with_reducible refine (PV1.out _ _ _ _).mono ?_); rintro e w9 ⟨c9, rfl, hc9, hB9, hb9⟩; have hk9 : Below W1.heap.size W1 w9 ∧ True := ⟨hHeld.1.trans (hb9.mono hHeld.1.size), trivial⟩; have hC9 := Nat.le_trans hHeld.1.size hc9)
    go_wp2_with fail
    refine hK.out _ _ kp (fun hHeld => ?_)
    clear hK K
    try simp only [PT]
    refine rqS [14] (rqC ⟨some 26, .call ⟨.value (.func 42), #[.tmp 25], #[66]⟩, 26, "fileorder.go:83", #[⟨13, .data⟩, ⟨13, .chain⟩, ⟨7, .guard⟩], some (7, false)⟩ (fun K hK => ?_) rq0)
    go_simp
    (first | (go_at_call 42; (with_reducible refine (PS1.out c9 _ hHeld.1 hC9 hB9).mono ?_); rintro e w10 ⟨r10, rfl, hr10, hb10⟩; have hk10 : Below W1.heap.size W1 w10 ∧ True := ⟨hHeld.1.trans (hb10.mono hHeld.1.size), trivial⟩; have HR10 := hide (SlR.of hr10)) | (go_at_call 42; (with_reducible refine (PS2.out w11 _ c9 _ HP11.out hb9 hc9 hB9).mono ?_); rintro e w13 ⟨r13, rfl, hr13, hb13⟩; have hk13 : Below W1.heap.size W1 w13 ∧ True := ⟨hHeld.1.trans (hb13.mono hHeld.1.size), trivial⟩; have rA := SlR.later2 (SlR.later2 (SlR.later2 HR10.out HB11.out) hb9) hb13; have rB := SlR.of hr13))
    go_wp2_with fail
    refine hK.out _ _ kp (fun hHeld => ?_)
    clear hK K
    try simp only [PT]
    refine rqS [15] (rqC ⟨some 27, .call ⟨.value (.func 15), #[.tmp 22, .tmp 26], #[26, 26]⟩, 4, "fileorder.go:83", #[⟨10, .data⟩, ⟨14, .data⟩, ⟨14, .chain⟩, ⟨7, .guard⟩], some (7, false)⟩ (fun K hK => ?_) rq0)
    go_simp
    (go_at_call 15; (with_reducible refine Calls.mono (PEQ.out _ _ _ (by with_reducible assumption) (by with_reducible assumption)) ?_); rintro e w14 ⟨rfl, hb14⟩; have hk14 : Below W1.heap.size W1 w14 ∧ True := ⟨hHeld.1.trans (hb14.mono hHeld.1.size), trivial⟩)
    go_wp2_with fail
    refine hK.out _ _ kp (fun hHeld => ?_)
    clear hK K
    try simp only [PT]
    refine tkZ 16 ⟨some 28, .unOp .not 4 (.tmp 27), 4, "fileorder.go:83", #[⟨15, .data⟩, ⟨7, .guard⟩], some (7, false)⟩ ?_
    refine tkZ 17 ⟨some 29, .pick (.tmp 19) (.const (.bool true)) (.tmp 28), 4, "fileorder.go:83", #[⟨7, .data⟩, ⟨16, .data⟩], none⟩ ?_
    refine wpAnyH_done (by kernel_rfl) ?_ _
    refine NoPanic.normal ?_
    go_wp2_with fail
    go_ret2
    rw [HZ.out]
    exact ⟨_, rfl, World.ownsRow_nil _ _ _ _, hbel1.trans (hk14.1.mono hbel1.size)⟩
  | true =>
    have HZ := hide (HPL.out hsm)
    have PEQ := hide (by have h := PEQ0.out; rw [← hsame, hsm] at h; exact h : ∀ W a b, SlR W W.heap.size a (sortB order) → SlR W W.heap.size b (sortB (filesT t)) → Calls Tryz.prog 15 #[a, b] W fun e w' => e = .returned (.bool true) ∧ Below W.heap.size W w')
    clear PEQ0 hsame hsm HPL
    refine wp_region_noPanic ?_
    refine wp_region_held_drew (S := (fun z => Below W1.heap.size W1 z ∧ True)) (by kernel_rfl) kp (fun hHeld => ?_)
    refine tkZ 0 ⟨some 12, .load 25 (.tmp 3), 25, "fileorder.go:83", #[], none⟩ ?_ (by intro w hSw; (try dsimp only at hSw); refine (exec_load_row 25 (.tmp 3) (by rfl) b (by rfl) 25 cn (0, 0) _ (Blk.below hSw.1 HN1.out.1) Tryz.underlying25 (by rfl) (infN HN1.out.2.2)).trans ?_; with_reducible rfl)
    refine rqS [1] (rqC ⟨some 13, .call ⟨.value (.func 56), #[.tmp 12], #[25]⟩, 4, "fileorder.go:83", #[⟨0, .data⟩], none⟩ (fun K hK => ?_) rq0)
    go_simp
    (go_at_call 56; (with_reducible refine (PVA.out _ hHeld.1).mono ?_); rintro e w8 ⟨rfl, hb8⟩; have hk8 : Below W1.heap.size W1 w8 ∧ True := ⟨hHeld.1.trans (hb8.mono hHeld.1.size), trivial⟩)
    go_wp2_with fail
    refine hK.out _ _ kp (fun hHeld => ?_)
    clear hK K
    try simp only [PT]
    refine tkZ 2 ⟨some 14, .unOp .not 4 (.tmp 13), 4, "fileorder.go:83", #[⟨1, .data⟩], none⟩ ?_
    refine tkZ 3 ⟨some 15, .move (.tmp 14), 4, "fileorder.go:83", #[⟨2, .data⟩, ⟨1, .chain⟩], none⟩ ?_
    refine tkZ 4 ⟨some 16, .move (.tmp 2), 3, "fileorder.go:83", #[⟨3, .guard⟩], some (3, false)⟩ ?_
    refine tkZ 5 ⟨some 17, .binOp .lss 3 (.tmp 16) (.const (.int .i64 0)) 3, 4, "fileorder.go:83", #[⟨4, .data⟩, ⟨3, .guard⟩], some (3, false)⟩ ?_
    refine tkZ 6 ⟨some 18, .pick (.tmp 15) (.const (.bool true)) (.tmp 17), 4, "fileorder.go:83", #[⟨3, .data⟩, ⟨5, .data⟩], none⟩ ?_
    refine tkZ 7 ⟨some 19, .move (.tmp 18), 4, "fileorder.go:83", #[⟨6, .data⟩, ⟨3, .chain⟩], none⟩ ?_
    refine tkZ 8 ⟨some 20, .move (.tmp 1), 26, "fileorder.go:83", #[⟨7, .guard⟩], some (7, false)⟩ ?_
    refine tkZ 11 ⟨some 23, .load 25 (.tmp 3), 25, "fileorder.go:83", #[⟨7, .guard⟩], some (7, false)⟩ ?_ (by intro w hSw; (try dsimp only at hSw); refine (exec_load_row 25 (.tmp 3) (by rfl) b (by rfl) 25 cn (0, 0) _ (Blk.below hSw.1 HN1.out.1) Tryz.underlying25 (by rfl) (infN HN1.out.2.2)).trans ?_; with_reducible rfl)
    refine rqS [9] (rqC ⟨some 21, .call ⟨.value (.func 43), #[.tmp 20], #[26]⟩, 66, "fileorder.go:83", #[⟨8, .data⟩, ⟨7, .chain⟩, ⟨7, .guard⟩], some (7, false)⟩ (fun K hK => ?_) rq0)
    go_simp
    (go_at_call 43; (with_reducible refine (PV1.out _ _ _ _).mono ?_); rintro e w9 ⟨c9, rfl, hc9, hB9, hb9⟩; have hk9 : Below W1.heap.size W1 w9 ∧ True := ⟨hHeld.1.trans (hb9.mono hHeld.1.size), trivial⟩; have hC9 := Nat.le_trans hHeld.1.size hc9)
    go_wp2_with fail
    refine hK.out _ _ kp (fun hHeld => ?_)
    clear hK K
    try simp only [PT]
    refine rqS [10] (rqC ⟨some 22, .call ⟨.value (.func 42), #[.tmp 21], #[66]⟩, 26, "fileorder.go:83", #[⟨9, .data⟩, ⟨9, .chain⟩, ⟨7, .guard⟩], some (7, false)⟩ (fun K hK => ?_) rq0)
    go_simp
    (first | (go_at_call 42; (with_reducible refine (PS1.out c9 _ hHeld.1 hC9 hB9).mono ?_); rintro e w10 ⟨r10, rfl, hr10, hb10⟩; have hk10 : Below W1.heap.size W1 w10 ∧ True := ⟨hHeld.1.trans (hb10.mono hHeld.1.size), trivial⟩; have HR10 := hide (SlR.of hr10)) | (go_at_call 42; (with_reducible refine (PS2.out w11 _ c9 _ HP11.out hb9 hc9 hB9).mono ?_); rintro e w13 ⟨r13, rfl, hr13, hb13⟩; have hk13 : Below W1.heap.size W1 w13 ∧ True := ⟨hHeld.1.trans (hb13.mono hHeld.1.size), trivial⟩; have rA := SlR.later2 (SlR.later2 (SlR.later2 HR10.out HB11.out) hb9) hb13; have rB := SlR.of hr13))
    go_wp2_with fail
    refine hK.out _ _ kp (fun hHeld => ?_)
    clear hK K
    try simp only [PT]
    refine rqS [12] (rqC ⟨some 24, .call ⟨.value (.func 16), #[.tmp 23], #[25]⟩, 26, "fileorder.go:83", #[⟨11, .data⟩, ⟨10, .chain⟩, ⟨7, .guard⟩], some (7, false)⟩ (fun K hK => ?_) rq0)
    go_simp
    (go_at_call 16; (with_reducible refine (PFI.out _ hHeld.1).mono ?_); rintro e w11 ⟨r11, rfl, hr11, hb11⟩; have HP11 := hide (SlR.of hr11); have HB11 := hide hb11; obtain ⟨A11, cp11, hv11⟩ := own_slice hr11; subst hv11; have hk11 : Below W1.heap.size W1 w11 ∧ True := ⟨hHeld.1.trans (hb11.mono hHeld.1.size), trivial⟩)
    go_wp2_with fail
    refine hK.out _ _ kp (fun hHeld => ?_)
    clear hK K
    try simp only [PT]
    refine rqS [13] (rqC ⟨some 25, .call ⟨.value (.func 43), #[.tmp 24], #[26]⟩, 66, "fileorder.go:83", #[⟨12, .data⟩, ⟨12, .chain⟩, ⟨7, .guard⟩], some (7, false)⟩ (fun K hK => ?_) rq0)
    go_simp
    (go_at_call 43; (with_reducible refine (PV1.out _ _ _ _).mono ?_); rintro e w9 ⟨c9, rfl, hc9, hB9, hb9⟩; have hk9 : Below W1.heap.size W1 w9 ∧ True := ⟨hHeld.1.trans (hb9.mono hHeld.1.size), trivial⟩; have hC9 := Nat.le_trans hHeld.1.size hc9)
    go_wp2_with fail
    refine hK.out _ _ kp (fun hHeld => ?_)
    clear hK K
    try simp only [PT]
    refine rqS [14] (rqC ⟨some 26, .call ⟨.value (.func 42), #[.tmp 25], #[66]⟩, 26, "fileorder.go:83", #[⟨13, .data⟩, ⟨13, .chain⟩, ⟨7, .guard⟩], some (7, false)⟩ (fun K hK => ?_) rq0)
    go_simp
    (first | (go_at_call 42; (with_reducible refine (PS1.out c9 _ hHeld.1 hC9 hB9).mono ?_); rintro e w10 ⟨r10, rfl, hr10, hb10⟩; have hk10 : Below W1.heap.size W1 w10 ∧ True := ⟨hHeld.1.trans (hb10.mono hHeld.1.size), trivial⟩; have HR10 := hide (SlR.of hr10)) | (go_at_call 42; (with_reducible refine (PS2.out w11 _ c9 _ HP11.out hb9 hc9 hB9).mono ?_); rintro e w13 ⟨r13, rfl, hr13, hb13⟩; have hk13 : Below W1.heap.size W1 w13 ∧ True := ⟨hHeld.1.trans (hb13.mono hHeld.1.size), trivial⟩; have rA := SlR.later2 (SlR.later2 (SlR.later2 HR10.out HB11.out) hb9) hb13; have rB := SlR.of hr13))
    go_wp2_with fail
    refine hK.out _ _ kp (fun hHeld => ?_)
    clear hK K
    try simp only [PT]
    refine rqS [15] (rqC ⟨some 27, .call ⟨.value (.func 15), #[.tmp 22, .tmp 26], #[26, 26]⟩, 4, "fileorder.go:83", #[⟨10, .data⟩, ⟨14, .data⟩, ⟨14, .chain⟩, ⟨7, .guard⟩], some (7, false)⟩ (fun K hK => ?_) rq0)
    go_simp
    (go_at_call 15; (with_reducible refine Calls.mono (PEQ.out _ _ _ (by with_reducible assumption) (by with_reducible assumption)) ?_); rintro e w14 ⟨rfl, hb14⟩; have hk14 : Below W1.heap.size W1 w14 ∧ True := ⟨hHeld.1.trans (hb14.mono hHeld.1.size), trivial⟩)
    go_wp2_with fail
    refine hK.out _ _ kp (fun hHeld => ?_)
    clear hK K
    try simp only [PT]
    refine tkZ 16 ⟨some 28, .unOp .not 4 (.tmp 27), 4, "fileorder.go:83", #[⟨15, .data⟩, ⟨7, .guard⟩], some (7, false)⟩ ?_
    refine tkZ 17 ⟨some 29, .pick (.tmp 19) (.const (.bool true)) (.tmp 28), 4, "fileorder.go:83", #[⟨7, .data⟩, ⟨16, .data⟩], none⟩ ?_
    refine wpAnyH_done (by kernel_rfl) ?_ _
    refine NoPanic.normal ?_
    have hbel5 := hbel1.trans (hk14.1.mono hbel1.size)
    have HO5 := hide (HO1.out.later2 hk14.1)
    have HN5 := hide (HN1.out.below hk14.1)
    have HT5 := hide (HT1.out.below hk14.1)
    obtain ⟨A', c', ev, hps⟩ := HO5.out
    injection ev with ev1 ev2 ev3
    subst ev1; subst ev3
    have HRD := hide hps
    clear hps HO5 HO1 HN1 HT1 hk14 hk13 hk11 hk10 hk9 hk8 hk0 hk0d hb8 hb9 hb10 hb11 hb13 hb14 rA rB hr10 hr11 hr13 HR10 HP11 HB11 hB9 hc9 hC9 PVA PV1 PS1 PFI PS2 PEQ hbel1
    generalize w14 = W5 at *
    go_wp2_with fail
    go_loopw [2, 8, 32] (fun sv ov i wr => ∃ (k : Nat) (a : Int) (out : List Ext), sv = .int .i64 a ∧ i = .int .i64 (k : Int) ∧ k ≤ order.length ∧ 0 ≤ a ∧ a ≤ 9223372036854775807 ∧ out.length = k ∧ placeL t (order.drop k) a out = placeL t order start [] ∧ wr.ownsRow W5.heap.size 69 3 ov out.length (extV out) ∧ Below W5.heap.size W5 wr) (fun _ _ i _ => order.length - (intOf i).toNat)
    case atStart => exact ⟨0, start, [], rfl, rfl, Nat.zero_le _, by omega, by omega, rfl, rfl, World.ownsRow_nil _ _ _ _, Below.refl _ _⟩
    case round =>
      obtain ⟨k, a, out, rfl, rfl, hk, ha0, ha1, hol2, hpl, hown, hbelr⟩ := hrel
      have HPL := hide hpl
      have HO := hide hown
      have HB := hide hbelr
      have hszr := hbelr.size
      obtain ⟨ao, cap, rfl⟩ := own_slice hown
      have hobd : out.length ≤ 100000 := by omega
      have HOL := hide hol2
      clear hown hbelr hpl hol2
      by_cases hlt : k < order.length
      · obtain ⟨p, hp⟩ : ∃ p, order[k]? = some p := ⟨order[k], List.getElem?_eq_getElem hlt⟩
        obtain ⟨g, o, rfl, hg, hcl⟩ := HRD.out (by omega)
        have c0 : wr.cell? ⟨g, o + k, none⟩ = some (.string p) := (HB.out.cell (p := ⟨g, o + k, none⟩) hg).trans (hcl k p hp)
        have hps3 := HOS.out p (List.mem_of_getElem? hp)
        have HNr := hide (HN5.out.below HB.out)
        have LE := hide (LN.out p hps3 wr (HT5.out.below HB.out) HNr.out.2.1)
        have HST := hide (placeL_step (t := t) hp a out)
        have hln := lenP_le hsz (by decide) p
        have BKF := hide (fun W => blocks_any (lenP t p : Int) (by omega) W)
        have hbl := blocks_rng (n := (lenP t p : Int)) (by omega)
        generalize lenP t p = n at *
        generalize blocksI (n : Int) = bl at *
        have hw1 : IntKind.i64.wrap (4096 - bl) = 4096 - bl := IntWalk.i64_in _ (by omega)
        clear hcl hp
        by_cases hfull : 4096 - bl < a
        · have HZ2 := hide (show placeT t order start = ([], 12) by
            rw [HZ.out, ← HPL.out, HST.out, if_pos hfull])
          go_wp2_with (first | ((with_reducible show wpList _ _ _ (Oper.mk (some 36) _ _ _ _ _ :: _) _ _); refine wpList_load_row rfl 25 (.tmp 3) rfl b rfl 25 cn (0, 0) _ HNr.out.1 Tryz.underlying25 rfl (infN HNr.out.2.2) ?_) | (go_at_call 57; (with_reducible refine LE.out.mono ?_); rintro e w6 ⟨rfl, hb6⟩) | (first | (go_at_call 24; (with_reducible refine (BKF.out _).mono ?_); rintro e w' ⟨rfl, rfl⟩)))
          go_ret2
          rw [HZ2.out]
          exact ⟨_, rfl, World.ownsRow_nil _ _ _ _, hbel5.trans ((HB.out.trans (hb6.mono hszr)).mono hbel5.size)⟩
        · have hw2 : IntKind.i64.wrap (a + bl) = a + bl := IntWalk.i64_in _ (by omega)
          have HST2 := hide (show placeL t (order.drop (k + 1)) (a + bl) (out ++ [⟨p, a, n⟩]) = placeL t order start [] by rw [← HPL.out, HST.out, if_neg hfull])
          go_wp2_with (first | ((with_reducible show wpList _ _ _ (Oper.mk (some 36) _ _ _ _ _ :: _) _ _); refine wpList_load_row rfl 25 (.tmp 3) rfl b rfl 25 cn (0, 0) _ HNr.out.1 Tryz.underlying25 rfl (infN HNr.out.2.2) ?_) | (go_at_call 57; (with_reducible refine LE.out.mono ?_); rintro e w6 ⟨rfl, hb6⟩; have HB6 := hide hb6; have HO6 := hide (below_row' HO.out hb6); clear hb6) | (first | (go_at_call 24; (with_reducible refine (BKF.out _).mono ?_); rintro e w' ⟨rfl, rfl⟩)) | (at_builtin; refine wpList_append_blk _ rfl _ _ 37 rfl W5.heap.size 69 fileInfo Tryz.underlying37 rfl (by decide) (.slice ao out.length cap) _ _ (HO6.out.alloc _) w6.heap.size #[.string p, .int .i64 a, .int .i64 (n : Int)] (Blk.newAt rfl) rfl rfl rfl (by simp [Value.oneCell']) (by unfold maxLen; omega) (by omega) (by rw [World.size_alloc]; have := HB6.out.size; omega) ?_; intro v7 w7 hown7 hnb7 hg7))
          have hbel6 := HB.out.trans (HB6.out.mono hszr)
          have hbel7 : Below W5.heap.size W5 w7 := (hbel6.alloc hbel6.size _).grown hg7 (by rw [World.size_alloc]; have := hbel6.size; omega) (fun q hq => (HO6.out.lt q hq).1)
          go_roundw
          case rel => exact ⟨k + 1, a + bl, out ++ [⟨p, a, n⟩], by go_num, by go_num, by omega, by omega, by omega, by rw [List.length_append, HOL.out]; rfl, HST2.out, by rw [List.length_append, ← extV_snoc]; exact hown7, hbel7⟩
          case measure => simp [intOf]; omega
      · obtain rfl : k = order.length := by omega
        have HZ2 := hide (show placeT t order start = (out, 0) by
          rw [HZ.out, ← HPL.out, List.drop_length, placeL])
        go_wp2_with fail
        go_ret2
        rw [HZ2.out]
        exact ⟨_, rfl, own_base HO.out hbel5.size, hbel5.trans (HB.out.mono hbel5.size)⟩
def SlF (w : World) (B : Nat) (v : Value) (l : List Ext) : Prop := ∃ A c, v = .slice A l.length c ∧ (0 < l.length → ∃ g o, A = some ⟨g, o, none⟩ ∧ g < B ∧ ∀ j f, l[j]? = some f → w.rangeAt g (o + j * 3) (extC f))
theorem SlF.below {w w' : World} {B : Nat} {v : Value} {l : List Ext} (hb : Below B w w') (h : SlF w B v l) : SlF w' B v l := by
  obtain ⟨A, c, e, h⟩ := h
  exact ⟨A, c, e, fun h0 => by
    obtain ⟨g, o, e2, hg, hc⟩ := h h0
    exact ⟨g, o, e2, hg, fun j f hf => range_below hb hg (hc j f hf)⟩⟩
theorem SlF.mono {w : World} {B B' : Nat} {v : Value} {l : List Ext} (hB : B ≤ B') (h : SlF w B v l) : SlF w B' v l := by
  obtain ⟨A, c, e, h⟩ := h
  exact ⟨A, c, e, fun h0 => by
    obtain ⟨g, o, e2, hg, hc⟩ := h h0
    exact ⟨g, o, e2, Nat.lt_of_lt_of_le hg hB, hc⟩⟩
theorem extV_at : ∀ {l : List Ext} {j : Nat} {f : Ext}, l[j]? = some f → ∀ (i : Nat) (u : Value), (extC f)[i]? = some u → (extV l)[j * 3 + i]? = some u
  | [], _, _, h, _, _, _ => by simp at h
  | a :: l, 0, f, h, i, u, hu => by
    have e : a = f := by simpa using h
    subst e
    have hi : i < (extC a).length := (List.getElem?_eq_some_iff.1 hu).1
    unfold extV
    rw [List.flatMap_cons, List.getElem?_append_left (by omega), Nat.zero_mul, Nat.zero_add]
    exact hu
  | a :: l, j + 1, f, h, i, u, hu => by
    have h2 := extV_at (l := l) (j := j) (f := f) (by simpa using h) i u hu
    have h3 : (extC a).length = 3 := rfl
    unfold extV at h2 ⊢
    rw [List.flatMap_cons, List.getElem?_append_right (by omega), h3, show (j + 1) * 3 + i - 3 = j * 3 + i by omega]
    exact h2
theorem SlF.of {w : World} {B : Nat} {v : Value} {l : List Ext} (h : w.ownsRow B 69 3 v l.length (extV l)) : SlF w w.heap.size v l := by
  obtain ⟨A, c, rfl⟩ := own_slice h
  refine ⟨A, c, rfl, fun h0 => ?_⟩
  obtain ⟨g, cap, e, _, hl, _, hc⟩ := own_at h h0
  injection e with e1 e2 e3
  subst e1
  exact ⟨g, 0, rfl, hl, fun j f hf i u hu => by rw [Nat.zero_add]; exact hc _ _ (extV_at hf i u hu)⟩
theorem infF {cells : Array Value} (h : cells.size = 3) : (Tryz.prog.info? 69).map (·.size) = some cells.size := by rw [h]; kernel_rfl
abbrev extA (f : Ext) : Array Value := #[.string f.path, .int .i64 f.start, .int .i64 f.len]
def EMap (mb n : Nat) (M : ByteArray → Value) (fs : List Ext) (w : World) : Prop :=
  MapV Tryz.prog 9 (.slice none 0 0) mb n M w ∧ (∀ s, w.ownsRow (mb + 1) 69 3 (M s) (at47 fs s).length (extV (at47 fs s))) ∧ ∀ s s', s ≠ s' → (M s).ownBlock = none ∨ (M s).ownBlock ≠ (M s').ownBlock
theorem at47_snoc (fs : List Ext) (f : Ext) (s : ByteArray) : at47 (fs ++ [f]) s = if f.path = s then at47 fs s ++ [f] else at47 fs s := by
  unfold at47
  rw [List.filter_append]
  by_cases h : f.path = s
  · rw [if_pos h, List.filter_cons_of_pos (by simpa using h)]
    rfl
  · rw [if_neg h, List.filter_cons_of_neg (by simpa using h)]
    simp
theorem EMap.below {mb n : Nat} {M : ByteArray → Value} {fs : List Ext} {w w' : World} (h : EMap mb n M fs w) (hb : Below w.heap.size w w') : EMap mb n M fs w' := ⟨h.1.below hb, fun s => below_row' (h.2.1 s) hb, h.2.2⟩
theorem EMap.next {mb n : Nat} {M : ByteArray → Value} {fs : List Ext} {f : Ext} {w w1 w2 w3 : World} {v : Value} (h : EMap mb n M fs w) (hb : Below w.heap.size w w1) (hg : w1.grownBy w2 (M f.path).ownBlock)
    (hv : w2.ownsRow (mb + 1) 69 3 v ((at47 fs f.path).length + 1) (extV (at47 fs f.path) ++ extC f)) (hnb : v.ownBlock = (M f.path).ownBlock ∨ v.ownBlock = some w1.heap.size) (hg2 : w2.grownBy w3 (some mb))
    (hm : MapV Tryz.prog 9 (.slice none 0 0) mb (n + 1) (fun r => if r = f.path then v else M r) w3) : EMap mb (n + 1) (fun r => if r = f.path then v else M r) (fs ++ [f]) w3 := by
  have hvb : v.ownBlock ≠ some mb := fun e => by have := (hv.lt mb e).1; omega
  have hrow : ∀ s, s ≠ f.path → w3.ownsRow (mb + 1) 69 3 (M s) (at47 fs s).length (extV (at47 fs s)) := fun s hs => by
    have h1 := below_row' (h.2.1 s) hb
    have h2 := h1.kept hg (h.2.2 s f.path hs)
    refine h2.kept hg2 (Or.inr fun e => ?_)
    have := (h1.lt mb e).1
    omega
  refine ⟨hm, fun s => ?_, fun s s' hss => ?_⟩
  · dsimp only
    rw [at47_snoc]
    by_cases hs : s = f.path
    · subst hs
      rw [if_pos rfl, if_pos rfl, List.length_append]
      have e : extV (at47 fs f.path ++ [f]) = extV (at47 fs f.path) ++ extC f := by unfold extV; rw [List.flatMap_append]; simp
      rw [e]
      exact hv.kept hg2 (Or.inr hvb)
    · rw [if_neg hs, if_neg (fun e => hs e.symm)]
      exact hrow s hs
  · dsimp only
    have hnew : ∀ r, r ≠ f.path → (M r).ownBlock = none ∨ (M r).ownBlock ≠ v.ownBlock := fun r hr => by
      rcases hnb with e | e
      · rw [e]; exact h.2.2 r f.path hr
      · rw [e]
        right
        intro e2
        have h1 := (h.2.1 r).lt _ e2
        have h2 := hb.size
        omega
    by_cases h1 : s = f.path
    · by_cases h2 : s' = f.path
      · exact absurd (h1.trans h2.symm) hss
      · rw [if_pos h1, if_neg h2]
        rcases hnew s' h2 with e | e
        · cases hvo : v.ownBlock with
          | none => exact Or.inl rfl
          | some j => right; rw [e]; exact fun e2 => by cases e2
        · exact Or.inr fun e2 => e e2.symm
    · by_cases h2 : s' = f.path
      · rw [if_neg h1, if_pos h2]
        exact hnew s h1
      · rw [if_neg h1, if_neg h2]
        exact h.2.2 s s' hss
theorem EMap.made (w : World) : EMap w.heap.size 0 (fun _ => .slice none 0 0) [] (w.alloc (.map #[] 0)) := ⟨MapV.made _ _ _ _, fun s => World.ownsRow_nil _ _ _ _, fun _ _ _ => Or.inl rfl⟩
theorem costT_big {fs : List Ext} {acc : List ByteArray} (h : 1024 < fs.length ∨ 1024 < acc.length) : costT fs acc = (0, 7) := by unfold costT; rw [if_pos h]
theorem costT_bad {fs : List Ext} {acc : List ByteArray} (h : ¬ (1024 < fs.length ∨ 1024 < acc.length)) (hb : fs.all extB ≠ true) : costT fs acc = (0, 1) := by unfold costT; rw [if_neg h, if_neg hb]
theorem costT_go {fs : List Ext} {acc : List ByteArray} (h : ¬ (1024 < fs.length ∨ 1024 < acc.length)) (hb : fs.all extB = true) : costT fs acc = match costL fs acc (0, 0) with | some s => (s.1, 0) | none => (0, 6) := by unfold costT; rw [if_neg h, if_pos hb]; cases costL fs acc (0, 0) <;> rfl
end Go.Proofs.YtocgindpjjolpaaGreatDoor
