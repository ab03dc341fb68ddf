/- Contracts and plain words for the laws of this chapter, part 12: X7, X8, X15, T5, T6, X16, X17, X18, Pl1. No condition. -/
import Derived.Test.YtocgindpjjolpaaGreatDoorG11
import Derived.Test.YtocgindpjjolpaaGreatDoorG4
import Derived.Lib.AtoiAll
import Derived.Lib.ItoaNum
import Derived.Sort.Walk0
import Derived.Deep.DeepAppendRoom
namespace Go.Proofs.YtocgindpjjolpaaGreatDoor
set_option linter.unusedSimpArgs false
set_option linter.unusedVariables false
open Go.RowKit
theorem kid_some : ∀ {f : Fo} {n : ByteArray} {i : Nat}, kidI f n = some i → ∃ k, f.list[i]? = some k ∧ kidF f n = some k ∧ k.h.name = n
  | .nil, _, _, h => by cases h
  | .node h ss ks nx, n, i, e => by
    by_cases q : h.name = n
    · rw [kidI_hit q] at e
      injection e with e
      subst e
      exact ⟨⟨h, ss, ks⟩, rfl, by rw [kidF, if_pos q], q⟩
    · rw [kidI_miss q] at e
      cases hk : kidI nx n with
      | none => rw [hk] at e; cases e
      | some j =>
        rw [hk] at e
        injection e with e
        obtain ⟨k, h1, h2, h3⟩ := kid_some hk
        exact ⟨k, by rw [← e]; simpa [Fo.list] using h1, by rw [kidF, if_neg q, h2], h3⟩
theorem kid_none : ∀ {f : Fo} {n : ByteArray}, kidI f n = none → kidF f n = none
  | .nil, _, _ => rfl
  | .node h ss ks nx, n, e => by
    by_cases q : h.name = n
    · rw [kidI_hit q] at e; cases e
    · rw [kidI_miss q] at e
      rw [kidF, if_neg q]
      exact kid_none (by cases hk : kidI nx n with
        | none => rfl
        | some j => rw [hk] at e; cases e)
theorem kidI_lt {f : Fo} {n : ByteArray} {i : Nat} (h : kidI f n = some i) : i < f.len := by
  obtain ⟨k, h1, _⟩ := kid_some h
  rw [← Fo.list_len]
  exact (List.getElem?_eq_some_iff.1 h1).1
theorem findT_nil (t : Tr) : findT t [] = some t := rfl
theorem findT_hit {t k : Tr} {n : ByteArray} {l : List ByteArray} (h : kidF t.ks n = some k) : findT t (n :: l) = findT k l := by rw [findT, h]
theorem findT_miss {t : Tr} {n : ByteArray} {l : List ByteArray} (h : kidF t.ks n = none) : findT t (n :: l) = none := by rw [findT, h]
def Down (w0 : World) (At : List ByteArray → Tr → Nat → Nat → Prop) : Prop := ∀ done x b o, At done x b o → b < w0.heap.size ∧ x.ks.len ≤ 2000000000 ∧ ∃ A c, w0.cell? ⟨b, o + 10, none⟩ = some (.slice A x.ks.len c) ∧ Left w0 w0.heap.size A x.ks 0 ∧
  ∀ n i k g o', kidI x.ks n = some i → x.ks.list[i]? = some k → A = some ⟨g, o', none⟩ → At (done ++ [n]) k g (o' + i * 12)
def FndR (At : List ByteArray → Tr → Nat → Nat → Prop) (p : List ByteArray) (v : Option Tr) (r : Option Addr) : Prop := match v with
  | none => r = none
  | some x => ∃ b o, r = some ⟨b, o, none⟩ ∧ At p x b o
theorem nil_list {s : ByteArray} (h : s.toList = []) : s = eS := by
  apply ByteArray.ext
  apply Array.toList_inj.1
  rw [← ByteArray.toList_eq, h]
set_option maxRecDepth 100000 in
set_option maxHeartbeats 4000000 in
theorem find_any (At : List ByteArray → Tr → Nat → Nat → Prop) (t : Tr) (b0 o0 : Nat) (p : ByteArray) (hp : p.size ≤ 2000000) (w : World) (hT : TabV w) (hD : Down w At) (h0 : At [] t b0 o0) :
    Calls Tryz.prog 78 #[.pointer (some ⟨b0, o0, none⟩), .string p] w fun e w' => ∃ r, e = .returned (.pointer r) ∧ FndR At (partsP p) (findT t (partsP p)) r ∧ Below w.heap.size w w' := by
  by_cases hpe : p = eS
  case pos =>
    have HR := hide (show partsP p = [] by unfold partsP; rw [if_pos hpe])
    subst hpe
    have HL : Live w [] := trivial
    go_enter Tryz.func78, Tryz.ntmps78
    go_wp2_with fail
    go_ret
    exact ⟨_, rfl, by rw [HR.out]; exact ⟨b0, o0, rfl, h0⟩, Below.refl _ _⟩
  case neg =>
    have HR := hide (show partsP p = words p by unfold partsP; rw [if_neg hpe])
    have q1 : (p.toList == []) = false := by
      rw [beq_eq_false_iff_ne]
      exact fun e => hpe (nil_list e)
    have hwl := words_len p
    have SP := hide (fun W hTW => by have h := splitC p hp W hTW; rw [← hwl] at h; exact h)
    have HD := hide hD
    have HAt := hide h0
    have hmx : (words p).length ≤ 2000001 := by rw [hwl]; have := Lib.countB_le slash (by decide) p.size p (Nat.le_refl _); omega
    clear hpe hD h0 hwl
    have HL : Live w [] := trivial
    go_enter Tryz.func78, Tryz.ntmps78
    go_upto_block 0 with (go_at_call 110; refine (SP.out _ hT).mono ?_; rintro e w2 ⟨rfl, rfl⟩)
    have HW := hide (show Blk (w.alloc (.cells ((words p).map Value.string).toArray 9)) w.heap.size ((words p).map Value.string).toArray 9 from Blk.newAt rfl)
    have hbel2 : Below w.heap.size w (w.alloc (.cells ((words p).map Value.string).toArray 9)) := by (exact bl)
    generalize w.alloc (.cells ((words p).map Value.string).toArray 9) = W2 at *
    obtain ⟨sb, hsb⟩ : ∃ sb, sb = w.heap.size := ⟨_, rfl⟩
    rw [← hsb] at HW ⊢
    clear hsb SP
    generalize words p = ps at *
    go_wp2_with fail
    go_loopw [0, 14] (fun ptr i wr => ∃ (k : Nat) (x : Tr) (b o : Nat), i = .int .i64 (k : Int) ∧ k ≤ ps.length ∧ ptr = .pointer (some ⟨b, o, none⟩) ∧ At (ps.take k) x b o ∧ findT t ps = findT x (ps.drop k) ∧ Below W2.heap.size W2 wr) (fun _ i _ => ps.length - (intOf i).toNat)
    case atStart => exact ⟨0, t, b0, o0, rfl, by omega, rfl, HAt.out, rfl, Below.refl _ _⟩
    case round =>
      clear HAt
      obtain ⟨k, x, b, o, rfl, hk, rfl, hat, hfd, hbr⟩ := hrel
      have HAt := hide hat
      have HF := hide hfd
      have hbel := hbel2.trans (hbr.mono hbel2.size)
      clear hfd
      by_cases hlt : k < ps.length
      case neg =>
        obtain rfl : k = ps.length := by omega
        have HZ := hide (show findT t ps = some x by rw [HF.out, List.drop_length, findT_nil])
        clear hat
        go_wp2_with fail
        go_ret
        exact ⟨_, rfl, by rw [HR.out, HZ.out]; exact ⟨b, o, rfl, by have := HAt.out; rw [List.take_length] at this; exact this⟩, hbel⟩
      case pos =>
      obtain ⟨n, hn⟩ : ∃ n, ps[k]? = some n := ⟨_, List.getElem?_eq_getElem hlt⟩
      obtain ⟨hbw, hlk, A, c, h10, hkl, hdn⟩ := HD.out _ _ _ _ hat
      have HDN := hide hdn
      have HKL := hide hkl
      have s1 : wr.cell? ⟨sb, k, none⟩ = some (.string n) := ((Blk.below hbr HW.out).cells k).trans (by simp [hn])
      have hdrop : ps.drop k = n :: ps.drop (k + 1) := by
        obtain ⟨h1, e1⟩ := List.getElem?_eq_some_iff.1 hn
        rw [List.drop_eq_getElem_cons h1, e1]
      have HDR := hide hdrop
      have htake : ps.take (k + 1) = ps.take k ++ [n] := by rw [List.take_add_one, hn]; rfl
      have HTK := hide htake
      clear hat hdn hkl hn hdrop htake
      go_upto_region 6 with fail
      have HC := hide (show Blk (wr.alloc (.cells #[.string n] 9)) wr.heap.size #[.string n] 9 from Blk.newAt rfl)
      have hbel5 : Below w.heap.size w (wr.alloc (.cells #[.string n] 9)) := hbel.alloc hbel.size _
      have hbr5 : Below W2.heap.size W2 (wr.alloc (.cells #[.string n] 9)) := hbr.alloc hbr.size _
      generalize wr.alloc (.cells #[.string n] 9) = W5 at *
      generalize wr.heap.size = d at *
      have c10 : W5.cell? ⟨b, o + 10, none⟩ = some (.slice A x.ks.len c) := (hbel5.cell (p := ⟨b, o + 10, none⟩) hbw).trans h10
      have IX := hide (index_any 112 n d (fnd_name n d) x.ks A c w.heap.size hlk W5 hbel5.size (HKL.out.below hbel5) HC.out)
      clear s1 hbr
      cases hki : kidI x.ks n with
      | none =>
        rw [hki] at IX
        have HZ := hide (show findT t ps = none by rw [HF.out, HDR.out, findT_miss (kid_none hki)])
        clear hki
        go_wp2_with (go_at_call 111; refine IX.out.mono ?_; rintro e w7 ⟨rfl, hb7⟩)
        go_ret
        exact ⟨_, rfl, by rw [HR.out, HZ.out]; rfl, hbel5.trans (hb7.mono hbel5.size)⟩
      | some i =>
        rw [hki] at IX
        have hil := kidI_lt hki
        obtain ⟨kk, hk1, hk2, -⟩ := kid_some hki
        have HZ := hide (show findT t ps = findT kk (ps.drop (k + 1)) by rw [HF.out, HDR.out, findT_hit hk2])
        have hA : ∃ g o', A = some ⟨g, o', none⟩ := by
          obtain ⟨g, o', e, _⟩ := HKL.out (by omega)
          exact ⟨g, o', e⟩
        clear HKL
        obtain ⟨g, o', rfl⟩ := hA
        have HAN := hide (show At (ps.take (k + 1)) kk g (o' + i * 12) by rw [HTK.out]; exact HDN.out n i kk g o' hki hk1 rfl)
        have IX2 := hide (show Calls Tryz.prog 111 #[.slice (some ⟨g, o', none⟩) x.ks.len c, .func (.func 112) #[] #[.pointer (some ⟨d, 0, none⟩)]] W5 fun e w' => e = .returned (.int .i64 (i : Int)) ∧ Below W5.heap.size W5 w' from IX.out)
        clear hki hk1 hk2 HDN IX
        go_wp2_with (go_at_call 111; refine IX2.out.mono ?_; rintro e w7 ⟨rfl, hb7⟩; have d10 : w7.cell? ⟨b, o + 10, none⟩ = some (.slice (some ⟨g, o', none⟩) x.ks.len c) := ((hbel5.trans (hb7.mono hbel5.size)).cell (p := ⟨b, o + 10, none⟩) hbw).trans h10)
        go_roundw
        case rel => exact ⟨k + 1, kk, g, o' + i * 12, by go_num, by omega, by go_num, HAN.out, HZ.out, hbr5.trans (hb7.mono hbr5.size)⟩
        case measure => simp [intOf]; omega
theorem results_cell2 {P : Program} {fn : Func} {p q : Tmp} {ty : TypeId} (h : fn.results = #[.cell p ty, .tmp q]) (tmps : Array Value) (w : World) (g : Nat) (t : TypeId) (cs : Array Value) (fr : Nat × Nat) (d : TypeDesc)
    (hp : tmps.getD p undef = .pointer (some ⟨g, 0, none⟩)) (hg : w.heap[g]? = some (.cells cs t fr)) (v : Value) (hq : tmps.getD q undef = v)
    (hu : P.underlying ty = some d) (hd : (match d with | .struct _ | .array _ _ => true | _ => false) = true) (hi : (P.info? ty).map (·.size) = some cs.size) :
    (results fn tmps).run P w = .ok (.tuple #[.agg cs, v]) w := by
  have hp' : tmps[p]?.getD undef = .pointer (some ⟨g, 0, none⟩) := by simpa using hp
  have hq' : tmps[q]?.getD undef = v := by simpa using hq
  simp [results, h, hp', hq', asAddr, run_loadVar_row w g t ty cs fr d hg hu hd hi]
theorem built_zero : Tryz.prog.built 25 [] = some zeroN := by kernel_rfl
theorem zero_reads (w : World) (B : Nat) : TreeR w B (.agg zeroN) Tr.zero := ⟨.slice none 0 0, .slice none 0 0, rfl, ⟨none, 0, rfl, fun h => absurd h (Nat.lt_irrefl _)⟩, ⟨none, 0, rfl, fun h => absurd h (Nat.lt_irrefl _)⟩⟩
theorem TreeR.own_below {w w' : World} {v : Value} {t : Tr} (h : TreeR w w.heap.size v t) (hb : Below w.heap.size w w') : TreeR w' w'.heap.size v t := (h.below hb).mono hb.size
theorem ForR.at {w : World} {B g : Nat} : ∀ {f : Fo} {o i : Nat} {k : Tr}, ForR w B f g o → f.list[i]? = some k → k.sz ≤ f.sz ∧ ∃ kv sv, w.rangeAt g (o + i * 12) (k.h.cells kv sv).toList ∧ StR w B sv k.ss ∧ KidR w B kv k.ks
  | .nil, _, _, _, _, h => by simp [Fo.list] at h
  | .node h ss ks nx, o, 0, k, ⟨⟨kv, sv, hr, hs, hk⟩, _⟩, e => by
    have e2 : (⟨h, ss, ks⟩ : Tr) = k := by simpa [Fo.list] using e
    subst e2
    exact ⟨by show h.sz + szS ss + ks.sz ≤ h.sz + szS ss + ks.sz + nx.sz; omega, kv, sv, by rw [Nat.zero_mul, Nat.add_zero]; exact hr, hs, hk⟩
  | .node h ss ks nx, o, i + 1, k, ⟨_, hn⟩, e => by
    obtain ⟨h1, kv, sv, h2, h3⟩ := ForR.at hn (i := i) (k := k) (by simpa [Fo.list] using e)
    exact ⟨by show k.sz ≤ h.sz + szS ss + ks.sz + nx.sz; omega, kv, sv, by rw [show o + (i + 1) * 12 = o + 12 + i * 12 by omega]; exact h2, h3⟩
theorem OwnT.fr {O : Nat → Prop} {w w' : World} {lo : Nat} {v : Value} {t : Tr} (h : OwnT w lo v t) (hf : FrO O w w') (ho : ∀ (j : Nat) (cs : Array Value) (fr : Nat × Nat), O j → w.heap[j]? ≠ some (Obj.cells cs 136 fr)) (hlo : ∀ j, lo ≤ j → ¬ O j) : OwnT w' lo v t := by
  obtain ⟨kv, sv, P, rfl, hs, hk, hP⟩ := h
  exact ⟨kv, sv, P, rfl, own_fr hf hs (fun g hg => hlo g (hs.lt g hg).1), hk.frame (StrK.of hf ho) (fun j hj hp => hf.block j hj (hlo j (hP j hp).1)), fun j hj => ⟨(hP j hj).1, Nat.lt_of_lt_of_le (hP j hj).2 hf.size⟩⟩
theorem getT_no {t : Tr} {p : ByteArray} (h : validB t = false) : getT t p = (Tr.zero, 1) := by unfold getT; rw [h]; rfl
theorem getT_yes {t : Tr} {p : ByteArray} (h : validB t = true) : (∀ x, findT t (partsP p) = some x → getT t p = (x, 0)) ∧ (findT t (partsP p) = none → getT t p = (Tr.zero, 6)) := by
  unfold getT
  rw [if_pos h]
  exact ⟨fun x e => by rw [e], fun e => by rw [e]⟩
theorem findT_snoc : ∀ (l : List ByteArray) (t : Tr) (n : ByteArray), findT t (l ++ [n]) = (findT t l).bind fun x => kidF x.ks n
  | [], t, n => by
    show (match kidF t.ks n with | some k => findT k [] | none => none) = kidF t.ks n
    cases kidF t.ks n <;> rfl
  | m :: l, t, n => by
    show (match kidF t.ks m with | some k => findT k (l ++ [n]) | none => none) = Option.bind (match kidF t.ks m with | some k => findT k l | none => none) _
    cases kidF t.ks m with
    | none => rfl
    | some k => exact findT_snoc l k n
def AtR (w0 : World) (t : Tr) (Z : Nat) (done : List ByteArray) (x : Tr) (b o : Nat) : Prop := findT t done = some x ∧ b < w0.heap.size ∧ x.sz ≤ Z ∧ ∃ kv sv, w0.rangeAt b o (x.h.cells kv sv).toList ∧ StR w0 w0.heap.size sv x.ss ∧ KidR w0 w0.heap.size kv x.ks
theorem AtR.down (w0 : World) (t : Tr) (Z : Nat) (hZ : Z ≤ 2000000000) : Down w0 (AtR w0 t Z) := by
  intro done x b o ⟨hf, hb, hx, kv, sv, hr, hs, A, c, e, hk⟩
  subst e
  refine ⟨hb, by have := x.ks.len_sz; unfold Tr.sz at hx; omega, A, c, hr 10 _ rfl, Left.of hk, fun n i k g o' hki hk1 hA => ?_⟩
  obtain ⟨g', o2, e2, hg, hfo⟩ := hk (by have := kidI_lt hki; omega)
  rw [hA] at e2
  injection e2 with e2
  injection e2 with e3 e4
  subst e3; subst e4
  obtain ⟨k', h1, h2, -⟩ := kid_some hki
  rw [hk1] at h1
  injection h1 with h1
  subst h1
  obtain ⟨hsz, kv', sv', h3, h4, h5⟩ := hfo.at hk1
  exact ⟨by rw [findT_snoc, hf]; exact h2, hg, by unfold Tr.sz at hx; omega, kv', sv', h3, h4, h5⟩
set_option maxRecDepth 100000 in
set_option maxHeartbeats 4000000 in
theorem get_any (t : Tr) (p : ByteArray) (hsz : t.sz ≤ 120000) (hp : p.size ≤ 2000000) (v : Value) (w : World) (hT : TabV w) (hv : TreeR w w.heap.size v t) : Calls Tryz.prog 48 #[v, .string p] w fun e w' => ∃ r, e = .returned (.tuple #[r, .int .i64 (getT t p).2]) ∧ TreeR w' w'.heap.size r (getT t p).1 ∧ Below w.heap.size w w' := by
  have VN := hide (fun W hTW hW => valid_any t (Or.inl hsz) v W hTW hW)
  have HV := hide hv
  obtain ⟨A, c, A2, c2, rfl, hkl, hstl⟩ := hv.openL
  clear hv hkl hstl
  have HL : Live w [] := trivial
  go_enter Tryz.func48, Tryz.ntmps48
  go_upto_region 1 with fail
  have HB := hide (show Blk ((w.alloc (.cells (t.h.cells (.slice A t.ks.len c) (.slice A2 t.ss.length c2)) 25)).alloc (.cells zeroN 25)) w.heap.size (t.h.cells (.slice A t.ks.len c) (.slice A2 t.ss.length c2)) 25 from (Blk.newAt rfl).alloc _)
  have HR := hide (show Blk ((w.alloc (.cells (t.h.cells (.slice A t.ks.len c) (.slice A2 t.ss.length c2)) 25)).alloc (.cells zeroN 25)) (w.heap.size + 1) zeroN 25 from Blk.newAt (by rw [World.size_alloc]))
  have hbel1 : Below w.heap.size w ((w.alloc (.cells (t.h.cells (.slice A t.ks.len c) (.slice A2 t.ss.length c2)) 25)).alloc (.cells zeroN 25)) := ((Below.refl _ _).alloc (Nat.le_refl _) _).alloc (by rw [World.size_alloc]; omega) _
  obtain ⟨W1, hW1⟩ : ∃ W1, W1 = (w.alloc (.cells (t.h.cells (.slice A t.ks.len c) (.slice A2 t.ss.length c2)) 25)).alloc (.cells zeroN 25) := ⟨_, rfl⟩
  rw [← hW1] at HB HR hbel1
  unfold zeroN at hW1
  rw [← hW1]
  clear hW1
  obtain ⟨r, hr⟩ : ∃ r, r = w.heap.size + 1 := ⟨_, rfl⟩
  rw [← hr] at HR ⊢
  obtain ⟨b, hb⟩ : ∃ b, b = w.heap.size := ⟨_, rfl⟩
  rw [← hb] at HB ⊢
  have hlo : b ≠ r ∧ w.heap.size ≤ b ∧ w.heap.size ≤ r := by omega
  obtain ⟨hbr, hwb, hwr⟩ := hlo
  clear hb hr
  have HT1 := hide (hT.below hbel1)
  have HV1 := hide (HV.out.own_below hbel1)
  have hrl := HR.out.lt
  have BZ := hide built_zero
  clear hT HV
  cases hvb : validB t
  case false =>
    have HZ := hide (getT_no (p := p) hvb)
    rw [hvb] at VN
    clear hvb
    go_wp2_with (first | (refine wpList_load_row rfl 25 (.tmp 2) rfl b rfl 25 (t.h.cells (.slice A t.ks.len c) (.slice A2 t.ss.length c2)) (0, 0) _ HB.out Tryz.underlying25 rfl (infN rfl) ?_) | (go_at_call 56; refine (VN.out _ HT1.out HV1.out).mono ?_; rintro e w3 ⟨rfl, hb3⟩; have HR3 := hide (Blk.below hb3 HR.out)) | (refine wpList_build_is rfl 25 #[] rfl [] (by simp) _ BZ.out ?_) | (refine wpList_store_row rfl 25 (.tmp 4) (.tmp 10) rfl r zeroN rfl rfl 25 zeroN HR3.out (infN rfl) rfl (by kernel_rfl) ?_))
    refine bodyPost_ret (results_cell2 rfl _ _ r 25 zeroN (0, 0) _ rfl (setRow_heap _ _ _ _ _ _ HR3.out) (.int .i64 1) rfl Tryz.underlying25 rfl (infN rfl)) rfl ?_
    exact ⟨_, by rw [HZ.out], by rw [HZ.out]; exact zero_reads _ _, (hbel1.trans (hb3.mono hbel1.size)).trans ((FrO.setRow (O := fun j => j = r) rfl).below (by have := hbel1.size; have := hb3.size; omega) fun j hj => by subst hj; exact hwr)⟩
  case true =>
    have HP2 := hide (getT_yes (p := p) hvb)
    rw [hvb] at VN
    clear hvb
    go_upto_region 3 with (first | (refine wpList_load_row rfl 25 (.tmp 2) rfl b rfl 25 (t.h.cells (.slice A t.ks.len c) (.slice A2 t.ss.length c2)) (0, 0) _ HB.out Tryz.underlying25 rfl (infN rfl) ?_) | (go_at_call 56; refine (VN.out _ HT1.out HV1.out).mono ?_; rintro e w3 ⟨rfl, hb3⟩; have HR3 := hide (Blk.below hb3 HR.out)))
    have hbel3 := hbel1.trans (hb3.mono hbel1.size)
    have HB3 := hide (Blk.below hb3 HB.out)
    have HT3 := hide (HT1.out.below hb3)
    have HV3 := hide (HV1.out.own_below hb3)
    have h0 : AtR w3 t 120000 [] t b 0 := by
      obtain ⟨kv, sv, e, hs, hk⟩ := HV3.out
      injection e with e
      refine ⟨findT_nil t, HB3.out.lt, hsz, kv, sv, ?_, hs, hk⟩
      rw [← e]
      exact fun j u hu => by rw [Nat.zero_add, HB3.out.cells j, ← Array.getElem?_toList, hu]
    have FN := hide (find_any (AtR w3 t 120000) t b 0 p hp w3 HT3.out (AtR.down w3 t 120000 (by omega)) h0)
    clear HB HR HT1 HV1 hb3 VN h0
    cases hfd : findT t (partsP p) with
    | none =>
      have HZ := hide (HP2.out.2 hfd)
      rw [hfd] at FN
      clear hfd HP2
      go_wp2_with (first | (go_at_call 78; refine FN.out.mono ?_; rintro e w4 ⟨r4, rfl, hr4, hb4⟩; have hr4' : r4 = none := hr4; subst hr4'; have HR4 := hide (Blk.below hb4 HR3.out)) | (refine wpList_build_is rfl 25 #[] rfl [] (by simp) _ BZ.out ?_) | (refine wpList_store_row rfl 25 (.tmp 4) (.tmp 15) rfl r zeroN rfl rfl 25 zeroN HR4.out (infN rfl) rfl (by kernel_rfl) ?_))
      refine bodyPost_ret (results_cell2 rfl _ _ r 25 zeroN (0, 0) _ rfl (setRow_heap _ _ _ _ _ _ HR4.out) (.int .i64 6) rfl Tryz.underlying25 rfl (infN rfl)) rfl ?_
      exact ⟨_, by rw [HZ.out], by rw [HZ.out]; exact zero_reads _ _, (hbel3.trans (hb4.mono hbel3.size)).trans ((FrO.setRow (O := fun j => j = r) rfl).below (by have := hbel3.size; have := hb4.size; omega) fun j hj => by subst hj; exact hwr)⟩
    | some x =>
      have HZ := hide (HP2.out.1 x hfd)
      rw [hfd] at FN
      clear hfd HP2
      go_upto_region 6 with (go_at_call 78; refine FN.out.mono ?_; rintro e w4 ⟨r4, rfl, ⟨xb, xo, rfl, ⟨hx1, hx2, hx3, xkv, xsv, hxr, hxs, hxk⟩⟩, hb4⟩; have HR4 := hide (Blk.below hb4 HR3.out))
      have hbel4 := hbel3.trans (hb4.mono hbel3.size)
      have XR := hide (range_below hb4 hx2 hxr)
      have HVX := hide (TreeR.own_below (show TreeR w3 w3.heap.size (.agg (x.h.cells xkv xsv)) x from ⟨xkv, xsv, rfl, hxs, hxk⟩) hb4)
      have CL := hide (fun W hW => clone_any 120000 x (by have := x.count_sz; omega) (by omega) (.agg (x.h.cells xkv xsv)) W hW)
      clear FN hxr hxs hxk HR3 hx1
      go_wp2_with (first | (refine wpList_load_midA rfl 25 (.tmp 17) rfl xb xo rfl (x.h.cells xkv xsv) _ XR.out Tryz.underlying25 rfl (infNl rfl) ?_) | (go_at_call 79; refine (CL.out _ HVX.out).mono ?_; rintro e w5 ⟨r5, rfl, ho5, hb5⟩; obtain ⟨kv5, sv5, O5, rfl, hs5, hk5, hO5⟩ := ho5; obtain ⟨A5, c5, rfl⟩ := hk5.slice; obtain ⟨A6, c6, rfl⟩ := own_slice hs5; have HR5 := hide (Blk.below hb5 HR4.out)) | (refine wpList_store_row rfl 25 (.tmp 4) (.tmp 19) rfl r (x.h.cells (.slice A5 x.ks.len c5) (.slice A6 x.ss.length c6)) rfl rfl 25 zeroN HR5.out (infN rfl) rfl (nodeLit _ _ _ _ _ _ _) ?_))
      refine bodyPost_ret (results_cell2 rfl _ _ r 25 (x.h.cells (.slice A5 x.ks.len c5) (.slice A6 x.ss.length c6)) (0, 0) _ rfl (setRow_heap _ _ _ _ _ _ HR5.out) (.int .i64 0) rfl Tryz.underlying25 rfl (infN rfl)) rfl ?_
      have hrw : r < w4.heap.size := HR4.out.lt
      have hf : FrO (fun j => j = r) w5 (w5.setRow r (x.h.cells (.slice A5 x.ks.len c5) (.slice A6 x.ss.length c6))) := FrO.setRow rfl
      have hOw : OwnT w5 w4.heap.size (.agg (x.h.cells (.slice A5 x.ks.len c5) (.slice A6 x.ss.length c6))) x := ⟨_, _, O5, rfl, hs5, hk5, hO5⟩
      have hOw2 := hOw.fr hf (fun j cs fr e => by subst e; exact HR5.out.notStr cs fr) (fun j hj e => by omega)
      exact ⟨_, by rw [HZ.out], by rw [HZ.out]; exact hOw2.read, (hbel4.trans (hb5.mono hbel4.size)).trans (hf.below (by have := hbel4.size; have := hb5.size; omega) fun j hj => by subst hj; exact hwr)⟩
theorem own_blk {w : World} {B : Nat} {T : TypeId} {v : Value} {n k : Nat} {xs : List Value} (h : w.ownsRow B T k v n xs) (h0 : 0 < n) : ∃ (g cap : Nat) (cur : Array Value), v = .slice (some ⟨g, 0, none⟩) n cap ∧ B ≤ g ∧ Blk w g cur T ∧ n ≤ cap ∧ cap ≤ maxLen ∧ cur.size = cap * k ∧ ∀ (j : Nat) (u : Value), xs[j]? = some u → cur[j]? = some u := by
  rcases h.2 with ⟨_, rfl⟩ | ⟨g, cap, cur, rfl, hg, hh, hnc, hcm, hcs, htake⟩
  · omega
  · refine ⟨g, cap, cur, rfl, hg, hh, hnc, hcm, hcs, fun j u hj => ?_⟩
    rw [← htake] at hj
    rw [List.getElem?_take] at hj
    split at hj
    · rw [← Array.getElem?_toList]; exact hj
    · cases hj
end Go.Proofs.YtocgindpjjolpaaGreatDoor
namespace Go.Proofs.YtocgindpjjolpaaGreatDoor
set_option linter.unusedSimpArgs false
set_option linter.unusedVariables false
def plainB (c : UInt8) : Bool := decide (65 ≤ c.toNat ∧ c.toNat ≤ 90 ∨ 97 ≤ c.toNat ∧ c.toNat ≤ 122 ∨ 48 ≤ c.toNat ∧ c.toNat ≤ 57 ∨ c.toNat = 46 ∨ c.toNat = 95 ∨ c.toNat = 45)
def hexL : List UInt8 := [48, 49, 50, 51, 52, 53, 54, 55, 56, 57, 65, 66, 67, 68, 69, 70]
def hexd (n : Nat) : UInt8 := hexL.getD n 0
def wb (c : UInt8) : List UInt8 := if plainB c then [c] else [37, hexd (c.toNat / 16), hexd (c.toNat % 16)]
def bltB (a b : ByteArray) : Bool := Op.bytesLess a.toList b.toList
theorem partsL_snoc : ∀ (a b p : List UInt8), (∀ c ∈ b, c ≠ 47) → partsL (a ++ 47 :: b) p = partsL a p ++ [b]
  | [], b, p, h => by
    rw [List.nil_append, partsL, partsL, if_pos rfl, partsL_none b [] h]
    rfl
  | c :: a, b, p, h => by
    rw [List.cons_append, partsL, partsL]
    split
    · rw [partsL_snoc a b [] h]; rfl
    · rw [partsL_snoc a b (p ++ [c]) h]
theorem words_bytes (s : ByteArray) : (words s).map (·.data.toList) = partsL s.data.toList [] := split_parts s.size s (Nat.le_refl _)
theorem bytes_inj {a b : ByteArray} (h : a.data.toList = b.data.toList) : a = b := ByteArray.ext (Array.toList_inj.1 h)
theorem map_bytes_inj {a b : List ByteArray} (h : a.map (·.data.toList) = b.map (·.data.toList)) : a = b := by
  induction a generalizing b with
  | nil => cases b with
    | nil => rfl
    | cons y b => simp at h
  | cons x a ih => cases b with
    | nil => simp at h
    | cons y b =>
      rw [List.map_cons, List.map_cons, List.cons.injEq] at h
      rw [bytes_inj h.1, ih h.2]
theorem words_one {p : ByteArray} (h : ∀ c ∈ p.data.toList, c ≠ 47) : words p = [p] := by
  apply map_bytes_inj
  rw [words_bytes, partsL_none _ _ h]
  rfl
theorem words_cut {p a b : ByteArray} (e : p.data.toList = a.data.toList ++ 47 :: b.data.toList) (h : ∀ c ∈ b.data.toList, c ≠ 47) : words p = words a ++ [b] := by
  apply map_bytes_inj
  rw [List.map_append, words_bytes, words_bytes, e, partsL_snoc _ _ _ h]
  rfl
def Fo.dropAt : Fo → Nat → Fo
  | .nil, _ => .nil
  | .node _ _ _ nx, 0 => nx
  | .node h ss ks nx, i + 1 => .node h ss ks (nx.dropAt i)
def base (p : ByteArray) : ByteArray := (words p).getLast?.getD eS
/-! What a valid tree's nodes are. -/
theorem firstE_zero {l : List Int} (h : firstE l = 0) : ∀ e ∈ l, e = 0 := by
  induction l with
  | nil => intro e he; cases he
  | cons a l ih =>
    rw [firstE] at h
    by_cases ha : a = 0
    · rw [if_neg (fun h => h ha)] at h
      intro e he
      cases he with
      | head => exact ha
      | tail _ he => exact ih h e he
    · rw [if_pos ha] at h
      exact absurd h ha
theorem oneE_name {t : Tr} {l : Nat} (h : oneE t l = 0) (hl : 1 < l) : nameB t.h.name = true := by
  have := firstE_zero h (nameE t.h l) (by simp)
  unfold nameE at this
  split at this
  · cases this
  · rename_i h2
    cases hn : nameB t.h.name with
    | true => rfl
    | false => exact absurd (Or.inr ⟨hl, hn⟩) h2
theorem oneE_kids {t : Tr} {l : Nat} (h : oneE t l = 0) : kidsE t.ks.names = 0 := firstE_zero h _ (by simp)
theorem chkF_none {h : Hd} {ss : List St} {ks nx : Fo} {p : ByteArray} {l : Nat} (e : chkF (.node h ss ks nx) p l = none) : oneE ⟨h, ss, ks⟩ (l + 1) = 0 ∧ chkF ks (belowP p h.name l) (l + 1) = none ∧ chkF nx p l = none := by
  rw [chkF] at e
  by_cases h1 : oneE ⟨h, ss, ks⟩ (l + 1) = 0
  · rw [if_neg (fun h => h h1)] at e
    cases hk : chkF ks (belowP p h.name l) (l + 1) with
    | some r => rw [hk] at e; cases e
    | none => rw [hk] at e; exact ⟨h1, rfl, e⟩
  · rw [if_pos h1] at e
    cases e
theorem chkF_at : ∀ {f : Fo} {p : ByteArray} {l i : Nat} {k : Tr}, chkF f p l = none → f.list[i]? = some k → oneE k (l + 1) = 0 ∧ chkF k.ks (belowP p k.h.name l) (l + 1) = none
  | .nil, _, _, _, _, _, h => by simp [Fo.list] at h
  | .node h ss ks nx, p, l, 0, k, e, hi => by
    have e2 : (⟨h, ss, ks⟩ : Tr) = k := by simpa [Fo.list] using hi
    subst e2
    obtain ⟨h1, h2, -⟩ := chkF_none e
    exact ⟨h1, h2⟩
  | .node h ss ks nx, p, l, i + 1, k, e, hi => chkF_at (chkF_none e).2.2 (show nx.list[i]? = some k by simpa [Fo.list] using hi)
theorem valid_chk {t : Tr} (h : validB t = true) : t.count ≤ 256 ∧ oneE t 1 = 0 ∧ chkF t.ks eS 1 = none := by
  unfold validB checkT at h
  have h := of_decide_eq_true h
  split at h
  · cases h
  · rename_i hc
    refine ⟨by omega, ?_⟩
    have hn : chkT t = none := by
      cases hk : chkT t with
      | none => rfl
      | some r =>
        rw [hk] at h
        unfold chkT at hk
        split at hk
        · rename_i h1
          injection hk with hk
          subst hk
          exact absurd h h1
        · exact absurd h (chkF_ne _ _ _ _ hk)
    unfold chkT at hn
    split at hn
    · cases hn
    · rename_i h1
      exact ⟨by omega, hn⟩
theorem nameB_empty : nameB eS = false := by decide +kernel
theorem kidF_empty {f : Fo} {p : ByteArray} {l : Nat} (h : chkF f p l = none) (hl : 1 ≤ l) : kidF f eS = none := by
  cases hi : kidI f eS with
  | none => exact kid_none hi
  | some i =>
    obtain ⟨k, h1, h2, h3⟩ := kid_some hi
    have := oneE_name (chkF_at h h1).1 (by omega)
    rw [h3, nameB_empty] at this
    cases this
theorem words_nil2 : words eS = [eS] := by decide +kernel
theorem blt_iff (a b : ByteArray) : bltB a b = true ↔ a.toList < b.toList := by unfold bltB; rw [bytesLess_eq, decide_eq_true_iff]
theorem blt_not (a b : ByteArray) : bltB a b = false ↔ ¬ a.toList < b.toList := by rw [← blt_iff]; simp
theorem toL_inj {a b : ByteArray} (h : a.toList = b.toList) : a = b := bytes_inj (by rw [← ByteArray.toList_eq, ← ByteArray.toList_eq]; exact h)
theorem blt_trans {a b c : ByteArray} (h1 : bltB a b = true) (h2 : bltB b c = true) : bltB a c = true := by
  rw [blt_iff] at *
  exact List.lt_trans h1 h2
theorem blt_irrefl (a : ByteArray) : bltB a a = false := by rw [blt_not]; exact List.lt_irrefl _
theorem blt_total {a b : ByteArray} (h1 : bltB a b = false) (h2 : bltB b a = false) : a = b := by
  rw [blt_not] at h1 h2
  exact toL_inj (List.le_antisymm h2 h1)
theorem ordE_zero {a b : ByteArray} (h : ordE a b = 0) : bltB a b = true := by
  unfold ordE at h
  split at h
  · cases h
  · rename_i h1
    split at h
    · cases h
    · rename_i h2
      cases hb : bltB a b with
      | true => rfl
      | false => exact absurd (blt_total hb (by unfold bltB; simpa using h2)) h1
def SortedN (l : List ByteArray) : Prop := l.Pairwise fun a b => bltB a b = true
theorem kidsE_sorted : ∀ {l : List ByteArray}, kidsE l = 0 → SortedN l
  | [], _ => List.Pairwise.nil
  | [a], _ => List.pairwise_singleton _ _
  | a :: b :: l, h => by
    rw [kidsE] at h
    by_cases h1 : ordE a b = 0
    · rw [if_neg (fun h => h h1)] at h
      have ih := kidsE_sorted h
      refine List.Pairwise.cons (fun c hc => ?_) ih
      cases hc with
      | head => exact ordE_zero h1
      | tail _ hc => exact blt_trans (ordE_zero h1) (List.rel_of_pairwise_cons ih hc)
    · rw [if_pos h1] at h
      exact absurd h h1
end Go.Proofs.YtocgindpjjolpaaGreatDoor
namespace Go.Proofs.YtocgindpjjolpaaGreatDoor
set_option linter.unusedSimpArgs false
set_option linter.unusedVariables false
open Go.RowKit
def LastAt (s : ByteArray) (r : Int) : Prop := (r = -1 ∧ ∀ c ∈ s.data.toList, c ≠ 47) ∨ (∃ i : Nat, r = (i : Int) ∧ s.data.toList[i]? = some 47 ∧ ∀ j, i < j → s.data.toList[j]? ≠ some 47)
set_option maxHeartbeats 2000000 in
theorem lastidx_any (s : ByteArray) (hs : s.size ≤ 2000000000) (w : World) : Calls Tryz.prog 68 #[.string s, .int .u8 47] w fun e w' => ∃ r, e = .returned (.int .i64 r) ∧ LastAt s r ∧ w = w' := by
  have HL : Live w [] := trivial
  go_enter Tryz.func68, Tryz.ntmps68
  go_wp2_with fail
  go_loopw [5] (fun i wr => ∃ k : Nat, i = .int .i64 ((k : Int) - 1) ∧ k ≤ s.size ∧ (∀ j, k ≤ j → s.data.toList[j]? ≠ some 47) ∧ w = wr) (fun i _ => (intOf i + 1).toNat)
  case atStart => exact ⟨s.size, by go_num, Nat.le_refl _, fun j hj => by rw [List.getElem?_eq_none (by rw [Array.length_toList]; exact hj)]; simp, rfl⟩
  case round =>
    obtain ⟨k, rfl, hk, hn, rfl⟩ := hrel
    have HN := hide hn
    clear hn
    cases k with
    | zero =>
      go_wp2_with fail
      go_ret
      refine ⟨_, rfl, Or.inl ⟨rfl, fun c hc e => ?_⟩, rfl⟩
      obtain ⟨j, hj, e2⟩ := List.getElem_of_mem hc
      exact HN.out j (Nat.zero_le _) (by rw [List.getElem?_eq_getElem hj, e2, e])
    | succ k =>
      have ek : ((k + 1 : Nat) : Int) - 1 = (k : Int) := by omega
      rw [ek]
      have hlt : k < s.size := by omega
      have hl : k < s.data.toList.length := by rw [Array.length_toList]; exact hlt
      have hat : s.data.toList[k]? = some (s[k]'hlt) := by rw [List.getElem?_eq_getElem hl]; rfl
      have HAT := hide hat
      clear ek hl hat
      by_cases hc : (s[k]'hlt) = 47
      · have hcb : (((s[k]'hlt).toNat : Int) == 47) = true := by rw [hc]; rfl
        have HC := hide hc
        clear hc
        go_wp2_with fail
        go_ret
        exact ⟨_, rfl, Or.inr ⟨k, rfl, by rw [HAT.out, HC.out], fun j hj => HN.out j hj⟩, rfl⟩
      · have hcb : (((s[k]'hlt).toNat : Int) == 47) = false := by
          rw [beq_eq_false_iff_ne]; intro h; exact hc (UInt8.toNat_inj.1 (by simpa using (show ((s[k]'hlt).toNat) = 47 by omega)))
        have HC := hide hc
        clear hc
        go_wp2_with fail
        go_roundw
        case rel => exact ⟨k, by go_num, by omega, fun j hj e => by
          rcases Nat.lt_or_ge k j with h | h
          · exact HN.out j h e
          · obtain rfl : j = k := by omega
            rw [HAT.out] at e
            injection e with e
            exact HC.out e, trivial⟩
        case measure => simp [intOf]
set_option maxHeartbeats 1000000 in
theorem lastIndex_any (s : ByteArray) (hs : s.size ≤ 2000000000) (w : World) : Calls Tryz.prog 36 #[.string s, .int .u8 47] w fun e w' => ∃ r, e = .returned (.int .i64 r) ∧ LastAt s r ∧ w = w' := by
  have LI := hide (fun W => lastidx_any s hs W)
  have HL : Live w [] := trivial
  go_enter Tryz.func36, Tryz.ntmps36
  go_wp2_with ((first | (go_at_call 68; (with_reducible refine (LI.out _).mono ?_); rintro e w' ⟨r, rfl, hr, rfl⟩)))
  go_ret
  exact ⟨_, rfl, hr, rfl⟩
end Go.Proofs.YtocgindpjjolpaaGreatDoor
namespace Go.Proofs.YtocgindpjjolpaaGreatDoor
set_option linter.unusedSimpArgs false
set_option linter.unusedVariables false
def nlF : Fo → List ByteArray → List (List ByteArray)
  | .nil, _ => []
  | .node h _ ks nx, p => (p ++ [h.name]) :: nlF ks (p ++ [h.name]) ++ nlF nx p
def joinP : List ByteArray → ByteArray
  | [] => eS
  | [n] => n
  | n :: m :: l => n ++ ⟨#[47]⟩ ++ joinP (m :: l)
theorem joinP_cons (n : ByteArray) (l : List ByteArray) (h : l ≠ []) : joinP (n :: l) = n ++ ⟨#[47]⟩ ++ joinP l := by
  cases l with
  | nil => exact absurd rfl h
  | cons m l => rfl
theorem joinP_snoc (n : ByteArray) : ∀ pre : List ByteArray, pre ≠ [] → joinP (pre ++ [n]) = joinP pre ++ ⟨#[47]⟩ ++ n
  | [], h => absurd rfl h
  | [a], _ => rfl
  | a :: b :: l, _ => by
    have ih := joinP_snoc n (b :: l) (by simp)
    rw [List.cons_append, joinP_cons a _ (by simp), ih, joinP_cons a (b :: l) (by simp)]
    simp only [ByteArray.append_assoc]
theorem below_join (pre : List ByteArray) (n : ByteArray) : belowP (joinP pre) n (pre.length + 1) = joinP (pre ++ [n]) := by
  unfold belowP
  cases pre with
  | nil => rfl
  | cons a l => rw [if_neg (by simp), joinP_snoc n _ (by simp)]
theorem paths_names : ∀ (f : Fo) (pre : List ByteArray), pathsF f (joinP pre) (pre.length + 1) = (nlF f pre).map joinP
  | .nil, _ => rfl
  | .node h ss ks nx, pre => by
    have h1 := paths_names ks (pre ++ [h.name])
    rw [List.length_append, List.length_singleton] at h1
    rw [pathsF, nlF, below_join, h1, paths_names nx pre, List.map_append, List.map_cons]
theorem pathsT_names {t : Tr} (h : validB t = true) : pathsT t = eS :: (nlF t.ks []).map joinP := by
  unfold pathsT
  rw [if_pos h]
  exact congrArg _ (paths_names t.ks [])
/-! Joined and cut again. -/
def NoSls (l : List ByteArray) : Prop := ∀ n ∈ l, ∀ c ∈ n.data.toList, c ≠ 47
theorem bytes_app (a b : ByteArray) : (a ++ b).data.toList = a.data.toList ++ b.data.toList := by simp [ByteArray.data_append]
theorem join_bytes (n : ByteArray) (pre : List ByteArray) (h : pre ≠ []) : (joinP (pre ++ [n])).data.toList = (joinP pre).data.toList ++ 47 :: n.data.toList := by
  rw [joinP_snoc n pre h, bytes_app, bytes_app, List.append_assoc]
  rfl
theorem words_joinR : ∀ r : List ByteArray, r ≠ [] → NoSls r → words (joinP r.reverse) = r.reverse
  | [], h, _ => absurd rfl h
  | [a], _, h => words_one (h a (by simp))
  | a :: b :: r, _, h => by
    have ih := words_joinR (b :: r) (by simp) (fun n hn => h n (List.mem_cons_of_mem _ hn))
    rw [List.reverse_cons]
    rw [words_cut (join_bytes a _ (by simp)) (h a (by simp)), ih]
theorem words_join {l : List ByteArray} (h : l ≠ []) (hs : NoSls l) : words (joinP l) = l := by
  have := words_joinR l.reverse (by simpa using h) (fun n hn => hs n (List.mem_reverse.1 hn))
  rwa [List.reverse_reverse] at this
theorem join_inj {a b : List ByteArray} (ha : a ≠ []) (hb : b ≠ []) (sa : NoSls a) (sb : NoSls b) (h : joinP a = joinP b) : a = b := by
  rw [← words_join ha sa, h, words_join hb sb]
/-! Members. -/
theorem nlF_mem : ∀ {f : Fo} {pre m : List ByteArray}, m ∈ nlF f pre → ∃ n r, m = pre ++ n :: r ∧ n ∈ f.names
  | .nil, _, _, h => by cases h
  | .node h ss ks nx, pre, m, hm => by
    rw [nlF, List.mem_append, List.mem_cons] at hm
    rcases hm with (rfl | hm) | hm
    · exact ⟨h.name, [], rfl, by simp [Fo.names]⟩
    · obtain ⟨n, r, rfl, _⟩ := nlF_mem hm
      exact ⟨h.name, n :: r, by simp, by simp [Fo.names]⟩
    · obtain ⟨n, r, rfl, hn⟩ := nlF_mem hm
      exact ⟨n, r, rfl, by simp [Fo.names, hn]⟩
end Go.Proofs.YtocgindpjjolpaaGreatDoor
