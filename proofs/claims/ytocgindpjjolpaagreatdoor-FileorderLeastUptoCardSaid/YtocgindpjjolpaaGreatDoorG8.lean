/- Contracts and plain words for the laws of this chapter, part 8: W7, W8, W9, X1, Ap. No condition. -/
import Derived.Test.YtocgindpjjolpaaGreatDoorG7
import Derived.Deep.DeepAppendWide
import Derived.Test.YtocgindpjjolpaaGreatDoorG4
namespace Go.Proofs.YtocgindpjjolpaaGreatDoor
set_option linter.unusedSimpArgs false
set_option linter.unusedVariables false
open Go.RowKit
set_option maxRecDepth 100000 in
set_option maxHeartbeats 4000000 in
theorem rstr_any (t : Tr) (A : Option Addr) (c : Nat) (A2 : Option Addr) (c2 : Nat) (l : Nat) (hsz : t.sz ≤ 120000) (w : World) (hT : TabV w) (hst : StL w w.heap.size A2 t.ss) : Calls Tryz.prog 125 #[.agg (ruleC t.h (.slice A t.ks.len c) (.slice A2 t.ss.length c2) l)] w fun e w' => e = .returned (.int .i64 (strE none t.ss)) ∧ Below w.heap.size w w' := by
  have HST := hide hst
  have HSZ := hide hsz
  have hls := szS_len t.ss
  have hts : t.sz = t.h.sz + szS t.ss + t.ks.sz := rfl
  have hls2 : t.ss.length ≤ 120000 := by omega
  clear hst hls hts hsz
  have HL : Live w [] := trivial
  go_enter Tryz.func125, Tryz.ntmps125
  go_upto_region 1 with fail
  have HN := hide (RuleB.new w t.h (.slice A t.ks.len c) (.slice A2 t.ss.length c2) l)
  have hbel1 : Below w.heap.size w (w.alloc (.cells (ruleC t.h (.slice A t.ks.len c) (.slice A2 t.ss.length c2) l) 143)) := by (exact bl)
  have HT := hide (hT.below hbel1)
  generalize w.alloc (.cells (ruleC t.h (.slice A t.ks.len c) (.slice A2 t.ss.length c2) l) 143) = W1 at *
  obtain ⟨b, hb⟩ : ∃ b, b = w.heap.size := ⟨_, rfl⟩
  rw [← hb] at HN ⊢
  clear hb
  have d11 := HN.out.c11
  go_wp2_with fail
  clear d11
  go_loopw [10] (fun i wr => ∃ k : Nat, k ≤ t.ss.length ∧ i = .int .i64 (k : Int) ∧ strE none t.ss = strE (prvS t.ss k) (t.ss.drop k) ∧ Below W1.heap.size W1 wr) (fun i _ => t.ss.length - (intOf i).toNat)
  case atStart => exact ⟨0, by omega, rfl, rfl, Below.refl _ _⟩
  case round =>
    obtain ⟨k, hk, rfl, hno, hbr⟩ := hrel
    have HE := hide hno
    clear hno
    by_cases hlt : k < t.ss.length
    case neg =>
      obtain rfl : k = t.ss.length := by omega
      have HZ := hide (show strE none t.ss = 0 by rw [HE.out, List.drop_length]; cases prvS t.ss t.ss.length <;> rfl)
      go_wp2_with fail
      go_ret
      exact ⟨ret_i HZ.out.symm, hbel1.trans (hbr.mono hbel1.size)⟩
    case pos =>
    obtain ⟨s, hs⟩ : ∃ s, t.ss[k]? = some s := ⟨_, List.getElem?_eq_getElem hlt⟩
    obtain ⟨g, o, rfl, hg, r1, r2⟩ := HST.out.at (hbel1.trans (hbr.mono hbel1.size)) hs
    have hsn : s.1.size ≤ 120000 := by have := szS_mem hs; have := HSZ.out; unfold Tr.sz at this; omega
    have hstep := strE_step (p := prvS t.ss k) hs
    have hnext : prvS t.ss (k + 1) = some s.1 := by show (t.ss[k]?).map (·.1) = _; rw [hs]; rfl
    have HX := hide hnext
    have HSTEP := hide hstep
    clear hs hstep hnext
    go_upto_region 4 with fail
    have HW := hide (show StB (wr.alloc (.cells #[.string s.1, .string s.2] 136)) wr.heap.size s from StB.new wr s)
    have hbr2 : Below W1.heap.size W1 (wr.alloc (.cells #[.string s.1, .string s.2] 136)) := hbr.alloc hbr.size _
    have hd5 : W1.heap.size ≤ wr.heap.size := hbr.size
    generalize wr.alloc (.cells #[.string s.1, .string s.2] 136) = W5 at *
    generalize wr.heap.size = d5 at *
    have e0 := HW.out.c0
    have HT5 := hide (HT.out.below hbr2)
    clear r1 r2 hbr
    have NM := hide (fun W hW => name_any s.1 hsn W hW)
    cases hnb : nameB s.1
    case false =>
      have HR := hide (show strE none t.ss = 4 by rw [HE.out, HSTEP.out, hnb, if_pos rfl])
      rw [hnb] at NM
      clear hnb
      go_wp2_with (go_at_call 143; refine (NM.out _ HT5.out.1).mono ?_; rintro e w7 ⟨rfl, hb7⟩)
      go_ret
      exact ⟨ret_i HR.out.symm, hbel1.trans ((hbr2.trans (hb7.mono hbr2.size)).mono hbel1.size)⟩
    case true =>
    have HS2 := hide (show strE none t.ss = if ordO (prvS t.ss k) s.1 ≠ 0 then ordO (prvS t.ss k) s.1 else strE (some s.1) (t.ss.drop (k + 1)) by rw [HE.out, HSTEP.out, hnb, if_neg (by decide)])
    rw [hnb] at NM
    clear hnb HE HSTEP
    go_upto_region 6 with (go_at_call 143; refine (NM.out _ HT5.out.1).mono ?_; rintro e w7 ⟨rfl, hb7⟩)
    have hb57 := hbr2.trans (hb7.mono hbr2.size)
    have HW7 := hide (HW.out.below hb7)
    have HN7 := hide (HN.out.below hb57)
    have f11 := HN7.out.c11
    have f0 := HW7.out.c0
    clear e0 NM HW hb7 hbr2 HT5
    by_cases hk0 : k = 0
    · have q : decide (0 < k) = false := decide_eq_false (by omega)
      have HK := hide hk0
      clear hk0 f0 f11
      go_wp2_with fail
      go_roundw
      case rel => exact ⟨k + 1, by omega, by go_num, by rw [HX.out, HS2.out, HK.out]; rfl, hb57⟩
      case measure => simp [intOf]; omega
    · obtain ⟨j, hj⟩ : ∃ j, k = j + 1 := ⟨k - 1, by omega⟩
      obtain ⟨s', hs'⟩ : ∃ s', t.ss[j]? = some s' := ⟨_, List.getElem?_eq_getElem (by omega)⟩
      obtain ⟨g', o', eg, -, t2, -⟩ := HST.out.at (hbel1.trans (hb57.mono hbel1.size)) hs'
      injection eg with eg
      injection eg with eg1 eg2
      subst eg1; subst eg2
      have hp : prvS t.ss k = some s'.1 := by rw [hj]; show (t.ss[j]?).map (·.1) = _; rw [hs']; rfl
      have HE2 := hide (show strE none t.ss = if ordE s'.1 s.1 ≠ 0 then ordE s'.1 s.1 else strE (some s.1) (t.ss.drop (k + 1)) by
        have := HS2.out
        rw [hp] at this
        exact this)
      have HO := hide (fun W => (order_any s'.1 s.1 W).mono fun e w9 (h : _ ∧ W = w9) => And.intro h.1 h.2.symm)
      generalize ordE s'.1 s.1 = r at HE2 HO
      have q : decide (0 < k) = true := decide_eq_true (by omega)
      have w1 : IntKind.i64.wrap ((k : Int) - 1) = (j : Int) := by rw [IntWalk.i64_in _ (by omega)]; omega
      have w2 : (0 : Int) ≤ (j : Int) := by omega
      have w3 : (j : Int) < (t.ss.length : Int) := by omega
      clear hk0 hj hs' hp HS2
      by_cases h0 : r = 0
      · have q0 : (r != 0) = false := by simpa using h0
        have HR := hide (show strE none t.ss = strE (prvS t.ss (k + 1)) (t.ss.drop (k + 1)) by rw [HE2.out, HX.out, if_neg (fun e => e h0)])
        clear h0
        go_upto_region 7 with fail
        go_quiet ((go_at_call 146; exact Calls.quiet_of_same (HO.out _)))
        go_wp2_with fail
        go_roundw
        case rel => exact ⟨k + 1, by omega, by go_num, HR.out, below_drewN' hb57⟩
        case measure => simp [intOf]; omega
      · have q0 : (r != 0) = true := by simpa using h0
        have HR := hide (show strE none t.ss = r by rw [HE2.out, if_pos h0])
        clear h0
        go_upto_region 7 with fail
        go_quiet ((go_at_call 146; exact Calls.quiet_of_same (HO.out _)))
        go_wp2_with fail
        go_ret
        exact ⟨ret_i HR.out.symm, hbel1.trans ((below_drewN' hb57).mono hbel1.size)⟩
set_option maxRecDepth 100000 in
set_option maxHeartbeats 4000000 in
theorem rkids_any (t : Tr) (A : Option Addr) (c : Nat) (A2 : Option Addr) (c2 : Nat) (l : Nat) (hlk : t.ks.len ≤ 2000000000) (w : World) (hkl : Left w w.heap.size A t.ks 0) : Calls Tryz.prog 126 #[.agg (ruleC t.h (.slice A t.ks.len c) (.slice A2 t.ss.length c2) l)] w fun e w' => e = .returned (.int .i64 (kidsE t.ks.names)) ∧ Below w.heap.size w w' := by
  have HKL := hide hkl
  clear hkl
  have HL : Live w [] := trivial
  go_enter Tryz.func126, Tryz.ntmps126
  go_upto_region 1 with fail
  have HN := hide (RuleB.new w t.h (.slice A t.ks.len c) (.slice A2 t.ss.length c2) l)
  have hbel1 : Below w.heap.size w (w.alloc (.cells (ruleC t.h (.slice A t.ks.len c) (.slice A2 t.ss.length c2) l) 143)) := by (exact bl)
  generalize w.alloc (.cells (ruleC t.h (.slice A t.ks.len c) (.slice A2 t.ss.length c2) l) 143) = W1 at *
  obtain ⟨b, hb⟩ : ∃ b, b = w.heap.size := ⟨_, rfl⟩
  rw [← hb] at HN ⊢
  clear hb
  go_wp2_with fail
  go_loopw [3] (fun i wr => ∃ (k : Nat) (r : Fo), i = .int .i64 ((k : Int) + 1) ∧ k + r.len = t.ks.len ∧ Left w w.heap.size A r k ∧ kidsE t.ks.names = kidsE r.names ∧ Below W1.heap.size W1 wr) (fun i _ => t.ks.len - (intOf i).toNat)
  case atStart => exact ⟨0, t.ks, rfl, by omega, HKL.out, rfl, Below.refl _ _⟩
  case round =>
    clear HKL
    obtain ⟨k, r, rfl, hkr, hl, hke, hbel⟩ := hrel
    have HLr := hide hl
    have HE := hide hke
    have e10 := (HN.out.below hbel).c10
    have hbel9 := hbel1.trans (hbel.mono hbel1.size)
    clear hl hke
    have fin : ∀ r : Fo, r.len ≤ 1 → kidsE r.names = 0 := fun r hr => by
      cases r with
      | nil => rfl
      | node h ss ks nx =>
        cases nx with
        | nil => rfl
        | node h2 ss2 ks2 nx2 => rw [Fo.len_node, Fo.len_node] at hr; omega
    by_cases hlt : k + 1 < t.ks.len
    case neg =>
      have HR := hide (show kidsE t.ks.names = 0 by rw [HE.out]; exact fin r (by omega))
      have q : decide ((k : Int) + 1 < (t.ks.len : Int)) = false := decide_eq_false (by omega)
      clear fin
      go_wp2_with fail
      go_ret
      exact ⟨ret_i HR.out.symm, hbel9⟩
    case pos =>
    clear fin
    cases r with
    | nil => rw [Fo.len_nil] at hkr; omega
    | node h ss ks nx =>
    cases nx with
    | nil => rw [Fo.len_node, Fo.len_nil] at hkr; omega
    | node h2 ss2 ks2 nx2 =>
    obtain ⟨g, o, rfl, hg, t1, hln⟩ := HLr.out.name hbel9
    obtain ⟨g', o', eg, -, t2, -⟩ := hln.name hbel9
    injection eg with eg
    injection eg with eg1 eg2
    subst eg1; subst eg2
    have HLn := hide hln
    have hke2 : kidsE t.ks.names = if ordE h.name h2.name ≠ 0 then ordE h.name h2.name else kidsE (Fo.node h2 ss2 ks2 nx2).names := HE.out
    have HE2 := hide hke2
    have q : decide ((k : Int) + 1 < (t.ks.len : Int)) = true := decide_eq_true (by omega)
    have w1 : IntKind.i64.wrap ((k : Int) + 1 - 1) = (k : Int) := by rw [IntWalk.i64_in _ (by omega)]; omega
    have w2 : IntKind.i64.wrap (k : Int) = (k : Int) := IntWalk.i64_in _ (by omega)
    have w3 : (k : Int) < (t.ks.len : Int) := by omega
    have w4 : (k : Int) + 1 < (t.ks.len : Int) := by omega
    rw [Fo.len_node] at hkr
    clear hln HLr HE hke2
    have HO := hide (fun W => (order_any h.name h2.name W).mono fun e w9 (h : _ ∧ W = w9) => And.intro h.1 h.2.symm)
    generalize ordE h.name h2.name = r at HE2 HO
    by_cases h0 : r = 0
    · have q0 : (r != 0) = false := by simpa using h0
      have HR := hide (show kidsE t.ks.names = kidsE (Fo.node h2 ss2 ks2 nx2).names by rw [HE2.out, if_neg (fun e => e h0)])
      clear h0
      go_upto_region 4 with fail
      go_quiet ((go_at_call 146; exact Calls.quiet_of_same (HO.out _)))
      go_wp2_with fail
      go_roundw
      case rel => exact ⟨k + 1, _, by go_num, by omega, HLn.out, HR.out, below_drewN' hbel⟩
      case measure => simp [intOf]; omega
    · have q0 : (r != 0) = true := by simpa using h0
      have HR := hide (show kidsE t.ks.names = r by rw [HE2.out, if_pos h0])
      clear h0
      go_upto_region 4 with fail
      go_quiet ((go_at_call 146; exact Calls.quiet_of_same (HO.out _)))
      go_wp2_with fail
      go_ret
      exact ⟨ret_i HR.out.symm, below_drewN' hbel9⟩
theorem built_rule (h : Hd) (A : Option Addr) (n c : Nat) (A2 : Option Addr) (n2 c2 : Nat) (l : Nat) : Tryz.prog.built 143 [(0, .agg (h.cells (.slice A n c) (.slice A2 n2 c2))), (1, .int .i64 (l : Int))] = some (ruleC h (.slice A n c) (.slice A2 n2 c2) l) := by kernel_rfl
theorem wpList_build_is {P : Program} {ops : Array Oper} {rest : List Oper} {o : Oper} {a : Act} {w : World} {Q : Exit → Act → World → Prop} (hg : o.guard = none) (t : TypeId) (parts : Array (Nat × Operand)) (ho : o.op = .build t parts) (vals : List (Nat × Value)) (hv : (parts.map fun (i, x) => (i, a.eval x)).toList = vals) (cells : Array Value) (hb : P.built t vals = some cells)
    (h : wpList P ops Q rest (a.put o.dst (.agg cells)) w) : wpList P ops Q (o :: rest) a w :=
  wpList_build hg t parts ho (by rw [hv, hb]; rfl) (by rw [hv, hb]; exact h)
theorem infR : (Tryz.prog.info? 143).map (·.size) = some 13 := by kernel_rfl
theorem infRs {rc : Array Value} (h : rc.size = 13) : (Tryz.prog.info? 143).map (·.size) = some rc.size := by rw [h]; exact infR
theorem one13 (h : Hd) (A : Option Addr) (n c : Nat) (A2 : Option Addr) (n2 c2 : Nat) (l : Nat) : (ruleC h (.slice A n c) (.slice A2 n2 c2) l).all (·.oneCell') = true := by kernel_rfl
def ruleF (rc : Array Value) : Array Value := #[.func (.func 119) #[.agg rc] #[], .func (.func 120) #[.agg rc] #[], .func (.func 121) #[.agg rc] #[], .func (.func 122) #[.agg rc] #[], .func (.func 123) #[.agg rc] #[], .func (.func 124) #[.agg rc] #[], .func (.func 125) #[.agg rc] #[], .func (.func 126) #[.agg rc] #[]]
def ruleE (t : Tr) (l : Nat) : List Int := [kindE t.h l, nameE t.h l, partsE t, targetE t.h, numE t.h, sizeE t l, strE none t.ss, kidsE t.ks.names]
def RulesOK (w0 : World) (B : Nat) (rc : Array Value) (E : List Int) : Prop := E.length = 8 ∧ ∀ k, k < 8 → ∃ g x, (ruleF rc)[k]? = some (.func (.func g) #[.agg rc] #[]) ∧ (∀ args w, (callFunc g args).run Tryz.prog w = .ok (.enter g args) w) ∧ E.drop k = x :: E.drop (k + 1) ∧
  ∀ W, Below B w0 W → Calls Tryz.prog g #[.agg rc] W fun e w' => e = .returned (.int .i64 x) ∧ Below W.heap.size W w'
theorem rules_ok (t : Tr) (A : Option Addr) (c : Nat) (A2 : Option Addr) (c2 : Nat) (l : Nat) (hl : 1 ≤ l ∧ l ≤ 2000000000) (hsz : t.sz ≤ 120000) (w : World) (B : Nat) (hB : B ≤ w.heap.size) (hT : ∀ W, Below B w W → TabV W) (hs : StL w B A2 t.ss) (hk : Left w B A t.ks 0) :
    RulesOK w B (ruleC t.h (.slice A t.ks.len c) (.slice A2 t.ss.length c2) l) (ruleE t l) := by
  have hst : ∀ W, Below B w W → StL W W.heap.size A2 t.ss := fun W hb h0 => by
    obtain ⟨g, o, e, hg, hc⟩ := hs h0
    exact ⟨g, o, e, Nat.lt_of_lt_of_le hg (Nat.le_trans hB hb.size), fun j s hj => ⟨(hb.cell (p := ⟨g, o + j * 2, none⟩) hg).trans (hc j s hj).1, (hb.cell (p := ⟨g, o + (j * 2 + 1), none⟩) hg).trans (hc j s hj).2⟩⟩
  have hkd : ∀ W, Below B w W → Left W W.heap.size A t.ks 0 := fun W hb h0 => by
    obtain ⟨g, o, e, hg, hf⟩ := hk h0
    exact ⟨g, o, e, Nat.lt_of_lt_of_le hg (Nat.le_trans hB hb.size), (ForR.below hb _ _ _ hg hf).mono (Nat.le_trans hB hb.size) _ _ _⟩
  have hn : t.h.name.size ≤ 120000 := by unfold Tr.sz Hd.sz at hsz; omega
  have ht : t.h.target.size ≤ 120000 := by unfold Tr.sz Hd.sz at hsz; omega
  have hkl : t.ks.len ≤ 2000000000 := by have := t.ks.len_sz; unfold Tr.sz at hsz; omega
  refine ⟨rfl, ?_⟩
  intro k h8
  match k, h8 with
  | 0, _ => exact ⟨119, _, rfl, enters_of Tryz.func119 (by kernel_rfl) rfl, rfl, fun W hb => rkind_any t.h _ _ l W⟩
  | 1, _ => exact ⟨120, _, rfl, enters_of Tryz.func120 (by kernel_rfl) rfl, rfl, fun W hb => rname1_any t.h _ _ l hl.1 hn W (hT W hb)⟩
  | 2, _ => exact ⟨121, _, rfl, enters_of Tryz.func121 (by kernel_rfl) rfl, rfl, fun W hb => rparts_any t A c A2 c2 l W⟩
  | 3, _ => exact ⟨122, _, rfl, enters_of Tryz.func122 (by kernel_rfl) rfl, rfl, fun W hb => rtgt_any t.h _ _ l ht W (hT W hb)⟩
  | 4, _ => exact ⟨123, _, rfl, enters_of Tryz.func123 (by kernel_rfl) rfl, rfl, fun W hb => rnum_any t.h A _ c A2 _ c2 l W⟩
  | 5, _ => exact ⟨124, _, rfl, enters_of Tryz.func124 (by kernel_rfl) rfl, rfl, fun W hb => rsizes_any t A c A2 c2 l hl.2 (by omega) W (hst W hb)⟩
  | 6, _ => exact ⟨125, _, rfl, enters_of Tryz.func125 (by kernel_rfl) rfl, rfl, fun W hb => rstr_any t A c A2 c2 l hsz W (hT W hb) (hst W hb)⟩
  | 7, _ => exact ⟨126, _, rfl, enters_of Tryz.func126 (by kernel_rfl) rfl, rfl, fun W hb => rkids_any t A c A2 c2 l hkl W (hkd W hb)⟩
  | n + 8, h => omega
theorem FrO.mono {O O' : Nat → Prop} {w w' : World} (h : ∀ j, O j → O' j) (f : FrO O w w') : FrO O' w w' := ⟨f.os, f.tape, f.output, f.size, fun j hj hn => f.block j hj (fun e => hn (h j e))⟩
theorem FrO.set {O : Nat → Prop} {w : World} {n i : Nat} {v : Value} (h : O n) : FrO O w (w.setCell ⟨n, i, none⟩ v) := ⟨rfl, rfl, rfl, by simp [World.setCell], fun j _ hn => Below.heap_setCell _ _ _ _ (fun e => hn (by rw [e]; exact h))⟩
theorem firstE_eq {x : Int} {l : List Int} (h : x = 0) : firstE (x :: l) = firstE l := by rw [firstE, if_neg (fun e => e h)]
set_option maxRecDepth 100000 in
set_option maxHeartbeats 4000000 in
theorem chk1_any (t : Tr) (A : Option Addr) (c : Nat) (A2 : Option Addr) (c2 : Nat) (l e0 a0 B : Nat) (p at0 : ByteArray) (er : Int) (w : World) (hne : e0 ≠ a0) (hB : B ≤ w.heap.size) (hBe : B ≤ e0) (hBa : B ≤ a0) (hbe : Blk w e0 #[.int .i64 er] 29) (hba : Blk w a0 #[.string at0] 9)
    (hR : RulesOK w B (ruleC t.h (.slice A t.ks.len c) (.slice A2 t.ss.length c2) l) (ruleE t l)) :
    Calls Tryz.prog 118 #[.agg (t.h.cells (.slice A t.ks.len c) (.slice A2 t.ss.length c2)), .string p, .int .i64 (l : Int), .pointer (some ⟨e0, 0, none⟩), .pointer (some ⟨a0, 0, none⟩)] w fun e w' => e = .returned (.bool (chkStep (at0, er) t p l).1) ∧ Blk w' e0 #[.int .i64 (chkStep (at0, er) t p l).2.2] 29 ∧ Blk w' a0 #[.string (chkStep (at0, er) t p l).2.1] 9 ∧ FrO (fun j => j = e0 ∨ j = a0) w w' := by
  have HX := hide (show oneE t l = firstE (ruleE t l) from rfl)
  have HST : chkStep (at0, er) t p l = if oneE t l ≠ 0 then (false, (p, oneE t l)) else (true, (at0, 0)) := rfl
  have HSt := hide HST
  have HRo := hide hR
  have HBe := hide hbe
  have HBa := hide hba
  have hle := hbe.lt
  have hla := hba.lt
  generalize ruleE t l = E at *
  clear HST hR hbe hba
  have HL : Live w [] := trivial
  go_enter Tryz.func118, Tryz.ntmps118
  go_upto_region 1 with fail
  have HN := hide (NodeB.new w t.h (.slice A t.ks.len c) (.slice A2 t.ss.length c2))
  have hbel1 : Below w.heap.size w (w.alloc (.cells (t.h.cells (.slice A t.ks.len c) (.slice A2 t.ss.length c2)) 25)) := by (exact bl)
  generalize w.alloc (.cells (t.h.cells (.slice A t.ks.len c) (.slice A2 t.ss.length c2)) 25) = W1 at *
  obtain ⟨b, hb⟩ : ∃ b, b = w.heap.size := ⟨_, rfl⟩
  rw [← hb] at HN ⊢
  clear hb
  have R1 := hide (show W1.rangeAt b 0 (t.h.cells (.slice A t.ks.len c) (.slice A2 t.ss.length c2)).toList from fun j u hu => by rw [Nat.zero_add, HN.out.blk.cells j, ← Array.getElem?_toList, hu])
  go_upto_region 2 with (first | (refine wpList_load_midA rfl 25 (.tmp 5) rfl b 0 rfl (t.h.cells (.slice A t.ks.len c) (.slice A2 t.ss.length c2)) _ R1.out Tryz.underlying25 rfl (infNl rfl) ?_) | (refine wpList_build_is rfl 143 #[(0, .tmp 12), (1, .tmp 13)] rfl _ (by simp only [List.map_toArray, List.map_cons, List.map_nil]; rfl) _ (built_rule t.h A t.ks.len c A2 t.ss.length c2 l) ?_) | (refine wpList_store_new rfl 143 (.tmp 9) (.tmp 14) rfl (ruleC t.h (.slice A t.ks.len c) (.slice A2 t.ss.length c2) l) rfl rfl 143 _ infR rfl (one13 _ _ _ _ _ _ _ _) ?_))
  have h13 : (ruleC t.h (.slice A t.ks.len c) (.slice A2 t.ss.length c2) l).size = 13 := rfl
  generalize ruleC t.h (.slice A t.ks.len c) (.slice A2 t.ss.length c2) l = rc at *
  have HRB := hide (show Blk (W1.alloc (.cells rc 143)) W1.heap.size rc 143 from Blk.newAt rfl)
  have hbel2 : Below w.heap.size w (W1.alloc (.cells rc 143)) := hbel1.alloc hbel1.size _
  generalize W1.alloc (.cells rc 143) = W2 at *
  obtain ⟨d, hd⟩ : ∃ d, d = W1.heap.size := ⟨_, rfl⟩
  rw [← hd] at HRB ⊢
  clear hd HN R1 hbel1
  go_upto_block 0 with ((refine wpList_load_row rfl 143 (.tmp 9) rfl d rfl 143 rc (0, 0) _ HRB.out Tryz.underlying143 rfl (infRs h13) ?_))
  obtain ⟨W3, hW3⟩ : ∃ W3, W3 = W2.alloc (.cells (ruleF rc) 144) := ⟨_, rfl⟩
  have HF := hide (show Blk W3 W2.heap.size (ruleF rc) 144 by rw [hW3]; exact Blk.newAt rfl)
  have hbel3 : Below w.heap.size w W3 := by rw [hW3]; exact hbel2.alloc hbel2.size _
  unfold ruleF at hW3
  rw [← hW3]
  clear hW3
  obtain ⟨fb, hfb⟩ : ∃ fb, fb = W2.heap.size := ⟨_, rfl⟩
  have hfbw : w.heap.size ≤ fb := by have := hbel2.size; omega
  rw [← hfb] at HF ⊢
  clear hfb HRB hbel2
  have HBe3 := hide (Blk.below hbel3 HBe.out)
  have HBa3 := hide (Blk.below hbel3 HBa.out)
  go_wp2_with fail
  go_loopw [33] (fun i wr => ∃ (k : Nat) (x : Int), k ≤ 8 ∧ i = .int .i64 (k : Int) ∧ firstE E = firstE (E.drop k) ∧ (0 < k → x = 0) ∧ Blk wr e0 #[.int .i64 x] 29 ∧ Blk wr a0 #[.string at0] 9 ∧ Blk wr fb (ruleF rc) 144 ∧ FrO (fun j => j = e0) w wr) (fun i _ => 8 - (intOf i).toNat)
  case atStart => exact ⟨0, er, by omega, rfl, rfl, fun h => absurd h (Nat.lt_irrefl _), HBe3.out, HBa3.out, HF.out, FrO.of hbel3⟩
  case round =>
    clear HBe3 HBa3 HF hbel3
    obtain ⟨k, x, hk, rfl, hno, hx0, hb1, hb2, hb3, hfr⟩ := hrel
    have HNO := hide hno
    have HX0 := hide hx0
    have HB1 := hide hb1
    have HB2 := hide hb2
    have HB3 := hide hb3
    have HFR := hide hfr
    clear hno hx0 hb1 hb2 hb3 hfr
    by_cases hlt : k < 8
    case neg =>
      obtain rfl : k = 8 := by omega
      have hE : E.drop 8 = [] := by
        exact List.drop_of_length_le (by rw [HRo.out.1]; omega)
      have hx : x = 0 := HX0.out (by omega)
      subst hx
      have HZ := hide (show chkStep (at0, er) t p l = (true, (at0, 0)) by rw [HSt.out, HX.out, HNO.out, hE, if_neg (fun e => e rfl)])
      go_wp2_with fail
      go_ret
      exact ⟨ret_b (by rw [HZ.out]), by rw [HZ.out]; exact HB1.out, by rw [HZ.out]; exact HB2.out, FrO.mono (fun j h => Or.inl h) HFR.out⟩
    case pos =>
    obtain ⟨g, y, hfk, eg, hEk, hcall⟩ := HRo.out.2 k hlt
    have hbr : Below B w wr := HFR.out.below hB (fun j h => by subst h; exact hBe)
    have CL := hide (hcall wr hbr)
    have ck : wr.cell? ⟨fb, k, none⟩ = some (.func (.func g) #[.agg rc] #[]) := (HB3.out.cells k).trans hfk
    have HEk := hide hEk
    have hsz := HFR.out.size
    clear hcall hfk hEk
    cases hy : decide (y = 0)
    case true =>
      have hy0 : y = 0 := of_decide_eq_true hy
      subst hy0
      have HE2 := hide (show firstE E = firstE (E.drop (k + 1)) by rw [HNO.out, HEk.out, firstE_eq rfl])
      clear hy
      go_wp2_with (go_at_fn g; refine CL.out.mono ?_; rintro e w7 ⟨rfl, hb7⟩; have hB7 := hide (Blk.below hb7 HB1.out); have hA7 := hide (Blk.below hb7 HB2.out); have hF7 := hide (Blk.below hb7 HB3.out); have c7 := hB7.out.cells 0; have f7 := hB7.out.free 0)
      go_roundw
      case rel => exact ⟨k + 1, 0, by omega, by go_num, HE2.out, fun _ => rfl, hB7.out.put rfl, Blk.other (Ne.symm hne) hA7.out, Blk.other (by omega) hF7.out, HFR.out.trans ((FrO.of (O := fun j => j = e0) hb7).trans (FrO.set (O := fun j => j = e0) rfl) (fun j h => Or.inl h)) (fun j h => Or.inl h)⟩
      case measure => simp [intOf]; omega
    case false =>
      have hy0 : y ≠ 0 := of_decide_eq_false hy
      have q : (y != 0) = true := by simpa using hy0
      have HZ := hide (show chkStep (at0, er) t p l = (false, (p, y)) by rw [HSt.out, HX.out, HNO.out, HEk.out, firstE_ne hy0, if_pos hy0])
      clear hy hy0
      go_wp2_with (go_at_fn g; refine CL.out.mono ?_; rintro e w7 ⟨rfl, hb7⟩; have hB7 := hide (Blk.below hb7 HB1.out); have hA7 := hide (Blk.below hb7 HB2.out); have c7 := hB7.out.cells 0; have f7 := hB7.out.free 0; have a7 := hA7.out.cells 0; have g7 := hA7.out.free 0)
      go_ret
      exact ⟨ret_b (by rw [HZ.out]), by rw [HZ.out]; exact Blk.other hne (hB7.out.put rfl), by rw [HZ.out]; exact Blk.put rfl (Blk.other (Ne.symm hne) hA7.out), (FrO.mono (fun j h => Or.inl h) HFR.out).trans (((FrO.of (O := fun j => j = e0 ∨ j = a0) hb7).trans (FrO.set (O := fun j => j = e0 ∨ j = a0) (Or.inl rfl)) (fun j h => Or.inl h)).trans (FrO.set (O := fun j => j = e0 ∨ j = a0) (Or.inr rfl)) (fun j h => Or.inl h)) (fun j h => Or.inl h)⟩
def ChkI (W0 : World) (e0 a0 : Nat) (s : ByteArray × Int) (O : Nat → Prop) (w : World) : Prop := O = (fun j => j = e0 ∨ j = a0) ∧ Below W0.heap.size W0 w ∧ e0 ≠ a0 ∧ Blk w e0 #[.int .i64 s.2] 29 ∧ Blk w a0 #[.string s.1] 9
theorem TreeR.openL {w : World} {B : Nat} {v : Value} {t : Tr} (h : TreeR w B v t) : ∃ A c A2 c2, v = .agg (t.h.cells (.slice A t.ks.len c) (.slice A2 t.ss.length c2)) ∧ Left w B A t.ks 0 ∧ StL w B A2 t.ss := by
  obtain ⟨A, c, A2, c2, e, hk, hs⟩ := h.open
  exact ⟨A, c, A2, c2, e, Left.of hk, hs⟩
theorem chk_visit (W0 : World) (hT : TabV W0) (e0 a0 Z : Nat) (hZ : Z ≤ 120000) (he : W0.heap.size ≤ e0) (ha : W0.heap.size ≤ a0) : VisitOK chkStep (fun _ _ => True) (ChkI W0 e0 a0) W0.heap.size Z 118 #[.pointer (some ⟨e0, 0, none⟩), .pointer (some ⟨a0, 0, none⟩)] :=
  ⟨enters_of Tryz.func118 (by kernel_rfl) rfl,
  fun s O w j ⟨e, _, _, hb, hb2⟩ h => by subst e; rcases h with rfl | rfl; exact ⟨he, hb.lt⟩; exact ⟨ha, hb2.lt⟩,
  fun s O w w' ⟨e, hb, hne, h1, h2⟩ h => ⟨e, hb.trans (h.mono hb.size), hne, Blk.below h h1, Blk.below h h2⟩,
  fun s t p l v O w _ hsz hl hpl ⟨e, hb, hne, h1, h2⟩ hBw hv => by
    subst e
    obtain ⟨A, c, A2, c2, rfl, hk, hs⟩ := hv.openL
    refine (chk1_any t A c A2 c2 l e0 a0 W0.heap.size p s.1 s.2 w hne hBw he ha h1 h2 (rules_ok t A c A2 c2 l ⟨hl, by omega⟩ (Nat.le_trans hsz hZ) w W0.heap.size hBw (fun W hbW => hT.below (hb.trans hbW)) hs hk)).mono fun e w' ⟨a1, a2, a3, a4⟩ => ⟨a1, ⟨_, ⟨rfl, hb.trans (a4.below hBw (fun j h => by rcases h with rfl | rfl <;> assumption)), hne, a2, a3⟩, fun j h => Or.inl h⟩, a4⟩⟩
theorem checkT_walk (t : Tr) (h : ¬ 256 < t.count) : (walkT chkStep t eS 1 (eS, 0)).2 = checkT t := by
  rw [walkT_check]
  unfold checkT
  rw [if_neg h]
  cases chkT t <;> rfl
set_option maxRecDepth 100000 in
set_option maxHeartbeats 4000000 in
theorem check_any (t : Tr) (hsz : t.sz ≤ 120000 ∨ (256 < t.count ∧ t.sz ≤ 50000000)) (v : Value) (w : World) (hT : TabV w) (hv : TreeR w w.heap.size v t) : Calls Tryz.prog 84 #[v] w fun e w' => e = .returned (.tuple #[.string (checkT t).1, .int .i64 (checkT t).2]) ∧ Below w.heap.size w w' := by
  have HE := hide (show checkT t = if 256 < t.count then (eS, 7) else _ from rfl)
  have HV := hide hv
  have CN := hide (fun W hW => count_any t (by omega) v W hW)
  obtain ⟨cells, rfl, hz, h1c⟩ := hv.cells
  have HZ := hide hz
  have HT := hide hT
  clear hv hz h1c hT
  have HL : Live w [] := trivial
  go_enter Tryz.func84, Tryz.ntmps84
  go_upto_region 1 with fail
  have HB := hide (show Blk (w.alloc (.cells cells 25)) w.heap.size cells 25 from Blk.newAt rfl)
  have hbel1 : Below w.heap.size w (w.alloc (.cells cells 25)) := by (exact bl)
  have HV1 := hide (HV.out.later hbel1)
  generalize w.alloc (.cells cells 25) = W1 at *
  obtain ⟨b, hb⟩ : ∃ b, b = w.heap.size := ⟨_, rfl⟩
  rw [← hb] at HB ⊢
  clear hb
  by_cases h1 : 256 < t.count
  · have q : decide ((256 : Int) < (t.count : Int)) = true := decide_eq_true (by omega)
    have q2 : (256 : Int) < (t.count : Int) := by omega
    have HR := hide (show checkT t = (eS, 7) by rw [HE.out, if_pos h1])
    clear h1
    go_wp2_with (first | (refine wpList_load_row rfl 25 (.tmp 1) rfl b rfl 25 cells (0, 0) _ HB.out Tryz.underlying25 rfl (infN HZ.out) ?_) | (go_at_call 117; refine (CN.out _ HV1.out).mono ?_; rintro e w3 ⟨rfl, hb3⟩))
    ((try simp only [Exit.inBlock, Exit.then]); refine bodyPost_ret (by simp only [results, Tryz.results84]; go_simp; try rfl) rfl ?_)
    exact ⟨by rw [HR.out], hbel1.trans (hb3.mono hbel1.size)⟩
  · have q : decide ((256 : Int) < (t.count : Int)) = false := decide_eq_false (by omega)
    have q2 : ¬ (256 : Int) < (t.count : Int) := by omega
    have hs6 : t.sz ≤ 120000 := by omega
    have HR := hide (checkT_walk t h1)
    have hcn : t.count ≤ 50000000 := by omega
    clear h1 HE
    go_upto_region 3 with (first | (refine wpList_load_row rfl 25 (.tmp 1) rfl b rfl 25 cells (0, 0) _ HB.out Tryz.underlying25 rfl (infN HZ.out) ?_) | (go_at_call 117; refine (CN.out _ HV1.out).mono ?_; rintro e w3 ⟨rfl, hb3⟩))
    have HB3 := hide (Blk.below hb3 HB.out)
    have hbel3 := hbel1.trans (hb3.mono hbel1.size)
    clear HB HV1 hbel1 hb3 CN q q2
    go_upto_region 4 with fail
    have hbel4 : Below w.heap.size w ((w3.alloc (.cells #[.string ⟨#[]⟩] 9)).alloc (.cells #[.int .i64 0] 29)) := (hbel3.alloc hbel3.size _).alloc (by rw [World.size_alloc]; have := hbel3.size; omega) _
    have HI := hide (show ChkI w (w3.heap.size + 1) w3.heap.size (eS, 0) (fun j => j = w3.heap.size + 1 ∨ j = w3.heap.size) ((w3.alloc (.cells #[.string ⟨#[]⟩] 9)).alloc (.cells #[.int .i64 0] 29)) from
      ⟨rfl, hbel4, by omega, Blk.newAt (by rw [World.size_alloc]), (Blk.newAt rfl).alloc _⟩)
    have HB4 := hide ((HB3.out.alloc (.cells #[.string ⟨#[]⟩] 9)).alloc (.cells #[.int .i64 0] 29))
    have he0 : w.heap.size ≤ w3.heap.size + 1 := by have := hbel3.size; omega
    have ha0 : w.heap.size ≤ w3.heap.size := hbel3.size
    generalize (w3.alloc (.cells #[.string ⟨#[]⟩] 9)).alloc (.cells #[.int .i64 0] 29) = W4 at *
    generalize w3.heap.size + 1 = e0 at *
    generalize w3.heap.size = a0 at *
    have WK0 := walk_any (chk_visit w HT.out e0 a0 120000 (by omega) he0 ha0) 50000000 t hcn hs6 (by omega) eS 1 (by omega) (by have := t.ks.wt_sz; unfold Tr.sz at hs6; show 0 + 1 + _ ≤ _; omega) (eS, 0) _ (.agg cells) W4 (goodT_true _ _ _ _ _) HI.out hbel4.size (HV.out.below hbel4)
    obtain ⟨ok, s1, hst⟩ : ∃ ok s1, walkT chkStep t eS 1 (eS, 0) = (ok, s1) := ⟨_, _, rfl⟩
    rw [hst] at WK0 HR
    clear hst
    have WK := hide (show Calls Tryz.prog 80 #[.agg cells, .string ⟨#[]⟩, .int .i64 1, .func (.func 118) #[] #[.pointer (some ⟨e0, 0, none⟩), .pointer (some ⟨a0, 0, none⟩)]] W4 (WPost (ChkI w e0 a0) (fun j => j = e0 ∨ j = a0) W4 (ok, s1)) from WK0)
    clear WK0 HI
    go_upto_region 5 with (first | (refine wpList_load_row rfl 25 (.tmp 1) rfl b rfl 25 cells (0, 0) _ HB4.out Tryz.underlying25 rfl (infN HZ.out) ?_) | (go_at_call 80; refine WK.out.mono ?_; rintro e w5 ⟨rfl, ⟨O5, ⟨hO5, hb5, hne5, he5, ha5⟩, -⟩, hf5⟩))
    have c0 := he5.cells 0
    have c1 := ha5.cells 0
    clear WK HB4 he5 ha5
    go_quiet (fail)
    go_wp2_with fail
    ((try simp only [Exit.inBlock, Exit.then]); refine bodyPost_ret (by simp only [results, Tryz.results84]; go_simp; try rfl) rfl ?_)
    exact ⟨by rw [← HR.out], below_drewN' hb5⟩
set_option maxHeartbeats 2000000 in
theorem valid_any (t : Tr) (hsz : t.sz ≤ 120000 ∨ (256 < t.count ∧ t.sz ≤ 50000000)) (v : Value) (w : World) (hT : TabV w) (hv : TreeR w w.heap.size v t) : Calls Tryz.prog 56 #[v] w fun e w' => e = .returned (.bool (validB t)) ∧ Below w.heap.size w w' := by
  have HE := hide (show validB t = decide ((checkT t).2 = 0) from rfl)
  have CN := hide (fun W hTW hW => check_any t hsz v W hTW hW)
  have HV := hide hv
  obtain ⟨cells, rfl, hz, h1c⟩ := hv.cells
  have HZ := hide hz
  obtain ⟨x, e, hxe⟩ : ∃ x e, checkT t = (x, e) := ⟨_, _, rfl⟩
  rw [hxe] at HE CN
  have CN2 := hide CN.out
  clear hxe hv hz h1c CN
  have HL : Live w [] := trivial
  go_enter Tryz.func56, Tryz.ntmps56
  go_upto_region 1 with fail
  have HB := hide (show Blk (w.alloc (.cells cells 25)) w.heap.size cells 25 from Blk.newAt rfl)
  have hbel1 : Below w.heap.size w (w.alloc (.cells cells 25)) := by (exact bl)
  have HV1 := hide (HV.out.later hbel1)
  have HT1 := hide (hT.below hbel1)
  generalize w.alloc (.cells cells 25) = W1 at *
  obtain ⟨b, hb⟩ : ∃ b, b = w.heap.size := ⟨_, rfl⟩
  rw [← hb] at HB ⊢
  clear hb HV hT
  go_wp2_with (first | (refine wpList_load_row rfl 25 (.tmp 1) rfl b rfl 25 cells (0, 0) _ HB.out Tryz.underlying25 rfl (infN HZ.out) ?_) | (go_at_call 84; refine (CN2.out _ HT1.out HV1.out).mono ?_; rintro e' w3 ⟨rfl, hb3⟩))
  go_ret
  exact ⟨ret_b (by rw [HE.out, Bool.eq_iff_iff]; simp), hbel1.trans (hb3.mono hbel1.size)⟩
theorem append_block {P : Program} (w : World) (base : Nat) (t ty e : TypeId) (i : TypeInfo) (z : Value) (size bytes : Nat) (ht : P.underlying t = some (.slice e)) (hi : P.info? e = some i) (hz : i.zero = some z)
    (hsize : i.size = size) (hby : i.bytes = bytes) (v : Value) (n : Nat) (xs : List Value) (hown : w.ownsRow base e size v n xs)
    (a : Addr) (m c : Nat) (news : List Value) (hl : news.length = m * size) (hnews : ∀ j u, news[j]? = some u → w.cell? (a.add j) = some u) (h1 : ∀ u ∈ news, u.oneCell' = true)
    (h63 : n + m ≤ maxLen) (hbytes : ((n + m) + (n + m) / 4 + 192) * bytes ≤ 281474976710656) (v' : Value) (w' : World)
    (hr : (Builtin.append_ #[t, t] ty #[v, .slice (some a) m c]).run P w = .ok v' w') : v'.ownBlock = v.ownBlock ∨ v'.ownBlock = some w.heap.size := by
  subst hsize
  subst hby
  have hsmall : n + m ≤ 9223372036854775807 := by simp only [maxLen] at h63; omega
  rcases hown.2 with ⟨rfl, rfl⟩ | ⟨g, cap, cur, rfl, hbg, hg, hnc, hcm, hcs, htake⟩
  · by_cases hm : m = 0
    · subst hm
      have hn : news = [] := List.eq_nil_of_length_eq_zero (by simpa using hl)
      subst hn
      simp [Builtin.append_, run_underlying ht, sizeOf, typeInfo, hi, Builtin.lenOf, Builtin.firstCells, loadCells, loadCellsFrom] at hr
      exact Or.inl (by rw [← hr.1])
    · rw [run_append_nil (P := P) w t ty e i z ht hi hz a m c news hl hnews (by omega) (by omega) (by have hb := hbytes; simp only [Nat.zero_add] at hb; exact Nat.le_trans (Nat.mul_le_mul_right _ (by omega)) hb)] at hr
      injection hr with h1 h2
      exact Or.inr (by rw [← h1]; rfl)
  · by_cases hroom : n + m ≤ cap
    · have hfit : n * i.size + news.length ≤ cur.size := by rw [hl, hcs, ← Nat.add_mul]; exact Nat.mul_le_mul_right _ hroom
      rw [run_append_room (P := P) w t ty e i ht hi g n cap cur hg a m c news hl hnews h1 hroom hfit] at hr
      injection hr with h1 h2
      exact Or.inl (by rw [← h1]; rfl)
    · have holds : ∀ j u, xs[j]? = some u → w.cell? ((⟨g, 0, none⟩ : Addr).add j) = some u := hown.cells (g := g) rfl
      rw [run_append_grow (P := P) w t ty e i z ht hi hz ⟨g, 0, none⟩ n cap xs hown.1 holds a m c news hl hnews (by omega) (by omega) (growslice_fits_wide (by omega) hbytes)] at hr
      injection hr with h1 h2
      exact Or.inr (by rw [← h1]; rfl)
theorem wp_append_rows {P : Program} (w : World) {o : Oper} {a : Act} {K : Act → World → Prop} {Q : Exit → Act → World → Prop} (s x : Operand) (t : TypeId)
    (ho : o.op = .call { callee := .builtin .append, args := #[s, x], argTypes := #[t, t] })
    (base : Nat) (e : TypeId) {z : Value} {size bytes : Nat} (hinfo : (P.info? e).map (fun i => (i.zero, i.size, i.bytes)) = some (some z, size, bytes)) (ht : P.underlying t = some (.slice e))
    (hzs : z.cells.size = size) (hsz : 0 < size)
    (v : Value) (n : Nat) (xs : List Value) (hown : w.ownsRow base e size v n xs) (ad : Addr) (m c : Nat) (news : List Value)
    (hs : a.eval s = v) (hx : a.eval x = .slice (some ad) m c) (hl : news.length = m * size) (hnews : ∀ j u, news[j]? = some u → w.cell? (ad.add j) = some u) (h1 : ∀ u ∈ news, u.oneCell' = true)
    (h63 : n + m ≤ maxLen) (hbytes : ((n + m) + (n + m) / 4 + 192) * bytes ≤ 281474976710656) (hbase : base ≤ w.heap.size)
    (h : ∀ v' w', w'.ownsRow base e size v' (n + m) (xs ++ news) → (v'.ownBlock = v.ownBlock ∨ v'.ownBlock = some w.heap.size) → w.grownBy w' v.ownBlock → K (a.put o.dst v') w') : o.wp P a w K Q := by
  obtain ⟨i, hi, hz0, hz1, hz2⟩ := info_parts hinfo
  obtain ⟨v', w', hr, h2, h3, h4⟩ := run_append_own_wide (P := P) w base t o.type e i z size bytes ht hi hz0 hz1 hz2 hzs hsz v n xs hown ad m c news hl hnews h1 h63 hbytes hbase
  have hb := append_block w base t o.type e i z size bytes ht hi hz0 hz1 hz2 v n xs hown ad m c news hl hnews h1 h63 hbytes v' w' hr
  unfold Oper.wp execOp
  simp only [ho, resolve, invoke, builtin, Sem.run_bind, Sem.run_pure, Result.andThen_ok, List.map_toArray, List.map_cons, List.map_nil, hs, hx, hr]
  exact h v' w' h2 hb h3
theorem wpList_append_rows {P : Program} (w : World) {ops : Array Oper} {rest : List Oper} {o : Oper} {a : Act} {Q : Exit → Act → World → Prop} (hgd : o.guard = none) (s x : Operand) (t : TypeId)
    (ho : o.op = .call { callee := .builtin .append, args := #[s, x], argTypes := #[t, t] })
    (base : Nat) (e : TypeId) {z : Value} {size bytes : Nat} (hinfo : (P.info? e).map (fun i => (i.zero, i.size, i.bytes)) = some (some z, size, bytes)) (ht : P.underlying t = some (.slice e))
    (hzs : z.cells.size = size) (hsz : 0 < size)
    (v : Value) (n : Nat) (xs : List Value) (hown : w.ownsRow base e size v n xs) (ad : Addr) (m c : Nat) (news : List Value)
    (hs : a.eval s = v) (hx : a.eval x = .slice (some ad) m c) (hl : news.length = m * size) (hnews : ∀ j u, news[j]? = some u → w.cell? (ad.add j) = some u) (h1 : ∀ u ∈ news, u.oneCell' = true)
    (h63 : n + m ≤ maxLen) (hbytes : ((n + m) + (n + m) / 4 + 192) * bytes ≤ 281474976710656) (hbase : base ≤ w.heap.size)
    (h : ∀ v' w', w'.ownsRow base e size v' (n + m) (xs ++ news) → (v'.ownBlock = v.ownBlock ∨ v'.ownBlock = some w.heap.size) → w.grownBy w' v.ownBlock → wpList P ops Q rest (a.put o.dst v') w') : wpList P ops Q (o :: rest) a w :=
  wpList_plain hgd fun _ hK => wp_append_rows w s x t ho base e hinfo ht hzs hsz v n xs hown ad m c news hs hx hl hnews h1 h63 hbytes hbase fun v' w' h2 h3 h4 => hK _ _ (h v' w' h2 h3 h4)
theorem step_append_rows {P : Program} (w : World) {ops : Array Oper} {o : Oper} {a : Act} {K : Act → World → Prop} {Q : Exit → Act → World → Prop} {E : Prop} (hgd : o.guard = none) (s x : Operand) (t : TypeId)
    (ho : o.op = .call { callee := .builtin .append, args := #[s, x], argTypes := #[t, t] })
    (base : Nat) (e : TypeId) {z : Value} {size bytes : Nat} (hinfo : (P.info? e).map (fun i => (i.zero, i.size, i.bytes)) = some (some z, size, bytes)) (ht : P.underlying t = some (.slice e))
    (hzs : z.cells.size = size) (hsz : 0 < size)
    (v : Value) (n : Nat) (xs : List Value) (hown : w.ownsRow base e size v n xs) (ad : Addr) (m c : Nat) (news : List Value)
    (hs : a.eval s = v) (hx : a.eval x = .slice (some ad) m c) (hl : news.length = m * size) (hnews : ∀ j u, news[j]? = some u → w.cell? (ad.add j) = some u) (h1 : ∀ u ∈ news, u.oneCell' = true)
    (h63 : n + m ≤ maxLen) (hbytes : ((n + m) + (n + m) / 4 + 192) * bytes ≤ 281474976710656) (hbase : base ≤ w.heap.size)
    (h : ∀ v' w', w'.ownsRow base e size v' (n + m) (xs ++ news) → (v'.ownBlock = v.ownBlock ∨ v'.ownBlock = some w.heap.size) → w.grownBy w' v.ownBlock → K (a.put o.dst v') w') :
    if Region.wanted o (yielded ops a.tmps) = true then Oper.wp P o a w K Q else E := by
  have hw : Region.wanted o (yielded ops a.tmps) = true := by simp [Region.wanted, hgd]
  rw [if_pos hw]
  exact wp_append_rows w s x t ho base e hinfo ht hzs hsz v n xs hown ad m c news hs hx hl hnews h1 h63 hbytes hbase h
theorem wpList_append_blk {P : Program} (w : World) {ops : Array Oper} {rest : List Oper} {o : Oper} {a : Act} {Q : Exit → Act → World → Prop} (hgd : o.guard = none) (s x : Operand) (t : TypeId)
    (ho : o.op = .call { callee := .builtin .append, args := #[s, x], argTypes := #[t, t] })
    (base : Nat) (e : TypeId) {z : Value} {size bytes : Nat} (hinfo : (P.info? e).map (fun i => (i.zero, i.size, i.bytes)) = some (some z, size, bytes)) (ht : P.underlying t = some (.slice e))
    (hzs : z.cells.size = size) (hsz : 0 < size)
    (v : Value) (n : Nat) (xs : List Value) (hown : w.ownsRow base e size v n xs) (g : Nat) (news : Array Value) (hblk : Blk w g news e)
    (hs : a.eval s = v) (hx : a.eval x = .slice (some ⟨g, 0, none⟩) 1 1) (hl : news.size = size) (h1 : ∀ u ∈ news.toList, u.oneCell' = true)
    (h63 : n + 1 ≤ maxLen) (hbytes : ((n + 1) + (n + 1) / 4 + 192) * bytes ≤ 281474976710656) (hbase : base ≤ w.heap.size)
    (h : ∀ v' w', w'.ownsRow base e size v' (n + 1) (xs ++ news.toList) → (v'.ownBlock = v.ownBlock ∨ v'.ownBlock = some w.heap.size) → w.grownBy w' v.ownBlock → wpList P ops Q rest (a.put o.dst v') w') : wpList P ops Q (o :: rest) a w :=
  wpList_append_rows w hgd s x t ho base e hinfo ht hzs hsz v n xs hown ⟨g, 0, none⟩ 1 1 news.toList hs hx (by simp [hl]) (World.news_of_block hblk) h1 h63 hbytes hbase h
theorem own_at {w : World} {B : Nat} {T : TypeId} {v : Value} {n k : Nat} {xs : List Value} (h : w.ownsRow B T k v n xs) (h0 : 0 < n) : ∃ g cap, v = .slice (some ⟨g, 0, none⟩) n cap ∧ B ≤ g ∧ g < w.heap.size ∧ (∀ j u, xs[j]? = some u → w.cell? ((⟨g, 0, none⟩ : Addr).add j) = some u) ∧ (∀ j u, xs[j]? = some u → w.cell? ⟨g, j, none⟩ = some u) := by
  rcases h.2 with ⟨_, rfl⟩ | ⟨g, cap, cur, rfl, hg, hh, _⟩
  · omega
  · have hc := h.cells (g := g) rfl
    refine ⟨g, cap, rfl, hg, (h.lt g rfl).2, hc, fun j u hj => ?_⟩
    have := hc j u hj
    unfold Addr.add at this
    split at this
    · rename_i h0; rw [h0]; exact this
    · simpa using this
end Go.Proofs.YtocgindpjjolpaaGreatDoor
