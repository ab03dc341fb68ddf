/- Contracts and plain words for the laws of this chapter, part 5: J, J2, U7. No condition. -/
import Derived.Lib.Hide
import Derived.Test.YtocgindpjjolpaaGreatDoorG3
import Derived.Test.YtocgindpjjolpaaGreatDoorG4
namespace Go.Proofs.YtocgindpjjolpaaGreatDoor
set_option linter.unusedSimpArgs false
set_option linter.unusedVariables false
open Go.RowKit
open Go.PlainAid (bt get_bt bt_nonneg bt_le)
theorem strInfo : (Tryz.prog.info? 9).map (fun i => (i.zero, i.size, i.bytes)) = some (some (.string ByteArray.empty), 1, 16) := by kernel_rfl
def strsOf (l : List (List UInt8)) : List Value := l.map fun p => Value.string ⟨p.toArray⟩
theorem words_strs (s : ByteArray) : (words s).map Value.string = strsOf (partsL s.data.toList []) := by
  unfold strsOf words
  rw [← split_parts s.size s (Nat.le_refl _), List.map_map]
  rfl
theorem partsL_end (p : List UInt8) : partsL [] p = [p] := rfl
theorem strs_snoc (l : List (List UInt8)) (p : List UInt8) : strsOf l ++ [Value.string ⟨p.toArray⟩] = strsOf (l ++ [p]) := by unfold strsOf; simp
theorem str_snoc (s : ByteArray) (q : List UInt8) (k : Nat) (hk : k < s.size) : (ByteArray.mk q.toArray ++ s.extract k (k + 1)) = ⟨(q ++ [s[k]'hk]).toArray⟩ := by
  have e : (s.extract k (k + 1)).data.toList = [s[k]'hk] := by
    rw [← ByteArray.toList_eq, Lib.extract_toList, show k + 1 - k = 1 from by omega, List.drop_eq_getElem_cons (by simpa using hk)]
    simp
    rfl
  apply ByteArray.ext
  apply Array.toList_inj.1
  rw [ByteArray.data_append, Array.toList_append, e]
def SplRel (s : ByteArray) (B : Nat) (w : World) (ov pv : Value) (k : Nat) (wr : World) : Prop :=
  ∃ (done : List (List UInt8)) (q : List UInt8), pv = .string ⟨q.toArray⟩ ∧ wr.ownsRow B 9 1 ov done.length (strsOf done) ∧ partsL s.data.toList [] = done ++ partsL (s.data.toList.drop k) q ∧ q.length ≤ k ∧ done.length ≤ k ∧ Below B w wr
theorem SplRel.hit {s : ByteArray} {k : Nat} {done : List (List UInt8)} {q : List UInt8} (h : partsL s.data.toList [] = done ++ partsL (s.data.toList.drop k) q) (hk : k < s.size) (hc : (s[k]'hk) = 47) :
    partsL s.data.toList [] = (done ++ [q]) ++ partsL (s.data.toList.drop (k + 1)) [] := by
  rw [h, List.drop_eq_getElem_cons (by simpa using hk), partsL, if_pos (by rw [Array.getElem_toList]; exact hc)]
  simp
theorem SplRel.miss {s : ByteArray} {k : Nat} {done : List (List UInt8)} {q : List UInt8} (h : partsL s.data.toList [] = done ++ partsL (s.data.toList.drop k) q) (hk : k < s.size) (hc : (s[k]'hk) ≠ 47) :
    partsL s.data.toList [] = done ++ partsL (s.data.toList.drop (k + 1)) (q ++ [s[k]'hk]) := by
  rw [h, List.drop_eq_getElem_cons (by simpa using hk), partsL, if_neg (by rw [Array.getElem_toList]; exact hc)]
  rfl
def SplP (s : ByteArray) (w : World) (e : Ending) (w' : World) : Prop :=
  ∃ v, e = .returned v ∧ w'.ownsRow w.heap.size 9 1 v (partsL s.data.toList []).length (strsOf (partsL s.data.toList [])) ∧ Below w.heap.size w w'
set_option maxHeartbeats 2000000 in
theorem rsplit_any (s : ByteArray) (hs : s.size ≤ 2000000) (w : World) : Calls Tryz.prog 66 #[.string s, .int .u8 47] w (SplP s w) := by
  have HL : Live w [] := trivial
  go_enter Tryz.func66, Tryz.ntmps66
  go_wp2_with fail
  go_loopw [5, 6, 7] (fun o p i wr => ∃ k : Nat, k ≤ s.size ∧ i = .int .i64 k ∧ SplRel s w.heap.size w o p k wr) (fun _ _ i _ => s.size - (intOf i).toNat)
  case atStart => exact ⟨0, by omega, rfl, [], [], rfl, World.ownsRow_lit w #[] 0 (Nat.le_refl _) (by decide) rfl, by simp, by simp, by simp, by (exact bl)⟩
  case round =>
    obtain ⟨k, hk, rfl, done, q, rfl, hown, hpt, hq, hdn, hbel⟩ := hrel
    have HP := hide hpt
    clear hpt
    have HO := hide hown
    clear hown
    have hsz := hbel.size
    by_cases hlt : k < s.size
    · by_cases hc : (s[k]'hlt) = 47
      · have hcc := hide hc
        have hcb : (((s[k]'hlt).toNat : Int) == 47) = true := by rw [hc]; rfl
        clear hc
        go_wp2_with (at_builtin; refine wpList_append_one _ rfl _ _ 26 rfl w.heap.size 9 strInfo Tryz.underlying26 rfl (by decide) _ _ _ HO.out #[.string ⟨q.toArray⟩] rfl rfl rfl (by simp [Value.oneCell']) (by unfold maxLen; omega) (by omega) (by omega) ?_; intro v2 w2 hown2 hb2 hot2 hz2)
        (try rw [show (#[Value.string ⟨q.toArray⟩] : Array Value).toList = [Value.string ⟨q.toArray⟩] from rfl] at hown2); rw [strs_snoc] at hown2
        go_roundw
        case rel => exact ⟨k + 1, by omega, by go_num, done ++ [q], [], rfl, by simpa using hown2, SplRel.hit HP.out hlt hcc.out, by simp, by simp; omega, hbel.trans hb2⟩
        case measure => simp [intOf]; omega
      · have hcc := hide hc
        have hcb : (((s[k]'hlt).toNat : Int) == 47) = false := by
          rw [beq_eq_false_iff_ne]; intro h; exact hc (UInt8.toNat_inj.1 (by simpa using (show ((s[k]'hlt).toNat) = 47 by omega)))
        clear hc
        go_wp2
        go_roundw
        case rel => exact ⟨k + 1, by omega, by go_num, done, q ++ [s[k]'hlt], congrArg Value.string (str_snoc s q k hlt), HO.out, SplRel.miss HP.out hlt hcc.out, by simp; omega, by omega, hbel⟩
        case measure => simp [intOf]; omega
    · obtain rfl : k = s.size := by omega
      go_wp2_with (at_builtin; refine wpList_append_one _ rfl _ _ 26 rfl w.heap.size 9 strInfo Tryz.underlying26 rfl (by decide) _ _ _ HO.out #[.string ⟨q.toArray⟩] rfl rfl rfl (by simp [Value.oneCell']) (by unfold maxLen; omega) (by omega) (by omega) ?_; intro v2 w2 hown2 hb2 hot2 hz2)
      (try rw [show (#[Value.string ⟨q.toArray⟩] : Array Value).toList = [Value.string ⟨q.toArray⟩] from rfl] at hown2); rw [strs_snoc] at hown2
      go_ret
      have e : partsL s.data.toList [] = done ++ [q] := by rw [HP.out, List.drop_of_length_le (by simp), partsL_end]
      exact ⟨_, rfl, by rw [e]; simpa using hown2, hbel.trans hb2⟩
open Go.PlainAid (bt get_bt bt_nonneg bt_le)
theorem data_one {s : ByteArray} (h : 1 ≤ s.size) : s.data.toList = s[0]'(by omega) :: s.data.toList.tail := by
  obtain ⟨⟨l⟩⟩ := s
  cases l with
  | nil => simp [ByteArray.size] at h
  | cons c r => rfl
theorem strip_yes {s : ByteArray} (h : 1 ≤ s.size) (hc : s[0]'(by omega) = 47) : s.extract 1 s.size = strip s := by
  apply ByteArray.ext
  apply Array.toList_inj.1
  have e : (s.extract 1 s.size).data.toList = s.data.toList.drop 1 := by
    rw [← ByteArray.toList_eq, Lib.extract_toList, List.take_of_length_le]
    rw [List.length_drop, Array.length_toList]; exact Nat.le_refl _
  rw [e]
  show _ = (Lib.trimPrefix s.data.toList [47])
  unfold Lib.trimPrefix
  rw [if_pos (by rw [data_one h, hc]; simp [Lib.hasPrefix])]
  rfl
theorem strip_no {s : ByteArray} (h : 1 ≤ s.size) (hc : s[0]'(by omega) ≠ 47) : s = strip s := by
  apply ByteArray.ext
  apply Array.toList_inj.1
  show _ = (Lib.trimPrefix s.data.toList [47])
  unfold Lib.trimPrefix
  rw [if_neg (by rw [data_one h]; simp [Lib.hasPrefix]; exact fun e => hc e.symm)]
theorem words_pos (x : ByteArray) : 1 ≤ (words x).length := by rw [words_len]; omega
theorem words_parts (x : ByteArray) : strsOf (partsL x.data.toList []) = (words x).map Value.string := (words_strs x).symm
theorem rsplit_words {x y : ByteArray} (e : x = y) (hs : x.size ≤ 120000) (w : World) : Calls Tryz.prog 66 #[.string x, .int .u8 47] w fun e w' =>
    ∃ g cap, e = .returned (.slice (some ⟨g, 0, none⟩) (words y).length cap) ∧ w'.ownsRow w.heap.size 9 1 (.slice (some ⟨g, 0, none⟩) (words y).length cap) (words y).length ((words y).map Value.string) ∧ Below w.heap.size w w' := by
  subst e
  refine (rsplit_any x (by omega) w).mono fun e w' ⟨v, he, ho, hb⟩ => ?_
  have hl : (partsL x.data.toList []).length = (words x).length := by
    have := congrArg List.length (words_parts x)
    simpa [strsOf] using this
  rw [words_parts, hl] at ho
  obtain ⟨g, cap, rfl⟩ := Go.Joins.ownsRow_form ho (words_pos x)
  exact ⟨g, cap, he, ho, hb⟩
set_option maxHeartbeats 4000000 in
theorem rtarget_any (s : ByteArray) (hs : s.size ≤ 120000) (w : World) : Calls Tryz.prog 148 #[.string s] w fun e w' => e = .returned (.bool (targetB s)) ∧ Below w.heap.size w w' := by
  by_cases h1 : 1 ≤ s.size
  case neg =>
    have e := hide (target_short (s := s) (by omega))
    have HL : Live w [] := trivial
    go_enter Tryz.func148, Tryz.ntmps148
    go_wp2
    go_ret
    exact ⟨ret_b e.out.symm, by (exact bl)⟩
  by_cases h2 : s.size ≤ 128
  case neg =>
    have e := hide (target_short (s := s) (by omega))
    have HL : Live w [] := trivial
    go_enter Tryz.func148, Tryz.ntmps148
    go_wp2
    go_ret
    exact ⟨ret_b e.out.symm, by (exact bl)⟩
  by_cases h3 : s = slash
  case pos =>
    subst h3
    have e : targetB slash = true := by decide +kernel
    unfold slash at *
    have HL : Live w [] := trivial
    go_enter Tryz.func148, Tryz.ntmps148
    go_wp2
    go_ret
    exact ⟨ret_b e.symm, by (exact bl)⟩
  have q1 : (s.toList == [47]) = false := eq_list h3
  have E := hide (target_all ⟨h1, h2⟩ h3)
  have hst := strip_size s
  have hps : ∀ p ∈ words (strip s), p.size ≤ (strip s).size := fun p hp => piece_size slash 0 _ _ p hp
  have hwl := words_len (strip s)
  have hmx : (words (strip s)).length ≤ 60001 := by rw [hwl]; have := Lib.countB_le slash (by decide) (strip s).size (strip s) (Nat.le_refl _); omega
  clear hwl
  have hlt0 : 0 < s.size := by omega
  obtain ⟨X, hX, hXs, hXe⟩ : ∃ X : ByteArray, X = strip s ∧ X.size ≤ 120000 ∧ (if s[0]'hlt0 = 47 then X = s.extract 1 s.size else X = s) := by
    by_cases hc : s[0]'hlt0 = 47
    · exact ⟨_, rfl, by omega, by rw [if_pos hc, strip_yes h1 hc]⟩
    · exact ⟨_, rfl, by omega, by rw [if_neg hc]; exact (strip_no h1 hc).symm⟩
  have SP := hide (fun W => rsplit_words hX hXs W)
  clear hX
  generalize words (strip s) = ws at *
  by_cases hc : s[0]'hlt0 = 47
  all_goals
    first
      | (have hcb : (((s[0]'hlt0).toNat : Int) == 47) = true := by rw [hc]; rfl
         rw [if_pos hc] at hXe)
      | (have hcb : (((s[0]'hlt0).toNat : Int) == 47) = false := by
          rw [beq_eq_false_iff_ne]; intro h; exact hc (UInt8.toNat_inj.1 (by simpa using (show ((s[0]'hlt0).toNat) = 47 by omega)))
         rw [if_neg hc] at hXe)
    rw [hXe] at SP
    clear hc hXe
    have HL : Live w [] := trivial
    go_enter Tryz.func148, Tryz.ntmps148
    go_wp2_with fail
    refine (SP.out _).mono ?_
    rintro e w1 ⟨g, cap, rfl, hown, hb1⟩
    have hg := hown.lt g rfl
    have hOwn := hide hown
    clear hown
    go_wp2_with fail
    go_loopw [4] (fun c wr => ∃ i : Nat, i ≤ ws.length ∧ c = .int .i64 i ∧ TakeOK ws i ∧ Below w1.heap.size w1 wr) (fun c _ => ws.length - (intOf c).toNat)
    case atStart => exact ⟨0, by omega, rfl, fun j hj => by omega, by (exact bl)⟩
    case round =>
      obtain ⟨i, hi, rfl, hok, hbel⟩ := hrel
      have HK := hide hok
      clear hok
      have hsz := hbel.size
      have hsz1 := hb1.size
      by_cases hlt : i < ws.length
      · obtain ⟨p, hp⟩ : ∃ p, ws[i]? = some p := ⟨_, List.getElem?_eq_getElem hlt⟩
        have hcell : wr.cell? ⟨g, i, none⟩ = some (.string p) := by
          rw [hbel.cell (p := ⟨g, i, none⟩) hg.2, hOwn.out.cellAt i (by omega)]; simp [hp]
        have hpm : p.size ≤ 120000 := by have := hps p (List.mem_of_getElem? hp); omega
        have HP := hide hp
        have RN := hide (fun W => rname_any p hpm W)
        clear hp hps
        by_cases d1 : p = dot
        · have hgood := hide (part_dot (Or.inl d1))
          subst d1
          unfold dot at hcell
          go_wp2
          go_roundw
          case rel => exact ⟨i + 1, by omega, by go_num, HK.out.next HP.out hgood.out, hbel⟩
          case measure => simp [intOf]; omega
        by_cases d2 : p = dots
        · have hgood := hide (part_dot (Or.inr d2))
          subst d2
          unfold dots at hcell
          go_wp2
          go_roundw
          case rel => exact ⟨i + 1, by omega, by go_num, HK.out.next HP.out hgood.out, hbel⟩
          case measure => simp [intOf]; omega
        have g1 : (p.toList == [46]) = false := eq_list d1
        have g2 : (p.toList == [46, 46]) = false := eq_list d2
        have hpn := hide (part_name d1 d2)
        have HL : Live wr [] := trivial
        cases hn : nameB p
        · have hbad := hide (by rw [hpn.out, hn] : partB p = false)
          go_wp2_with (first | (go_at_call 147; (with_reducible refine (RN.out _).mono ?_); rintro e w' ⟨rfl, hb⟩; have hz := hb.size; (try simp only [SZ, Nat.reduceAdd] at hz); (first | obtain ⟨HL, hk⟩ := HL.callA hb hz | obtain ⟨HL, hk⟩ := HL.call0A hb hz); (try simp only [addN, Nat.add_zero] at HL hk); have hl := HL; simp only [Live] at hl; (try simp only [Kept] at hk)))
          go_ret
          exact ⟨ret_b (by rw [E.out]; exact (all_no HP.out hbad.out).symm), by (exact bl)⟩
        · have hgood := hide (by rw [hpn.out, hn] : partB p = true)
          go_wp2_with (first | (go_at_call 147; (with_reducible refine (RN.out _).mono ?_); rintro e w' ⟨rfl, hb⟩; have hz := hb.size; (try simp only [SZ, Nat.reduceAdd] at hz); (first | obtain ⟨HL, hk⟩ := HL.callA hb hz | obtain ⟨HL, hk⟩ := HL.call0A hb hz); (try simp only [addN, Nat.add_zero] at HL hk); have hl := HL; simp only [Live] at hl; (try simp only [Kept] at hk)))
          go_roundw
          case rel => exact ⟨i + 1, by omega, by go_num, HK.out.next HP.out hgood.out, hbel.trans (hb.mono hsz)⟩
          case measure => simp [intOf]; omega
      · obtain rfl : i = ws.length := by omega
        go_wp2
        go_ret
        exact ⟨ret_b (by rw [E.out]; exact HK.out.all.symm), hb1.trans (hbel.mono hsz1)⟩
def kindB (h : Hd) (l : Nat) : Bool := decide (h.kind < 0 ∨ 2 < h.kind ∨ (l = 1 ∧ h.kind ≠ 0))
def nmB (h : Hd) (l : Nat) : Bool := decide ((l = 1 ∧ h.name ≠ eS) ∨ (1 < l ∧ nameB h.name = false))
def parB (t : Tr) : Bool := decide ((t.h.kind ≠ 1 ∧ (t.h.data ≠ eS ∨ 0 < t.ss.length)) ∨ (t.h.kind ≠ 2 ∧ t.h.target ≠ eS) ∨ (t.h.kind ≠ 0 ∧ 0 < t.ks.len))
def tarB (h : Hd) : Bool := decide (h.kind = 2 ∧ targetB h.target = false)
theorem kindE_eq (h : Hd) (l : Nat) : kindE h l = if kindB h l = true then 1 else 0 := by unfold kindE kindB; simp only [decide_eq_true_eq]
theorem nameE_eq (h : Hd) (l : Nat) : nameE h l = if nmB h l = true then 4 else 0 := by unfold nameE nmB; simp only [decide_eq_true_eq]
theorem partsE_eq (t : Tr) : partsE t = if parB t = true then 1 else 0 := by unfold partsE parB; simp only [decide_eq_true_eq]
theorem targetE_eq (h : Hd) : targetE h = if tarB h = true then 4 else 0 := by unfold targetE tarB; simp only [decide_eq_true_eq]
theorem emp_iff (s : ByteArray) : s = eS ↔ s.toList = [] := by
  constructor
  · rintro rfl; rw [ByteArray.toList_eq]
  · intro h
    apply ByteArray.ext
    apply Array.toList_inj.1
    rw [← ByteArray.toList_eq, h]
theorem firstE_ne {e : Int} {l : List Int} (h : e ≠ 0) : firstE (e :: l) = e := by rw [firstE, if_pos h]
theorem firstE_z {l : List Int} : firstE (0 :: l) = firstE l := rfl
def prvS (ss : List St) : Nat → Option ByteArray
  | 0 => none
  | j + 1 => (ss[j]?).map (·.1)
theorem strE_step {ss : List St} {k : Nat} {s : St} {p : Option ByteArray} (h : ss[k]? = some s) : strE p (ss.drop k) = if nameB s.1 = false then 4 else if ordO p s.1 ≠ 0 then ordO p s.1 else strE (some s.1) (ss.drop (k + 1)) := by
  have hk := (List.getElem?_eq_some_iff.1 h).1
  rw [List.drop_eq_getElem_cons hk]
  have e : ss[k] = s := by rw [List.getElem?_eq_getElem hk] at h; exact Option.some.inj h
  rw [e]; rfl
set_option maxRecDepth 100000 in
set_option maxHeartbeats 4000000 in
theorem rone_any (t : Tr) (l : Nat) (hl : 1 ≤ l ∧ l ≤ 2000000000) (hsz : t.sz ≤ 120000) (v : Value) (w : World) (hv : TreeR w w.heap.size v t) : Calls Tryz.prog 128 #[v, .int .i64 (l : Int)] w fun e w' => e = .returned (.int .i64 (oneE t l)) ∧ Below w.heap.size w w' := by
  have HV := hide hv
  obtain ⟨A, c, A2, c2, rfl, hk, hs⟩ := hv.open
  have HST := hide (show StL w w.heap.size A2 t.ss from hs)
  have HKL := hide (Left.of hk)
  have HSZ := hide hsz
  have hts : t.sz = t.h.sz + szS t.ss + t.ks.sz := rfl
  unfold Hd.sz at hts
  have hlk := t.ks.len_sz
  have hls := szS_len t.ss
  have hlk2 : t.ks.len ≤ 120000 := by omega
  have hls2 : t.ss.length ≤ 120000 := by omega
  have hn0 : t.h.name.size ≤ 120000 := by omega
  have hn2 : t.h.data.size ≤ 120000 := by omega
  have hn3 : t.h.target.size ≤ 120000 := by omega
  obtain ⟨hl1, hl2⟩ := hl
  clear hv hs hk hlk hls hts hsz
  have HF := hide (show oneE t l = firstE [kindE t.h l, nameE t.h l, partsE t, targetE t.h, numE t.h, sizeE t l, strE none t.ss, kidsE t.ks.names] from rfl)
  have HL : Live w [] := trivial
  go_enter Tryz.func128, Tryz.ntmps128
  go_upto_region 1 with fail
  have HN := hide (NodeB.new w t.h (.slice A t.ks.len c) (.slice A2 t.ss.length c2))
  have hbel1 : Below w.heap.size w (w.alloc (.cells (t.h.cells (.slice A t.ks.len c) (.slice A2 t.ss.length c2)) 25)) := by (exact bl)
  generalize w.alloc (.cells (t.h.cells (.slice A t.ks.len c) (.slice A2 t.ss.length c2)) 25) = W1 at *
  obtain ⟨b, hb⟩ : ∃ b, b = w.heap.size := ⟨_, rfl⟩
  rw [← hb] at HN ⊢
  clear hb
  have d1 := HN.out.c1
  go_cut [23] (fun v wx => v = .bool (kindB t.h l) ∧ wx = W1)
  case first =>
    as_aux_lemma =>
      clear HST HKL HN hbel1 HV HF
      by_cases q : l = 1
      case pos =>
        have q1 : ((l : Int) == 1) = true := by simp; omega
        have HQ := hide q
        clear q hl1
        go_wp2_with fail
        all_goals
          go_meet
          refine ⟨?_, rfl⟩
          have hq := HQ.out
          unfold kindB
          refine congrArg Value.bool ?_
          rw [Bool.eq_iff_iff]
          simp [hq]
          try omega
      case neg =>
        have q1 : ((l : Int) == 1) = false := by simp; omega
        have HQ := hide q
        clear q hl1
        go_wp2_with fail
        all_goals
          go_meet
          refine ⟨?_, rfl⟩
          have hq := HQ.out
          unfold kindB
          refine congrArg Value.bool ?_
          rw [Bool.eq_iff_iff]
          simp [hq]
          try omega
  case rest =>
  obtain ⟨rfl, rfl⟩ := hcut
  cases h1 : kindB t.h l
  case true =>
    have HR := hide (show oneE t l = 1 by rw [HF.out, kindE_eq, h1, if_pos rfl, firstE_ne (by decide)])
    clear h1
    go_wp2_with fail
    go_ret
    exact ⟨ret_i HR.out.symm, hbel1⟩
  case false =>
  have HF2 := hide (show oneE t l = firstE [nameE t.h l, partsE t, targetE t.h, numE t.h, sizeE t l, strE none t.ss, kidsE t.ks.names] by rw [HF.out, kindE_eq, h1, if_neg (by decide), firstE_z])
  clear h1 HF
  have d0 := HN.out.c0
  go_upto_region 3 with fail
  go_cut [40] (fun v wx => v = .bool (nmB t.h l) ∧ Below wc.heap.size wc wx)
  case first =>
    as_aux_lemma =>
      clear HST HKL HN HV HF2
      by_cases q : l = 1
      · have q1 : ((l : Int) == 1) = true := by simp; omega
        have q2 : decide ((1 : Int) < (l : Int)) = false := decide_eq_false (by omega)
        have HQ := hide q
        clear q hl1
        go_wp2_with fail
        all_goals
          go_meet
          refine ⟨congrArg Value.bool ?_, Below.refl _ _⟩
          have hq := HQ.out
          unfold nmB
          rw [Bool.eq_iff_iff]
          simp [hq, emp_iff, *]
      · have q1 : ((l : Int) == 1) = false := by simp; omega
        have q2 : decide ((1 : Int) < (l : Int)) = true := decide_eq_true (by omega)
        have HQ := hide (show 1 < l by omega)
        clear q hl1
        go_wp2_with (go_at_call 147; refine (rname_any _ hn0 _).mono ?_; rintro e w3 ⟨rfl, hb3⟩)
        go_meet
        refine ⟨congrArg Value.bool ?_, hb3⟩
        have hq := HQ.out
        unfold nmB
        rw [Bool.eq_iff_iff]
        simp [hq, emp_iff, show l ≠ 1 by omega]
  case rest =>
  obtain ⟨rfl, hb2⟩ := hcut
  have hbel2 := hbel1.trans (hb2.mono hbel1.size)
  have HN2 := hide (HN.out.below hb2)
  clear HN d1 d0 hbel1 hb2
  cases h2 : nmB t.h l
  case true =>
    have HR := hide (show oneE t l = 4 by rw [HF2.out, nameE_eq, h2, if_pos rfl, firstE_ne (by decide)])
    clear h2
    go_wp2_with fail
    go_ret
    exact ⟨ret_i HR.out.symm, hbel2⟩
  case false =>
  have HF3 := hide (show oneE t l = firstE [partsE t, targetE t.h, numE t.h, sizeE t l, strE none t.ss, kidsE t.ks.names] by rw [HF2.out, nameE_eq, h2, if_neg (by decide), firstE_z])
  clear h2 HF2
  have d1 := HN2.out.c1
  have d2 := HN2.out.c2
  have d3 := HN2.out.c3
  have d10 := HN2.out.c10
  have d11 := HN2.out.c11
  go_upto_region 5 with fail
  go_cut [75, 0] (fun v _ wx => v = .bool (parB t) ∧ wx = wc)
  case first =>
    as_aux_lemma =>
      clear HST HKL HN2 HV HF3 hbel2
      by_cases q1 : t.h.kind = 1
      case pos =>
        have k1 : (t.h.kind != 1) = false := by rw [q1]; rfl
        have k2 : (t.h.kind != 2) = true := by rw [q1]; rfl
        have k0 : (t.h.kind != 0) = true := by rw [q1]; rfl
        have HQ := hide q1
        clear q1
        by_cases htg : t.h.target.toList = []
        · have htgq : t.h.target.toList.isEmpty = true := by rw [htg]; rfl
          by_cases hks : 0 < t.ks.len
          · have hksq : decide (0 < t.ks.len) = true := decide_eq_true hks
            go_wp2_with fail
            all_goals
              go_meet
              refine ⟨congrArg Value.bool ?_, rfl⟩
              have hq := HQ.out
              unfold parB
              rw [Bool.eq_iff_iff]
              simp [hq, emp_iff, *]
              try omega
          · have hksq : decide (0 < t.ks.len) = false := decide_eq_false hks
            go_wp2_with fail
            all_goals
              go_meet
              refine ⟨congrArg Value.bool ?_, rfl⟩
              have hq := HQ.out
              unfold parB
              rw [Bool.eq_iff_iff]
              simp [hq, emp_iff, *]
              try omega
        · have htgq : t.h.target.toList.isEmpty = false := by simpa using htg
          go_wp2_with fail
          all_goals
            go_meet
            refine ⟨congrArg Value.bool ?_, rfl⟩
            have hq := HQ.out
            unfold parB
            rw [Bool.eq_iff_iff]
            simp [hq, emp_iff, *]
            try omega
      case neg =>
      by_cases q2 : t.h.kind = 2
      case pos =>
        have k1 : (t.h.kind != 1) = true := by rw [q2]; rfl
        have k2 : (t.h.kind != 2) = false := by rw [q2]; rfl
        have k0 : (t.h.kind != 0) = true := by rw [q2]; rfl
        have HQ := hide q2
        clear q2 q1
        by_cases hdt : t.h.data.toList = []
        · have hdtq : t.h.data.toList.isEmpty = true := by rw [hdt]; rfl
          by_cases hsl : 0 < t.ss.length
          · have hslq : decide (0 < t.ss.length) = true := decide_eq_true hsl
            go_wp2_with fail
            all_goals
              go_meet
              refine ⟨congrArg Value.bool ?_, rfl⟩
              have hq := HQ.out
              unfold parB
              rw [Bool.eq_iff_iff]
              simp [hq, emp_iff, *]
              try omega
          · have hslq : decide (0 < t.ss.length) = false := decide_eq_false hsl
            by_cases hks : 0 < t.ks.len
            · have hksq : decide (0 < t.ks.len) = true := decide_eq_true hks
              go_wp2_with fail
              all_goals
                go_meet
                refine ⟨congrArg Value.bool ?_, rfl⟩
                have hq := HQ.out
                unfold parB
                rw [Bool.eq_iff_iff]
                simp [hq, emp_iff, *]
                try omega
            · have hksq : decide (0 < t.ks.len) = false := decide_eq_false hks
              go_wp2_with fail
              all_goals
                go_meet
                refine ⟨congrArg Value.bool ?_, rfl⟩
                have hq := HQ.out
                unfold parB
                rw [Bool.eq_iff_iff]
                simp [hq, emp_iff, *]
                try omega
        · have hdtq : t.h.data.toList.isEmpty = false := by simpa using hdt
          go_wp2_with fail
          all_goals
            go_meet
            refine ⟨congrArg Value.bool ?_, rfl⟩
            have hq := HQ.out
            unfold parB
            rw [Bool.eq_iff_iff]
            simp [hq, emp_iff, *]
            try omega
      case neg =>
      by_cases q0 : t.h.kind = 0
      case pos =>
        have k1 : (t.h.kind != 1) = true := by rw [q0]; rfl
        have k2 : (t.h.kind != 2) = true := by rw [q0]; rfl
        have k0 : (t.h.kind != 0) = false := by rw [q0]; rfl
        have HQ := hide q0
        clear q0 q1 q2
        by_cases hdt : t.h.data.toList = []
        · have hdtq : t.h.data.toList.isEmpty = true := by rw [hdt]; rfl
          by_cases hsl : 0 < t.ss.length
          · have hslq : decide (0 < t.ss.length) = true := decide_eq_true hsl
            go_wp2_with fail
            all_goals
              go_meet
              refine ⟨congrArg Value.bool ?_, rfl⟩
              have hq := HQ.out
              unfold parB
              rw [Bool.eq_iff_iff]
              simp [hq, emp_iff, *]
              try omega
          · have hslq : decide (0 < t.ss.length) = false := decide_eq_false hsl
            by_cases htg : t.h.target.toList = []
            · have htgq : t.h.target.toList.isEmpty = true := by rw [htg]; rfl
              go_wp2_with fail
              all_goals
                go_meet
                refine ⟨congrArg Value.bool ?_, rfl⟩
                have hq := HQ.out
                unfold parB
                rw [Bool.eq_iff_iff]
                simp [hq, emp_iff, *]
                try omega
            · have htgq : t.h.target.toList.isEmpty = false := by simpa using htg
              go_wp2_with fail
              all_goals
                go_meet
                refine ⟨congrArg Value.bool ?_, rfl⟩
                have hq := HQ.out
                unfold parB
                rw [Bool.eq_iff_iff]
                simp [hq, emp_iff, *]
                try omega
        · have hdtq : t.h.data.toList.isEmpty = false := by simpa using hdt
          go_wp2_with fail
          all_goals
            go_meet
            refine ⟨congrArg Value.bool ?_, rfl⟩
            have hq := HQ.out
            unfold parB
            rw [Bool.eq_iff_iff]
            simp [hq, emp_iff, *]
            try omega
      case neg =>
      have k1 : (t.h.kind != 1) = true := by simpa using q1
      have k2 : (t.h.kind != 2) = true := by simpa using q2
      have k0 : (t.h.kind != 0) = true := by simpa using q0
      have HQ := hide (And.intro q1 (And.intro q2 q0))
      clear q1 q2 q0
      by_cases hdt : t.h.data.toList = []
      · have hdtq : t.h.data.toList.isEmpty = true := by rw [hdt]; rfl
        by_cases hsl : 0 < t.ss.length
        · have hslq : decide (0 < t.ss.length) = true := decide_eq_true hsl
          go_wp2_with fail
          all_goals
            go_meet
            refine ⟨congrArg Value.bool ?_, rfl⟩
            have hq := HQ.out
            unfold parB
            rw [Bool.eq_iff_iff]
            simp [hq, emp_iff, *]
            try omega
        · have hslq : decide (0 < t.ss.length) = false := decide_eq_false hsl
          by_cases htg : t.h.target.toList = []
          · have htgq : t.h.target.toList.isEmpty = true := by rw [htg]; rfl
            by_cases hks : 0 < t.ks.len
            · have hksq : decide (0 < t.ks.len) = true := decide_eq_true hks
              go_wp2_with fail
              all_goals
                go_meet
                refine ⟨congrArg Value.bool ?_, rfl⟩
                have hq := HQ.out
                unfold parB
                rw [Bool.eq_iff_iff]
                simp [hq, emp_iff, *]
                try omega
            · have hksq : decide (0 < t.ks.len) = false := decide_eq_false hks
              go_wp2_with fail
              all_goals
                go_meet
                refine ⟨congrArg Value.bool ?_, rfl⟩
                have hq := HQ.out
                unfold parB
                rw [Bool.eq_iff_iff]
                simp [hq, emp_iff, *]
                try omega
          · have htgq : t.h.target.toList.isEmpty = false := by simpa using htg
            go_wp2_with fail
            all_goals
              go_meet
              refine ⟨congrArg Value.bool ?_, rfl⟩
              have hq := HQ.out
              unfold parB
              rw [Bool.eq_iff_iff]
              simp [hq, emp_iff, *]
              try omega
      · have hdtq : t.h.data.toList.isEmpty = false := by simpa using hdt
        go_wp2_with fail
        all_goals
          go_meet
          refine ⟨congrArg Value.bool ?_, rfl⟩
          have hq := HQ.out
          unfold parB
          rw [Bool.eq_iff_iff]
          simp [hq, emp_iff, *]
          try omega
  case rest =>
  obtain ⟨rfl, rfl⟩ := hcut
  cases h3 : parB t
  case true =>
    have HR := hide (show oneE t l = 1 by rw [HF3.out, partsE_eq, h3, if_pos rfl, firstE_ne (by decide)])
    clear h3
    go_wp2_with fail
    go_ret
    exact ⟨ret_i HR.out.symm, hbel2⟩
  case false =>
  have HF4 := hide (show oneE t l = firstE [targetE t.h, numE t.h, sizeE t l, strE none t.ss, kidsE t.ks.names] by rw [HF3.out, partsE_eq, h3, if_neg (by decide), firstE_z])
  clear h3 HF3 d2 d10 d11
  go_upto_region 7 with fail
  go_cut [84] (fun v wx => v = .bool (tarB t.h) ∧ Below wc.heap.size wc wx)
  case first =>
    as_aux_lemma =>
      clear HST HKL HN2 HV HF4 hbel2
      by_cases q : t.h.kind = 2
      · have q1 : (t.h.kind == 2) = true := by simpa using q
        have HQ := hide q
        clear q
        go_wp2_with (go_at_call 148; refine (rtarget_any _ hn3 _).mono ?_; rintro e w3 ⟨rfl, hb3⟩)
        go_meet
        refine ⟨congrArg Value.bool ?_, hb3⟩
        have hq := HQ.out
        unfold tarB
        rw [Bool.eq_iff_iff]
        simp [hq]
      · have q1 : (t.h.kind == 2) = false := by simpa using q
        have HQ := hide q
        clear q
        go_wp2_with fail
        go_meet
        refine ⟨congrArg Value.bool ?_, Below.refl _ _⟩
        have hq := HQ.out
        unfold tarB
        rw [Bool.eq_iff_iff]
        simp [hq]
  case rest =>
  obtain ⟨rfl, hb4⟩ := hcut
  have hbel4 := hbel2.trans (hb4.mono hbel2.size)
  have HN4 := hide (HN2.out.below hb4)
  clear HN2 d1 d3 hbel2 hb4
  cases h4 : tarB t.h
  case true =>
    have HR := hide (show oneE t l = 4 by rw [HF4.out, targetE_eq, h4, if_pos rfl, firstE_ne (by decide)])
    clear h4
    go_wp2_with fail
    go_ret
    exact ⟨ret_i HR.out.symm, hbel4⟩
  case false =>
  have HF5 := hide (show oneE t l = firstE [numE t.h, sizeE t l, strE none t.ss, kidsE t.ks.names] by rw [HF4.out, targetE_eq, h4, if_neg (by decide), firstE_z])
  clear h4 HF4
  have RG := hide (fun W hW => rranged_any t (.agg (t.h.cells (.slice A t.ks.len c) (.slice A2 t.ss.length c2))) W.heap.size W hW)
  have HV4 := hide (HV.out.later hbel4)
  cases h5 : rangedB t.h
  case false =>
    have HR := hide (show oneE t l = 2 by rw [HF5.out]; unfold numE; rw [h5, if_neg (by decide), firstE_ne (by decide)])
    rw [h5] at RG
    clear h5
    go_wp2_with (first | (refine wpList_load_row rfl 25 (.tmp 2) rfl b rfl 25 (t.h.cells (.slice A t.ks.len c) (.slice A2 t.ss.length c2)) (0, 0) _ HN4.out.blk Tryz.underlying25 rfl (infN (Hd.size _ _ _)) ?_) | (go_at_call 149; refine (RG.out _ HV4.out).mono ?_; rintro e w5 ⟨rfl, hb5⟩))
    go_ret
    exact ⟨ret_i HR.out.symm, hbel4.trans (hb5.mono hbel4.size)⟩
  case true =>
  have HF6 := hide (show oneE t l = firstE [sizeE t l, strE none t.ss, kidsE t.ks.names] by rw [HF5.out]; unfold numE; rw [h5, if_pos rfl, firstE_z])
  rw [h5] at RG
  clear h5 HF5
  go_upto_region 11 with (first | (refine wpList_load_row rfl 25 (.tmp 2) rfl b rfl 25 (t.h.cells (.slice A t.ks.len c) (.slice A2 t.ss.length c2)) (0, 0) _ HN4.out.blk Tryz.underlying25 rfl (infN (Hd.size _ _ _)) ?_) | (go_at_call 149; refine (RG.out _ HV4.out).mono ?_; rintro e w5 ⟨rfl, hb5⟩))
  have hbel5 := hbel4.trans (hb5.mono hbel4.size)
  have HN5 := hide (HN4.out.below hb5)
  have HV5 := hide (HV.out.later hbel5)
  clear hbel4 hb5 HN4 HV4 RG
  have LG := hide (fun W hW => rlarge_any t l (by omega) (by have := HSZ.out; omega) (.agg (t.h.cells (.slice A t.ks.len c) (.slice A2 t.ss.length c2))) W hW)
  cases h6 : largeB t l
  case true =>
    have HR := hide (show oneE t l = 7 by rw [HF6.out]; unfold sizeE; rw [h6, if_pos rfl, firstE_ne (by decide)])
    rw [h6] at LG
    clear h6
    go_wp2_with (first | (refine wpList_load_row rfl 25 (.tmp 2) rfl b rfl 25 (t.h.cells (.slice A t.ks.len c) (.slice A2 t.ss.length c2)) (0, 0) _ HN5.out.blk Tryz.underlying25 rfl (infN (Hd.size _ _ _)) ?_) | (go_at_call 150; refine (LG.out _ HV5.out).mono ?_; rintro e w6 ⟨rfl, hb6⟩))
    go_ret
    exact ⟨ret_i HR.out.symm, hbel5.trans (hb6.mono hbel5.size)⟩
  case false =>
  have HF7 := hide (show oneE t l = firstE [strE none t.ss, kidsE t.ks.names] by rw [HF6.out]; unfold sizeE; rw [h6, if_neg (by decide), firstE_z])
  rw [h6] at LG
  clear h6 HF6
  go_upto_region 13 with (first | (refine wpList_load_row rfl 25 (.tmp 2) rfl b rfl 25 (t.h.cells (.slice A t.ks.len c) (.slice A2 t.ss.length c2)) (0, 0) _ HN5.out.blk Tryz.underlying25 rfl (infN (Hd.size _ _ _)) ?_) | (go_at_call 150; refine (LG.out _ HV5.out).mono ?_; rintro e w6 ⟨rfl, hb6⟩))
  have hbel6 := hbel5.trans (hb6.mono hbel5.size)
  have HN6 := hide (HN5.out.below hb6)
  clear hbel5 hb6 HN5 HV5 LG
  have d11 := HN6.out.c11
  go_upto_block 0 with fail
  go_cut [5] (fun _ wx => strE none t.ss = 0 ∧ Below w6.heap.size w6 wx)
  case first =>
    as_aux_lemma =>
      go_wp2_with fail
      go_loopw [5] (fun i wr => ∃ k : Nat, k ≤ t.ss.length ∧ i = .int .i64 (k : Int) ∧ strE none t.ss = strE (prvS t.ss k) (t.ss.drop k) ∧ Below w6.heap.size w6 wr) (fun i _ => t.ss.length - (intOf i).toNat)
      case atStart => exact ⟨0, by omega, rfl, rfl, Below.refl _ _⟩
      case round =>
        obtain ⟨k, hk, rfl, hst, hbel⟩ := hrel
        have HE := hide hst
        clear hst
        have e11 := (HN6.out.below hbel).c11
        by_cases hlt : k < t.ss.length
        case neg =>
          obtain rfl : k = t.ss.length := by omega
          have HZ := hide (show strE none t.ss = 0 by rw [HE.out, List.drop_length]; unfold strE; rfl)
          clear HE
          go_wp2_with fail
          go_meet
          exact ⟨HZ.out, hbel⟩
        case pos =>
        obtain ⟨s, hs⟩ : ∃ s, t.ss[k]? = some s := ⟨_, List.getElem?_eq_getElem hlt⟩
        obtain ⟨g, o, rfl, hg, s1, -⟩ := HST.out.at (hbel6.trans (hbel.mono hbel6.size)) hs
        have hsn : s.1.size ≤ 120000 := by have := szS_mem hs; have := HSZ.out; unfold Tr.sz at this; omega
        have hstep := strE_step (p := prvS t.ss k) hs
        have hnext : prvS t.ss (k + 1) = some s.1 := by show (t.ss[k]?).map (·.1) = _; rw [hs]; rfl
        have HX := hide hnext
        cases hnb : nameB s.1
        case false =>
          rw [hnb, if_pos rfl] at hstep
          have HR := hide (show oneE t l = 4 by rw [HF7.out, HE.out, hstep]; rfl)
          have NM := hide (fun W => rname_any s.1 hsn W)
          rw [hnb] at NM
          clear hstep hnb hs hnext
          go_wp2_with (go_at_call 147; refine (NM.out _).mono ?_; rintro e w7 ⟨rfl, hb7⟩)
          go_ret
          exact ⟨ret_i HR.out.symm, (hbel6.trans (hbel.mono hbel6.size)).trans (hb7.mono (hbel6.trans (hbel.mono hbel6.size)).size)⟩
        case true =>
        rw [hnb, if_neg (by decide)] at hstep
        have NM := hide (fun W => rname_any s.1 hsn W)
        rw [hnb] at NM
        have HST2 := hide hstep
        have HS := hide hs
        clear hs hstep hnb hnext
        go_upto_region 18 with (go_at_call 147; refine (NM.out _).mono ?_; rintro e w7 ⟨rfl, hb7⟩)
        have hb67 := hbel.trans (hb7.mono hbel.size)
        have HN7 := hide (HN6.out.below hb67)
        have f11 := HN7.out.c11
        have t1 : w7.cell? ⟨g, o + k * 2, none⟩ = some (.string s.1) := (hb7.cell (p := ⟨g, o + k * 2, none⟩) (by have := hbel6.size; have := hbel.size; show g < _; omega)).trans s1
        clear s1 e11 hbel hb7 NM
        by_cases hk0 : k = 0
        · have q : decide (0 < k) = false := decide_eq_false (by omega)
          have HK := hide hk0
          clear hk0
          go_quiet (fail)
          go_upto_region 20 with fail
          go_quiet (fail)
          go_wp2_with fail
          go_roundw
          case rel => exact ⟨k + 1, by omega, by go_num, by rw [HX.out, HE.out, HST2.out, HK.out]; rfl, below_drewN' hb67⟩
          case measure => simp [intOf]; omega
        · obtain ⟨j, hj⟩ : ∃ j, k = j + 1 := ⟨k - 1, by omega⟩
          obtain ⟨s', hs'⟩ : ∃ s', t.ss[j]? = some s' := ⟨_, List.getElem?_eq_getElem (by omega)⟩
          obtain ⟨g', o', eg, -, t2, -⟩ := HST.out.at (hbel6.trans (hb67.mono hbel6.size)) hs'
          injection eg with eg
          injection eg with eg1 eg2
          subst eg1; subst eg2
          have hp : prvS t.ss k = some s'.1 := by rw [hj]; show (t.ss[j]?).map (·.1) = _; rw [hs']; rfl
          have hE2 : strE none t.ss = if ordE s'.1 s.1 ≠ 0 then ordE s'.1 s.1 else strE (some s.1) (t.ss.drop (k + 1)) := by
            have := HE.out.trans HST2.out
            rw [hp] at this
            exact this
          have HE2 := hide hE2
          have q : decide (0 < k) = true := decide_eq_true (by omega)
          have w1 : IntKind.i64.wrap ((k : Int) - 1) = (j : Int) := by rw [IntWalk.i64_in _ (by omega)]; omega
          have w2 : (0 : Int) ≤ (j : Int) := by omega
          have w3 : (j : Int) < (t.ss.length : Int) := by omega
          clear hk0 hj hs' hp hE2 HE HST2
          by_cases he : s'.1 = s.1
          · have q1 : (s.1.toList == s'.1.toList) = true := seq_y he.symm
            have HR := hide (show oneE t l = 5 by
              rw [HF7.out, HE2.out]
              have : ordE s'.1 s.1 = 5 := by unfold ordE; rw [if_pos he]
              rw [this]; rfl)
            clear he
            go_quiet (fail)
            go_wp2_with fail
            go_ret
            exact ⟨ret_i HR.out.symm, hbel6.trans ((below_drewN' hb67).mono hbel6.size)⟩
          · have q1 : (s.1.toList == s'.1.toList) = false := seq_n (fun e => he e.symm)
            have HEQ := hide he
            clear he
            cases hlb : Op.bytesLess s.1.toList s'.1.toList
            case true =>
              have HR := hide (show oneE t l = 1 by
                rw [HF7.out, HE2.out]
                have : ordE s'.1 s.1 = 1 := by unfold ordE; rw [if_neg HEQ.out, if_pos hlb]
                rw [this]; rfl)
              go_quiet (fail)
              go_upto_region 20 with fail
              go_quiet (fail)
              go_wp2_with fail
              go_ret
              exact ⟨ret_i HR.out.symm, hbel6.trans ((below_drewN' hb67).mono hbel6.size)⟩
            case false =>
              have HR := hide (show strE none t.ss = strE (prvS t.ss (k + 1)) (t.ss.drop (k + 1)) by
                rw [HE2.out, HX.out]
                have : ordE s'.1 s.1 = 0 := by unfold ordE; rw [if_neg HEQ.out, if_neg (by rw [hlb]; decide)]
                rw [this]; rfl)
              go_quiet (fail)
              go_upto_region 20 with fail
              go_quiet (fail)
              go_wp2_with fail
              go_roundw
              case rel => exact ⟨k + 1, by omega, by go_num, HR.out, below_drewN' hb67⟩
              case measure => simp [intOf]; omega
  case rest =>
  obtain ⟨hst0, hb8⟩ := hcut
  have hbel8 := hbel6.trans (hb8.mono hbel6.size)
  have HN8 := hide (HN6.out.below hb8)
  have HF8 := hide (show oneE t l = kidsE t.ks.names by rw [HF7.out, hst0, firstE_z]; unfold firstE; split <;> simp_all [firstE])
  clear hst0 hbel6 hb8 HN6 HF7 d11
  have d10 := HN8.out.c10
  go_wp2_with fail
  go_loopw [6] (fun i wr => ∃ (k : Nat) (r : Fo), i = .int .i64 ((k : Int) + 1) ∧ k + r.len = t.ks.len ∧ Left w w.heap.size A r k ∧ kidsE t.ks.names = kidsE r.names ∧ Below wc.heap.size wc wr) (fun i _ => t.ks.len + 1 - (intOf i).toNat)
  case atStart => exact ⟨0, t.ks, rfl, by omega, HKL.out, rfl, Below.refl _ _⟩
  case round =>
    clear HKL HST
    obtain ⟨k, r, rfl, hkr, hl, hke, hbel⟩ := hrel
    have HLr := hide hl
    have HE := hide hke
    have e10 := (HN8.out.below hbel).c10
    have hbel9 := hbel8.trans (hbel.mono hbel8.size)
    clear hl hke
    have fin : ∀ r : Fo, r.len ≤ 1 → kidsE r.names = 0 := fun r hr => by
      cases r with
      | nil => rfl
      | node h ss ks nx =>
        cases nx with
        | nil => rfl
        | node h2 ss2 ks2 nx2 => rw [Fo.len_node, Fo.len_node] at hr; omega
    by_cases hlt : k + 1 < t.ks.len
    case neg =>
      have HR := hide (show oneE t l = 0 by rw [HF8.out, HE.out]; exact fin r (by omega))
      have q : decide ((k : Int) + 1 < (t.ks.len : Int)) = false := decide_eq_false (by omega)
      clear fin
      go_wp2_with fail
      go_ret
      exact ⟨ret_i HR.out.symm, hbel9⟩
    case pos =>
    clear fin
    cases r with
    | nil => rw [Fo.len_nil] at hkr; omega
    | node h ss ks nx =>
    cases nx with
    | nil => rw [Fo.len_node, Fo.len_nil] at hkr; omega
    | node h2 ss2 ks2 nx2 =>
    obtain ⟨g, o, rfl, hg, t1, hln⟩ := HLr.out.name hbel9
    obtain ⟨g', o', eg, -, t2, -⟩ := hln.name hbel9
    injection eg with eg
    injection eg with eg1 eg2
    subst eg1; subst eg2
    have HLn := hide hln
    have hke2 : kidsE t.ks.names = if ordE h.name h2.name ≠ 0 then ordE h.name h2.name else kidsE (Fo.node h2 ss2 ks2 nx2).names := HE.out
    have HE2 := hide hke2
    have q : decide ((k : Int) + 1 < (t.ks.len : Int)) = true := decide_eq_true (by omega)
    have w1 : IntKind.i64.wrap ((k : Int) + 1 - 1) = (k : Int) := by rw [IntWalk.i64_in _ (by omega)]; omega
    have w2 : IntKind.i64.wrap (k : Int) = (k : Int) := IntWalk.i64_in _ (by omega)
    have w3 : (k : Int) < (t.ks.len : Int) := by omega
    have w4 : (k : Int) + 1 < (t.ks.len : Int) := by omega
    rw [Fo.len_node] at hkr
    clear hln HLr HE hke2
    by_cases he : h.name = h2.name
    · have q1 : (h2.name.toList == h.name.toList) = true := seq_y he.symm
      have HR := hide (show oneE t l = 5 by
        rw [HF8.out, HE2.out]
        have : ordE h.name h2.name = 5 := by unfold ordE; rw [if_pos he]
        rw [this]; rfl)
      clear he
      go_upto_region 25 with fail
      go_quiet (fail)
      go_wp2_with fail
      go_ret
      exact ⟨ret_i HR.out.symm, below_drewN' hbel9⟩
    · have q1 : (h2.name.toList == h.name.toList) = false := seq_n (fun e => he e.symm)
      have HEQ := hide he
      clear he
      cases hlb : Op.bytesLess h2.name.toList h.name.toList
      case true =>
        have HR := hide (show oneE t l = 1 by
          rw [HF8.out, HE2.out]
          have : ordE h.name h2.name = 1 := by unfold ordE; rw [if_neg HEQ.out, if_pos hlb]
          rw [this]; rfl)
        go_upto_region 25 with fail
        go_quiet (fail)
        go_upto_region 27 with fail
        go_quiet (fail)
        go_wp2_with fail
        go_ret
        exact ⟨ret_i HR.out.symm, below_drewN' hbel9⟩
      case false =>
        have HR := hide (show kidsE t.ks.names = kidsE (Fo.node h2 ss2 ks2 nx2).names by
          rw [HE2.out]
          have : ordE h.name h2.name = 0 := by unfold ordE; rw [if_neg HEQ.out, if_neg (by rw [hlb]; decide)]
          rw [this]; rfl)
        go_upto_region 25 with fail
        go_quiet (fail)
        go_upto_region 27 with fail
        go_quiet (fail)
        go_wp2_with fail
        go_roundw
        case rel => exact ⟨k + 1, _, by go_num, by omega, HLn.out, HR.out, below_drewN' hbel⟩
        case measure => simp [intOf]; omega
end Go.Proofs.YtocgindpjjolpaaGreatDoor
