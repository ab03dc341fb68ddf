/- Contract of the reference's Split at slashes (in the making). -/
import Derived.Test.YtopajpomhflgbaaGreatDoorCT
import Derived.Test.YtopajpomhflgbaaGreatDoorCHI
import Derived.Test.YtopajpomhflgbaaGreatDoorCLN
import Derived.Lib.Hide
namespace Go.Proofs.YtopajpomhflgbaaGreatDoor
set_option linter.unusedSimpArgs false
set_option linter.unusedVariables false
open Go.RowKit
open Go.PlainAid (bt get_bt bt_nonneg bt_le)

theorem strInfo : (Tryz.prog.info? 9).map (fun i => (i.zero, i.size, i.bytes)) = some (some (.string ByteArray.empty), 1, 16) := by kernel_rfl
/-- The words of a split, as strings. -/
def strsOf (l : List (List UInt8)) : List Value := l.map fun p => Value.string ⟨p.toArray⟩
theorem words_strs (s : ByteArray) : (words s).map Value.string = strsOf (partsL s.data.toList []) := by
  unfold strsOf words
  rw [← split_parts s.size s (Nat.le_refl _), List.map_map]
  rfl
/-- What is done behind the first bytes: the parts that are whole, and the one that has begun. -/
theorem parts_cut : ∀ (a r p : List UInt8), ∃ done q, partsL (a ++ r) p = done ++ partsL r q
  | [], r, p => ⟨[], p, rfl⟩
  | c :: a, r, p => by
    rw [List.cons_append, partsL]
    split
    · obtain ⟨d, q, e⟩ := parts_cut a r []
      exact ⟨p :: d, q, by rw [e]; rfl⟩
    · obtain ⟨d, q, e⟩ := parts_cut a r (p ++ [c])
      exact ⟨d, q, e⟩
theorem partsL_end (p : List UInt8) : partsL [] p = [p] := rfl
theorem parts_len : ∀ (l p : List UInt8), (partsL l p).length ≤ l.length + 1
  | [], p => by simp [partsL]
  | c :: r, p => by
    rw [partsL]
    split
    · have := parts_len r []; simp; omega
    · have := parts_len r (p ++ [c]); simp; omega
theorem strs_snoc (l : List (List UInt8)) (p : List UInt8) : strsOf l ++ [Value.string ⟨p.toArray⟩] = strsOf (l ++ [p]) := by unfold strsOf; simp
theorem str_snoc (s : ByteArray) (q : List UInt8) (k : Nat) (hk : k < s.size) : (ByteArray.mk q.toArray ++ s.extract k (k + 1)) = ⟨(q ++ [s[k]'hk]).toArray⟩ := by
  have e : (s.extract k (k + 1)).data.toList = [s[k]'hk] := by
    rw [← ByteArray.toList_eq, Lib.extract_toList, show k + 1 - k = 1 from by omega, List.drop_eq_getElem_cons (by simpa using hk)]
    simp
    rfl
  apply ByteArray.ext
  apply Array.toList_inj.1
  rw [ByteArray.data_append, Array.toList_append, e]
/-- Where Split stands: k bytes are read, some parts are done, one has begun. -/
def SplRel (s : ByteArray) (B : Nat) (w : World) (ov pv : Value) (k : Nat) (wr : World) : Prop :=
  ∃ (done : List (List UInt8)) (q : List UInt8), pv = .string ⟨q.toArray⟩ ∧ wr.ownsRow B 9 1 ov done.length (strsOf done) ∧ partsL s.data.toList [] = done ++ partsL (s.data.toList.drop k) q ∧ q.length ≤ k ∧ done.length ≤ k ∧ Below B w wr
theorem SplRel.hit {s : ByteArray} {k : Nat} {done : List (List UInt8)} {q : List UInt8} (h : partsL s.data.toList [] = done ++ partsL (s.data.toList.drop k) q) (hk : k < s.size) (hc : (s[k]'hk) = 47) :
    partsL s.data.toList [] = (done ++ [q]) ++ partsL (s.data.toList.drop (k + 1)) [] := by
  rw [h, List.drop_eq_getElem_cons (by simpa using hk), partsL, if_pos (by rw [Array.getElem_toList]; exact hc)]
  simp
theorem SplRel.miss {s : ByteArray} {k : Nat} {done : List (List UInt8)} {q : List UInt8} (h : partsL s.data.toList [] = done ++ partsL (s.data.toList.drop k) q) (hk : k < s.size) (hc : (s[k]'hk) ≠ 47) :
    partsL s.data.toList [] = done ++ partsL (s.data.toList.drop (k + 1)) (q ++ [s[k]'hk]) := by
  rw [h, List.drop_eq_getElem_cons (by simpa using hk), partsL, if_neg (by rw [Array.getElem_toList]; exact hc)]
  rfl
/-- The parts come as the cells of a row of the call's own. -/
def SplP (s : ByteArray) (w : World) (e : Ending) (w' : World) : Prop :=
  ∃ v, e = .returned v ∧ w'.ownsRow w.heap.size 9 1 v (partsL s.data.toList []).length (strsOf (partsL s.data.toList [])) ∧ Below w.heap.size w w'
set_option maxHeartbeats 2000000 in
theorem rsplit_any (s : ByteArray) (hs : s.size ≤ 60000) (w : World) : Calls Tryz.prog 46 #[.string s, .int .u8 47] w (SplP s w) := by
  have HL : Live w [] := trivial
  go_enter Tryz.func46, Tryz.ntmps46
  go_wp2_with fail
  go_loopw [5, 6, 7] (fun o p i wr => ∃ k : Nat, k ≤ s.size ∧ i = .int .i64 k ∧ SplRel s w.heap.size w o p k wr) (fun _ _ i _ => s.size - (intOf i).toNat)
  case atStart => exact ⟨0, by omega, rfl, [], [], rfl, World.ownsRow_lit w #[] 0 (Nat.le_refl _) (by decide) rfl, by simp, by simp, by simp, by (repeat' (first | (with_reducible exact Below.refl _ _) | (with_reducible refine Below.alloc ?_ ?_ _) | (with_reducible refine Below.setCell ?_ ?_ _) | (with_reducible refine Below.drew ?_) | (with_reducible refine below_drewN' ?_) | (with_reducible refine below_bytesW ?_ ?_) | (with_reducible refine Below.trans ?_ (Below.mono (by assumption) ?_)) | omega | (simp only [World.size_alloc, World.size_setCell, World.size_drew]; omega) | (simp [size_bytesW]; omega) | (simp; omega)))⟩
  case round =>
    obtain ⟨k, hk, rfl, done, q, rfl, hown, hpt, hq, hdn, hbel⟩ := hrel
    have HP := hide hpt
    clear hpt
    have HO := hide hown
    clear hown
    have hsz := hbel.size
    by_cases hlt : k < s.size
    · by_cases hc : (s[k]'hlt) = 47
      · have hcc := hide hc
        have hcb : (((s[k]'hlt).toNat : Int) == 47) = true := by rw [hc]; rfl
        clear hc
        go_wp2_with (at_builtin; refine wpList_append_one _ rfl _ _ 46 rfl w.heap.size 9 strInfo Tryz.underlying46 rfl (by decide) _ _ _ HO.out #[.string ⟨q.toArray⟩] rfl rfl rfl (by simp [Value.oneCell']) (by unfold maxLen; omega) (by omega) (by omega) ?_; intro v2 w2 hown2 hb2 hot2 hz2)
        (try rw [show (#[Value.string ⟨q.toArray⟩] : Array Value).toList = [Value.string ⟨q.toArray⟩] from rfl] at hown2); rw [strs_snoc] at hown2
        go_roundw
        case rel => exact ⟨k + 1, by omega, by go_num, done ++ [q], [], rfl, by simpa using hown2, SplRel.hit HP.out hlt hcc.out, by simp, by simp; omega, hbel.trans hb2⟩
        case measure => simp [intOf]; omega
      · have hcc := hide hc
        have hcb : (((s[k]'hlt).toNat : Int) == 47) = false := by
          rw [beq_eq_false_iff_ne]; intro h; exact hc (UInt8.toNat_inj.1 (by simpa using (show ((s[k]'hlt).toNat) = 47 by omega)))
        clear hc
        go_wp2
        go_roundw
        case rel => exact ⟨k + 1, by omega, by go_num, done, q ++ [s[k]'hlt], congrArg Value.string (str_snoc s q k hlt), HO.out, SplRel.miss HP.out hlt hcc.out, by simp; omega, by omega, hbel⟩
        case measure => simp [intOf]; omega
    · obtain rfl : k = s.size := by omega
      go_wp2_with (at_builtin; refine wpList_append_one _ rfl _ _ 46 rfl w.heap.size 9 strInfo Tryz.underlying46 rfl (by decide) _ _ _ HO.out #[.string ⟨q.toArray⟩] rfl rfl rfl (by simp [Value.oneCell']) (by unfold maxLen; omega) (by omega) (by omega) ?_; intro v2 w2 hown2 hb2 hot2 hz2)
      (try rw [show (#[Value.string ⟨q.toArray⟩] : Array Value).toList = [Value.string ⟨q.toArray⟩] from rfl] at hown2); rw [strs_snoc] at hown2
      go_ret
      have e : partsL s.data.toList [] = done ++ [q] := by rw [HP.out, List.drop_of_length_le (by simp), partsL_end]
      exact ⟨_, rfl, by rw [e]; simpa using hown2, hbel.trans hb2⟩
end Go.Proofs.YtopajpomhflgbaaGreatDoor
/- Contract of the reference's Target. -/
namespace Go.Proofs.YtopajpomhflgbaaGreatDoor
set_option linter.unusedSimpArgs false
set_option linter.unusedVariables false
open Go.RowKit
open Go.PlainAid (bt get_bt bt_nonneg bt_le)

theorem data_one {s : ByteArray} (h : 1 ≤ s.size) : s.data.toList = s[0]'(by omega) :: s.data.toList.tail := by
  obtain ⟨⟨l⟩⟩ := s
  cases l with
  | nil => simp [ByteArray.size] at h
  | cons c r => rfl
theorem strip_yes {s : ByteArray} (h : 1 ≤ s.size) (hc : s[0]'(by omega) = 47) : s.extract 1 s.size = strip s := by
  apply ByteArray.ext
  apply Array.toList_inj.1
  have e : (s.extract 1 s.size).data.toList = s.data.toList.drop 1 := by
    rw [← ByteArray.toList_eq, Lib.extract_toList, List.take_of_length_le]
    rw [List.length_drop, Array.length_toList]; exact Nat.le_refl _
  rw [e]
  show _ = (Lib.trimPrefix s.data.toList [47])
  unfold Lib.trimPrefix
  rw [if_pos (by rw [data_one h, hc]; simp [Lib.hasPrefix])]
  rfl
theorem strip_no {s : ByteArray} (h : 1 ≤ s.size) (hc : s[0]'(by omega) ≠ 47) : s = strip s := by
  apply ByteArray.ext
  apply Array.toList_inj.1
  show _ = (Lib.trimPrefix s.data.toList [47])
  unfold Lib.trimPrefix
  rw [if_neg (by rw [data_one h]; simp [Lib.hasPrefix]; exact fun e => hc e.symm)]
theorem words_pos (x : ByteArray) : 1 ≤ (words x).length := by rw [words_len]; omega
theorem words_parts (x : ByteArray) : strsOf (partsL x.data.toList []) = (words x).map Value.string := (words_strs x).symm
theorem rsplit_words {x y : ByteArray} (e : x = y) (hs : x.size ≤ 60000) (w : World) : Calls Tryz.prog 46 #[.string x, .int .u8 47] w fun e w' =>
    ∃ g cap, e = .returned (.slice (some ⟨g, 0, none⟩) (words y).length cap) ∧ w'.ownsRow w.heap.size 9 1 (.slice (some ⟨g, 0, none⟩) (words y).length cap) (words y).length ((words y).map Value.string) ∧ Below w.heap.size w w' := by
  subst e
  refine (rsplit_any x hs w).mono fun e w' ⟨v, he, ho, hb⟩ => ?_
  have hl : (partsL x.data.toList []).length = (words x).length := by
    have := congrArg List.length (words_parts x)
    simpa [strsOf] using this
  rw [words_parts, hl] at ho
  obtain ⟨g, cap, rfl⟩ := Go.Joins.ownsRow_form ho (words_pos x)
  exact ⟨g, cap, he, ho, hb⟩
set_option maxHeartbeats 4000000 in
theorem rtarget_any (s : ByteArray) (hs : s.size ≤ 60000) (w : World) : Calls Tryz.prog 16 #[.string s] w fun e w' => e = .returned (.bool (targetB s)) ∧ Below w.heap.size w w' := by
  by_cases h1 : 1 ≤ s.size
  case neg =>
    have e := hide (target_short (s := s) (by omega))
    have HL : Live w [] := trivial
    go_enter Tryz.func16, Tryz.ntmps16
    go_wp2
    go_ret
    exact ⟨ret_b e.out.symm, by (repeat' (first | (with_reducible exact Below.refl _ _) | (with_reducible refine Below.alloc ?_ ?_ _) | (with_reducible refine Below.setCell ?_ ?_ _) | (with_reducible refine Below.drew ?_) | (with_reducible refine below_drewN' ?_) | (with_reducible refine below_bytesW ?_ ?_) | (with_reducible refine Below.trans ?_ (Below.mono (by assumption) ?_)) | omega | (simp only [World.size_alloc, World.size_setCell, World.size_drew]; omega) | (simp [size_bytesW]; omega) | (simp; omega)))⟩
  by_cases h2 : s.size ≤ 128
  case neg =>
    have e := hide (target_short (s := s) (by omega))
    have HL : Live w [] := trivial
    go_enter Tryz.func16, Tryz.ntmps16
    go_wp2
    go_ret
    exact ⟨ret_b e.out.symm, by (repeat' (first | (with_reducible exact Below.refl _ _) | (with_reducible refine Below.alloc ?_ ?_ _) | (with_reducible refine Below.setCell ?_ ?_ _) | (with_reducible refine Below.drew ?_) | (with_reducible refine below_drewN' ?_) | (with_reducible refine below_bytesW ?_ ?_) | (with_reducible refine Below.trans ?_ (Below.mono (by assumption) ?_)) | omega | (simp only [World.size_alloc, World.size_setCell, World.size_drew]; omega) | (simp [size_bytesW]; omega) | (simp; omega)))⟩
  by_cases h3 : s = slash
  case pos =>
    subst h3
    have e : targetB slash = true := by decide +kernel
    unfold slash at *
    have HL : Live w [] := trivial
    go_enter Tryz.func16, Tryz.ntmps16
    go_wp2
    go_ret
    exact ⟨ret_b e.symm, by (repeat' (first | (with_reducible exact Below.refl _ _) | (with_reducible refine Below.alloc ?_ ?_ _) | (with_reducible refine Below.setCell ?_ ?_ _) | (with_reducible refine Below.drew ?_) | (with_reducible refine below_drewN' ?_) | (with_reducible refine below_bytesW ?_ ?_) | (with_reducible refine Below.trans ?_ (Below.mono (by assumption) ?_)) | omega | (simp only [World.size_alloc, World.size_setCell, World.size_drew]; omega) | (simp [size_bytesW]; omega) | (simp; omega)))⟩
  have q1 : (s.toList == [47]) = false := eq_list h3
  have E := hide (target_all ⟨h1, h2⟩ h3)
  have hst := strip_size s
  have hps : ∀ p ∈ words (strip s), p.size ≤ (strip s).size := fun p hp => piece_size slash 0 _ _ p hp
  have hwl := words_len (strip s)
  have hmx : (words (strip s)).length ≤ 60001 := by rw [hwl]; have := Lib.countB_le slash (by decide) (strip s).size (strip s) (Nat.le_refl _); omega
  clear hwl
  have hlt0 : 0 < s.size := by omega
  obtain ⟨X, hX, hXs, hXe⟩ : ∃ X : ByteArray, X = strip s ∧ X.size ≤ 60000 ∧ (if s[0]'hlt0 = 47 then X = s.extract 1 s.size else X = s) := by
    by_cases hc : s[0]'hlt0 = 47
    · exact ⟨_, rfl, by omega, by rw [if_pos hc, strip_yes h1 hc]⟩
    · exact ⟨_, rfl, by omega, by rw [if_neg hc]; exact (strip_no h1 hc).symm⟩
  have SP := hide (fun W => rsplit_words hX hXs W)
  clear hX
  generalize words (strip s) = ws at *
  by_cases hc : s[0]'hlt0 = 47
  all_goals
    first
      | (have hcb : (((s[0]'hlt0).toNat : Int) == 47) = true := by rw [hc]; rfl
         rw [if_pos hc] at hXe)
      | (have hcb : (((s[0]'hlt0).toNat : Int) == 47) = false := by
          rw [beq_eq_false_iff_ne]; intro h; exact hc (UInt8.toNat_inj.1 (by simpa using (show ((s[0]'hlt0).toNat) = 47 by omega)))
         rw [if_neg hc] at hXe)
    rw [hXe] at SP
    clear hc hXe
    have HL : Live w [] := trivial
    go_enter Tryz.func16, Tryz.ntmps16
    go_wp2_with fail
    refine (SP.out _).mono ?_
    rintro e w1 ⟨g, cap, rfl, hown, hb1⟩
    have hg := hown.lt g rfl
    have hOwn := hide hown
    clear hown
    go_wp2_with fail
    go_loopw [4] (fun c wr => ∃ i : Nat, i ≤ ws.length ∧ c = .int .i64 i ∧ TakeOK ws i ∧ Below w1.heap.size w1 wr) (fun c _ => ws.length - (intOf c).toNat)
    case atStart => exact ⟨0, by omega, rfl, fun j hj => by omega, by (repeat' (first | (with_reducible exact Below.refl _ _) | (with_reducible refine Below.alloc ?_ ?_ _) | (with_reducible refine Below.setCell ?_ ?_ _) | (with_reducible refine Below.drew ?_) | (with_reducible refine below_drewN' ?_) | (with_reducible refine below_bytesW ?_ ?_) | (with_reducible refine Below.trans ?_ (Below.mono (by assumption) ?_)) | omega | (simp only [World.size_alloc, World.size_setCell, World.size_drew]; omega) | (simp [size_bytesW]; omega) | (simp; omega)))⟩
    case round =>
      obtain ⟨i, hi, rfl, hok, hbel⟩ := hrel
      have HK := hide hok
      clear hok
      have hsz := hbel.size
      have hsz1 := hb1.size
      by_cases hlt : i < ws.length
      · obtain ⟨p, hp⟩ : ∃ p, ws[i]? = some p := ⟨_, List.getElem?_eq_getElem hlt⟩
        have hcell : wr.cell? ⟨g, i, none⟩ = some (.string p) := by
          rw [hbel.cell (p := ⟨g, i, none⟩) hg.2, hOwn.out.cellAt i (by omega)]; simp [hp]
        have hpm : p.size ≤ 60000 := by have := hps p (List.mem_of_getElem? hp); omega
        have HP := hide hp
        have RN := hide (fun W => rname_any p hpm W)
        clear hp hps
        by_cases d1 : p = dot
        · have hgood := hide (part_dot (Or.inl d1))
          subst d1
          unfold dot at hcell
          go_wp2
          go_roundw
          case rel => exact ⟨i + 1, by omega, by go_num, HK.out.next HP.out hgood.out, hbel⟩
          case measure => simp [intOf]; omega
        by_cases d2 : p = dots
        · have hgood := hide (part_dot (Or.inr d2))
          subst d2
          unfold dots at hcell
          go_wp2
          go_roundw
          case rel => exact ⟨i + 1, by omega, by go_num, HK.out.next HP.out hgood.out, hbel⟩
          case measure => simp [intOf]; omega
        have g1 : (p.toList == [46]) = false := eq_list d1
        have g2 : (p.toList == [46, 46]) = false := eq_list d2
        have hpn := hide (part_name d1 d2)
        have HL : Live wr [] := trivial
        cases hn : nameB p
        · have hbad := hide (by rw [hpn.out, hn] : partB p = false)
          go_wp2_with (first | (go_at_call 18; (with_reducible refine (RN.out _).mono ?_); rintro e w' ⟨rfl, hb⟩; have hz := hb.size; (try simp only [World.size_alloc, World.size_setCell, World.size_drew, Nat.add_assoc, Nat.reduceAdd] at hz); (first | obtain ⟨HL, hk⟩ := HL.call hb hz (by simp only [World.size_alloc, World.size_setCell, World.size_drew, Nat.add_assoc, Nat.reduceAdd]) | obtain ⟨HL, hk⟩ := HL.call0 hb hz (by first | rfl | simp only [World.size_alloc, World.size_setCell, World.size_drew, Nat.add_assoc, Nat.reduceAdd])); (try simp only [addN, Nat.add_zero] at HL hk); have hl := HL; simp only [Live] at hl; (try simp only [Kept] at hk)))
          go_ret
          exact ⟨ret_b (by rw [E.out]; exact (all_no HP.out hbad.out).symm), by (repeat' (first | (with_reducible exact Below.refl _ _) | (with_reducible refine Below.alloc ?_ ?_ _) | (with_reducible refine Below.setCell ?_ ?_ _) | (with_reducible refine Below.drew ?_) | (with_reducible refine below_drewN' ?_) | (with_reducible refine below_bytesW ?_ ?_) | (with_reducible refine Below.trans ?_ (Below.mono (by assumption) ?_)) | omega | (simp only [World.size_alloc, World.size_setCell, World.size_drew]; omega) | (simp [size_bytesW]; omega) | (simp; omega)))⟩
        · have hgood := hide (by rw [hpn.out, hn] : partB p = true)
          go_wp2_with (first | (go_at_call 18; (with_reducible refine (RN.out _).mono ?_); rintro e w' ⟨rfl, hb⟩; have hz := hb.size; (try simp only [World.size_alloc, World.size_setCell, World.size_drew, Nat.add_assoc, Nat.reduceAdd] at hz); (first | obtain ⟨HL, hk⟩ := HL.call hb hz (by simp only [World.size_alloc, World.size_setCell, World.size_drew, Nat.add_assoc, Nat.reduceAdd]) | obtain ⟨HL, hk⟩ := HL.call0 hb hz (by first | rfl | simp only [World.size_alloc, World.size_setCell, World.size_drew, Nat.add_assoc, Nat.reduceAdd])); (try simp only [addN, Nat.add_zero] at HL hk); have hl := HL; simp only [Live] at hl; (try simp only [Kept] at hk)))
          go_roundw
          case rel => exact ⟨i + 1, by omega, by go_num, HK.out.next HP.out hgood.out, hbel.trans (hb.mono hsz)⟩
          case measure => simp [intOf]; omega
      · obtain rfl : i = ws.length := by omega
        go_wp2
        go_ret
        exact ⟨ret_b (by rw [E.out]; exact HK.out.all.symm), hb1.trans (hbel.mono hsz1)⟩
end Go.Proofs.YtopajpomhflgbaaGreatDoor
