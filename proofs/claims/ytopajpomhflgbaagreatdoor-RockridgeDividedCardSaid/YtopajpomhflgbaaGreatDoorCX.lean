/- What the components of a target are read as: plain functions, no program in sight. -/
import Derived.Test.YtopajpomhflgbaaGreatDoorCV2
import Derived.Lib.FJoinFns
import Derived.Lib.JoinSame
namespace Go.Proofs.YtopajpomhflgbaaGreatDoor
set_option linter.unusedSimpArgs false
set_option linter.unusedVariables false
open Go.PlainAid (bt get_bt bt_nonneg bt_le bt_end)

inductive TR where
  | err (c : Int)
  | fin (abs : Bool) (parts : List (List UInt8)) (on : Bool)
def sub (s : ByteArray) (a n : Nat) : List UInt8 := (s.extract a (a + n)).data.toList
def decT (s : ByteArray) : Nat → Nat → Bool → List (List UInt8) → List UInt8 → Bool → TR
  | 0, _, abs, parts, _, on => .fin abs parts on
  | k + 1, p, abs, parts, part, on =>
    if s.size ≤ p then .fin abs parts on
    else if s.size < p + 2 ∨ (s.size : Int) < p + 2 + bt s (p + 1) then .err 10
    else if bt s p = 0 then decT s k (p + 2 + (bt s (p + 1)).toNat) abs (parts ++ [part ++ sub s (p + 2) (bt s (p + 1)).toNat]) [] false
    else if bt s p = 1 then decT s k (p + 2 + (bt s (p + 1)).toNat) abs parts (part ++ sub s (p + 2) (bt s (p + 1)).toNat) true
    else if bt s p = 2 ∨ bt s p = 4 ∨ bt s p = 8 then
      if on = true ∨ (bt s p = 8 ∧ 0 < p) then .err 10
      else if bt s p = 8 then decT s k (p + 2 + (bt s (p + 1)).toNat) true parts part on
      else decT s k (p + 2 + (bt s (p + 1)).toNat) abs (parts ++ [part ++ (if bt s p = 2 then [46] else [46, 46])]) [] false
    else .err 14
def pfx (abs : Bool) : ByteArray := if abs then slash else ⟨#[]⟩
def tgtS (abs : Bool) (parts : List (List UInt8)) : ByteArray := pfx abs ++ ⟨(Lib.join parts [47]).toArray⟩
def tgtR (r : TR) : Ending := match r with
  | .err c => .returned (.tuple #[.string ⟨#[]⟩, .int .i64 c])
  | .fin abs parts on => if on = true ∨ targetB (tgtS abs parts) = false then .returned (.tuple #[.string ⟨#[]⟩, .int .i64 10]) else .returned (.tuple #[.string (tgtS abs parts), .int .i64 0])
theorem tgtR_fin {abs : Bool} {parts : List (List UInt8)} (h : targetB (tgtS abs parts) = true) : tgtR (.fin abs parts false) = .returned (.tuple #[.string (tgtS abs parts), .int .i64 0]) := by
  unfold tgtR
  simp [h]
theorem decT_end {s : ByteArray} {k p : Nat} {abs : Bool} {parts : List (List UInt8)} {part : List UInt8} {on : Bool} (h : s.size ≤ p) : decT s k p abs parts part on = .fin abs parts on := by
  cases k with
  | zero => rfl
  | succ k => unfold decT; rw [if_pos h]
theorem decT_more {s : ByteArray} : ∀ {k j p : Nat} {abs : Bool} {parts : List (List UInt8)} {part : List UInt8} {on : Bool}, s.size ≤ k + p → s.size ≤ j + p → decT s k p abs parts part on = decT s j p abs parts part on
  | 0, j, p, abs, parts, part, on, h1, _ => by rw [decT_end (by omega), decT_end (by omega)]
  | k + 1, 0, p, abs, parts, part, on, _, h2 => by rw [decT_end (by omega), decT_end (by omega)]
  | k + 1, j + 1, p, abs, parts, part, on, h1, h2 => by
    have ih : ∀ q abs parts part on, p + 2 ≤ q → decT s k q abs parts part on = decT s j q abs parts part on := fun q abs parts part on hq => decT_more (by omega) (by omega)
    unfold decT
    rw [ih _ _ _ _ _ (Nat.le_add_right _ _), ih _ _ _ _ _ (Nat.le_add_right _ _), ih _ _ _ _ _ (Nat.le_add_right _ _), ih _ _ _ _ _ (Nat.le_add_right _ _)]
/-- From place p on. -/
def decF (s : ByteArray) (p : Nat) (abs : Bool) (parts : List (List UInt8)) (part : List UInt8) (on : Bool) : TR := decT s s.size p abs parts part on
section
variable {s : ByteArray} {p n : Nat} {abs : Bool} {parts : List (List UInt8)} {part : List UInt8} {on : Bool}
theorem decF_end (h : s.size ≤ p) : decF s p abs parts part on = .fin abs parts on := decT_end h
theorem decF_bad (h : p < s.size) (h2 : s.size < p + 2 ∨ (s.size : Int) < p + 2 + bt s (p + 1)) : decF s p abs parts part on = .err 10 := by
  unfold decF
  rw [decT_more (j := (s.size - 1) + 1) (by omega) (by omega), decT, if_neg (by omega), if_pos h2]
theorem decF_go (h : p + 2 + n ≤ s.size) (hn : bt s (p + 1) = n) : decF s p abs parts part on =
    if bt s p = 0 then decF s (p + 2 + n) abs (parts ++ [part ++ sub s (p + 2) n]) [] false
    else if bt s p = 1 then decF s (p + 2 + n) abs parts (part ++ sub s (p + 2) n) true
    else if bt s p = 2 ∨ bt s p = 4 ∨ bt s p = 8 then
      if on = true ∨ (bt s p = 8 ∧ 0 < p) then .err 10
      else if bt s p = 8 then decF s (p + 2 + n) true parts part on
      else decF s (p + 2 + n) abs (parts ++ [part ++ (if bt s p = 2 then [46] else [46, 46])]) [] false
    else .err 14 := by
  have e : decF s p abs parts part on = decT s (s.size + 1) p abs parts part on := decT_more (by omega) (by omega)
  rw [e, decT, if_neg (by omega), if_neg (by omega), hn]
  simp only [Int.toNat_natCast]
  rfl
end
theorem sub_len (s : ByteArray) (a n : Nat) : (sub s a n).length ≤ n := by
  unfold sub
  rw [← ByteArray.toList_eq, Lib.extract_toList, List.length_take]
  omega
theorem cat_sub (l : List UInt8) (s : ByteArray) (a n : Nat) : ByteArray.mk l.toArray ++ s.extract a (a + n) = ⟨(l ++ sub s a n).toArray⟩ := by
  rw [← cat_arr]
  congr 1
theorem lens_snoc (ps : List (List UInt8)) (x : List UInt8) : Lib.lens (ps ++ [x]) = Lib.lens ps + x.length := by
  induction ps with
  | nil => simp [Lib.lens]
  | cons a r ih => simp only [List.cons_append, Lib.lens] at *; simp_all; try omega

/-! ### Components are read as their target -/
theorem bt_mid (a b : List UInt8) (c : UInt8) (i : Nat) (hi : i = a.length) : bt ⟨(a ++ c :: b).toArray⟩ i = c.toNat := by
  subst hi
  unfold bt
  rw [dif_pos (by show a.length < (a ++ c :: b).toArray.size; simp)]
  show (((a ++ c :: b).toArray[a.length]).toNat : Int) = _
  simp
theorem sub_mid (a b c : List UInt8) (i n : Nat) (hi : i = a.length) (hn : n = b.length) : sub ⟨(a ++ (b ++ c)).toArray⟩ i n = b := by
  subst hi hn
  unfold sub
  rw [← ByteArray.toList_eq, Lib.extract_toList]
  show ((a ++ (b ++ c)).toArray.toList.drop a.length).take (a.length + b.length - a.length) = b
  simp
theorem dec_words : ∀ (ws : List ByteArray) (pre : List UInt8) (abs : Bool) (parts : List (List UInt8)), (∀ p ∈ ws, p.size ≤ 255 ∧ p ≠ ⟨#[]⟩) →
    decF ⟨(pre ++ ws.flatMap compOf).toArray⟩ pre.length abs parts [] false = .fin abs (parts ++ ws.map (·.data.toList)) false
  | [], pre, abs, parts, _ => by rw [decF_end (by show (pre ++ _).toArray.size ≤ _; simp)]; simp
  | w :: ws, pre, abs, parts, h => by
    obtain ⟨h1, h2⟩ := h w (by simp)
    have hr := fun p hp => h p (List.mem_cons_of_mem _ hp)
    have key : ∀ (f : UInt8) (name : List UInt8), compOf w = f :: UInt8.ofNat name.length :: name → name.length ≤ 255 → (f.toNat = 0 ∧ name = w.data.toList ∨ f.toNat = 2 ∧ [46] = w.data.toList ∨ f.toNat = 4 ∧ [46, 46] = w.data.toList) →
        decF ⟨(pre ++ (w :: ws).flatMap compOf).toArray⟩ pre.length abs parts [] false = .fin abs (parts ++ (w :: ws).map (·.data.toList)) false := by
      intro f name hc hl hf
      have ih := dec_words ws (pre ++ compOf w) abs (parts ++ [w.data.toList]) hr
      rw [List.append_assoc] at ih
      rw [List.flatMap_cons]
      have e0 : bt ⟨(pre ++ (compOf w ++ ws.flatMap compOf)).toArray⟩ pre.length = f.toNat := by rw [hc]; exact bt_mid pre _ f _ rfl
      have e1 : bt ⟨(pre ++ (compOf w ++ ws.flatMap compOf)).toArray⟩ (pre.length + 1) = (name.length : Nat) := by
        have := bt_mid (pre ++ [f]) (name ++ ws.flatMap compOf) (UInt8.ofNat name.length) (pre.length + 1) (by simp)
        rw [ofNat_nat hl] at this
        rw [hc]
        rw [← this]
        simp
      have e2 : sub ⟨(pre ++ (compOf w ++ ws.flatMap compOf)).toArray⟩ (pre.length + 2) name.length = name := by
        have := sub_mid (pre ++ [f, UInt8.ofNat name.length]) name (ws.flatMap compOf) (pre.length + 2) name.length (by simp) rfl
        rw [hc]
        simpa using this
      have e3 : (pre ++ compOf w).length = pre.length + 2 + name.length := by rw [hc]; simp; omega
      rw [e3] at ih
      rw [decF_go (n := name.length) (by show _ ≤ (pre ++ _).toArray.size; rw [hc]; simp; omega) e1, e0, e2]
      rcases hf with ⟨hf, hn⟩ | ⟨hf, hn⟩ | ⟨hf, hn⟩
      · rw [hf, if_pos (show ((0 : Nat) : Int) = 0 from rfl), List.nil_append, hn]
        rw [hn] at ih
        rw [ih]; simp
      · rw [hf]
        simp only [List.nil_append]
        rw [if_neg (by decide), if_neg (by decide), if_pos (by decide), if_neg (by simp), if_neg (by decide), if_pos (by decide), hn, ih]; simp
      · rw [hf]
        simp only [List.nil_append]
        rw [if_neg (by decide), if_neg (by decide), if_pos (by decide), if_neg (by simp), if_neg (by decide), if_neg (by decide), hn, ih]; simp
    by_cases d1 : w = dot
    · exact key 2 [] (by rw [d1]; decide +kernel) (by simp) (Or.inr (Or.inl ⟨rfl, by rw [d1]; rfl⟩))
    by_cases d2 : w = dots
    · exact key 4 [] (by rw [d2]; decide +kernel) (by simp) (Or.inr (Or.inr ⟨rfl, by rw [d2]; rfl⟩))
    · exact key 0 w.data.toList (compOf_name h2 d1 d2) (by rw [Array.length_toList]; exact h1) (Or.inl ⟨rfl, rfl⟩)
theorem join_cons2 (x y : List UInt8) (r : List (List UInt8)) : Lib.join (x :: y :: r) [47] = x ++ 47 :: Lib.join (y :: r) [47] := by
  rw [Lib.join_cons, Lib.join_cons]
  simp [Lib.joinTail]
theorem join_parts : ∀ (l p : List UInt8), Lib.join (partsL l p) [47] = p ++ l
  | [], p => by rw [partsL, Lib.join_one]; simp
  | c :: r, p => by
    rw [partsL]
    split
    · rename_i hc
      obtain ⟨y, t, e⟩ : ∃ y t, partsL r [] = y :: t := by
        cases h : partsL r [] with
        | nil =>
          exfalso
          cases r with
          | nil => simp [partsL] at h
          | cons c2 r2 =>
            have : ∀ (l p : List UInt8), partsL l p ≠ [] := by
              intro l
              induction l with
              | nil => intro p; simp [partsL]
              | cons a b ih => intro p; rw [partsL]; split; · simp
                               · exact ih _
            exact this _ _ h
        | cons y t => exact ⟨y, t, rfl⟩
      have ih := join_parts r []
      rw [e] at ih ⊢
      rw [join_cons2, ih, hc]
      simp
    · rw [join_parts r (p ++ [c])]; simp
theorem join_words (x : ByteArray) : Lib.join ((words x).map (·.data.toList)) [47] = x.data.toList := by
  unfold words
  rw [split_parts x.size x (Nat.le_refl _), join_parts]
  simp
theorem strip_back (s : ByteArray) : (if absB s then slash else ⟨#[]⟩) ++ strip s = s := by
  unfold absB strip Lib.trimPrefix
  split
  · rename_i h
    obtain ⟨⟨l⟩⟩ := s
    cases l with
    | nil => simp [Lib.hasPrefix] at h
    | cons c r =>
      simp [Lib.hasPrefix, List.isPrefixOf] at h
      subst h
      apply ByteArray.ext
      rw [ByteArray.data_append]
      show #[47] ++ (List.drop 1 (47 :: r)).toArray = _
      simp
  · apply ByteArray.ext
    rw [ByteArray.data_append]
    simp
theorem words_ok {s : ByteArray} (h : targetB s = true) (hs : s ≠ slash) : ∀ p ∈ words (strip s), p.size ≤ 255 ∧ p ≠ ⟨#[]⟩ := fun p hp => by
  have hlen := target_len h
  have hst := strip_size s
  have hall : (words (strip s)).all partB = true := by rw [← target_all hlen hs]; exact h
  exact ⟨by have := piece_size slash 0 _ _ p hp; omega, part_ne (List.all_eq_true.1 hall p hp)⟩
/-- The components of a target are read as it. -/
theorem dec_comps {s : ByteArray} (h : targetB s = true) : tgtR (decF (compsB s) 0 false [] [] false) = .returned (.tuple #[.string s, .int .i64 0]) := by
  by_cases hs : s = slash
  · subst hs
    have e : compsB slash = ⟨#[8, 0]⟩ := by decide +kernel
    rw [e]
    have e2 : decF ⟨#[8, 0]⟩ 0 false [] [] false = .fin true [] false := by
      rw [decF_go (n := 0) (by decide) (by decide), show bt ⟨#[8, 0]⟩ 0 = 8 by decide, if_neg (by decide), if_neg (by decide), if_pos (by decide), if_neg (by simp), if_pos rfl, decF_end (by decide)]
    rw [e2]
    have e3 : tgtS true [] = slash := by decide +kernel
    rw [tgtR_fin (by rw [e3]; exact h), e3]
  · have hw := words_ok h hs
    have hfin : decF (compsB s) 0 false [] [] false = .fin (absB s) ((words (strip s)).map (·.data.toList)) false := by
      unfold compsB compsL
      cases absB s with
      | false =>
        have := dec_words (words (strip s)) [] false [] hw
        simpa using this
      | true =>
        have := dec_words (words (strip s)) (comp 8 []) true [] hw
        rw [comp_len] at this
        rw [if_pos rfl]
        have e0 : bt ⟨(comp 8 [] ++ (words (strip s)).flatMap compOf).toArray⟩ 0 = 8 := bt_mid [] _ 8 0 rfl
        have e1 : bt ⟨(comp 8 [] ++ (words (strip s)).flatMap compOf).toArray⟩ (0 + 1) = (0 : Nat) := bt_mid [8] _ 0 1 rfl
        rw [decF_go (n := 0) (by show _ ≤ (comp 8 [] ++ _).toArray.size; simp [comp]) e1, e0, if_neg (by decide), if_neg (by decide), if_pos (by decide), if_neg (by simp), if_pos rfl]
        simpa using this
    have et : tgtS (absB s) ((words (strip s)).map (·.data.toList)) = s := by
      unfold tgtS
      rw [join_words, ← arr_of]
      exact strip_back s
    rw [hfin]
    rw [tgtR_fin (by rw [et]; exact h), et]
end Go.Proofs.YtopajpomhflgbaaGreatDoor
