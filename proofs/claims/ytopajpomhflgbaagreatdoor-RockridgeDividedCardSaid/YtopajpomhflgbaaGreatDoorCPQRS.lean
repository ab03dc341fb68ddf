/- Characters of a text at its beginning: plain arithmetic of bytes, no program in sight. -/
import Derived.Lib.DecodeN
import Derived.Lib.TrimU
import Derived.PlainAid
import Derived.Shelf.Unicode.DecodeAny
import Derived.Lib.SplitLaws
import Derived.Lib.IndexBytes
import Derived.Laws.Strings
import Derived.Lib.IndexLaws
namespace Go.Proofs.YtopajpomhflgbaaGreatDoor
set_option linter.unusedSimpArgs false
set_option linter.unusedVariables false
open Go.PlainAid (bt get_bt bt_nonneg bt_le bt_end)

def chB (n : Int) : Bool := decide (32 ≤ n ∧ n ≤ 65533 ∧ (n < 55296 ∨ 57343 < n))
def c2 (s : ByteArray) : Int := (bt s 0 - 192) * 64 + bt s 1 - 128
def c3 (s : ByteArray) : Int := (bt s 0 - 224) * 4096 + (bt s 1 - 128) * 64 + bt s 2 - 128
def H1 (s : ByteArray) : Prop := 1 ≤ s.size ∧ 32 ≤ bt s 0 ∧ bt s 0 < 128
def H2 (s : ByteArray) : Prop := 2 ≤ s.size ∧ 194 ≤ bt s 0 ∧ bt s 0 ≤ 223 ∧ 128 ≤ bt s 1 ∧ bt s 1 ≤ 191
def H3 (s : ByteArray) : Prop := 3 ≤ s.size ∧ 224 ≤ bt s 0 ∧ bt s 0 ≤ 239 ∧ 128 ≤ bt s 1 ∧ bt s 1 ≤ 191 ∧ 128 ≤ bt s 2 ∧ bt s 2 ≤ 191 ∧ 2048 ≤ c3 s ∧ chB (c3 s) = true
theorem bt_get! (s : ByteArray) (i : Nat) : bt s i = ((s.get! i).toNat : Int) := by
  unfold bt
  split
  · rename_i h
    rw [Utf8W.get!_of_lt s i h]
  · rename_i h
    have : s.get! i = 0 := by
      obtain ⟨⟨l⟩⟩ := s
      have h' : l.length ≤ i := by simpa [ByteArray.size] using h
      simp [ByteArray.get!, h']
      rfl
    rw [this]; rfl
theorem dec_eq (s : ByteArray) (h : 1 ≤ s.size) : Lib.decodeGo s = Lib.decodeN s.size (s.get! 0).toNat (s.get! 1).toNat (s.get! 2).toNat (s.get! 3).toNat := by
  unfold Lib.decodeGo
  rw [if_neg (by omega), Lib.decode_at]
  rfl
theorem dec_1 {s : ByteArray} (h : H1 s) : ((Lib.decodeGo s).1 : Int) = bt s 0 ∧ (Lib.decodeGo s).2 = 1 := by
  obtain ⟨h0, h1, h2⟩ := h
  rw [bt_get!] at *
  rw [dec_eq s h0]
  unfold Lib.decodeN
  rw [if_pos (by omega)]
  exact ⟨rfl, rfl⟩
theorem dec_2 {s : ByteArray} (h : H2 s) : ((Lib.decodeGo s).1 : Int) = c2 s ∧ (Lib.decodeGo s).2 = 2 := by
  obtain ⟨h0, h1, h2, h3, h4⟩ := h
  unfold c2
  rw [bt_get!] at h1 h2 h3 h4
  rw [bt_get! s 0, bt_get! s 1, dec_eq s (by omega)]
  unfold Lib.decodeN
  rw [if_neg (by omega), if_pos (by omega), if_pos (by omega)]
  exact ⟨by simp only; omega, rfl⟩
theorem dec_3 {s : ByteArray} (h : H3 s) : ((Lib.decodeGo s).1 : Int) = c3 s ∧ (Lib.decodeGo s).2 = 3 := by
  obtain ⟨h0, h1, h2, h3, h4, h5, h6, h7, h8⟩ := h
  unfold chB at h8
  have h8 := of_decide_eq_true h8
  unfold c3 at *
  rw [bt_get! s 0, bt_get! s 1, bt_get! s 2] at *
  rw [dec_eq s (by omega)]
  unfold Lib.decodeN
  rw [if_neg (by omega), if_neg (by omega), if_pos (by omega), if_pos (by omega)]
  exact ⟨by simp only; omega, rfl⟩
/-- No character stands at the beginning. -/
theorem dec_0 {s : ByteArray} (h : 1 ≤ s.size) (n1 : ¬ H1 s) (n2 : ¬ H2 s) (n3 : ¬ H3 s) :
    chB ((Lib.decodeGo s).1 : Int) = false ∨ ((Lib.decodeGo s).1 = 65533 ∧ (Lib.decodeGo s).2 = 1) := by
  unfold H1 at n1
  unfold H2 at n2
  unfold H3 chB c3 at n3
  simp only [decide_eq_true_eq] at n3
  rw [bt_get! s 0] at n1
  rw [bt_get! s 0, bt_get! s 1] at n2
  rw [bt_get! s 0, bt_get! s 1, bt_get! s 2] at n3
  rw [dec_eq s h]
  have u0 := (s.get! 0).toNat_lt
  have u1 := (s.get! 1).toNat_lt
  have u2 := (s.get! 2).toNat_lt
  have u3 := (s.get! 3).toNat_lt
  generalize (s.get! 0).toNat = x0 at *
  generalize (s.get! 1).toNat = x1 at *
  generalize (s.get! 2).toNat = x2 at *
  generalize (s.get! 3).toNat = x3 at *
  unfold chB
  simp only [decide_eq_false_iff_not]
  unfold Lib.decodeN
  split
  · left; simp only; omega
  split
  · split
    · exfalso; omega
    · right; exact ⟨rfl, rfl⟩
  split
  · split
    · left; simp only; omega
    · right; exact ⟨rfl, rfl⟩
  split
  · split
    · left; simp only; omega
    · right; exact ⟨rfl, rfl⟩
  · right; exact ⟨rfl, rfl⟩
end Go.Proofs.YtopajpomhflgbaaGreatDoor
/- Names, targets and their parts: plain functions of bytes, no program in sight. -/
namespace Go.Proofs.YtopajpomhflgbaaGreatDoor
set_option linter.unusedSimpArgs false
set_option linter.unusedVariables false
open Go.PlainAid (bt get_bt bt_nonneg bt_le bt_end)

instance (s : ByteArray) : Decidable (H1 s) := by unfold H1; infer_instance
instance (s : ByteArray) : Decidable (H2 s) := by unfold H2; infer_instance
instance (s : ByteArray) : Decidable (H3 s) := by unfold H3; infer_instance
/-- The bytes of the character at the beginning of a string; 0: there is none. -/
def hd (s : ByteArray) : Nat := if H1 s then 1 else if H2 s then 2 else if H3 s then 3 else 0
/-- The number of characters of a text, by so many rounds; none: it is no text. -/
def nch : Nat → ByteArray → Option Nat
  | 0, s => if s.size = 0 then some 0 else none
  | k + 1, s => if s.size = 0 then some 0 else if hd s = 0 then none else (nch k (s.extract (hd s) s.size)).map (· + 1)
def chars (s : ByteArray) : Option Nat := nch s.size s
theorem hd_le (s : ByteArray) : hd s ≤ s.size := by
  unfold hd
  split
  · rename_i h; exact h.1
  · split
    · rename_i h; exact h.1
    · split
      · rename_i h; exact h.1
      · omega
theorem nch_more : ∀ (k j : Nat) (s : ByteArray), s.size ≤ k → s.size ≤ j → nch k s = nch j s
  | 0, 0, _, _, _ => rfl
  | 0, j + 1, s, h, _ => by simp [nch, show s.size = 0 by omega]
  | k + 1, 0, s, _, h => by simp [nch, show s.size = 0 by omega]
  | k + 1, j + 1, s, h1, h2 => by
    unfold nch
    by_cases h0 : s.size = 0
    · simp [h0]
    · by_cases hh : hd s = 0
      · simp [hh]
      · simp only [h0, hh, if_false]
        rw [nch_more k j (s.extract (hd s) s.size) (by simp; omega) (by simp; omega)]
theorem chars_nil {s : ByteArray} (h : s.size = 0) : chars s = some 0 := by unfold chars; rw [h]; simp [nch, h]
theorem chars_no {s : ByteArray} (h : s.size ≠ 0) (hh : hd s = 0) : chars s = none := by
  unfold chars
  obtain ⟨k, hk⟩ : ∃ k, s.size = k + 1 := ⟨s.size - 1, by omega⟩
  rw [hk]
  simp [nch, h, hh]
theorem chars_step {s : ByteArray} (hh : hd s ≠ 0) : chars s = (chars (s.extract (hd s) s.size)).map (· + 1) := by
  have h := hd_le s
  unfold chars
  obtain ⟨k, hk⟩ : ∃ k, s.size = k + 1 := ⟨s.size - 1, by omega⟩
  have h0 : s.size ≠ 0 := by omega
  have e : nch s.size s = nch (k + 1) s := by rw [hk]
  rw [e]
  conv => lhs; unfold nch
  simp only [h0, hh, if_false]
  rw [nch_more k _ (s.extract (hd s) s.size) (by simp; omega) (Nat.le_refl _)]
theorem chars_le : ∀ (k : Nat) (s : ByteArray) (n : Nat), s.size ≤ k → chars s = some n → n ≤ s.size ∧ s.size ≤ 3 * n
  | 0, s, n, h, e => by
    rw [chars_nil (by omega)] at e; injection e with e; omega
  | k + 1, s, n, h, e => by
    by_cases h0 : s.size = 0
    · rw [chars_nil h0] at e; injection e with e; omega
    · by_cases hh : hd s = 0
      · rw [chars_no h0 hh] at e; cases e
      · rw [chars_step hh] at e
        have hl := hd_le s
        have h3 : hd s ≤ 3 := by unfold hd; repeat' split
                                 all_goals omega
        cases hc : chars (s.extract (hd s) s.size) with
        | none => rw [hc] at e; cases e
        | some m =>
          rw [hc] at e
          have hsz : (s.extract (hd s) s.size).size = s.size - hd s := by simp
          have ih := chars_le k (s.extract (hd s) s.size) m (by rw [hsz]; omega) hc
          rw [hsz] at ih
          simp only [Option.map_some, Option.some.injEq] at e
          omega

/-- Is byte c somewhere in a string? -/
def hasC (s : ByteArray) (c : UInt8) : Bool := s.data.toList.contains c
def dot : ByteArray := ⟨#[46]⟩
def dots : ByteArray := ⟨#[46, 46]⟩
def slash : ByteArray := ⟨#[47]⟩
/-- Is it a name? -/
def nameB (s : ByteArray) : Bool := decide (s ≠ dot ∧ s ≠ dots) && !hasC s 47 && (match chars s with | some n => decide (1 ≤ n ∧ n ≤ 64) | none => false)
theorem nameB_long {s : ByteArray} (h : 300 < s.size) : nameB s = false := by
  unfold nameB
  cases hc : chars s with
  | none => simp
  | some n =>
    have := chars_le s.size s n (Nat.le_refl _) hc
    have : ¬ (1 ≤ n ∧ n ≤ 64) := by omega
    simp [this]
/-- The parts between slashes. -/
def partsL : List UInt8 → List UInt8 → List (List UInt8)
  | [], p => [p]
  | c :: r, p => if c = 47 then p :: partsL r [] else partsL r (p ++ [c])
end Go.Proofs.YtopajpomhflgbaaGreatDoor
/- The reference's way to find a character: plain arithmetic of bytes, no program in sight. -/
namespace Go.Proofs.YtopajpomhflgbaaGreatDoor
set_option linter.unusedSimpArgs false
set_option linter.unusedVariables false
open Go.PlainAid (bt get_bt bt_nonneg bt_le bt_end)

def u8 (v : Int) : UInt8 := UInt8.ofNat v.toNat
theorem u8_eq {a b : Int} (ha : 0 ≤ a ∧ a ≤ 255) (hb : 0 ≤ b ∧ b ≤ 255) : (u8 a == u8 b) = decide (a = b) := by
  have n1 : (u8 a).toNat = a.toNat := by unfold u8; rw [UInt8.toNat_ofNat']; omega
  have n2 : (u8 b).toNat = b.toNat := by unfold u8; rw [UInt8.toNat_ofNat']; omega
  rw [Bool.eq_iff_iff, beq_iff_eq, decide_eq_true_iff, ← UInt8.toNat_inj, n1, n2]
  omega
/-- The bytes of a character. -/
def encL (n : Int) : List UInt8 :=
  if n < 128 then [u8 n] else if n < 2048 then [u8 (192 + n / 64), u8 (128 + n % 64)] else [u8 (224 + n / 4096), u8 (128 + n / 64 % 64), u8 (128 + n % 64)]
theorem bt_list (s : ByteArray) : s.data.toList = (List.range s.size).map (fun j => u8 (bt s j)) := by
  apply List.ext_getElem
  · simp
  · intro n h1 h2
    have h : n < s.size := by simpa using h1
    simp only [List.getElem_map, List.getElem_range, u8]
    unfold bt
    rw [dif_pos h]
    simp
    rfl
theorem bt_extract (s : ByteArray) (a b j : Nat) (hb : b ≤ s.size) (hj : a + j < b) : bt (s.extract a b) j = bt s (a + j) := by
  have h1 : j < (s.extract a b).size := by simp; omega
  have h2 : a + j < s.size := by omega
  unfold bt
  rw [dif_pos h1, dif_pos h2, ByteArray.getElem_extract]
theorem front (s : ByteArray) (k : Nat) (hk : k ≤ s.size) : (s.extract 0 k).toList = (List.range k).map (fun j => u8 (bt s j)) := by
  have hz : (s.extract 0 k).size = k := by simp; omega
  rw [ByteArray.toList_eq, bt_list, hz]
  apply List.map_congr_left
  intro j hj
  have := List.mem_range.1 hj
  rw [bt_extract s 0 k j hk (by omega), Nat.zero_add]
theorem m1 {t : ByteArray} (h : 1 ≤ t.size) (hc : chB (bt t 0) = true) : (encL (bt t 0) == (t.extract 0 1).toList) = decide (H1 t) := by
  have c := of_decide_eq_true hc
  have b := bt_le t 0
  rw [front t 1 h]
  show (encL (bt t 0) == [u8 (bt t 0)]) = _
  unfold encL H1
  by_cases q : bt t 0 < 128
  · rw [if_pos q]; simp [q, h]; omega
  · rw [if_neg q, if_pos (by omega)]; simp [q]
theorem m2 {t : ByteArray} (h : 2 ≤ t.size) (hc : chB (c2 t) = true) : (encL (c2 t) == (t.extract 0 2).toList) = decide (H2 t) := by
  have c := of_decide_eq_true hc
  have b0 := bt_le t 0
  have b1 := bt_le t 1
  have a0 := bt_nonneg t 0
  have a1 := bt_nonneg t 1
  rw [front t 2 h]
  show (encL (c2 t) == [u8 (bt t 0), u8 (bt t 1)]) = _
  have e : c2 t = (bt t 0 - 192) * 64 + bt t 1 - 128 := rfl
  generalize c2 t = n at *
  unfold encL
  by_cases q : n < 128
  · rw [if_pos q]
    have : ¬ H2 t := by unfold H2; omega
    simp [this]
  · by_cases q2 : n < 2048
    · rw [if_neg q, if_pos q2]
      show (u8 (192 + n / 64) == u8 (bt t 0) && (u8 (128 + n % 64) == u8 (bt t 1) && true)) = _
      rw [u8_eq (by omega) ⟨a0, b0⟩, u8_eq (by omega) ⟨a1, b1⟩, Bool.eq_iff_iff]
      simp only [Bool.and_true, Bool.and_eq_true, decide_eq_true_eq]
      unfold H2
      constructor
      · rintro ⟨e1, e2⟩
        have x1 : 128 ≤ bt t 1 := by omega
        have x2 : bt t 1 ≤ 191 := by omega
        have x3 : n / 64 = bt t 0 - 192 := by omega
        refine ⟨h, ?_, ?_, x1, x2⟩ <;> omega
      · rintro ⟨_, e1, e2, e3, e4⟩
        have x3 : n / 64 = bt t 0 - 192 := by omega
        have x4 : n % 64 = bt t 1 - 128 := by omega
        rw [x3, x4]
        omega
    · rw [if_neg q, if_neg q2]
      have : ¬ H2 t := by unfold H2; omega
      simp [this]
theorem m3 {t : ByteArray} (h : 3 ≤ t.size) (hc : chB (c3 t) = true) : (encL (c3 t) == (t.extract 0 3).toList) = decide (H3 t) := by
  have c := of_decide_eq_true hc
  have b0 := bt_le t 0
  have b1 := bt_le t 1
  have b2 := bt_le t 2
  have a0 := bt_nonneg t 0
  have a1 := bt_nonneg t 1
  have a2 := bt_nonneg t 2
  rw [front t 3 h]
  show (encL (c3 t) == [u8 (bt t 0), u8 (bt t 1), u8 (bt t 2)]) = _
  unfold H3
  simp only [hc, and_true]
  have e : c3 t = (bt t 0 - 224) * 4096 + (bt t 1 - 128) * 64 + bt t 2 - 128 := rfl
  generalize c3 t = n at *
  unfold encL
  by_cases q : n < 128
  · rw [if_pos q]
    have : ¬ 2048 ≤ n := by omega
    simp [this]
  · by_cases q2 : n < 2048
    · rw [if_neg q, if_pos q2]
      have : ¬ 2048 ≤ n := by omega
      simp [this]
    · rw [if_neg q, if_neg q2]
      show (u8 (224 + n / 4096) == u8 (bt t 0) && (u8 (128 + n / 64 % 64) == u8 (bt t 1) && (u8 (128 + n % 64) == u8 (bt t 2) && true))) = _
      rw [u8_eq (by omega) ⟨a0, b0⟩, u8_eq (by omega) ⟨a1, b1⟩, u8_eq (by omega) ⟨a2, b2⟩, Bool.eq_iff_iff]
      simp only [Bool.and_true, Bool.and_eq_true, decide_eq_true_eq]
      have d1 : n % 64 = (bt t 2 - 128) % 64 := by omega
      have d2 : n / 64 = (bt t 0 - 224) * 64 + (bt t 1 - 128) + (bt t 2 - 128) / 64 := by omega
      constructor
      · intro hh; omega
      · intro hh; omega
end Go.Proofs.YtopajpomhflgbaaGreatDoor
/- The library's split at slashes is the plain one, no program in sight. -/
namespace Go.Proofs.YtopajpomhflgbaaGreatDoor
set_option linter.unusedSimpArgs false
set_option linter.unusedVariables false

theorem partsL_none : ∀ (l p : List UInt8), (∀ c ∈ l, c ≠ 47) → partsL l p = [p ++ l]
  | [], p, _ => by simp [partsL]
  | c :: r, p, h => by
    rw [partsL, if_neg (h c (by simp)), partsL_none r (p ++ [c]) (fun x hx => h x (by simp [hx]))]
    simp
theorem partsL_hit : ∀ (a r p : List UInt8), (∀ c ∈ a, c ≠ 47) → partsL (a ++ 47 :: r) p = (p ++ a) :: partsL r []
  | [], r, p, _ => by simp [partsL]
  | c :: a, r, p, h => by
    rw [List.cons_append, partsL, if_neg (h c (by simp)), partsL_hit a r (p ++ [c]) (fun x hx => h x (by simp [hx]))]
    simp
theorem split_parts : ∀ (k : Nat) (s : ByteArray), s.size ≤ k → (Lib.splitB slash 0 (Lib.countB s slash) s).map (·.data.toList) = partsL s.data.toList []
  | k, s, hk => by
    have h1 : 1 ≤ slash.size := by decide
    rcases Lib.indexB_cases s slash with hm | ⟨i, hi, hle⟩
    · rw [Lib.countB_miss s slash hm, Lib.splitB_zero]
      have hn : Lib.indexByte s.data.toList 47 = -1 := by rw [← Lib.index_one]; exact hm
      have := Lib.indexByte_none hn
      rw [partsL_none _ _ (fun c hc e => by
        obtain ⟨j, hj, hx⟩ := List.getElem_of_mem hc
        exact this j (by rw [List.getElem?_eq_getElem hj, hx, e]))]
      simp
    · have hn : Lib.indexByte s.data.toList 47 = (i : Int) := by rw [← Lib.index_one]; exact hi
      obtain ⟨hat, hbf⟩ := Lib.indexByte_some hn
      have hil : i < s.data.toList.length := (List.getElem?_eq_some_iff.1 hat).1
      have hsz : s.size = s.data.toList.length := by rw [Array.length_toList]; rfl
      have hcnt : Lib.countB s slash = Lib.countB (s.extract (i + 1) s.size) slash + 1 := by
        have := Lib.countB_hit s slash i h1 hi
        show Lib.countB s slash = _
        rw [this]
        show 1 + Lib.countB (s.extract (i + 1) s.size) slash = _
        omega
      rw [hcnt, Lib.splitB_hit slash 0 _ s i hi, List.map_cons]
      have ih := split_parts (k - 1) (s.extract (i + 1) s.size) (by simp; omega)
      show (s.extract 0 (i + 0)).data.toList :: (Lib.splitB slash 0 (Lib.countB (s.extract (i + 1) s.size) slash) (s.extract (i + 1) s.size)).map (·.data.toList) = _
      rw [ih]
      have e0 : (s.extract 0 (i + 0)).data.toList = s.data.toList.take i := by
        rw [← ByteArray.toList_eq, Lib.extract_toList]; simp
      have e1 : (s.extract (i + 1) s.size).data.toList = s.data.toList.drop (i + 1) := by
        rw [← ByteArray.toList_eq, Lib.extract_toList, List.take_of_length_le]
        rw [List.length_drop, ← hsz]; omega
      have es : s.data.toList = s.data.toList.take i ++ 47 :: s.data.toList.drop (i + 1) := by
        conv => lhs; rw [← List.take_append_drop i s.data.toList]
        congr 1
        rw [List.drop_eq_getElem_cons hil]
        congr 1
        exact (List.getElem?_eq_some_iff.1 hat).2
      rw [e0, e1]
      conv => rhs; rw [es]
      rw [partsL_hit _ _ _ (fun c hc e => by
        obtain ⟨j, hj, hx⟩ := List.getElem_of_mem hc
        have hj2 : j < i := by simp at hj; omega
        exact hbf j hj2 (by rw [List.getElem?_eq_getElem (by omega)]; rw [List.getElem_take] at hx; rw [hx, e]))]
      simp
termination_by k => k
decreasing_by omega
end Go.Proofs.YtopajpomhflgbaaGreatDoor
