/- Contracts and plain words for the laws of volume descriptors, part 0: P, Q, R, Q2, W1, W2. No condition. -/
import Derived.Lib.DecodeN
import Derived.Lib.TrimU
import Derived.PlainAid
import Derived.Shelf.Unicode.DecodeAny
import Derived.Lib.SplitLaws
import Derived.Lib.IndexBytes
import Derived.Laws.Strings
namespace Go.Proofs.YtjbhokmkmapkoaaGreatDoor
set_option linter.unusedSimpArgs false
set_option linter.unusedVariables false
open Go.PlainAid (bt get_bt bt_nonneg bt_le bt_end)
def chB (n : Int) : Bool := decide (32 ≤ n ∧ n ≤ 65533 ∧ (n < 55296 ∨ 57343 < n))
def c2 (s : ByteArray) : Int := (bt s 0 - 192) * 64 + bt s 1 - 128
def c3 (s : ByteArray) : Int := (bt s 0 - 224) * 4096 + (bt s 1 - 128) * 64 + bt s 2 - 128
def H1 (s : ByteArray) : Prop := 1 ≤ s.size ∧ 32 ≤ bt s 0 ∧ bt s 0 < 128
def H2 (s : ByteArray) : Prop := 2 ≤ s.size ∧ 194 ≤ bt s 0 ∧ bt s 0 ≤ 223 ∧ 128 ≤ bt s 1 ∧ bt s 1 ≤ 191
def H3 (s : ByteArray) : Prop := 3 ≤ s.size ∧ 224 ≤ bt s 0 ∧ bt s 0 ≤ 239 ∧ 128 ≤ bt s 1 ∧ bt s 1 ≤ 191 ∧ 128 ≤ bt s 2 ∧ bt s 2 ≤ 191 ∧ 2048 ≤ c3 s ∧ chB (c3 s) = true
theorem bt_get! (s : ByteArray) (i : Nat) : bt s i = ((s.get! i).toNat : Int) := by
  unfold bt
  split
  · rename_i h
    rw [Utf8W.get!_of_lt s i h]
  · rename_i h
    have : s.get! i = 0 := by
      obtain ⟨⟨l⟩⟩ := s
      have h' : l.length ≤ i := by simpa [ByteArray.size] using h
      simp [ByteArray.get!, h']
      rfl
    rw [this]; rfl
theorem dec_eq (s : ByteArray) (h : 1 ≤ s.size) : Lib.decodeGo s = Lib.decodeN s.size (s.get! 0).toNat (s.get! 1).toNat (s.get! 2).toNat (s.get! 3).toNat := by
  unfold Lib.decodeGo
  rw [if_neg (by omega), Lib.decode_at]
  rfl
theorem dec_1 {s : ByteArray} (h : H1 s) : ((Lib.decodeGo s).1 : Int) = bt s 0 ∧ (Lib.decodeGo s).2 = 1 := by
  obtain ⟨h0, h1, h2⟩ := h
  rw [bt_get!] at *
  rw [dec_eq s h0]
  unfold Lib.decodeN
  rw [if_pos (by omega)]
  exact ⟨rfl, rfl⟩
theorem dec_2 {s : ByteArray} (h : H2 s) : ((Lib.decodeGo s).1 : Int) = c2 s ∧ (Lib.decodeGo s).2 = 2 := by
  obtain ⟨h0, h1, h2, h3, h4⟩ := h
  unfold c2
  rw [bt_get!] at h1 h2 h3 h4
  rw [bt_get! s 0, bt_get! s 1, dec_eq s (by omega)]
  unfold Lib.decodeN
  rw [if_neg (by omega), if_pos (by omega), if_pos (by omega)]
  exact ⟨by simp only; omega, rfl⟩
theorem dec_3 {s : ByteArray} (h : H3 s) : ((Lib.decodeGo s).1 : Int) = c3 s ∧ (Lib.decodeGo s).2 = 3 := by
  obtain ⟨h0, h1, h2, h3, h4, h5, h6, h7, h8⟩ := h
  unfold chB at h8
  have h8 := of_decide_eq_true h8
  unfold c3 at *
  rw [bt_get! s 0, bt_get! s 1, bt_get! s 2] at *
  rw [dec_eq s (by omega)]
  unfold Lib.decodeN
  rw [if_neg (by omega), if_neg (by omega), if_pos (by omega), if_pos (by omega)]
  exact ⟨by simp only; omega, rfl⟩
/-- No character stands at the beginning. -/
theorem dec_0 {s : ByteArray} (h : 1 ≤ s.size) (n1 : ¬ H1 s) (n2 : ¬ H2 s) (n3 : ¬ H3 s) :
    chB ((Lib.decodeGo s).1 : Int) = false ∨ ((Lib.decodeGo s).1 = 65533 ∧ (Lib.decodeGo s).2 = 1) := by
  unfold H1 at n1
  unfold H2 at n2
  unfold H3 chB c3 at n3
  simp only [decide_eq_true_eq] at n3
  rw [bt_get! s 0] at n1
  rw [bt_get! s 0, bt_get! s 1] at n2
  rw [bt_get! s 0, bt_get! s 1, bt_get! s 2] at n3
  rw [dec_eq s h]
  have u0 := (s.get! 0).toNat_lt
  have u1 := (s.get! 1).toNat_lt
  have u2 := (s.get! 2).toNat_lt
  have u3 := (s.get! 3).toNat_lt
  generalize (s.get! 0).toNat = x0 at *
  generalize (s.get! 1).toNat = x1 at *
  generalize (s.get! 2).toNat = x2 at *
  generalize (s.get! 3).toNat = x3 at *
  unfold chB
  simp only [decide_eq_false_iff_not]
  unfold Lib.decodeN
  split
  · left; simp only; omega
  split
  · split
    · exfalso; omega
    · right; exact ⟨rfl, rfl⟩
  split
  · split
    · left; simp only; omega
    · right; exact ⟨rfl, rfl⟩
  split
  · split
    · left; simp only; omega
    · right; exact ⟨rfl, rfl⟩
  · right; exact ⟨rfl, rfl⟩
end Go.Proofs.YtjbhokmkmapkoaaGreatDoor
namespace Go.Proofs.YtjbhokmkmapkoaaGreatDoor
set_option linter.unusedSimpArgs false
set_option linter.unusedVariables false
open Go.PlainAid (bt get_bt bt_nonneg bt_le bt_end)
instance (s : ByteArray) : Decidable (H1 s) := by unfold H1; infer_instance
instance (s : ByteArray) : Decidable (H2 s) := by unfold H2; infer_instance
instance (s : ByteArray) : Decidable (H3 s) := by unfold H3; infer_instance
/-- The bytes of the character at the beginning of a string; 0: there is none. -/
def hd (s : ByteArray) : Nat := if H1 s then 1 else if H2 s then 2 else if H3 s then 3 else 0
theorem hd_le (s : ByteArray) : hd s ≤ s.size := by
  unfold hd
  split
  · rename_i h; exact h.1
  · split
    · rename_i h; exact h.1
    · split
      · rename_i h; exact h.1
      · omega
end Go.Proofs.YtjbhokmkmapkoaaGreatDoor
namespace Go.Proofs.YtjbhokmkmapkoaaGreatDoor
set_option linter.unusedSimpArgs false
set_option linter.unusedVariables false
open Go.PlainAid (bt get_bt bt_nonneg bt_le bt_end)
def u8 (v : Int) : UInt8 := UInt8.ofNat v.toNat
theorem u8_eq {a b : Int} (ha : 0 ≤ a ∧ a ≤ 255) (hb : 0 ≤ b ∧ b ≤ 255) : (u8 a == u8 b) = decide (a = b) := by
  have n1 : (u8 a).toNat = a.toNat := by unfold u8; rw [UInt8.toNat_ofNat']; omega
  have n2 : (u8 b).toNat = b.toNat := by unfold u8; rw [UInt8.toNat_ofNat']; omega
  rw [Bool.eq_iff_iff, beq_iff_eq, decide_eq_true_iff, ← UInt8.toNat_inj, n1, n2]
  omega
/-- The bytes of a character. -/
def encL (n : Int) : List UInt8 :=
  if n < 128 then [u8 n] else if n < 2048 then [u8 (192 + n / 64), u8 (128 + n % 64)] else [u8 (224 + n / 4096), u8 (128 + n / 64 % 64), u8 (128 + n % 64)]
theorem bt_list (s : ByteArray) : s.data.toList = (List.range s.size).map (fun j => u8 (bt s j)) := by
  apply List.ext_getElem
  · simp
  · intro n h1 h2
    have h : n < s.size := by simpa using h1
    simp only [List.getElem_map, List.getElem_range, u8]
    unfold bt
    rw [dif_pos h]
    simp
    rfl
theorem bt_extract (s : ByteArray) (a b j : Nat) (hb : b ≤ s.size) (hj : a + j < b) : bt (s.extract a b) j = bt s (a + j) := by
  have h1 : j < (s.extract a b).size := by simp; omega
  have h2 : a + j < s.size := by omega
  unfold bt
  rw [dif_pos h1, dif_pos h2, ByteArray.getElem_extract]
theorem front (s : ByteArray) (k : Nat) (hk : k ≤ s.size) : (s.extract 0 k).toList = (List.range k).map (fun j => u8 (bt s j)) := by
  have hz : (s.extract 0 k).size = k := by simp; omega
  rw [ByteArray.toList_eq, bt_list, hz]
  apply List.map_congr_left
  intro j hj
  have := List.mem_range.1 hj
  rw [bt_extract s 0 k j hk (by omega), Nat.zero_add]
theorem m1 {t : ByteArray} (h : 1 ≤ t.size) (hc : chB (bt t 0) = true) : (encL (bt t 0) == (t.extract 0 1).toList) = decide (H1 t) := by
  have c := of_decide_eq_true hc
  have b := bt_le t 0
  rw [front t 1 h]
  show (encL (bt t 0) == [u8 (bt t 0)]) = _
  unfold encL H1
  by_cases q : bt t 0 < 128
  · rw [if_pos q]; simp [q, h]; omega
  · rw [if_neg q, if_pos (by omega)]; simp [q]
theorem m2 {t : ByteArray} (h : 2 ≤ t.size) (hc : chB (c2 t) = true) : (encL (c2 t) == (t.extract 0 2).toList) = decide (H2 t) := by
  have c := of_decide_eq_true hc
  have b0 := bt_le t 0
  have b1 := bt_le t 1
  have a0 := bt_nonneg t 0
  have a1 := bt_nonneg t 1
  rw [front t 2 h]
  show (encL (c2 t) == [u8 (bt t 0), u8 (bt t 1)]) = _
  have e : c2 t = (bt t 0 - 192) * 64 + bt t 1 - 128 := rfl
  generalize c2 t = n at *
  unfold encL
  by_cases q : n < 128
  · rw [if_pos q]
    have : ¬ H2 t := by unfold H2; omega
    simp [this]
  · by_cases q2 : n < 2048
    · rw [if_neg q, if_pos q2]
      show (u8 (192 + n / 64) == u8 (bt t 0) && (u8 (128 + n % 64) == u8 (bt t 1) && true)) = _
      rw [u8_eq (by omega) ⟨a0, b0⟩, u8_eq (by omega) ⟨a1, b1⟩, Bool.eq_iff_iff]
      simp only [Bool.and_true, Bool.and_eq_true, decide_eq_true_eq]
      unfold H2
      constructor
      · rintro ⟨e1, e2⟩
        have x1 : 128 ≤ bt t 1 := by omega
        have x2 : bt t 1 ≤ 191 := by omega
        have x3 : n / 64 = bt t 0 - 192 := by omega
        refine ⟨h, ?_, ?_, x1, x2⟩ <;> omega
      · rintro ⟨_, e1, e2, e3, e4⟩
        have x3 : n / 64 = bt t 0 - 192 := by omega
        have x4 : n % 64 = bt t 1 - 128 := by omega
        rw [x3, x4]
        omega
    · rw [if_neg q, if_neg q2]
      have : ¬ H2 t := by unfold H2; omega
      simp [this]
theorem m3 {t : ByteArray} (h : 3 ≤ t.size) (hc : chB (c3 t) = true) : (encL (c3 t) == (t.extract 0 3).toList) = decide (H3 t) := by
  have c := of_decide_eq_true hc
  have b0 := bt_le t 0
  have b1 := bt_le t 1
  have b2 := bt_le t 2
  have a0 := bt_nonneg t 0
  have a1 := bt_nonneg t 1
  have a2 := bt_nonneg t 2
  rw [front t 3 h]
  show (encL (c3 t) == [u8 (bt t 0), u8 (bt t 1), u8 (bt t 2)]) = _
  unfold H3
  simp only [hc, and_true]
  have e : c3 t = (bt t 0 - 224) * 4096 + (bt t 1 - 128) * 64 + bt t 2 - 128 := rfl
  generalize c3 t = n at *
  unfold encL
  by_cases q : n < 128
  · rw [if_pos q]
    have : ¬ 2048 ≤ n := by omega
    simp [this]
  · by_cases q2 : n < 2048
    · rw [if_neg q, if_pos q2]
      have : ¬ 2048 ≤ n := by omega
      simp [this]
    · rw [if_neg q, if_neg q2]
      show (u8 (224 + n / 4096) == u8 (bt t 0) && (u8 (128 + n / 64 % 64) == u8 (bt t 1) && (u8 (128 + n % 64) == u8 (bt t 2) && true))) = _
      rw [u8_eq (by omega) ⟨a0, b0⟩, u8_eq (by omega) ⟨a1, b1⟩, u8_eq (by omega) ⟨a2, b2⟩, Bool.eq_iff_iff]
      simp only [Bool.and_true, Bool.and_eq_true, decide_eq_true_eq]
      have d1 : n % 64 = (bt t 2 - 128) % 64 := by omega
      have d2 : n / 64 = (bt t 0 - 224) * 64 + (bt t 1 - 128) + (bt t 2 - 128) / 64 := by omega
      constructor
      · intro hh; omega
      · intro hh; omega
end Go.Proofs.YtjbhokmkmapkoaaGreatDoor
namespace Go.Proofs.YtjbhokmkmapkoaaGreatDoor
set_option linter.unusedSimpArgs false
set_option linter.unusedVariables false
open Go.PlainAid (bt get_bt bt_nonneg bt_le bt_end)
/-- The character at the beginning. -/
def fc (t : ByteArray) : Int := if H1 t then bt t 0 else if H2 t then c2 t else if H3 t then c3 t else 0
def nchL : Nat → ByteArray → Option (List Int)
  | 0, s => if s.size = 0 then some [] else none
  | k + 1, s => if s.size = 0 then some [] else if hd s = 0 then none else (nchL k (s.extract (hd s) s.size)).map (fc s :: ·)
/-- The characters of a text; none: it is no text. -/
def charL (s : ByteArray) : Option (List Int) := nchL s.size s
theorem nchL_more : ∀ (k j : Nat) (s : ByteArray), s.size ≤ k → s.size ≤ j → nchL k s = nchL j s
  | 0, 0, _, _, _ => rfl
  | 0, j + 1, s, h, _ => by simp [nchL, show s.size = 0 by omega]
  | k + 1, 0, s, _, h => by simp [nchL, show s.size = 0 by omega]
  | k + 1, j + 1, s, h1, h2 => by
    unfold nchL
    by_cases h0 : s.size = 0
    · simp [h0]
    · by_cases hh : hd s = 0
      · simp [hh]
      · simp only [h0, hh, if_false]
        rw [nchL_more k j (s.extract (hd s) s.size) (by simp; omega) (by simp; omega)]
theorem charL_nil {s : ByteArray} (h : s.size = 0) : charL s = some [] := by unfold charL; rw [h]; simp [nchL, h]
theorem charL_no {s : ByteArray} (h : s.size ≠ 0) (hh : hd s = 0) : charL s = none := by
  unfold charL
  obtain ⟨k, hk⟩ : ∃ k, s.size = k + 1 := ⟨s.size - 1, by omega⟩
  rw [hk]
  simp [nchL, h, hh]
theorem charL_step {s : ByteArray} (hh : hd s ≠ 0) : charL s = (charL (s.extract (hd s) s.size)).map (fc s :: ·) := by
  have h := hd_le s
  unfold charL
  obtain ⟨k, hk⟩ : ∃ k, s.size = k + 1 := ⟨s.size - 1, by omega⟩
  have h0 : s.size ≠ 0 := by omega
  have e : nchL s.size s = nchL (k + 1) s := by rw [hk]
  rw [e]
  conv => lhs; unfold nchL
  simp only [h0, hh, if_false]
  rw [nchL_more k _ (s.extract (hd s) s.size) (by simp; omega) (Nat.le_refl _)]
theorem fc_enc {s : ByteArray} (hh : hd s ≠ 0) : encL (fc s) = (s.extract 0 (hd s)).toList ∧ chB (fc s) = true := by
  have b0 := bt_le s 0
  unfold hd at hh ⊢
  unfold fc
  by_cases h1 : H1 s
  · rw [if_pos h1, if_pos h1]
    have hc : chB (bt s 0) = true := by unfold chB; unfold H1 at h1; exact decide_eq_true (by omega)
    have := m1 h1.1 hc
    rw [decide_eq_true h1] at this
    exact ⟨by simpa using this, hc⟩
  rw [if_neg h1] at hh ⊢
  rw [if_neg h1]
  by_cases h2 : H2 s
  · rw [if_pos h2, if_pos h2]
    have hc : chB (c2 s) = true := by unfold chB c2; unfold H2 at h2; exact decide_eq_true (by omega)
    have := m2 h2.1 hc
    rw [decide_eq_true h2] at this
    exact ⟨by simpa using this, hc⟩
  rw [if_neg h2] at hh ⊢
  rw [if_neg h2]
  by_cases h3 : H3 s
  · rw [if_pos h3, if_pos h3]
    have hc : chB (c3 s) = true := h3.2.2.2.2.2.2.2.2
    have := m3 h3.1 hc
    rw [decide_eq_true h3] at this
    exact ⟨by simpa using this, hc⟩
  · rw [if_neg h3] at hh; exact absurd rfl hh
theorem cut_cat (s : ByteArray) (n : Nat) (h : n ≤ s.size) : (s.extract 0 n).data.toList ++ (s.extract n s.size).data.toList = s.data.toList := by
  have hl : s.data.toList.length = s.size := Array.length_toList
  rw [← ByteArray.toList_eq (s.extract 0 n), ← ByteArray.toList_eq (s.extract n s.size), Lib.extract_toList, Lib.extract_toList]
  rw [List.take_of_length_le (l := s.data.toList.drop n) (by rw [List.length_drop, hl]; omega)]
  simp
/-- A text is its characters' bytes. -/
theorem charL_text : ∀ (k : Nat) (s : ByteArray) (cs : List Int), s.size ≤ k → charL s = some cs → s.data.toList = cs.flatMap encL ∧ (∀ c ∈ cs, chB c = true) ∧ cs.length ≤ s.size
  | k, s, cs, hk, h => by
    by_cases h0 : s.size = 0
    · rw [charL_nil h0] at h
      obtain rfl := Option.some.inj h
      have hl : s.data.toList.length = 0 := by rw [Array.length_toList]; exact h0
      exact ⟨by rw [List.length_eq_zero_iff.1 hl]; rfl, by simp, by simp⟩
    · by_cases hh : hd s = 0
      · rw [charL_no h0 hh] at h; cases h
      · rw [charL_step hh] at h
        have hle := hd_le s
        have hsz : (s.extract (hd s) s.size).size = s.size - hd s := by simp
        cases k with
        | zero => omega
        | succ k =>
          cases hr : charL (s.extract (hd s) s.size) with
          | none => rw [hr] at h; cases h
          | some r =>
            rw [hr] at h
            obtain rfl := Option.some.inj h
            obtain ⟨i1, i2, i3⟩ := charL_text k _ r (by rw [hsz]; omega) hr
            obtain ⟨f1, f2⟩ := fc_enc hh
            refine ⟨?_, ?_, ?_⟩
            · rw [List.flatMap_cons, ← i1, f1, ByteArray.toList_eq, cut_cat s _ hle]
            · intro c hc
              rcases List.mem_cons.1 hc with rfl | hc
              · exact f2
              · exact i2 c hc
            · rw [List.length_cons]; rw [hsz] at i3; omega
/-- The bytes of characters in UCS-2. -/
def ucsL (cs : List Int) : List UInt8 := cs.flatMap fun c => [u8 (c / 256), u8 (c % 256)]
theorem ucsL_len : ∀ cs : List Int, (ucsL cs).length = 2 * cs.length
  | [] => rfl
  | c :: r => by
    have := ucsL_len r
    unfold ucsL at *
    rw [List.flatMap_cons, List.length_append, this, List.length_cons]
    simp; omega
theorem ucsL_snoc (cs : List Int) (c : Int) : ucsL (cs ++ [c]) = ucsL cs ++ [u8 (c / 256), u8 (c % 256)] := by simp [ucsL]
/-- The text of bytes in UCS-2, from place p on; the number of the error. -/
def unucs : Nat → ByteArray → Nat → List UInt8 → List UInt8 × Int
  | 0, _, _, out => (out, 0)
  | k + 1, s, p, out => if s.size ≤ p then (out, 0) else if chB (bt s p * 256 + bt s (p + 1)) = true then unucs k s (p + 2) (out ++ encL (bt s p * 256 + bt s (p + 1))) else ([], 2)
/-- FromUcs2 of at most 65536 bytes. -/
def fromU (s : ByteArray) : List UInt8 × Int := if s.size % 2 = 1 then ([], 3) else unucs s.size s 0 []
theorem unucs_end {k p : Nat} {s : ByteArray} {out : List UInt8} (h : s.size ≤ p) : unucs k s p out = (out, 0) := by
  cases k with
  | zero => rfl
  | succ k => rw [unucs, if_pos h]
theorem unucs_more {s : ByteArray} : ∀ {k j p : Nat} {out : List UInt8}, s.size ≤ k + p → s.size ≤ j + p → unucs k s p out = unucs j s p out
  | 0, j, p, out, h1, _ => by rw [unucs_end (by omega), unucs_end (by omega)]
  | k + 1, 0, p, out, _, h2 => by rw [unucs_end (by omega), unucs_end (by omega)]
  | k + 1, j + 1, p, out, h1, h2 => by
    unfold unucs
    rw [unucs_more (k := k) (j := j) (p := p + 2) (by omega) (by omega)]
def unuF (s : ByteArray) (p : Nat) (out : List UInt8) : List UInt8 × Int := unucs s.size s p out
theorem unuF_end {s : ByteArray} {p : Nat} {out : List UInt8} (h : s.size ≤ p) : unuF s p out = (out, 0) := unucs_end h
theorem unuF_go {s : ByteArray} {p : Nat} {out : List UInt8} (h : p < s.size) (hc : chB (bt s p * 256 + bt s (p + 1)) = true) : unuF s p out = unuF s (p + 2) (out ++ encL (bt s p * 256 + bt s (p + 1))) := by
  unfold unuF
  rw [unucs_more (k := s.size) (j := s.size + 1) (by omega) (by omega), unucs, if_neg (by omega), if_pos hc]
theorem unuF_bad {s : ByteArray} {p : Nat} {out : List UInt8} (h : p < s.size) (hc : chB (bt s p * 256 + bt s (p + 1)) = false) : unuF s p out = ([], 2) := by
  unfold unuF
  rw [unucs_more (k := s.size) (j := (s.size - 1) + 1) (by omega) (by omega), unucs, if_neg (by omega), if_neg (by rw [hc]; simp)]
theorem bt_at (a b : List UInt8) (c : UInt8) (i : Nat) (hi : i = a.length) : bt ⟨(a ++ c :: b).toArray⟩ i = c.toNat := by
  subst hi
  have h : a.length < (ByteArray.mk (a ++ c :: b).toArray).size := by
    show a.length < (a ++ c :: b).toArray.size
    rw [List.size_toArray]; simp
  rw [← get_bt _ _ h]
  show (((a ++ c :: b).toArray[a.length]'_).toNat : Int) = _
  simp
theorem u8_nat {v : Int} (h : 0 ≤ v ∧ v ≤ 255) : ((u8 v).toNat : Int) = v := by unfold u8; rw [UInt8.toNat_ofNat']; omega
/-- What is written in UCS-2 is read back. -/
theorem unu_ucs : ∀ (cs pre : List Int) (out : List UInt8), (∀ c ∈ cs, chB c = true) → unuF ⟨(ucsL (pre ++ cs)).toArray⟩ (2 * pre.length) out = (out ++ cs.flatMap encL, 0)
  | [], pre, out, _ => by
    rw [unuF_end]
    · simp
    · show (ucsL (pre ++ [])).toArray.size ≤ _
      rw [List.size_toArray, ucsL_len]; simp
  | c :: r, pre, out, h => by
    have hc := h c (by simp)
    have hb := of_decide_eq_true hc
    have e : ucsL (pre ++ c :: r) = ucsL pre ++ u8 (c / 256) :: u8 (c % 256) :: ucsL r := by simp [ucsL]
    have hl := ucsL_len pre
    have b0 : bt ⟨(ucsL (pre ++ c :: r)).toArray⟩ (2 * pre.length) = c / 256 := by
      rw [e, bt_at _ _ _ _ hl.symm, u8_nat (by omega)]
    have b1 : bt ⟨(ucsL (pre ++ c :: r)).toArray⟩ (2 * pre.length + 1) = c % 256 := by
      rw [e, show ucsL pre ++ u8 (c / 256) :: u8 (c % 256) :: ucsL r = (ucsL pre ++ [u8 (c / 256)]) ++ u8 (c % 256) :: ucsL r by simp, bt_at _ _ _ _ (by simp [hl]), u8_nat (by omega)]
    have hv : bt ⟨(ucsL (pre ++ c :: r)).toArray⟩ (2 * pre.length) * 256 + bt ⟨(ucsL (pre ++ c :: r)).toArray⟩ (2 * pre.length + 1) = c := by rw [b0, b1]; omega
    rw [unuF_go (by
      show 2 * pre.length < (ucsL (pre ++ c :: r)).toArray.size
      rw [List.size_toArray, ucsL_len]; simp) (by rw [hv]; exact hc), hv]
    have := unu_ucs r (pre ++ [c]) (out ++ encL c) (fun x hx => h x (by simp [hx]))
    rw [show (pre ++ [c]) ++ r = pre ++ c :: r by simp, show 2 * (pre ++ [c]).length = 2 * pre.length + 2 by simp; omega] at this
    rw [this]
    simp
theorem from_ucs {s : ByteArray} {cs : List Int} (h : charL s = some cs) : fromU ⟨(ucsL cs).toArray⟩ = (s.data.toList, 0) := by
  obtain ⟨h1, h2, h3⟩ := charL_text s.size s cs (Nat.le_refl _) h
  have hz : (ByteArray.mk (ucsL cs).toArray).size = 2 * cs.length := by
    show (ucsL cs).toArray.size = _
    rw [List.size_toArray, ucsL_len]
  unfold fromU
  rw [if_neg (by rw [hz]; omega)]
  have := unu_ucs cs [] [] h2
  unfold unuF at this
  simp only [List.nil_append, List.length_nil, Nat.mul_zero] at this
  rw [this, h1]
end Go.Proofs.YtjbhokmkmapkoaaGreatDoor
namespace Go.Proofs.YtjbhokmkmapkoaaGreatDoor
set_option linter.unusedSimpArgs false
set_option linter.unusedVariables false
open Go.PlainAid (bt get_bt bt_nonneg bt_le bt_end)
/-- A directory record. -/
structure Rec where
  id : ByteArray
  lba : Int
  len : Int
  time : Int
  zone : Int
  flags : Int
  seq : Int
  use : ByteArray
deriving DecidableEq
/-- A volume descriptor. -/
structure DR where
  typ : Int
  cat : Int
  name : ByteArray
  set : ByteArray
  pub : ByteArray
  prep : ByteArray
  app : ByteArray
  number : Int
  discs : Int
  time : Int
  zone : Int
  space : Int
  psize : Int
  pl : Int
  pm : Int
  root : Rec
deriving DecidableEq
def Rec.zero : Rec := ⟨⟨#[]⟩, 0, 0, 0, 0, 0, 0, ⟨#[]⟩⟩
def DR.zero : DR := ⟨0, 0, ⟨#[]⟩, ⟨#[]⟩, ⟨#[]⟩, ⟨#[]⟩, ⟨#[]⟩, 0, 0, 0, 0, 0, 0, 0, 0, Rec.zero⟩
def wordB (n : Int) : Bool := decide (0 ≤ n ∧ n ≤ 4294967295)
def halfB (n : Int) : Bool := decide (0 ≤ n ∧ n ≤ 65535)
def byteB (n : Int) : Bool := decide (0 ≤ n ∧ n ≤ 255)
def l2 (n : Int) : List UInt8 := [u8 (n % 256), u8 (n / 256 % 256)]
def b2 (n : Int) : List UInt8 := [u8 (n / 256 % 256), u8 (n % 256)]
def l4 (n : Int) : List UInt8 := [u8 (n % 256), u8 (n / 256 % 256), u8 (n / 65536 % 256), u8 (n / 16777216 % 256)]
def b4 (n : Int) : List UInt8 := [u8 (n / 16777216 % 256), u8 (n / 65536 % 256), u8 (n / 256 % 256), u8 (n % 256)]
def both2 (n : Int) : List UInt8 := l2 n ++ b2 n
def both4 (n : Int) : List UInt8 := l4 n ++ b4 n
def le2 (s : ByteArray) (p : Nat) : Int := bt s p + bt s (p + 1) * 256
def be2 (s : ByteArray) (p : Nat) : Int := bt s (p + 1) + bt s p * 256
def le4 (s : ByteArray) (p : Nat) : Int := bt s p + bt s (p + 1) * 256 + bt s (p + 2) * 65536 + bt s (p + 3) * 16777216
def be4 (s : ByteArray) (p : Nat) : Int := bt s (p + 3) + bt s (p + 2) * 256 + bt s (p + 1) * 65536 + bt s p * 16777216
/-- Bytes stand at a place. -/
def At (s : ByteArray) (p : Nat) (l : List UInt8) : Prop := ∃ a b : List UInt8, s = ⟨(a ++ (l ++ b)).toArray⟩ ∧ a.length = p
theorem At.bt {s : ByteArray} {p : Nat} {l : List UInt8} (h : At s p l) (i : Nat) (x : UInt8) (hx : l[i]? = some x) : bt s (p + i) = x.toNat := by
  obtain ⟨a, b, rfl, rfl⟩ := h
  obtain ⟨hi, e⟩ := List.getElem?_eq_some_iff.1 hx
  have hl : l = l.take i ++ x :: l.drop (i + 1) := by
    rw [← e]
    conv => lhs; rw [← List.take_append_drop i l]
    rw [List.drop_eq_getElem_cons hi]
  have : a ++ (l ++ b) = (a ++ l.take i) ++ x :: (l.drop (i + 1) ++ b) := by
    conv => lhs; rw [hl]
    simp
  rw [this, bt_at _ _ _ _ (by rw [List.length_append, List.length_take]; omega)]
theorem At.ext {s : ByteArray} {p : Nat} {l : List UInt8} (h : At s p l) : s.extract p (p + l.length) = ⟨l.toArray⟩ := by
  obtain ⟨a, b, rfl, rfl⟩ := h
  apply ByteArray.ext
  apply Array.toList_inj.1
  rw [← ByteArray.toList_eq, Lib.extract_toList]
  show List.take _ (List.drop _ (a ++ (l ++ b)).toArray.toList) = l.toArray.toList
  simp
theorem At.size {s : ByteArray} {p : Nat} {l : List UInt8} (h : At s p l) : p + l.length ≤ s.size := by
  obtain ⟨a, b, rfl, rfl⟩ := h
  show _ ≤ (a ++ (l ++ b)).toArray.size
  rw [List.size_toArray, List.length_append, List.length_append]; omega
theorem le2_at {s : ByteArray} {p : Nat} {n : Int} {l : List UInt8} (h : At s p (l2 n ++ l)) (hn : 0 ≤ n ∧ n ≤ 65535) : le2 s p = n := by
  have h0 := h.bt 0 _ rfl
  have h1 := h.bt 1 _ rfl
  rw [u8_nat (by omega)] at h0 h1
  unfold le2
  rw [Nat.add_zero] at h0
  rw [h0, h1]; omega
theorem le4_at {s : ByteArray} {p : Nat} {n : Int} {l : List UInt8} (h : At s p (l4 n ++ l)) (hn : 0 ≤ n ∧ n ≤ 4294967295) : le4 s p = n := by
  have h0 := h.bt 0 _ rfl
  have h1 := h.bt 1 _ rfl
  have h2 := h.bt 2 _ rfl
  have h3 := h.bt 3 _ rfl
  rw [u8_nat (by omega)] at h0 h1 h2 h3
  unfold le4
  rw [Nat.add_zero] at h0
  rw [h0, h1, h2, h3]; omega
theorem be4_at {s : ByteArray} {p : Nat} {n : Int} {l : List UInt8} (h : At s p (b4 n ++ l)) (hn : 0 ≤ n ∧ n ≤ 4294967295) : be4 s p = n := by
  have h0 := h.bt 0 _ rfl
  have h1 := h.bt 1 _ rfl
  have h2 := h.bt 2 _ rfl
  have h3 := h.bt 3 _ rfl
  rw [u8_nat (by omega)] at h0 h1 h2 h3
  unfold be4
  rw [Nat.add_zero] at h0
  rw [h0, h1, h2, h3]; omega
theorem be2_at {s : ByteArray} {p : Nat} {n : Int} {l : List UInt8} (h : At s p (b2 n ++ l)) (hn : 0 ≤ n ∧ n ≤ 65535) : be2 s p = n := by
  have h0 := h.bt 0 _ rfl
  have h1 := h.bt 1 _ rfl
  rw [u8_nat (by omega)] at h0 h1
  unfold be2
  rw [Nat.add_zero] at h0
  rw [h0, h1]; omega
def dB (c : UInt8) : Bool := decide ((65 ≤ c.toNat ∧ c.toNat ≤ 90) ∨ (48 ≤ c.toNat ∧ c.toNat ≤ 57) ∨ c.toNat = 95)
/-- The other a-characters. -/
def aStr : ByteArray := ⟨#[32, 33, 34, 37, 38, 39, 40, 41, 42, 43, 44, 45, 46, 47, 58, 59, 60, 61, 62, 63]⟩
def inB (s : ByteArray) (c : UInt8) : Bool := s.data.toList.contains c
def aB (c : UInt8) : Bool := dB c || inB aStr c
def dsB (s : ByteArray) : Bool := s.data.toList.all dB
def asB (s : ByteArray) : Bool := s.data.toList.all aB
/-- It ends with a blank. -/
def endB (s : ByteArray) : Bool := decide (1 ≤ s.size ∧ bt s (s.size - 1) = 32)
def wideB (s : ByteArray) (most : Nat) : Bool := match charL s with
  | some cs => decide (2 * cs.length ≤ most)
  | none => false
/-- A string can stand in a field. -/
def okB (s : ByteArray) (size : Nat) (strict wide : Bool) : Bool :=
  !endB s && (if wide then wideB s size else decide (s.size ≤ size) && (if strict then dsB s else asB s))
def zoneB (z : Int) : Bool := decide (-720 ≤ z ∧ z ≤ 780 ∧ z.tmod 15 = 0)
def tmB (t : Int) : Bool := decide (315532800 ≤ t ∧ t ≤ 4102444799)
def padN (n : Nat) : Nat := (34 + n) / 2 * 2
/-- The bytes of a record; 0: none. -/
def recSz (i u : Nat) : Nat := if i < 1 ∨ 254 < i ∨ 254 < u ∨ u % 2 = 1 ∨ 254 < padN i + u then 0 else padN i + u
def recE (r : Rec) : Int :=
  if r.id.size = 0 ∨ r.use.size % 2 = 1 then 1
  else if recSz r.id.size r.use.size = 0 then 7
  else if (tmB r.time && zoneB r.zone && wordB r.lba && wordB r.len && halfB r.seq && byteB r.flags) = true then 0 else 2
def selfS : ByteArray := ⟨#[0]⟩
def onlyD (d : DR) : DR := if d.typ = 0 then { DR.zero with typ := d.typ, cat := d.cat } else { DR.zero with typ := d.typ }
def namesB (d : DR) : Bool := okB d.name 32 true (decide (d.typ = 2)) && okB d.set 128 true (decide (d.typ = 2)) && okB d.pub 128 false (decide (d.typ = 2)) && okB d.prep 128 false (decide (d.typ = 2)) && okB d.app 128 false (decide (d.typ = 2))
def rangesB (d : DR) : Bool := wordB d.space && wordB d.psize && wordB d.pl && wordB d.pm && decide (1 ≤ d.discs ∧ d.discs ≤ 65535 ∧ 1 ≤ d.number ∧ d.number ≤ d.discs)
/-- The error of a descriptor. -/
def chkD (d : DR) : Int :=
  if d.typ = 0 ∨ d.typ = 255 then (if d ≠ onlyD d then 1 else if wordB d.cat = true then 0 else 2)
  else if d.typ = 1 ∨ d.typ = 2 then
    if d.cat ≠ 0 then 1
    else if namesB d = false then 4
    else if d.root.id ≠ selfS ∨ d.root.use ≠ ⟨#[]⟩ then 1
    else if (rangesB d && tmB d.time && zoneB d.zone && decide (recE d.root = 0)) = true then 0 else 2
  else 1
end Go.Proofs.YtjbhokmkmapkoaaGreatDoor
namespace Go.Proofs.YtjbhokmkmapkoaaGreatDoor
set_option linter.unusedSimpArgs false
set_option linter.unusedVariables false
open Go.PlainAid (bt get_bt bt_nonneg bt_le bt_end)
def fieldS (x : ByteArray) (n : Nat) : List UInt8 := x.data.toList ++ List.replicate (n - x.size) 32
def blanks (k : Nat) : List UInt8 := (List.replicate k [(0 : UInt8), 32]).flatten
def wideS (cs : List Int) (n : Nat) : List UInt8 := ucsL cs ++ blanks ((n - 2 * cs.length) / 2) ++ List.replicate ((n - 2 * cs.length) % 2) 0
def chars0 (x : ByteArray) : List Int := match charL x with
  | some cs => cs
  | none => []
/-- A string in a field. -/
def fldL (wide : Bool) (x : ByteArray) (n : Nat) : List UInt8 := if wide then wideS (chars0 x) n else fieldS x n
theorem blanks_len (k : Nat) : (blanks k).length = 2 * k := by
  unfold blanks
  rw [List.length_flatten]
  simp; omega
theorem blanks_succ (k : Nat) : blanks (k + 1) = blanks k ++ [0, 32] := by
  unfold blanks
  rw [List.replicate_succ']
  simp
theorem fieldS_len {x : ByteArray} {n : Nat} (h : x.size ≤ n) : (fieldS x n).length = n := by
  unfold fieldS
  rw [List.length_append, List.length_replicate]
  have : x.data.toList.length = x.size := Array.length_toList
  omega
theorem wideS_len {cs : List Int} {n : Nat} (h : 2 * cs.length ≤ n) : (wideS cs n).length = n := by
  unfold wideS
  rw [List.length_append, List.length_append, List.length_replicate, blanks_len, ucsL_len]
  omega
/-- How many bytes are left without the blanks at the end of the first k ones. -/
def trimK (s : ByteArray) : Nat → Nat
  | 0 => 0
  | k + 1 => if bt s k = 32 then trimK s k else k + 1
def trimS (s : ByteArray) : ByteArray := s.extract 0 (trimK s s.size)
def wtrimK (s : ByteArray) : Nat → Nat
  | 0 => 0
  | 1 => 1
  | k + 2 => if k % 2 = 0 ∧ bt s k = 0 ∧ bt s (k + 1) = 32 then wtrimK s k else k + 2
def wtrim0 (s : ByteArray) : Nat := if s.size % 2 = 1 ∧ bt s (s.size - 1) = 0 then s.size - 1 else s.size
def wtrimS (s : ByteArray) : List UInt8 × Int := fromU (s.extract 0 (wtrimK s (wtrim0 s)))
/-- The string of a field, and whether it can be read. -/
def txtS (wide : Bool) (s : ByteArray) : ByteArray := if wide then ⟨(wtrimS s).1.toArray⟩ else trimS s
def txtB (wide : Bool) (s : ByteArray) : Bool := !wide || decide ((wtrimS s).2 = 0)
theorem trimK_le (s : ByteArray) : ∀ k, trimK s k ≤ k
  | 0 => Nat.le_refl 0
  | k + 1 => by
    unfold trimK
    split
    · exact Nat.le_succ_of_le (trimK_le s k)
    · exact Nat.le_refl _
theorem bt_of {l : List UInt8} {i : Nat} {x : UInt8} (h : l[i]? = some x) : bt ⟨l.toArray⟩ i = x.toNat := by
  obtain ⟨hi, e⟩ := List.getElem?_eq_some_iff.1 h
  have hl : l = l.take i ++ x :: l.drop (i + 1) := by
    rw [← e]
    conv => lhs; rw [← List.take_append_drop i l]
    rw [List.drop_eq_getElem_cons hi]
  rw [hl, bt_at _ _ _ _ (by rw [List.length_take]; omega)]
theorem lst (x : ByteArray) : x = ⟨x.data.toList.toArray⟩ := by
  apply ByteArray.ext
  simp
theorem trimK_field (x : ByteArray) (he : endB x = false) : ∀ k : Nat, trimK ⟨(x.data.toList ++ List.replicate k 32).toArray⟩ (x.size + k) = x.size
  | 0 => by
    rw [List.replicate_zero, List.append_nil, ← lst x, Nat.add_zero]
    cases hz : x.size with
    | zero => rfl
    | succ m =>
      unfold trimK
      rw [if_neg]
      intro h
      unfold endB at he
      rw [hz] at he
      simp only [Nat.add_sub_cancel, decide_eq_false_iff_not] at he
      exact he ⟨by omega, h⟩
  | k + 1 => by
    have hb : bt ⟨(x.data.toList ++ List.replicate (k + 1) 32).toArray⟩ (x.size + k) = 32 := by
      have hl : x.data.toList.length = x.size := Array.length_toList
      rw [bt_of (x := 32)]
      · rfl
      · rw [List.getElem?_append_right (by omega), hl, show x.size + k - x.size = k by omega, List.getElem?_replicate]
        simp
    have hsame : ∀ j : Nat, j ≤ x.size + k → trimK ⟨(x.data.toList ++ List.replicate (k + 1) 32).toArray⟩ j = trimK ⟨(x.data.toList ++ List.replicate k 32).toArray⟩ j := by
      intro j
      induction j with
      | zero => intro _; rfl
      | succ j ih =>
        intro hj
        unfold trimK
        have hl : x.data.toList.length = x.size := Array.length_toList
        have hlt : j < (x.data.toList ++ List.replicate k 32).length := by rw [List.length_append, List.length_replicate, hl]; omega
        have e : bt ⟨(x.data.toList ++ List.replicate (k + 1) 32).toArray⟩ j = bt ⟨(x.data.toList ++ List.replicate k 32).toArray⟩ j := by
          rw [List.replicate_succ', ← List.append_assoc]
          have h1 : (x.data.toList ++ List.replicate k 32)[j]? = some ((x.data.toList ++ List.replicate k 32)[j]) := List.getElem?_eq_getElem hlt
          rw [bt_of h1, bt_of (x := (x.data.toList ++ List.replicate k 32)[j]) (by rw [List.getElem?_append_left hlt]; exact h1)]
        rw [e, ih (by omega)]
    show trimK _ (x.size + k + 1) = _
    unfold trimK
    rw [if_pos hb, hsame _ (Nat.le_refl _)]
    exact trimK_field x he k
/-- A string that is written into a field is read back. -/
theorem trim_field {x : ByteArray} {n : Nat} (he : endB x = false) (h : x.size ≤ n) : trimS ⟨(fieldS x n).toArray⟩ = x := by
  have hz : (ByteArray.mk (fieldS x n).toArray).size = x.size + (n - x.size) := by
    show (fieldS x n).toArray.size = _
    rw [List.size_toArray, fieldS_len h]; omega
  unfold trimS
  rw [hz]
  unfold fieldS
  rw [trimK_field x he]
  have := At.ext (s := ⟨(x.data.toList ++ List.replicate (n - x.size) 32).toArray⟩) (p := 0) (l := x.data.toList) ⟨[], List.replicate (n - x.size) 32, rfl, rfl⟩
  have hl : x.data.toList.length = x.size := Array.length_toList
  rw [hl, Nat.zero_add] at this
  rw [this, ← lst x]
theorem wtrimK_same {l m : List UInt8} : ∀ k : Nat, k ≤ l.length → wtrimK ⟨(l ++ m).toArray⟩ k = wtrimK ⟨l.toArray⟩ k
  | 0, _ => rfl
  | 1, _ => rfl
  | k + 2, h => by
    have e : ∀ j : Nat, j < l.length → bt ⟨(l ++ m).toArray⟩ j = bt ⟨l.toArray⟩ j := by
      intro j hj
      have h1 : l[j]? = some l[j] := List.getElem?_eq_getElem hj
      rw [bt_of h1, bt_of (x := l[j]) (by rw [List.getElem?_append_left hj]; exact h1)]
    unfold wtrimK
    rw [e k (by omega), e (k + 1) (by omega), wtrimK_same k (by omega)]
theorem wtrimK_blanks (cs : List Int) (hcs : ∀ c ∈ cs, chB c = true) (hl : ∀ a, cs ≠ a ++ [32]) : ∀ k : Nat, wtrimK ⟨(ucsL cs ++ blanks k).toArray⟩ (2 * cs.length + 2 * k) = 2 * cs.length
  | 0 => by
    have e : blanks 0 = [] := rfl
    rw [e, List.append_nil, Nat.mul_zero, Nat.add_zero]
    rcases List.eq_nil_or_concat cs with rfl | ⟨a, c, rfl⟩
    · rfl
    · rw [List.concat_eq_append] at *
      have hc := of_decide_eq_true (hcs c (by simp))
      have hne : c ≠ 32 := fun h => hl a (by rw [h])
      rw [show 2 * (a ++ [c]).length = 2 * a.length + 2 by simp; omega]
      unfold wtrimK
      rw [if_neg]
      rintro ⟨_, h0, h1⟩
      rw [ucsL_snoc, show ucsL a ++ [u8 (c / 256), u8 (c % 256)] = ucsL a ++ u8 (c / 256) :: [u8 (c % 256)] by simp, bt_at _ _ _ _ (ucsL_len a).symm, u8_nat (by omega)] at h0
      rw [ucsL_snoc, show ucsL a ++ [u8 (c / 256), u8 (c % 256)] = (ucsL a ++ [u8 (c / 256)]) ++ u8 (c % 256) :: [] by simp, bt_at _ _ _ _ (by simp [ucsL_len]), u8_nat (by omega)] at h1
      omega
  | k + 1 => by
    have hlen : (ucsL cs ++ blanks k).length = 2 * cs.length + 2 * k := by rw [List.length_append, ucsL_len, blanks_len]
    rw [blanks_succ, ← List.append_assoc, show 2 * cs.length + 2 * (k + 1) = (2 * cs.length + 2 * k) + 2 by omega]
    unfold wtrimK
    have h0 : bt ⟨(ucsL cs ++ blanks k ++ [0, 32]).toArray⟩ (2 * cs.length + 2 * k) = 0 := by
      have := bt_at (ucsL cs ++ blanks k) [32] 0 (2 * cs.length + 2 * k) hlen.symm
      exact this
    have h1 : bt ⟨(ucsL cs ++ blanks k ++ [0, 32]).toArray⟩ (2 * cs.length + 2 * k + 1) = 32 := by
      have := bt_at (ucsL cs ++ blanks k ++ [0]) [] 32 (2 * cs.length + 2 * k + 1) (by rw [List.length_append, hlen]; rfl)
      rw [List.append_assoc] at this
      exact this
    rw [if_pos ⟨by omega, h0, h1⟩, wtrimK_same _ (by omega)]
    exact wtrimK_blanks cs hcs hl k
theorem end_last {s : ByteArray} {cs a : List Int} (h : charL s = some cs) (hcs : cs = a ++ [32]) : endB s = true := by
  obtain ⟨h1, _, _⟩ := charL_text s.size s cs (Nat.le_refl _) h
  have e : s.data.toList = a.flatMap encL ++ (32 : UInt8) :: [] := by
    rw [h1, hcs, List.flatMap_append]
    rfl
  have hl : s.data.toList.length = s.size := Array.length_toList
  rw [e] at hl
  simp at hl
  unfold endB
  refine decide_eq_true ⟨by omega, ?_⟩
  rw [lst s, e, bt_at _ _ _ _ (by
    show (ByteArray.mk (a.flatMap encL ++ [32]).toArray).size - 1 = _
    show (a.flatMap encL ++ [32]).toArray.size - 1 = _
    rw [List.size_toArray]; simp)]
  rfl
/-- The same in UCS-2. -/
theorem wtrim_field {x : ByteArray} {cs : List Int} {n : Nat} (hc : charL x = some cs) (he : endB x = false) (h : 2 * cs.length ≤ n) (hn : n % 2 = 0) : wtrimS ⟨(wideS cs n).toArray⟩ = (x.data.toList, 0) := by
  obtain ⟨h1, h2, h3⟩ := charL_text x.size x cs (Nat.le_refl _) hc
  have hlast : ∀ a, cs ≠ a ++ [32] := fun a ha => by rw [end_last hc ha] at he; cases he
  obtain ⟨k, hk⟩ : ∃ k, n = 2 * cs.length + 2 * k := ⟨(n - 2 * cs.length) / 2, by omega⟩
  have hw : wideS cs n = ucsL cs ++ blanks k := by
    unfold wideS
    rw [show (n - 2 * cs.length) / 2 = k by omega, show (n - 2 * cs.length) % 2 = 0 by omega]
    simp
  have hz : (ByteArray.mk (wideS cs n).toArray).size = n := by
    show (wideS cs n).toArray.size = _
    rw [List.size_toArray, wideS_len h]
  unfold wtrimS wtrim0
  rw [if_neg (by rw [hz]; omega), hz, hw, hk, wtrimK_blanks cs h2 hlast]
  have := At.ext (s := ⟨(ucsL cs ++ blanks k).toArray⟩) (p := 0) (l := ucsL cs) ⟨[], blanks k, rfl, rfl⟩
  rw [Nat.zero_add, ucsL_len] at this
  rw [this]
  exact from_ucs hc
theorem txt_fld {wide strict : Bool} {x : ByteArray} {n : Nat} (h : okB x n strict wide = true) (hn : n % 2 = 0) : txtS wide ⟨(fldL wide x n).toArray⟩ = x ∧ txtB wide ⟨(fldL wide x n).toArray⟩ = true := by
  unfold okB at h
  rw [Bool.and_eq_true] at h
  have he : endB x = false := by simpa using h.1
  unfold txtS txtB fldL
  cases wide
  · have h2 := h.2
    simp only [Bool.false_eq_true, if_false, Bool.and_eq_true, decide_eq_true_eq] at h2
    refine ⟨?_, rfl⟩
    simp only [Bool.false_eq_true, if_false]
    exact trim_field he h2.1
  · have h2 := h.2
    simp only [if_true] at h2
    unfold wideB at h2
    cases hc : charL x with
    | none => rw [hc] at h2; cases h2
    | some cs =>
      rw [hc] at h2
      have h3 : 2 * cs.length ≤ n := of_decide_eq_true h2
      have h4 : chars0 x = cs := by unfold chars0; rw [hc]
      simp [h4, wtrim_field hc he h3 hn]
theorem fld_len {wide strict : Bool} {x : ByteArray} {n : Nat} (h : okB x n strict wide = true) : (fldL wide x n).length = n := by
  unfold okB at h
  rw [Bool.and_eq_true] at h
  unfold fldL
  cases wide
  · have h2 := h.2
    simp only [Bool.false_eq_true, if_false, Bool.and_eq_true, decide_eq_true_eq] at h2
    simp only [Bool.false_eq_true, if_false]
    exact fieldS_len h2.1
  · have h2 := h.2
    simp only [if_true] at h2
    unfold wideB at h2
    cases hc : charL x with
    | none => rw [hc] at h2; cases h2
    | some cs =>
      rw [hc] at h2
      have h4 : chars0 x = cs := by unfold chars0; rw [hc]
      simp only [if_true, h4]
      exact wideS_len (of_decide_eq_true h2)
end Go.Proofs.YtjbhokmkmapkoaaGreatDoor
