/- Further arguments opened: small numbers, slices of strings. -/
import Derived.Test.YtjbhokmkmapkoaaGreatDoorCZo
import Derived.Test.YtjbhokmkmapkoaaGreatDoorC29
import Derived.Deep.Strs
namespace Go.Proofs.YtjbhokmkmapkoaaGreatDoor
set_option linter.unusedSimpArgs false
set_option linter.unusedVariables false
open Go.Joins Go.ChangeShapes Go.WideShapes Go.ChangeAt Go.RowKit Go.Deep
set_option maxRecDepth 100000

abbrev b8_wit : Value := .int .u8 ((0 : Nat) : Int)
abbrev b16_wit : Value := .int .u16 ((0 : Nat) : Int)
abbrev strs_wit : Value := .slice none 0 0
theorem open_b8 {H : Type} {enc : TypeId × Value → H} {w : World} {base b0 : Nat} {spare : Nat → Bool} {held : Bool} {r : Reach} {v : Value} {d : DataW H} {p : List MemPlace} (hv : Value.okWide Tryz.prog w r b0 5 v) (h : DataW.Trod enc Tryz.prog w base spare held 5 v d p) :
    ∃ x : Nat, v = .int .u8 (x : Int) ∧ x ≤ 255 := by
  obtain ⟨n, rfl, _, _, hw⟩ := open_int Tryz.underlying5 hv h
  simp [Lit.wf, IntKind.min, IntKind.max, IntKind.bits, IntKind.signed] at hw
  exact ⟨n.toNat, by rw [Int.toNat_of_nonneg (by omega)], by omega⟩
theorem open_b16 {H : Type} {enc : TypeId × Value → H} {w : World} {base b0 : Nat} {spare : Nat → Bool} {held : Bool} {r : Reach} {v : Value} {d : DataW H} {p : List MemPlace} (hv : Value.okWide Tryz.prog w r b0 50 v) (h : DataW.Trod enc Tryz.prog w base spare held 50 v d p) :
    ∃ x : Nat, v = .int .u16 (x : Int) ∧ x ≤ 65535 := by
  obtain ⟨n, rfl, _, _, hw⟩ := open_int Tryz.underlying50 hv h
  simp [Lit.wf, IntKind.min, IntKind.max, IntKind.bits, IntKind.signed] at hw
  exact ⟨n.toNat, by rw [Int.toNat_of_nonneg (by omega)], by omega⟩
theorem open_Strs {H : Type} {enc : TypeId × Value → H} {w : World} {base b0 : Nat} {spare : Nat → Bool} {held : Bool} {r : Reach} {v : Value} {d : DataW H} {p : List MemPlace} (hv : Value.okWide Tryz.prog w r b0 41 v) (h : DataW.Trod enc Tryz.prog w base spare held 41 v d p) :
    ∃ ss : List ByteArray, ReadsS w v ss ∧ ss.length ≤ maxLen := by
  obtain ⟨a, len, cap, rfl⟩ := okWide_slice Tryz.underlying41 hv
  obtain ⟨fuel, hf⟩ := h
  rcases open_strs Tryz.underlying41 Tryz.underlying9 cells1s hf with ⟨hcs, _⟩ | ⟨a', len', cap', m, Sx, hcs, _, hl, hm, hmm, _, hcell⟩
  · have : (Value.slice a len cap) = .slice none 0 0 := by simpa [Value.cells] using hcs
    rw [this]
    exact ⟨[], ⟨none, 0, rfl, fun h => absurd h (by simp)⟩, by simp⟩
  · have hs : (Value.slice a len cap) = .slice (some a') len' cap' := by simpa [Value.cells] using hcs
    rw [hs]
    have hlm : len' ≤ m := by rw [hmm]; split <;> omega
    have hL : ((List.range len').map Sx).length = len' := by simp
    refine ⟨(List.range len').map Sx, ⟨some a', cap', by rw [hL], fun h0 => ?_⟩, by rw [hL]; omega⟩
    rw [hL] at h0
    obtain ⟨b, off, spot⟩ := a'
    have hsp : spot = none := by simpa [Addr.add] using World.cell?_spot (hcell 0 (by omega)).1
    subst hsp
    refine ⟨b, off, rfl, ?_, fun j s hj => ?_⟩
    · have := (hcell 0 (by omega)).1
      exact cell_lt (b := b) (o := off) (v := .string (Sx 0)) (by simpa [Addr.add] using this)
    · have hj2 : j < len' := by have := (List.getElem?_eq_some_iff.1 hj).1; rw [hL] at this; exact this
      have e : s = Sx j := by simpa [hj2] using hj.symm
      have := (hcell j (by omega)).1
      rw [add_plain] at this
      rw [e]; exact this
theorem descV_get {L : List DR} {j : Nat} {u : Value} (hu : (descV L)[j]? = some u) : ∃ i d q, L[i]? = some d ∧ d.cells.toList[q]? = some u ∧ j = i * 23 + q ∧ i < L.length := by
  have hj := (List.getElem?_eq_some_iff.1 hu).1
  rw [descV_len] at hj
  have hi : j / 23 < L.length := by omega
  have hq : j % 23 < (L[j / 23]).cells.toList.length := by rw [cells_len]; omega
  refine ⟨j / 23, L[j / 23], j % 23, List.getElem?_eq_getElem hi, ?_, by omega, hi⟩
  have := descV_at L (j / 23) _ (List.getElem?_eq_getElem hi) (j % 23) _ (List.getElem?_eq_getElem hq)
  rw [show j / 23 * 23 + j % 23 = j by omega, hu] at this
  rw [List.getElem?_eq_getElem hq]
  exact this.symm
abbrev descs_wit : Value := .slice none 0 0
theorem open_Descs {H : Type} {enc : TypeId × Value → H} {w : World} {base b0 : Nat} {spare : Nat → Bool} {held : Bool} {r : Reach} {v : Value} {d : DataW H} {p : List MemPlace} (hv : Value.okWide Tryz.prog w r b0 43 v) (h : DataW.Trod enc Tryz.prog w base spare held 43 v d p) :
    ∃ l : List DR, ReadsD w v l ∧ l.length ≤ maxLen := by
  obtain ⟨a, len, cap, rfl⟩ := okWide_slice Tryz.underlying43 hv
  obtain ⟨fuel, hf⟩ := h
  rcases open_slice Tryz.underlying43 hf with ⟨hcs, _⟩ | ⟨a', len', cap', m, n, D, Pl, hcs, _, hlc, hcm, hm, _, hel⟩
  · have : (Value.slice a len cap) = .slice none 0 0 := by simpa [Value.cells] using hcs
    rw [this]
    exact ⟨[], ⟨none, 0, rfl, fun h => absurd h (by simp)⟩, by simp⟩
  · have hs : (Value.slice a len cap) = .slice (some a') len' cap' := by simpa [Value.cells] using hcs
    rw [hs]
    have hlm : len' ≤ m := by rw [hm]; split <;> omega
    have each : ∀ i, ∃ e : DR, i < len' → ∀ q u, e.cells.toList[q]? = some u → w.cell? ((a'.add (i * 23)).add q) = some u := by
      intro i
      by_cases hi : i < len'
      · obtain ⟨cs, h1, h2⟩ := hel i (by omega)
        rw [cells23] at h1
        obtain ⟨_, hl, hc⟩ := World.cells?_some h1
        obtain ⟨e, rfl⟩ := cells_dr hl h2
        refine ⟨e, fun _ q u hu => ?_⟩
        have hq : q < 23 := by have := (List.getElem?_eq_some_iff.1 hu).1; rwa [cells_len] at this
        rw [← hu]
        exact hc q hq
      · exact ⟨DR.zero, fun h => absurd h hi⟩
    obtain ⟨E, hE⟩ := Classical.axiomOfChoice each
    have hL : ((List.range len').map E).length = len' := by simp
    refine ⟨(List.range len').map E, ⟨some a', cap', by rw [hL], fun h0 => ?_⟩, by rw [hL]; omega⟩
    rw [hL] at h0
    obtain ⟨b, off, spot⟩ := a'
    have hc0 := hE 0 h0 0 _ rfl
    have hsp : spot = none := by simpa [Addr.add] using World.cell?_spot hc0
    subst hsp
    refine ⟨b, off, rfl, cell_lt (b := b) (o := off) (by simpa [Addr.add] using hc0), fun j u hj => ?_⟩
    obtain ⟨i, e, q, hi, hq, rfl, hil⟩ := descV_get hj
    rw [hL] at hil
    have he : e = E i := by simpa [hil] using hi.symm
    subst he
    have := hE i hil q u hq
    simp only [add_plain] at this
    rwa [Nat.add_assoc] at this
end Go.Proofs.YtjbhokmkmapkoaaGreatDoor
