/- The rows' arguments in memory opened: entries, numbers. -/
import Derived.Test.YtopajpomhflgbaaGreatDoorCZ
import Derived.Test.YtopajpomhflgbaaGreatDoorCM26
import Derived.Test.YtopajpomhflgbaaGreatDoorCM28
namespace Go.Proofs.YtopajpomhflgbaaGreatDoor
set_option linter.unusedSimpArgs false
set_option linter.unusedVariables false
open Go.Joins Go.ChangeShapes Go.WideShapes Go.ChangeAt Go.RowKit Go.Deep

abbrev ents_wit : Value := .slice none 0 0
abbrev ints_wit : Value := .slice none 0 0
theorem entsV_get : ∀ (L : List En) (j : Nat) (u : Value), (entsV L)[j]? = some u → ∃ i e, L[i]? = some e ∧ ((j = i * 3 ∧ u = .string e.sig) ∨ (j = i * 3 + 1 ∧ u = .int .i64 e.ver) ∨ (j = i * 3 + 2 ∧ u = .string e.data))
  | [], j, u, h => by simp [entsV] at h
  | a :: r, j, u, h => by
    have hc : entsV (a :: r) = a.cells ++ entsV r := by simp [entsV]
    rw [hc] at h
    match j, h with
    | 0, h => exact ⟨0, a, rfl, Or.inl ⟨rfl, (Option.some.inj h).symm⟩⟩
    | 1, h => exact ⟨0, a, rfl, Or.inr (Or.inl ⟨rfl, (Option.some.inj h).symm⟩)⟩
    | 2, h => exact ⟨0, a, rfl, Or.inr (Or.inr ⟨rfl, (Option.some.inj h).symm⟩)⟩
    | j + 3, h =>
      rw [List.getElem?_append_right (by show 3 ≤ j + 3; omega)] at h
      obtain ⟨i, e, hi, hx⟩ := entsV_get r j u (by simpa [En.cells] using h)
      refine ⟨i + 1, e, hi, ?_⟩
      rcases hx with ⟨h1, h2⟩ | ⟨h1, h2⟩ | ⟨h1, h2⟩
      · exact Or.inl ⟨by omega, h2⟩
      · exact Or.inr (Or.inl ⟨by omega, h2⟩)
      · exact Or.inr (Or.inr ⟨by omega, h2⟩)
theorem cellsEn : Tryz.prog.cellsOf 32 = 3 := by kernel_rfl
set_option maxRecDepth 100000 in
set_option maxHeartbeats 1000000 in
theorem open_Ents {H : Type} {enc : TypeId × Value → H} {w : World} {base b0 : Nat} {spare : Nat → Bool} {held : Bool} {r : Reach} {v : Value} {d : DataW H} {p : List MemPlace} (hv : Value.okWide Tryz.prog w r b0 26 v) (h : DataW.Trod enc Tryz.prog w base spare held 26 v d p) :
    ∃ L : List En, ReadsAt w v L ∧ L.length ≤ maxLen := by
  obtain ⟨a, len, cap, rfl⟩ := okWide_slice Tryz.underlying26 hv
  obtain ⟨fuel, hf⟩ := h
  rcases open_slice Tryz.underlying26 hf with ⟨hcs, _⟩ | ⟨a', len', cap', m, n, D, Pl, hcs, _, hlc, hcm, hm, _, hel⟩
  · have : (Value.slice a len cap) = .slice none 0 0 := by simpa [Value.cells] using hcs
    rw [this]
    exact ⟨[], ⟨none, 0, rfl, fun h => absurd h (by simp)⟩, by simp⟩
  · have hs : (Value.slice a len cap) = .slice (some a') len' cap' := by simpa [Value.cells] using hcs
    rw [hs]
    have hlm : len' ≤ m := by rw [hm]; split <;> omega
    have each : ∀ i, ∃ e : En, i < len' → w.cell? (a'.add (i * 3)) = some (.string e.sig) ∧ w.cell? ((a'.add (i * 3)).add 1) = some (.int .i64 e.ver) ∧ w.cell? ((a'.add (i * 3)).add 2) = some (.string e.data) := by
      intro i
      by_cases hi : i < len'
      · obtain ⟨cs, h1, h2⟩ := hel i (by omega)
        rw [cellsEn] at h1
        obtain ⟨_, hl, hc⟩ := World.cells?_some h1
        obtain ⟨y0, y1, y2, k, _, _, t0, t1, t2⟩ := trod_struct3 Tryz.underlying32 h2
        match cs, hl with
        | [c0, c1, c2], _ =>
          obtain ⟨s0, e0, -, -⟩ := DataW.trod_string Tryz.underlying9 t0
          obtain ⟨n1, e1, -, -⟩ := DataW.trod_int Tryz.underlying3 t1
          obtain ⟨s2, e2, -, -⟩ := DataW.trod_string Tryz.underlying9 t2
          have f0 : Tryz.prog.cellsOf 9 = 1 := by kernel_rfl
          have f1 : Tryz.prog.cellsOf 3 = 1 := by kernel_rfl
          simp [f0, f1] at e0 e1 e2
          refine ⟨⟨s0, n1, s2⟩, fun _ => ⟨?_, ?_, ?_⟩⟩
          · have := hc 0 (by omega); rw [e0] at this; simpa [Addr.add] using this
          · have := hc 1 (by omega); rw [e1] at this; simpa using this
          · have := hc 2 (by omega); rw [e2] at this; simpa using this
      · exact ⟨⟨⟨#[]⟩, 0, ⟨#[]⟩⟩, fun h => absurd h hi⟩
    obtain ⟨E, hE⟩ := Classical.axiomOfChoice each
    have hL : ((List.range len').map E).length = len' := by simp
    refine ⟨(List.range len').map E, ⟨some a', cap', by rw [hL], fun h0 => ?_⟩, by rw [hL]; omega⟩
    rw [hL] at h0
    obtain ⟨b, off, spot⟩ := a'
    have hsp : spot = none := by simpa [Addr.add] using World.cell?_spot (hE 0 h0).1
    subst hsp
    refine ⟨b, off, rfl, ?_, ?_⟩
    · have := (hE 0 h0).1
      exact cell_lt (b := b) (o := off) (v := .string (E 0).sig) (by simpa [Addr.add] using this)
    · intro j u hj
      obtain ⟨i, e, hi, hx⟩ := entsV_get _ j u hj
      have hi2 : i < len' := by have := (List.getElem?_eq_some_iff.1 hi).1; rw [hL] at this; exact this
      have he : e = E i := by simpa [hi2] using hi.symm
      obtain ⟨g0, g1, g2⟩ := hE i hi2
      simp only [Go.WideShapes.add_plain] at g0 g1 g2
      rcases hx with ⟨rfl, rfl⟩ | ⟨rfl, rfl⟩ | ⟨rfl, rfl⟩
      · rw [he]; exact g0
      · rw [he]; exact g1
      · rw [he]; exact g2
set_option maxRecDepth 100000 in
set_option maxHeartbeats 1000000 in
theorem open_Ints {H : Type} {enc : TypeId × Value → H} {w : World} {base b0 : Nat} {spare : Nat → Bool} {held : Bool} {r : Reach} {v : Value} {d : DataW H} {p : List MemPlace} (hv : Value.okWide Tryz.prog w r b0 38 v) (h : DataW.Trod enc Tryz.prog w base spare held 38 v d p) :
    ∃ ns : List Int, ReadsI w v ns ∧ RangeI ns := by
  have cI : Tryz.prog.cellsOf 3 = 1 := by kernel_rfl
  obtain ⟨a, len, cap, rfl⟩ := okWide_slice Tryz.underlying38 hv
  obtain ⟨fuel, hf⟩ := h
  rcases open_ints Tryz.underlying38 Tryz.underlying3 cI hf with ⟨hcs, _⟩ | ⟨a', len', cap', zs, hcs, _, hl, hm, hz, _, hcell, hwz⟩
  · have : (Value.slice a len cap) = .slice none 0 0 := by simpa [Value.cells] using hcs
    rw [this]
    exact ⟨[], ⟨none, 0, rfl, fun h => absurd h (by simp)⟩, by simp, fun n hn => by cases hn⟩
  · have hs : (Value.slice a len cap) = .slice (some a') len' cap' := by simpa [Value.cells] using hcs
    rw [hs]
    have hzl : len' ≤ zs.length := by rw [hz]; split <;> omega
    have hL : (zs.take len').length = len' := by rw [List.length_take]; omega
    refine ⟨zs.take len', ⟨some a', cap', by rw [hL], fun h0 => ?_⟩, by rw [hL]; omega, fun n hn => hwz n (List.mem_of_mem_take hn)⟩
    rw [hL] at h0
    obtain ⟨b, off, rfl, hc⟩ := ints_at hcell (by omega)
    refine ⟨b, off, rfl, cell_lt (b := b) (o := off + 0) (hc 0 (by omega)), fun j n hj => ?_⟩
    have hj2 : j < len' := by have := (List.getElem?_eq_some_iff.1 hj).1; rw [hL] at this; exact this
    rw [List.getElem?_take, if_pos hj2] at hj
    rw [hc j (by omega), List.getD_eq_getElem?_getD, hj]
    rfl
end Go.Proofs.YtopajpomhflgbaaGreatDoor
