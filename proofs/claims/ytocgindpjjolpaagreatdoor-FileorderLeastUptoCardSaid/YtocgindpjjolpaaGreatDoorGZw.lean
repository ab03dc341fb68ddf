/- Bytes that are an argument. -/
import Derived.Test.YtocgindpjjolpaaGreatDoorGZs
import Derived.Test.YtocgindpjjolpaaGreatDoorG38
namespace Go.Proofs.YtocgindpjjolpaaGreatDoor
set_option linter.unusedSimpArgs false
set_option linter.unusedVariables false
open Go.Joins Go.ChangeShapes Go.WideShapes Go.ChangeAt Go.RowKit Go.Deep

structure Bys where
  l : List Nat
def Bys.sz (_ : Bys) : Nat := 0
abbrev bys_dat {H : Type} : DataW H := .nil
abbrev bys_wit : Value := .slice none 0 0
theorem cells1u8 : Tryz.prog.cellsOf 5 = 1 := by kernel_rfl
set_option maxRecDepth 100000 in
theorem open_Bys {H : Type} {enc : TypeId × Value → H} {w : World} {base b0 : Nat} {spare : Nat → Bool} {held : Bool} {r : Reach} {v : Value} {d : DataW H} {p : List MemPlace} (hv : Value.okWide Tryz.prog w r b0 55 v) (h : DataW.Trod enc Tryz.prog w base spare held 55 v d p) :
    ∃ a : Bys, SlB8 w w.heap.size v a.l ∧ a.sz ≤ 20 * Rows.uptoBulk d := by
  obtain ⟨A, n0, c0, rfl⟩ := okWide_slice Tryz.underlying55 hv
  obtain ⟨fuel, hf⟩ := h
  rcases elemsX Tryz.underlying55 cells1u8 (c := .slice A n0 c0) hf with ⟨e, h1⟩ | ⟨a, len, cap, n, ds, _, e, -, hdl, hb, hel⟩
  · rw [e]
    exact ⟨⟨[]⟩, ⟨⟨none, 0, rfl, fun h => absurd h (by simp)⟩, fun x hx => absurd hx (by simp)⟩, Nat.zero_le _⟩
  · rw [e]
    have each : ∀ i, ∃ x : Nat, i < len → w.cell? ((a.add (i * 1)).add 0) = some (.int .u8 (x : Int)) ∧ x ≤ 255 := by
      intro i
      by_cases hi : i < len
      · obtain ⟨cs, y, h1, h2, h3, h4⟩ := hel i hi
        match cs, h1, h2, h3 with
        | [c], _, h2, h3 =>
          obtain ⟨s, e2, rfl, hw⟩ := DataW.trod_int Tryz.underlying5 h3
          obtain rfl := (List.cons.inj e2).1
          simp [Lit.wf, IntKind.min, IntKind.max, IntKind.bits, IntKind.signed] at hw
          exact ⟨s.toNat, fun _ => ⟨by rw [Int.toNat_of_nonneg (by omega)]; exact h2 0 _ rfl, by omega⟩⟩
      · exact ⟨0, fun h => absurd h hi⟩
    obtain ⟨E, hE⟩ := Classical.axiomOfChoice each
    have hL : ((List.range len).map E).length = len := by simp
    have hget : ∀ i s, ((List.range len).map E)[i]? = some s → i < len ∧ s = E i := fun i s hs => by
      have hi : i < len := by have := (List.getElem?_eq_some_iff.1 hs).1; rwa [hL] at this
      exact ⟨hi, by simpa [hi] using hs.symm⟩
    refine ⟨⟨(List.range len).map E⟩, ⟨⟨some a, cap, by rw [hL], fun h0 => ?_⟩, fun x hx => ?_⟩, Nat.zero_le _⟩
    · rw [hL] at h0
      obtain ⟨b, off, spot⟩ := a
      have hc0 := (hE 0 h0).1
      have hsp : spot = none := by simpa [Addr.add] using World.cell?_spot hc0
      subst hsp
      refine ⟨b, off, rfl, cell_lt (b := b) (o := off) (by simpa [Addr.add] using hc0), fun j s hj => ?_⟩
      obtain ⟨hi, rfl⟩ := hget j s hj
      have q0 := (hE j hi).1
      simp only [add_plain] at q0
      simpa using q0
    · obtain ⟨i, hi, rfl⟩ := List.mem_map.1 hx
      exact (hE i (List.mem_range.1 hi)).2
end Go.Proofs.YtocgindpjjolpaaGreatDoor
