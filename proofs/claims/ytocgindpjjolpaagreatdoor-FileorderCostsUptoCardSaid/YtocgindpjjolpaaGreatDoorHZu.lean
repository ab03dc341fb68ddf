/- Extents that are an argument, opened. -/
import Derived.Test.YtocgindpjjolpaaGreatDoorHZs
import Derived.Test.YtocgindpjjolpaaGreatDoorH16
namespace Go.Proofs.YtocgindpjjolpaaGreatDoor
set_option linter.unusedSimpArgs false
set_option linter.unusedVariables false
open Go.Joins Go.ChangeShapes Go.WideShapes Go.ChangeAt Go.RowKit Go.Deep

theorem cells3 : Tryz.prog.cellsOf 69 = 3 := by kernel_rfl
/-- Extents that are an argument; what they weigh. -/
structure Exts where
  l : List Ext
def Exts.sz (a : Exts) : Nat := 20 * szL (a.l.map Ext.path)
def intOK (f : Ext) : Prop := (-9223372036854775808 ≤ f.start ∧ f.start ≤ 9223372036854775807) ∧ (-9223372036854775808 ≤ f.len ∧ f.len ≤ 9223372036854775807)
theorem i64_rng {n : Int} (h : (Lit.int .i64 n).wf = true) : -9223372036854775808 ≤ n ∧ n ≤ 9223372036854775807 := by
  simp [Lit.wf, IntKind.min, IntKind.max, IntKind.bits, IntKind.signed] at h
  omega
section
variable {H : Type} {enc : TypeId × Value → H} {w : World} {base : Nat} {spare : Nat → Bool} {held : Bool}
theorem cells_ext {fuel : Nat} {cs : List Value} {x : DataW H × List MemPlace} (hl : cs.length = 3) (h : DataW.trod enc Tryz.prog w base spare held fuel 69 cs = some x) :
    ∃ f : Ext, cs = extC f ∧ intOK f ∧ f.path.size + 1 ≤ Rows.uptoBulk x.1 := by
  obtain ⟨xs, n, _, hx, hxl, hall⟩ := fieldX Tryz.underlying69 h
  match cs, hl, xs, hxl, hall, hx with
  | [c0, c1, c2], _, [y0, y1, y2], _, hall, hx =>
    have h0 : DataW.trod enc Tryz.prog w base spare held n 9 [c0] = some y0 := hall 0 9 0 1 (by kernel_rfl) cells1s
    have h1 : DataW.trod enc Tryz.prog w base spare held n 3 [c1] = some y1 := hall 1 3 1 1 (by kernel_rfl) cells1
    have h2 : DataW.trod enc Tryz.prog w base spare held n 3 [c2] = some y2 := hall 2 3 2 1 (by kernel_rfl) cells1
    obtain ⟨s0, e0, rfl, -⟩ := DataW.trod_string Tryz.underlying9 h0
    obtain ⟨i1, e1, rfl, w1⟩ := DataW.trod_int Tryz.underlying3 h1
    obtain ⟨i2, e2, rfl, w2⟩ := DataW.trod_int Tryz.underlying3 h2
    obtain rfl := (List.cons.inj e0).1
    obtain rfl := (List.cons.inj e1).1
    obtain rfl := (List.cons.inj e2).1
    refine ⟨⟨s0, i1, i2⟩, rfl, ⟨i64_rng w1, i64_rng w2⟩, ?_⟩
    rw [hx]
    simp only [List.map_cons, List.map_nil, bulk_agg, bulk_cons, bulk_str, bulk_int, str_len]
    show s0.size + 1 ≤ _
    omega
end
set_option maxRecDepth 100000 in
theorem open_Exts {H : Type} {enc : TypeId × Value → H} {w : World} {base b0 : Nat} {spare : Nat → Bool} {held : Bool} {r : Reach} {v : Value} {d : DataW H} {p : List MemPlace} (hv : Value.okWide Tryz.prog w r b0 37 v) (h : DataW.Trod enc Tryz.prog w base spare held 37 v d p) :
    ∃ a : Exts, (SlF w w.heap.size v a.l ∧ ∀ f ∈ a.l, intOK f) ∧ a.sz ≤ 20 * Rows.uptoBulk d := by
  obtain ⟨A, n0, c0, rfl⟩ := okWide_slice Tryz.underlying37 hv
  obtain ⟨fuel, hf⟩ := h
  rcases elemsX Tryz.underlying37 cells3 (c := .slice A n0 c0) hf with ⟨e, h1⟩ | ⟨a, len, cap, n, ds, _, e, -, hdl, hb, hel⟩
  · rw [e]
    exact ⟨⟨[]⟩, ⟨⟨none, 0, rfl, fun h => absurd h (by simp)⟩, fun f hf => absurd hf (by simp)⟩, Nat.zero_le _⟩
  · rw [e]
    have each : ∀ i, ∃ f : Ext, i < len → (∀ q u, (extC f)[q]? = some u → w.cell? ((a.add (i * 3)).add q) = some u) ∧ intOK f ∧ ∃ d, ds[i]? = some d ∧ f.path.size + 1 ≤ Rows.uptoBulk d := by
      intro i
      by_cases hi : i < len
      · obtain ⟨cs, y, h1, h2, h3, h4⟩ := hel i hi
        obtain ⟨f, rfl, h5, h6⟩ := cells_ext h1 h3
        exact ⟨f, fun _ => ⟨h2, h5, _, h4, h6⟩⟩
      · exact ⟨⟨eS, 0, 0⟩, fun h => absurd h hi⟩
    obtain ⟨E, hE⟩ := Classical.axiomOfChoice each
    have hL : ((List.range len).map E).length = len := by simp
    have hget : ∀ i s, ((List.range len).map E)[i]? = some s → i < len ∧ s = E i := fun i s hs => by
      have hi : i < len := by have := (List.getElem?_eq_some_iff.1 hs).1; rwa [hL] at this
      exact ⟨hi, by simpa [hi] using hs.symm⟩
    refine ⟨⟨(List.range len).map E⟩, ⟨⟨some a, cap, by rw [hL], fun h0 => ?_⟩, fun f hf => ?_⟩, ?_⟩
    · rw [hL] at h0
      obtain ⟨b, off, spot⟩ := a
      have hc0 := (hE 0 h0).1 0 _ rfl
      have hsp : spot = none := by simpa [Addr.add] using World.cell?_spot hc0
      subst hsp
      refine ⟨b, off, rfl, cell_lt (b := b) (o := off) (v := .string (E 0).path) (by simpa [Addr.add] using hc0), fun j f hj => ?_⟩
      obtain ⟨hi, rfl⟩ := hget j f hj
      have q0 := (hE j hi).1
      intro q u hq
      have q1 := q0 q u hq
      simp only [add_plain] at q1
      exact q1
    · obtain ⟨i, hi, rfl⟩ := List.mem_map.1 hf
      exact (hE i (List.mem_range.1 hi)).2.1
    · have := szL_le (((List.range len).map E).map Ext.path) ds (by rw [List.length_map, hL, hdl]) (fun i s d h3 h4 => by
        rw [List.getElem?_map] at h3
        obtain ⟨f, h7, rfl⟩ := Option.map_eq_some_iff.1 h3
        obtain ⟨hi, rfl⟩ := hget i f h7
        obtain ⟨-, -, d', h5, h6⟩ := hE i hi
        rw [h4] at h5
        injection h5 with h5
        rw [h5]; exact h6)
      have hb2 : Rows.uptoBulkAll ds + 1 ≤ Rows.uptoBulk d := hb
      show 20 * szL (((List.range len).map E).map Ext.path) ≤ _
      omega
end Go.Proofs.YtocgindpjjolpaaGreatDoor
