/- Strings that are an argument, with the room of their row. -/
import Derived.Test.YtocgindpjjolpaaGreatDoorYZs
import Derived.Test.YtocgindpjjolpaaGreatDoorY26
namespace Go.Proofs.YtocgindpjjolpaaGreatDoor
set_option linter.unusedSimpArgs false
set_option linter.unusedVariables false
open Go.Joins Go.ChangeShapes Go.WideShapes Go.ChangeAt Go.RowKit Go.Deep

abbrev strsc_dat {H : Type} : DataW H := .nil
abbrev strsc_wit : Value := .slice none 0 0
set_option maxRecDepth 100000 in
theorem open_StrsC {H : Type} {enc : TypeId × Value → H} {w : World} {base b0 : Nat} {spare : Nat → Bool} {held : Bool} {r : Reach} {v : Value} {d : DataW H} {p : List MemPlace} (hv : Value.okWide Tryz.prog w r b0 26 v) (h : DataW.Trod enc Tryz.prog w base spare held 26 v d p) :
    ∃ a : Strs, (SlR w w.heap.size v a.l ∧ CapS v a.l) ∧ a.sz ≤ 20 * Rows.uptoBulk d := by
  obtain ⟨a, h1, h3, h2⟩ := open_StrsR hv h
  exact ⟨a, ⟨h1, h3⟩, h2⟩
theorem i64_wf {n : Int} (h : (Lit.int .i64 n).wf = true) : -9223372036854775808 ≤ n ∧ n ≤ 9223372036854775807 := by
  simp [Lit.wf, IntKind.min, IntKind.max, IntKind.bits, IntKind.signed] at h
  omega
end Go.Proofs.YtocgindpjjolpaaGreatDoor
