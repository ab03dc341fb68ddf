/- Rows of kids have room for what they hold. -/
import Derived.Test.YtlhakdildbplkaaGreatDoorF2
namespace Go.Proofs.YtlhakdildbplkaaGreatDoor
set_option linter.unusedSimpArgs false
set_option linter.unusedVariables false
open Go.RowKit

/-- The kids' rows have room for what they hold. -/
def CapF (w : World) : Fo → Nat → Nat → Prop
  | .nil, _, _ => True
  | .node _ _ ks nx, g, o => (∃ A c, w.cell? ⟨g, o + 10, none⟩ = some (.slice A ks.len c) ∧ ks.len ≤ c ∧ (0 < ks.len → ∃ g' o', A = some ⟨g', o', none⟩ ∧ CapF w ks g' o')) ∧ CapF w nx g (o + 12)
def CapT (w : World) (v : Value) (t : Tr) : Prop := ∃ A c sv, v = .agg (t.h.cells (.slice A t.ks.len c) sv) ∧ t.ks.len ≤ c ∧ (0 < t.ks.len → ∃ g o, A = some ⟨g, o, none⟩ ∧ CapF w t.ks g o)
def CapK (w : World) (kv : Value) (ks : Fo) : Prop := ∃ A c, kv = .slice A ks.len c ∧ ks.len ≤ c ∧ (0 < ks.len → ∃ g o, A = some ⟨g, o, none⟩ ∧ CapF w ks g o)
theorem capF_of {w : World} {g : Nat} : ∀ (l : List Tr) (o : Nat), (∀ j t, l[j]? = some t → ∃ kv, w.cell? ⟨g, o + j * 12 + 10, none⟩ = some kv ∧ CapK w kv t.ks) → CapF w (Fo.of l) g o
  | [], _, _ => trivial
  | t :: l, o, h => by
    obtain ⟨kv, h1, A, c, rfl, h2, h3⟩ := h 0 t rfl
    exact ⟨⟨A, c, by simpa using h1, h2, h3⟩, capF_of l (o + 12) fun j u hu => by
      obtain ⟨kv, h1, h2⟩ := h (j + 1) u (by simpa using hu)
      exact ⟨kv, by rw [show o + 12 + j * 12 + 10 = o + (j + 1) * 12 + 10 by omega]; exact h1, h2⟩⟩
end Go.Proofs.YtlhakdildbplkaaGreatDoor
