/- Contracts and plain words for the laws of volume descriptors, part 43: L4. No condition. -/
import Derived.Lib.ConvBytes
import Derived.Laws.IdiomStrings
import Derived.Test.YtjbhokmkmapkoaaGreatDoorC42
namespace Go.Proofs.YtjbhokmkmapkoaaGreatDoor
set_option linter.unusedSimpArgs false
set_option linter.unusedVariables false
open Go.RowKit
open Go.PlainAid (bt get_bt bt_nonneg bt_le bt_end)
/-- Block g reads as the bytes l, none of them frozen. -/
def BB (w : World) (g : Nat) (l : List UInt8) : Prop := g < w.heap.size ∧ ∀ j (hj : j < l.length), w.cell? ⟨g, j, none⟩ = some (.int .u8 (l[j].toNat : Int)) ∧ w.frozen? ⟨g, j, none⟩ = false
theorem BB.below {w w1 : World} {g : Nat} {l : List UInt8} (h : BB w g l) (hb : Below w.heap.size w w1) : BB w1 g l :=
  ⟨Nat.lt_of_lt_of_le h.1 hb.size, fun j hj => ⟨(hb.cell (p := ⟨g, j, none⟩) h.1).trans (h.2 j hj).1, (hb.frozen (p := ⟨g, j, none⟩) h.1).trans (h.2 j hj).2⟩⟩
theorem BB.new (w : World) (e : TypeId) (s : ByteArray) : BB (Lib.bytesWorld w e s) w.heap.size s.data.toList :=
  ⟨by rw [Lib.bytesWorld_size]; omega, fun j hj => by
    have hl : s.data.toList.length = s.size := Array.length_toList
    refine ⟨?_, ?_⟩
    · rw [Lib.bytesWorld_cell w e s j (by omega), List.getD_eq_getElem?_getD, List.getElem?_eq_getElem hj]
      rfl
    · have h := Lib.bytesWorld_at_new w e s
      have hs : j < (Lib.bytesCells w e s).size := by unfold Lib.bytesCells; simp; omega
      simp [World.frozen?, h]
      omega⟩
theorem BB.set {w : World} {g i : Nat} {l : List UInt8} {x : UInt8} (h : BB w g l) (hi : i < l.length) : BB (w.setCell ⟨g, i, none⟩ (.int .u8 (x.toNat : Int))) g (l.set i x) := by
  refine ⟨by simpa using h.1, fun j hj => ?_⟩
  rw [List.length_set] at hj
  refine ⟨?_, ?_⟩
  · rw [List.getElem_set]
    by_cases hij : i = j
    · subst hij
      rw [if_pos rfl, World.cell?_setCell_same _ _ _ (h.2 i hi).1]
    · rw [if_neg hij, World.cell?_setCell_other _ _ _ _ (by intro e; injection e; omega)]
      exact (h.2 j hj).1
  · rw [World.frozen?_setCell]
    exact (h.2 j hj).2
theorem BB.conv {w : World} {g cap n : Nat} {l : List UInt8} (h : BB w g l) (hn : n = l.length) : (convert 48 9 (.slice (some ⟨g, 0, none⟩) n cap)).run Tryz.prog w = .ok (.string ⟨l.toArray⟩) w := by
  subst hn
  exact run_convert_bytes_back w _ _ 5 ⟨g, 0, none⟩ cap l Tryz.underlying48 Tryz.underlying5 Tryz.underlying9 (fun j hj => by
    have e : (Addr.add ⟨g, 0, none⟩ j) = ⟨g, j, none⟩ := by simp [Addr.add]; intro h; exact h.symm
    rw [e]
    exact (h.2 j hj).1)
theorem below_bytes (w : World) (e : TypeId) (s : ByteArray) : Below w.heap.size w (Lib.bytesWorld w e s) :=
  ⟨rfl, rfl, rfl, by rw [Lib.bytesWorld_size]; omega, fun j hj => Lib.bytesWorld_at_old w e s j hj⟩
end Go.Proofs.YtjbhokmkmapkoaaGreatDoor
