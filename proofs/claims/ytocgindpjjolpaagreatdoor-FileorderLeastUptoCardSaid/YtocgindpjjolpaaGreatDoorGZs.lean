/- What the laid variables and the world's shape say; the second form's witness and bound. -/
import Derived.Test.YtocgindpjjolpaaGreatDoorGZt
import Derived.Test.YtocgindpjjolpaaGreatDoorG13
import Derived.Test.YtocgindpjjolpaaGreatDoorTie
import Derived.Test.YtocgindpjjolpaaGreatDoorCards
import Derived.LaidMore
import Derived.Lay
import Derived.SevenTiedAt
import Derived.Stop.Joined
import Derived.Lib.SmallJoins
import Derived.Lib.LaidTab
import Derived.Lib.LaidU8T
import Derived.HandedShaped
import Derived.Deep.DeepHandedRow
import Derived.JoinedCond
namespace Go.Proofs.YtocgindpjjolpaaGreatDoor
set_option linter.unusedSimpArgs false
set_option linter.unusedVariables false
open Go.Joins Go.ChangeShapes Go.WideShapes Go.ChangeAt Go.RowKit Go.Deep

theorem own : ownKnob Tryz.prog.godebug = none := by kernel_rfl
theorem laidOut : laidOutB Tryz.prog = true := by kernel_rfl
theorem u8types : U8Types Tryz.prog Tryz.lays197_ren := { Tryz.lays197 with }
theorem u8extra : U8Extra Tryz.prog Tryz.lays197_ren := ⟨by kernel_rfl, by kernel_rfl, by kernel_rfl, by kernel_rfl, by kernel_rfl, by kernel_rfl, by kernel_rfl⟩
theorem first_is : Rows.laid_unicode_utf8_first = Lib.firstData := by kernel_rfl
theorem accept_is : Rows.laid_unicode_utf8_acceptRanges = Lib.acceptData := by kernel_rfl
theorem tab_of_laid {W : World} (h : laidMet Tryz.prog [("unicode/utf8.acceptRanges", Rows.laid_unicode_utf8_acceptRanges), ("unicode/utf8.first", Rows.laid_unicode_utf8_first)] W) (hS : W.ShapedOpen Tryz.prog) : TabV W := by
  have h4 := Lib.laidMet.reads h (n := "unicode/utf8.acceptRanges") (d := Rows.laid_unicode_utf8_acceptRanges) (by simp)
  have h3 := Lib.laidMet.reads h (n := "unicode/utf8.first") (d := Rows.laid_unicode_utf8_first) (by simp)
  rw [accept_is] at h4
  rw [first_is] at h3
  exact ⟨utf8Tabs_of_readsT u8types u8extra h3 h4, Tryz.laysM146.s1_3 W hS⟩
theorem witness_row_shaped {H : Type} {enc : TypeId × Value → H} {C : Checked} {os : Os} {f : FuncId} {fn : Func} {s : OpenSpec} {conds : List PathCond} {apart : Bool} {laid : List (String × DataW Unit)} (modest : Bool) (w0 : World) (av : Array Value) (hos : w0.os = os)
    (hsh : (w0.forCall (fun _ _ => 0) ⟨#[], av, []⟩).Shaped C.prog)
    (hok : Input.okWideB C.prog (w0.forCall (fun _ _ => 0) ⟨#[], av, []⟩) f ⟨#[], av, []⟩ = true)
    (hrow : s.preRow enc C.prog fn conds apart laid (w0.forCall (fun _ _ => 0) ⟨#[], av, []⟩).memory av) :
    ∃ (w : World) (tape : Tape) (i : Input), w.os = os ∧ (w.forCall tape i).Shaped C.prog ∧ i.vars = [] ∧ Input.okWide C.prog (w.forCall tape i) .any w.heap.size f i ∧
      s.preRow enc C.prog fn conds apart laid (w.forCall tape i).memory i.args ∧ ({ modest := modest } : Assume).holds C.prog (lone (Frame.enter C.prog f i.args .normal) [] (w.forCall tape i)) :=
  ⟨w0, fun _ _ => 0, ⟨#[], av, []⟩, hos, hsh, (Input.okWide_of_okWideB (base := 0) hok).1, (Input.okWide_of_okWideB hok).2, hrow, by
    simp only [Assume.holds]
    exact ⟨by simp, by simp, fun _ => Modest.zero, by simp, by simp⟩⟩
theorem small_le {H : Type} {l : List (DataW H)} (h : Rows.uptoSmall H l = true) : Rows.uptoBulkAll l ≤ 1048576 := of_decide_eq_true h
theorem bulk_nil {H : Type} : Rows.uptoBulkAll ([] : List (DataW H)) = 0 := by simp [Rows.uptoBulkAll]
abbrev tree_dat {H : Type} : DataW H := .agg [.lit (.string []), .lit (.int .i64 0), .lit (.string []), .lit (.string []), .lit (.int .i64 0), .lit (.int .i64 0), .lit (.int .i64 0), .lit (.int .i64 0), .lit (.int .i64 0), .lit (.int .i64 0), .nil, .nil]
abbrev strs_dat {H : Type} : DataW H := .nil
abbrev exts_dat {H : Type} : DataW H := .nil
abbrev strs_wit : Value := .slice none 0 0
abbrev exts_wit : Value := .slice none 0 0
abbrev b8_wit : Value := .int .u8 0
abbrev b8_dat {H : Type} : DataW H := .lit (.int .u8 0)
set_option maxRecDepth 100000 in
theorem open_b8 {H : Type} {enc : TypeId × Value → H} {w : World} {base b0 : Nat} {spare : Nat → Bool} {held : Bool} {r : Reach} {v : Value} {d : DataW H} {p : List MemPlace} (hv : Value.okWide Tryz.prog w r b0 5 v) (h : DataW.Trod enc Tryz.prog w base spare held 5 v d p) :
    ∃ x : Nat, v = .int .u8 (x : Int) ∧ x ≤ 255 := by
  obtain ⟨n, rfl, _, _, hw⟩ := open_int Tryz.underlying5 hv h
  simp [Lit.wf, IntKind.min, IntKind.max, IntKind.bits, IntKind.signed] at hw
  exact ⟨n.toNat, by rw [Int.toNat_of_nonneg (by omega)], by omega⟩
abbrev Tab (w : World) : Prop := TabV w
/-- Strings that are an argument; what they weigh. -/
structure Strs where
  l : List ByteArray
def szL : List ByteArray → Nat
  | [] => 0
  | p :: l => p.size + 1 + szL l
def Strs.sz (a : Strs) : Nat := 20 * szL a.l
theorem szL_len : ∀ l : List ByteArray, l.length ≤ szL l
  | [] => Nat.le_refl _
  | p :: l => by have := szL_len l; rw [List.length_cons]; show _ ≤ p.size + 1 + szL l; omega
theorem szL_mem : ∀ {l : List ByteArray} {p : ByteArray}, p ∈ l → p.size ≤ szL l
  | q :: l, p, h => by
    show _ ≤ q.size + 1 + szL l
    rcases List.mem_cons.1 h with rfl | h
    · omega
    · have := szL_mem h; omega
theorem szL_le {H : Type} : ∀ (l : List ByteArray) (ds : List (DataW H)), l.length = ds.length → (∀ (i : Nat) (s : ByteArray) (d : DataW H), l[i]? = some s → ds[i]? = some d → s.size + 1 ≤ Rows.uptoBulk d) → szL l ≤ Rows.uptoBulkAll ds
  | [], _, _, _ => Nat.zero_le _
  | s :: l, [], h, _ => by simp at h
  | s :: l, d :: ds, h, hh => by
    have h1 := hh 0 s d rfl rfl
    have h2 := szL_le l ds (by simpa using h) (fun i s d h3 h4 => hh (i + 1) s d (by simpa using h3) (by simpa using h4))
    rw [bulk_cons]
    show s.size + 1 + szL l ≤ _
    omega
set_option maxRecDepth 100000 in
theorem open_StrsR {H : Type} {enc : TypeId × Value → H} {w : World} {base b0 : Nat} {spare : Nat → Bool} {held : Bool} {r : Reach} {v : Value} {d : DataW H} {p : List MemPlace} (hv : Value.okWide Tryz.prog w r b0 26 v) (h : DataW.Trod enc Tryz.prog w base spare held 26 v d p) :
    ∃ a : Strs, SlR w w.heap.size v a.l ∧ (∃ A c, v = .slice A a.l.length c ∧ a.l.length ≤ c) ∧ a.sz ≤ 20 * Rows.uptoBulk d := by
  obtain ⟨A, n0, c0, rfl⟩ := okWide_slice Tryz.underlying26 hv
  obtain ⟨fuel, hf⟩ := h
  rcases elemsX Tryz.underlying26 cells1s (c := .slice A n0 c0) hf with ⟨e, h1⟩ | ⟨a, len, cap, n, ds, _, e, hlc, hdl, hb, hel⟩
  · rw [e]
    exact ⟨⟨[]⟩, ⟨none, 0, rfl, fun h => absurd h (by simp)⟩, ⟨none, 0, rfl, Nat.le_refl _⟩, Nat.zero_le _⟩
  · rw [e]
    have each : ∀ i, ∃ s : ByteArray, i < len → w.cell? ((a.add (i * 1)).add 0) = some (.string s) ∧ ∃ d, ds[i]? = some d ∧ s.size + 1 ≤ Rows.uptoBulk d := by
      intro i
      by_cases hi : i < len
      · obtain ⟨cs, y, h1, h2, h3, h4⟩ := hel i hi
        match cs, h1, h2, h3 with
        | [c], _, h2, h3 =>
          obtain ⟨s, e2, rfl, -⟩ := DataW.trod_string Tryz.underlying9 h3
          obtain rfl := (List.cons.inj e2).1
          exact ⟨s, fun _ => ⟨h2 0 _ rfl, _, h4, by rw [bulk_str, str_len]; exact Nat.le_refl _⟩⟩
      · exact ⟨eS, fun h => absurd h hi⟩
    obtain ⟨E, hE⟩ := Classical.axiomOfChoice each
    have hL : ((List.range len).map E).length = len := by simp
    have hget : ∀ i s, ((List.range len).map E)[i]? = some s → i < len ∧ s = E i := fun i s hs => by
      have hi : i < len := by have := (List.getElem?_eq_some_iff.1 hs).1; rwa [hL] at this
      exact ⟨hi, by simpa [hi] using hs.symm⟩
    refine ⟨⟨(List.range len).map E⟩, ⟨some a, cap, by rw [hL], fun h0 => ?_⟩, ⟨some a, cap, by rw [hL], by rw [hL]; exact hlc⟩, ?_⟩
    · rw [hL] at h0
      obtain ⟨b, off, spot⟩ := a
      have hc0 := (hE 0 h0).1
      have hsp : spot = none := by simpa [Addr.add] using World.cell?_spot hc0
      subst hsp
      refine ⟨b, off, rfl, cell_lt (b := b) (o := off) (by simpa [Addr.add] using hc0), fun j s hj => ?_⟩
      obtain ⟨hi, rfl⟩ := hget j s hj
      have q0 := (hE j hi).1
      simp only [add_plain] at q0
      simpa using q0
    · have := szL_le ((List.range len).map E) ds (by rw [hL, hdl]) (fun i s d h3 h4 => by
        obtain ⟨hi, rfl⟩ := hget i s h3
        obtain ⟨-, d', h5, h6⟩ := hE i hi
        rw [h4] at h5
        injection h5 with h5
        rw [h5]; exact h6)
      have hb2 : Rows.uptoBulkAll ds + 1 ≤ Rows.uptoBulk d := hb
      show 20 * szL ((List.range len).map E) ≤ _
      omega
set_option maxRecDepth 100000 in
theorem open_Strs {H : Type} {enc : TypeId × Value → H} {w : World} {base b0 : Nat} {spare : Nat → Bool} {held : Bool} {r : Reach} {v : Value} {d : DataW H} {p : List MemPlace} (hv : Value.okWide Tryz.prog w r b0 26 v) (h : DataW.Trod enc Tryz.prog w base spare held 26 v d p) :
    ∃ a : Strs, SlR w w.heap.size v a.l ∧ a.sz ≤ 20 * Rows.uptoBulk d := by
  obtain ⟨a, h1, -, h2⟩ := open_StrsR hv h
  exact ⟨a, h1, h2⟩
end Go.Proofs.YtocgindpjjolpaaGreatDoor
