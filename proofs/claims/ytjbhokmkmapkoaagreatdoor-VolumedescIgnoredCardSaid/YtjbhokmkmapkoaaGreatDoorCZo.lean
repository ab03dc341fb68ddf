/- The rows' arguments opened, and what the laid variables and the world's shape say. -/
import Derived.Test.YtjbhokmkmapkoaaGreatDoorC20
import Derived.Test.YtjbhokmkmapkoaaGreatDoorTie
import Derived.Test.YtjbhokmkmapkoaaGreatDoorCards
import Derived.ProofKit
import Derived.OpenShut
import Derived.LaidMore
import Derived.Lay
import Derived.SevenTiedAt
import Derived.Stop.Joined
import Derived.Lib.SmallJoins
import Derived.Lib.LaidTab
import Derived.Lib.LaidU8T
import Derived.HandedShaped
namespace Go.Proofs.YtjbhokmkmapkoaaGreatDoor
set_option linter.unusedSimpArgs false
set_option linter.unusedVariables false
open Go.Joins Go.ChangeShapes Go.WideShapes Go.ChangeAt Go.RowKit Go.Deep

theorem own : ownKnob Tryz.prog.godebug = none := by kernel_rfl
theorem laidOut : laidOutB Tryz.prog = true := by kernel_rfl

/-- A contract under the laid variables AND under the world's shape lifts to the row's form. -/
theorem lift_shaped {H : Type} {enc : TypeId × Value → H} {C : Checked} {os : Os} {f : FuncId} {fn : Func} {s : ChangeSpec} {cs : List PathCond} {x1 x2 x3 x4 : Bool} {X : World → Array Value → Prop}
    (hX : ∀ (u v : World) (av : Array Value), u.heap = v.heap → X u av → X v av) (ow : ownKnob C.prog.godebug = none) (st : os.Started) (ni : C.prog.inits.idxOf? f = none) (hf : C.prog.funcs[f]? = some fn)
    (wit : ∃ (w : World) (tape : Tape) (i : Input), w.os = os ∧ (w.forCall tape i).Shaped C.prog ∧ i.vars = [] ∧ Input.okWide C.prog (w.forCall tape i) .any w.heap.size f i ∧
      ((s.pre enc C.prog fn cs x1 (w.forCall tape i).memory i.args ∧ X (w.forCall tape i).memory i.args) ∧ sizedMet enc C.prog fn (OpenSpec.ofChange s) x1 (w.forCall tape i).memory i.args) ∧ Assume.holds {} C.prog (lone (Frame.enter C.prog f i.args .normal) [] (w.forCall tape i)))
    (go : ∀ (W : World) (base : Nat) (av : Array Value) (ds gs : List (DataW H)) (b4 : List MemPlace),
      (∀ (j : Nat) t v, fn.params[j]? = some t → av[j]? = some v → Value.okWide C.prog W .any base t v) → DataW.Whole enc C.prog fn.params.toList s.vars x1 W av.toList ds gs b4 →
      cs.all (PathCond.test C.prog ⟨fn.params.toList, ds, s.plain.varTypes C.prog, gs⟩) = true → X W av → W.ShapedOpen C.prog →
      Calls C.prog f av W fun e W' => ∃ v, e = .returned v ∧ s.post enc C.prog fn x1 x2 x3 x4 W av v W') :
    ReturnsInHanded {} C os f .any (fun w av => (s.pre enc C.prog fn cs x1 w av ∧ X w av) ∧ sizedMet enc C.prog fn (OpenSpec.ofChange s) x1 w av) (s.post enc C.prog fn x1 x2 x3 x4) := by
  refine returnsInHanded_of_calls ow st ni wit fun w tape i _ hS _ hok hp _ => ?_
  obtain ⟨-, -, -, fn2, hf2, -, -, -, -, hv⟩ := hok
  obtain rfl : fn2 = fn := Option.some.inj (hf2.symm.trans hf)
  obtain ⟨⟨⟨ds, gs, b4, hw, hc⟩, hx⟩, -⟩ := hp
  refine (go _ w.heap.size i.args ds gs b4 hv (DataW.Whole.of_heap (w' := w.forCall tape i) (by rfl) hw) hc (hX _ _ _ (by rfl) hx) hS).mono fun e W' ⟨v, he, hq⟩ => ?_
  subst he
  exact ChangeSpec.post_blind hq

theorem u8types : U8Types Tryz.prog Tryz.lays197_ren := { Tryz.lays197 with }
theorem u8extra : U8Extra Tryz.prog Tryz.lays197_ren := ⟨by kernel_rfl, by kernel_rfl, by kernel_rfl, by kernel_rfl, by kernel_rfl, by kernel_rfl, by kernel_rfl⟩
theorem first_is : Rows.laid_unicode_utf8_first = Lib.firstData := by kernel_rfl
theorem accept_is : Rows.laid_unicode_utf8_acceptRanges = Lib.acceptData := by kernel_rfl
theorem pow_of_laid {a b : String × DataW Unit} {rest : List (String × DataW Unit)} {W : World} (h : laidMet Tryz.prog (a :: b :: (Dt.tabName, Rows.laid_internal_strconv_uint64pow10) :: rest) W) : Dt.Tab W := by
  obtain ⟨a1, a2⟩ := a
  obtain ⟨b1, b2⟩ := b
  obtain ⟨ps, ⟨_, _, _, _, _, _, _, _, _, _, ⟨_, _, _, _, _, _, _, _, _, _, ⟨g, t, cs, fuel, p, q, hg, ht, hvar, hd, _, _⟩, _⟩, _⟩, _⟩ := h
  obtain rfl := Option.some.inj (Dt.tabG.symm.trans hg)
  obtain rfl := Option.some.inj ((show (Tryz.prog.globals[5]?).map (·.type) = some 197 by kernel_rfl).symm.trans ht)
  unfold Dt.Tab Lib.TabIs
  rw [hvar]
  have := Lib.cells_of_tab (k := .u64) (zs := Lib.pow10Tab) Tryz.underlying197 Tryz.underlying144 (by kernel_rfl) (by kernel_rfl) hd
  rw [← this]
theorem tab_of_laid {a b c d : String × DataW Unit} {rest : List (String × DataW Unit)} {W : World} (h : laidMet Tryz.prog (a :: b :: (Dt.tabName, Rows.laid_internal_strconv_uint64pow10) :: ("unicode/utf8.acceptRanges", Rows.laid_unicode_utf8_acceptRanges) :: c :: d :: ("unicode/utf8.first", Rows.laid_unicode_utf8_first) :: rest) W) (_ : W.ShapedOpen Tryz.prog) : TabD W := by
  have h4 := Lib.laidMet.reads h (n := "unicode/utf8.acceptRanges") (d := Rows.laid_unicode_utf8_acceptRanges) (by simp)
  have h3 := Lib.laidMet.reads h (n := "unicode/utf8.first") (d := Rows.laid_unicode_utf8_first) (by simp)
  rw [accept_is] at h4
  rw [first_is] at h3
  exact ⟨utf8Tabs_of_readsT u8types u8extra h3 h4, pow_of_laid h⟩
section
variable {H : Type} {enc : TypeId × Value → H} {P : Program} {w : World} {base : Nat} {spare : Nat → Bool} {held : Bool}
/-- One field of a struct that is walked. -/
theorem fieldT {t : TypeId} {fs : Array Field} {fuel : Nat} {cs : List Value} {x : DataW H × List MemPlace} (hs : P.underlying t = some (.struct fs)) (h : DataW.trod enc P w base spare held fuel t cs = some x)
    (i : Nat) (T : TypeId) (o k : Nat) (hi : (fs[i]?).map (fun f => (f.type, f.offset)) = some (T, o)) (hk : P.cellsOf T = k) : ∃ n y, DataW.trod enc P w base spare held n T ((cs.drop o).take k) = some y := by
  obtain ⟨xs, n, _, _, _, hxl, hall⟩ := DataW.trod_struct hs h
  obtain ⟨f, hf, e⟩ := Option.map_eq_some_iff.1 hi
  obtain ⟨e1, e2⟩ := Prod.mk.inj e
  have h1 := hall i f hf
  rw [e1, e2, hk, List.getElem?_eq_getElem (by rw [hxl]; exact (Array.getElem?_eq_some_iff.1 hf).1)] at h1
  exact ⟨n, _, h1⟩
end
def DRok (d : DR) : Prop := d.name.size ≤ maxLen
abbrev dr_wit : Value := .agg DR.zero.cells
theorem cells1 : Tryz.prog.cellsOf 3 = 1 := by kernel_rfl
theorem cells1s : Tryz.prog.cellsOf 9 = 1 := by kernel_rfl
theorem cells23 : Tryz.prog.cellsOf 27 = 23 := by kernel_rfl
theorem cells8v : Tryz.prog.cellsOf 23 = 8 := by kernel_rfl
theorem cells8r : Tryz.prog.cellsOf 25 = 8 := by kernel_rfl
set_option maxRecDepth 100000 in
set_option maxHeartbeats 1000000 in
/-- The cells of a descriptor that is walked. -/
theorem cells_dr {H : Type} {enc : TypeId × Value → H} {w : World} {base : Nat} {spare : Nat → Bool} {held : Bool} {fuel : Nat} {cs : List Value} {x : DataW H × List MemPlace} (hl : cs.length = 23) (h : DataW.trod enc Tryz.prog w base spare held fuel 27 cs = some x) :
    ∃ d : DR, cs = d.cells.toList := by
  match cs, hl with
  | [c0, c1, c2, c3, c4, c5, c6, c7, c8, c9, c10, c11, c12, c13, c14, c15, c16, c17, c18, c19, c20, c21, c22], _ =>
    obtain ⟨_, _, h0⟩ := fieldT Tryz.underlying27 h 0 3 0 1 (by kernel_rfl) cells1
    obtain ⟨x0, e0, -, -⟩ := DataW.trod_int Tryz.underlying3 h0; obtain rfl := (List.cons.inj e0).1
    obtain ⟨_, _, h1⟩ := fieldT Tryz.underlying27 h 1 3 1 1 (by kernel_rfl) cells1
    obtain ⟨x1, e1, -, -⟩ := DataW.trod_int Tryz.underlying3 h1; obtain rfl := (List.cons.inj e1).1
    obtain ⟨_, _, h10⟩ := fieldT Tryz.underlying27 h 3 3 10 1 (by kernel_rfl) cells1
    obtain ⟨x10, e10, -, -⟩ := DataW.trod_int Tryz.underlying3 h10; obtain rfl := (List.cons.inj e10).1
    obtain ⟨_, _, h11⟩ := fieldT Tryz.underlying27 h 4 3 11 1 (by kernel_rfl) cells1
    obtain ⟨x11, e11, -, -⟩ := DataW.trod_int Tryz.underlying3 h11; obtain rfl := (List.cons.inj e11).1
    obtain ⟨_, _, h12⟩ := fieldT Tryz.underlying27 h 5 3 12 1 (by kernel_rfl) cells1
    obtain ⟨x12, e12, -, -⟩ := DataW.trod_int Tryz.underlying3 h12; obtain rfl := (List.cons.inj e12).1
    obtain ⟨_, _, h13⟩ := fieldT Tryz.underlying27 h 6 3 13 1 (by kernel_rfl) cells1
    obtain ⟨x13, e13, -, -⟩ := DataW.trod_int Tryz.underlying3 h13; obtain rfl := (List.cons.inj e13).1
    obtain ⟨_, _, h14⟩ := fieldT Tryz.underlying27 h 7 3 14 1 (by kernel_rfl) cells1
    obtain ⟨x14, e14, -, -⟩ := DataW.trod_int Tryz.underlying3 h14; obtain rfl := (List.cons.inj e14).1
    obtain ⟨_, _, hv⟩ := fieldT Tryz.underlying27 h 2 23 2 8 (by kernel_rfl) cells8v
    obtain ⟨_, _, h2⟩ := fieldT Tryz.underlying23 hv 0 9 0 1 (by kernel_rfl) cells1s
    obtain ⟨x2, e2, -, l2⟩ := DataW.trod_string Tryz.underlying9 h2; obtain rfl := (List.cons.inj e2).1
    obtain ⟨_, _, h3⟩ := fieldT Tryz.underlying23 hv 1 9 1 1 (by kernel_rfl) cells1s
    obtain ⟨x3, e3, -, l3⟩ := DataW.trod_string Tryz.underlying9 h3; obtain rfl := (List.cons.inj e3).1
    obtain ⟨_, _, h4⟩ := fieldT Tryz.underlying23 hv 2 9 2 1 (by kernel_rfl) cells1s
    obtain ⟨x4, e4, -, l4⟩ := DataW.trod_string Tryz.underlying9 h4; obtain rfl := (List.cons.inj e4).1
    obtain ⟨_, _, h5⟩ := fieldT Tryz.underlying23 hv 3 9 3 1 (by kernel_rfl) cells1s
    obtain ⟨x5, e5, -, l5⟩ := DataW.trod_string Tryz.underlying9 h5; obtain rfl := (List.cons.inj e5).1
    obtain ⟨_, _, h6⟩ := fieldT Tryz.underlying23 hv 4 9 4 1 (by kernel_rfl) cells1s
    obtain ⟨x6, e6, -, l6⟩ := DataW.trod_string Tryz.underlying9 h6; obtain rfl := (List.cons.inj e6).1
    obtain ⟨_, _, h7⟩ := fieldT Tryz.underlying23 hv 5 3 5 1 (by kernel_rfl) cells1
    obtain ⟨x7, e7, -, -⟩ := DataW.trod_int Tryz.underlying3 h7; obtain rfl := (List.cons.inj e7).1
    obtain ⟨_, _, h8⟩ := fieldT Tryz.underlying23 hv 6 3 6 1 (by kernel_rfl) cells1
    obtain ⟨x8, e8, -, -⟩ := DataW.trod_int Tryz.underlying3 h8; obtain rfl := (List.cons.inj e8).1
    obtain ⟨_, _, h9⟩ := fieldT Tryz.underlying23 hv 7 3 7 1 (by kernel_rfl) cells1
    obtain ⟨x9, e9, -, -⟩ := DataW.trod_int Tryz.underlying3 h9; obtain rfl := (List.cons.inj e9).1
    obtain ⟨_, _, hr⟩ := fieldT Tryz.underlying27 h 8 25 15 8 (by kernel_rfl) cells8r
    obtain ⟨_, _, h15⟩ := fieldT Tryz.underlying25 hr 0 9 0 1 (by kernel_rfl) cells1s
    obtain ⟨x15, e15, -, l15⟩ := DataW.trod_string Tryz.underlying9 h15; obtain rfl := (List.cons.inj e15).1
    obtain ⟨_, _, h16⟩ := fieldT Tryz.underlying25 hr 1 3 1 1 (by kernel_rfl) cells1
    obtain ⟨x16, e16, -, -⟩ := DataW.trod_int Tryz.underlying3 h16; obtain rfl := (List.cons.inj e16).1
    obtain ⟨_, _, h17⟩ := fieldT Tryz.underlying25 hr 2 3 2 1 (by kernel_rfl) cells1
    obtain ⟨x17, e17, -, -⟩ := DataW.trod_int Tryz.underlying3 h17; obtain rfl := (List.cons.inj e17).1
    obtain ⟨_, _, h18⟩ := fieldT Tryz.underlying25 hr 3 3 3 1 (by kernel_rfl) cells1
    obtain ⟨x18, e18, -, -⟩ := DataW.trod_int Tryz.underlying3 h18; obtain rfl := (List.cons.inj e18).1
    obtain ⟨_, _, h19⟩ := fieldT Tryz.underlying25 hr 4 3 4 1 (by kernel_rfl) cells1
    obtain ⟨x19, e19, -, -⟩ := DataW.trod_int Tryz.underlying3 h19; obtain rfl := (List.cons.inj e19).1
    obtain ⟨_, _, h20⟩ := fieldT Tryz.underlying25 hr 5 3 5 1 (by kernel_rfl) cells1
    obtain ⟨x20, e20, -, -⟩ := DataW.trod_int Tryz.underlying3 h20; obtain rfl := (List.cons.inj e20).1
    obtain ⟨_, _, h21⟩ := fieldT Tryz.underlying25 hr 6 3 6 1 (by kernel_rfl) cells1
    obtain ⟨x21, e21, -, -⟩ := DataW.trod_int Tryz.underlying3 h21; obtain rfl := (List.cons.inj e21).1
    obtain ⟨_, _, h22⟩ := fieldT Tryz.underlying25 hr 7 9 7 1 (by kernel_rfl) cells1s
    obtain ⟨x22, e22, -, l22⟩ := DataW.trod_string Tryz.underlying9 h22; obtain rfl := (List.cons.inj e22).1
    exact ⟨⟨x0, x1, x2, x3, x4, x5, x6, x7, x8, x9, x10, x11, x12, x13, x14, ⟨x15, x16, x17, x18, x19, x20, x21, x22⟩⟩, rfl⟩
set_option maxRecDepth 100000 in
/-- A descriptor that is an argument. -/
theorem open_dr {H : Type} {enc : TypeId × Value → H} {w : World} {base b0 : Nat} {spare : Nat → Bool} {held : Bool} {r : Reach} {v : Value} {d : DataW H} {p : List MemPlace} (hv : Value.okWide Tryz.prog w r b0 27 v) (h : DataW.Trod enc Tryz.prog w base spare held 27 v d p) :
    ∃ x : DR, v = .agg x.cells ∧ True := by
  obtain ⟨cs, rfl, hsz⟩ := okWide_struct Tryz.underlying27 hv
  obtain ⟨l⟩ := cs
  obtain ⟨fuel, hf⟩ := h
  obtain ⟨x, hx⟩ := cells_dr (cs := l) (by rw [← List.size_toArray, hsz, cells23]) hf
  exact ⟨x, by rw [hx], trivial⟩
end Go.Proofs.YtjbhokmkmapkoaaGreatDoor
