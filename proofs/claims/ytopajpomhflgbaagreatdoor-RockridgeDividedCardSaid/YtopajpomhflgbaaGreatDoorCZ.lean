/- The rows' arguments opened, and what the laid variables and the world's shape say. -/
import Derived.Test.YtopajpomhflgbaaGreatDoorCM19
import Derived.Test.YtopajpomhflgbaaGreatDoorTie
import Derived.Test.YtopajpomhflgbaaGreatDoorCards
import Derived.ProofKit
import Derived.OpenShut
import Derived.LaidMore
import Derived.Lay
import Derived.SevenTiedAt
import Derived.Stop.Joined
import Derived.Lib.SmallJoins
import Derived.Lib.LaidTab
import Derived.Lib.LaidU8T
import Derived.HandedShaped
namespace Go.Proofs.YtopajpomhflgbaaGreatDoor
set_option linter.unusedSimpArgs false
set_option linter.unusedVariables false
open Go.Joins Go.ChangeShapes Go.WideShapes Go.ChangeAt Go.RowKit Go.Deep

theorem own : ownKnob Tryz.prog.godebug = none := by kernel_rfl
theorem laidOut : laidOutB Tryz.prog = true := by kernel_rfl

/-- A contract under the laid variables AND under the world's shape lifts to the row's form. -/
theorem lift_shaped {H : Type} {enc : TypeId × Value → H} {C : Checked} {os : Os} {f : FuncId} {fn : Func} {s : ChangeSpec} {cs : List PathCond} {x1 x2 x3 x4 : Bool} {X : World → Array Value → Prop}
    (hX : ∀ (u v : World) (av : Array Value), u.heap = v.heap → X u av → X v av) (ow : ownKnob C.prog.godebug = none) (st : os.Started) (ni : C.prog.inits.idxOf? f = none) (hf : C.prog.funcs[f]? = some fn)
    (wit : ∃ (w : World) (tape : Tape) (i : Input), w.os = os ∧ (w.forCall tape i).Shaped C.prog ∧ i.vars = [] ∧ Input.okWide C.prog (w.forCall tape i) .any w.heap.size f i ∧
      ((s.pre enc C.prog fn cs x1 (w.forCall tape i).memory i.args ∧ X (w.forCall tape i).memory i.args) ∧ sizedMet enc C.prog fn (OpenSpec.ofChange s) x1 (w.forCall tape i).memory i.args) ∧ Assume.holds {} C.prog (lone (Frame.enter C.prog f i.args .normal) [] (w.forCall tape i)))
    (go : ∀ (W : World) (base : Nat) (av : Array Value) (ds gs : List (DataW H)) (b4 : List MemPlace),
      (∀ (j : Nat) t v, fn.params[j]? = some t → av[j]? = some v → Value.okWide C.prog W .any base t v) → DataW.Whole enc C.prog fn.params.toList s.vars x1 W av.toList ds gs b4 →
      cs.all (PathCond.test C.prog ⟨fn.params.toList, ds, s.plain.varTypes C.prog, gs⟩) = true → X W av → W.ShapedOpen C.prog →
      Calls C.prog f av W fun e W' => ∃ v, e = .returned v ∧ s.post enc C.prog fn x1 x2 x3 x4 W av v W') :
    ReturnsInHanded {} C os f .any (fun w av => (s.pre enc C.prog fn cs x1 w av ∧ X w av) ∧ sizedMet enc C.prog fn (OpenSpec.ofChange s) x1 w av) (s.post enc C.prog fn x1 x2 x3 x4) := by
  refine returnsInHanded_of_calls ow st ni wit fun w tape i _ hS _ hok hp _ => ?_
  obtain ⟨-, -, -, fn2, hf2, -, -, -, -, hv⟩ := hok
  obtain rfl : fn2 = fn := Option.some.inj (hf2.symm.trans hf)
  obtain ⟨⟨⟨ds, gs, b4, hw, hc⟩, hx⟩, -⟩ := hp
  refine (go _ w.heap.size i.args ds gs b4 hv (DataW.Whole.of_heap (w' := w.forCall tape i) (by rfl) hw) hc (hX _ _ _ (by rfl) hx) hS).mono fun e W' ⟨v, he, hq⟩ => ?_
  subst he
  exact ChangeSpec.post_blind hq

theorem u8types : U8Types Tryz.prog Tryz.lays197_ren := { Tryz.lays197 with }
theorem u8extra : U8Extra Tryz.prog Tryz.lays197_ren := ⟨by kernel_rfl, by kernel_rfl, by kernel_rfl, by kernel_rfl, by kernel_rfl, by kernel_rfl, by kernel_rfl⟩
theorem first_is : Rows.laid_unicode_utf8_first = Lib.firstData := by kernel_rfl
theorem accept_is : Rows.laid_unicode_utf8_acceptRanges = Lib.acceptData := by kernel_rfl
def Tab (w : World) : Prop := TabV w
theorem tab_of_laid {a b c d e : String × DataW Unit} {rest : List (String × DataW Unit)} {W : World} (h : laidMet Tryz.prog (a :: b :: c :: ("unicode/utf8.acceptRanges", Rows.laid_unicode_utf8_acceptRanges) :: d :: e :: ("unicode/utf8.first", Rows.laid_unicode_utf8_first) :: rest) W) (hS : W.ShapedOpen Tryz.prog) : Tab W := by
  have h4 := Lib.laidMet.reads h (n := "unicode/utf8.acceptRanges") (d := Rows.laid_unicode_utf8_acceptRanges) (by simp)
  have h3 := Lib.laidMet.reads h (n := "unicode/utf8.first") (d := Rows.laid_unicode_utf8_first) (by simp)
  rw [accept_is] at h4
  rw [first_is] at h3
  exact ⟨utf8Tabs_of_readsT u8types u8extra h3 h4, Tryz.laysM146.s1_3 W hS⟩

section
variable {H : Type} {enc : TypeId × Value → H} {P : Program} {w : World} {base : Nat} {spare : Nat → Bool} {held : Bool}
theorem open_aggN {r : Reach} {b0 : Nat} {t : TypeId} {fs : Array Field} {v : Value} {d : DataW H} {p : List MemPlace} (hs : P.underlying t = some (.struct fs)) (hone : oneCellFields P fs = true) (hC : P.cellsOf t = fs.size)
    (hv : Value.okWide P w r b0 t v) (h : DataW.Trod enc P w base spare held t v d p) :
    ∃ cs : List Value, v = .agg cs.toArray ∧ cs.length = fs.size ∧ ∀ (i : Nat) (f : Field), fs[i]? = some f → ∃ u y n, cs[i]? = some u ∧ DataW.trod enc P w base spare held n f.type [u] = some y := by
  obtain ⟨cs, rfl, hsz⟩ := okWide_struct hs hv
  obtain ⟨l⟩ := cs
  have hlen : l.length = fs.size := by rw [← hC, ← hsz]; simp
  obtain ⟨fuel, hf⟩ := h
  obtain ⟨xs, n, _, _, _, hxl, hall⟩ := DataW.trod_struct hs hf
  refine ⟨l, rfl, hlen, fun i f hi => ?_⟩
  obtain ⟨ho, hc⟩ := hone_of hone i f hi
  have hlt : i < fs.size := (Array.getElem?_eq_some_iff.1 hi).1
  have h1 := hall i f hi
  rw [ho, hc, List.getElem?_eq_getElem (by omega)] at h1
  have hcs : ((Value.agg l.toArray).cells.toList.drop i).take 1 = [l[i]] := by
    show (l.drop i).take 1 = _
    rw [List.drop_eq_getElem_cons (by omega)]
    rfl
  rw [hcs] at h1
  exact ⟨l[i], _, n, List.getElem?_eq_getElem (by omega), h1⟩
end
def RRok (r : RR) : Prop := r.name.size ≤ maxLen ∧ r.target.size ≤ maxLen
abbrev rr_wit : Value := .agg RR.zero.cells
theorem cellsRR : Tryz.prog.cellsOf 23 = 14 := by kernel_rfl
set_option maxRecDepth 100000 in
set_option maxHeartbeats 1000000 in
theorem open_rr {H : Type} {enc : TypeId × Value → H} {w : World} {base b0 : Nat} {spare : Nat → Bool} {held : Bool} {r : Reach} {v : Value} {d : DataW H} {p : List MemPlace} (hv : Value.okWide Tryz.prog w r b0 23 v) (h : DataW.Trod enc Tryz.prog w base spare held 23 v d p) :
    ∃ x : RR, v = .agg x.cells ∧ RRok x := by
  obtain ⟨cs, rfl, hn, hall⟩ := open_aggN Tryz.underlying23 (by kernel_rfl) cellsRR hv h
  match cs, hn with
  | [c0, c1, c2, c3, c4, c5, c6, c7, c8, c9, c10, c11, c12, c13], _ =>
    obtain ⟨u, y, n, hu, h0⟩ := hall 0 _ rfl; obtain rfl := Option.some.inj hu
    obtain ⟨x0, e0, -⟩ := DataW.trod_bool Tryz.underlying4 h0; obtain rfl := (List.cons.inj e0).1
    obtain ⟨u, y, n, hu, h1⟩ := hall 1 _ rfl; obtain rfl := Option.some.inj hu
    obtain ⟨x1, e1, -, -⟩ := DataW.trod_int Tryz.underlying3 h1; obtain rfl := (List.cons.inj e1).1
    obtain ⟨u, y, n, hu, h2⟩ := hall 2 _ rfl; obtain rfl := Option.some.inj hu
    obtain ⟨x2, e2, -, -⟩ := DataW.trod_int Tryz.underlying3 h2; obtain rfl := (List.cons.inj e2).1
    obtain ⟨u, y, n, hu, h3⟩ := hall 3 _ rfl; obtain rfl := Option.some.inj hu
    obtain ⟨x3, e3, -, -⟩ := DataW.trod_int Tryz.underlying3 h3; obtain rfl := (List.cons.inj e3).1
    obtain ⟨u, y, n, hu, h4⟩ := hall 4 _ rfl; obtain rfl := Option.some.inj hu
    obtain ⟨x4, e4, -, -⟩ := DataW.trod_int Tryz.underlying3 h4; obtain rfl := (List.cons.inj e4).1
    obtain ⟨u, y, n, hu, h5⟩ := hall 5 _ rfl; obtain rfl := Option.some.inj hu
    obtain ⟨x5, e5, -, -⟩ := DataW.trod_int Tryz.underlying3 h5; obtain rfl := (List.cons.inj e5).1
    obtain ⟨u, y, n, hu, h6⟩ := hall 6 _ rfl; obtain rfl := Option.some.inj hu
    obtain ⟨x6, e6, -⟩ := DataW.trod_bool Tryz.underlying4 h6; obtain rfl := (List.cons.inj e6).1
    obtain ⟨u, y, n, hu, h7⟩ := hall 7 _ rfl; obtain rfl := Option.some.inj hu
    obtain ⟨x7, e7, -, l7⟩ := DataW.trod_string Tryz.underlying9 h7; obtain rfl := (List.cons.inj e7).1
    obtain ⟨u, y, n, hu, h8⟩ := hall 8 _ rfl; obtain rfl := Option.some.inj hu
    obtain ⟨x8, e8, -, l8⟩ := DataW.trod_string Tryz.underlying9 h8; obtain rfl := (List.cons.inj e8).1
    obtain ⟨u, y, n, hu, h9⟩ := hall 9 _ rfl; obtain rfl := Option.some.inj hu
    obtain ⟨x9, e9, -⟩ := DataW.trod_bool Tryz.underlying4 h9; obtain rfl := (List.cons.inj e9).1
    obtain ⟨u, y, n, hu, h10⟩ := hall 10 _ rfl; obtain rfl := Option.some.inj hu
    obtain ⟨x10, e10, -, -⟩ := DataW.trod_int Tryz.underlying3 h10; obtain rfl := (List.cons.inj e10).1
    obtain ⟨u, y, n, hu, h11⟩ := hall 11 _ rfl; obtain rfl := Option.some.inj hu
    obtain ⟨x11, e11, -, -⟩ := DataW.trod_int Tryz.underlying3 h11; obtain rfl := (List.cons.inj e11).1
    obtain ⟨u, y, n, hu, h12⟩ := hall 12 _ rfl; obtain rfl := Option.some.inj hu
    obtain ⟨x12, e12, -, -⟩ := DataW.trod_int Tryz.underlying3 h12; obtain rfl := (List.cons.inj e12).1
    obtain ⟨u, y, n, hu, h13⟩ := hall 13 _ rfl; obtain rfl := Option.some.inj hu
    obtain ⟨x13, e13, -⟩ := DataW.trod_bool Tryz.underlying4 h13; obtain rfl := (List.cons.inj e13).1
    exact ⟨⟨x0, x1, x2, x3, x4, x5, x6, x7, x8, x9, x10, x11, x12, x13⟩, rfl, l7, l8⟩
end Go.Proofs.YtopajpomhflgbaaGreatDoor
