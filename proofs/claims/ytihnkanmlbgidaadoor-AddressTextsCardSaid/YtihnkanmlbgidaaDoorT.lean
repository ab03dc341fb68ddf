/- From the rows' condition on the laid variables, and from the world's shape, to what Parse reads. -/
import Derived.Test.YtihnkanmlbgidaaDoorH
import Derived.Test.YtihnkanmlbgidaaDoorTie
import Derived.Test.YtihnkanmlbgidaaDoorCards
import Derived.ProofKit
import Derived.OpenShut
import Derived.LaidMore
import Derived.Lay
import Derived.SevenTiedAt
import Derived.Stop.Joined
import Derived.Stop.LaidErr
import Derived.Lib.SmallJoins
import Derived.Lib.LaidTab
import Derived.HandedShaped
namespace Go.Proofs.YtihnkanmlbgidaaDoor
set_option linter.unusedSimpArgs false
set_option linter.unusedVariables false
open Go.Joins Go.ChangeShapes Go.WideShapes Go.ChangeAt Go.RowKit Go.Deep

theorem own : ownKnob Tryd.prog.godebug = none := by kernel_rfl
theorem laidOut : laidOutB Tryd.prog = true := by kernel_rfl

/-- A contract under the laid variables AND under the world's shape lifts to the row's form. -/
theorem lift_shaped {H : Type} {enc : TypeId × Value → H} {C : Checked} {os : Os} {f : FuncId} {fn : Func} {s : ChangeSpec} {cs : List PathCond} {x1 x2 x3 x4 : Bool} {X : World → Array Value → Prop}
    (hX : ∀ (u v : World) (av : Array Value), u.heap = v.heap → X u av → X v av) (ow : ownKnob C.prog.godebug = none) (st : os.Started) (ni : C.prog.inits.idxOf? f = none) (hf : C.prog.funcs[f]? = some fn)
    (wit : ∃ (w : World) (tape : Tape) (i : Input), w.os = os ∧ (w.forCall tape i).Shaped C.prog ∧ i.vars = [] ∧ Input.okWide C.prog (w.forCall tape i) .any w.heap.size f i ∧
      ((s.pre enc C.prog fn cs x1 (w.forCall tape i).memory i.args ∧ X (w.forCall tape i).memory i.args) ∧ sizedMet enc C.prog fn (OpenSpec.ofChange s) x1 (w.forCall tape i).memory i.args) ∧ Assume.holds {} C.prog (lone (Frame.enter C.prog f i.args .normal) [] (w.forCall tape i)))
    (go : ∀ (W : World) (base : Nat) (av : Array Value) (ds gs : List (DataW H)) (b4 : List MemPlace),
      (∀ (j : Nat) t v, fn.params[j]? = some t → av[j]? = some v → Value.okWide C.prog W .any base t v) → DataW.Whole enc C.prog fn.params.toList s.vars x1 W av.toList ds gs b4 →
      cs.all (PathCond.test C.prog ⟨fn.params.toList, ds, s.plain.varTypes C.prog, gs⟩) = true → X W av → W.ShapedOpen C.prog →
      Calls C.prog f av W fun e W' => ∃ v, e = .returned v ∧ s.post enc C.prog fn x1 x2 x3 x4 W av v W') :
    ReturnsInHanded {} C os f .any (fun w av => (s.pre enc C.prog fn cs x1 w av ∧ X w av) ∧ sizedMet enc C.prog fn (OpenSpec.ofChange s) x1 w av) (s.post enc C.prog fn x1 x2 x3 x4) := by
  refine returnsInHanded_of_calls ow st ni wit fun w tape i _ hS _ hok hp _ => ?_
  obtain ⟨-, -, -, fn2, hf2, -, -, -, -, hv⟩ := hok
  obtain rfl : fn2 = fn := Option.some.inj (hf2.symm.trans hf)
  obtain ⟨⟨⟨ds, gs, b4, hw, hc⟩, hx⟩, -⟩ := hp
  refine (go _ w.heap.size i.args ds gs b4 hv (DataW.Whole.of_heap (w' := w.forCall tape i) (by rfl) hw) hc (hX _ _ _ (by rfl) hx) hS).mono fun e W' ⟨v, he, hq⟩ => ?_
  subst he
  exact ChangeSpec.post_blind hq

theorem synT : (Tryd.prog.globals[0]?).map (·.type) = some 53 := by kernel_rfl
theorem rngT : (Tryd.prog.globals[1]?).map (·.type) = some 53 := by kernel_rfl
theorem esCells : Tryd.prog.cellsOf 107 = 1 := by kernel_rfl
theorem stCells : Tryd.prog.cellsOf 9 = 1 := by kernel_rfl
theorem esName : "*" ++ "errors.errorString" = "*errors.errorString" := by decide
theorem esRow (u : TypeId) (h : Tryd.prog.typeName? 3 u = some "*errors.errorString") : u = 105 :=
  typeName_ptr_named (nm := "errors.errorString") (by rw [esName]; kernel_rfl) (by kernel_rfl) (by decide) u (by rw [esName]; exact h)
def Tab (w : World) : Prop := TabP w
theorem tab_of_laid {a b c d : String × DataW Unit} {rest : List (String × DataW Unit)} {W : World} (h : laidMet Tryd.prog (a :: b :: c :: d :: ("strconv.ErrRange", Rows.laid_strconv_ErrRange) :: ("strconv.ErrSyntax", Rows.laid_strconv_ErrSyntax) :: rest) W) (hS : W.ShapedOpen Tryd.prog) : Tab W := by
  obtain ⟨a1, s1, h1, -, -, -⟩ := laid_sentinel h.tail.tail.tail.tail.tail synG synT Tryd.underlying53 esRow Tryd.underlying105 Tryd.underlying107 rfl rfl Tryd.underlying9 esCells stCells
  obtain ⟨a2, s2, h2, -, -, -⟩ := laid_sentinel h.tail.tail.tail.tail rngG rngT Tryd.underlying53 esRow Tryd.underlying105 Tryd.underlying107 rfl rfl Tryd.underlying9 esCells stCells
  exact ⟨Tryd.laysM146.s1_3 W hS, ⟨_, _, h1⟩, ⟨_, _, h2⟩⟩
end Go.Proofs.YtihnkanmlbgidaaDoor
