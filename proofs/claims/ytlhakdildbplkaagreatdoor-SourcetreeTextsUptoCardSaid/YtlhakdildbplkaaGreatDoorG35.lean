/- Contracts and plain words for the laws of this chapter,part 35: Lw1. No condition. -/
import Derived.Shelf.Strings.Prefix
import Derived.Test.YtlhakdildbplkaaGreatDoorG33
import Derived.Test.YtlhakdildbplkaaGreatDoorG34
namespace Go.Proofs.YtlhakdildbplkaaGreatDoor
set_option linter.unusedSimpArgs false
set_option linter.unusedVariables false
open Go.RowKit
theorem hpre (s p:ByteArray) (w:World):Calls Tryz.prog 42 #[.string s,.string p] w fun e w'=>e=.returned (.bool (Lib.hasPrefix s.data.toList p.data.toList))∧w=w':=
 (Any.strings_HasPrefix Tryz.lays99 s p w).mono fun e w' ⟨he,hw⟩=>⟨he,hw.symm⟩
theorem few_sz {t:Tr} {n:Nat} (h:fewB t n=true):t.count≤40∧t.sz≤n:=by unfold fewB at h;have:=of_decide_eq_true h;omega
theorem Nd.cells {w:World} {B:Nat} {v:Value} {t:Tr} (h:TreeR w B v t):∃c:Array Value,v=.agg c∧c.size=12:=by
 obtain⟨c,h1,h2,_⟩:=h.cells
 exact⟨c,h1,h2⟩
theorem few_any (W:World) (c:Array Value) (t:Tr) (b:Bool) (hb:fewB t 20000=b) (hz:t.sz≤20971520) (h:TreeR W W.heap.size (.agg c) t):Calls Tryz.prog 12 #[.agg c,.int .i64 20000] W fun e w'=>e=.returned (.bool b)∧Below W.heap.size W w':=by
 have h1:=rfew_any t (by omega) 20000 (.agg c) W h
 rw [hb] at h1
 exact h1
end Go.Proofs.YtlhakdildbplkaaGreatDoor
