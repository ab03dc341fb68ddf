/-
  DERIVED. GIVEN WITH THE SEED: THE CARDS: each row of YtopajpomhflgbaaGreatDoorRows.lean that lists a variable, with what it lists TIED to the program's text (the seventh form; the later family's looks); each row that meets fmt, with fmt's text TOLD by the authors' own Lean function (tested against real Go, not proved from fmt's source: count such statements apart). THE CARD IS WHAT COUNTS. Prove the row's statement (the work); the ties are given (YtopajpomhflgbaaGreatDoorTie.lean); close each card by the builder's one call (the guide's Derived/Test/ToyasCard.lean, 'card_holds'). Laid BY PROGRAM, IN A SANDBOX (cutbox-door.mjs). By AI agents, Wed Nov 11 2026. No macro, syntax, notation, axiom, sorry.
-/
import Derived.Test.YtopajpomhflgbaaGreatDoorRows
import GoSem.ClaimSeven
namespace Go.Proofs.YtopajpomhflgbaaGreatDoor
namespace Rows

/-- THE TIED CARD OF 'masterdisclaw25.RockridgeEntries'. -/
def rockridgeEntriesCard : Claim7 := { stood := { row := rockridgeEntriesRow, standIns := [], harness := (true, "f49cc9cfb09d933837197ec8b72edd9ecbc2b389ef7dd2875db59b25ecaa1598"), looks := true }, kinds := [], alts := [], laidByText := true, laidKinds := [.data, .data, .data, .data, .sentinel, .sentinel, .pinned], laidTests := true, laidLooks := .later }
def RockridgeEntriesCardSaid : Prop := Claim7.holds Tryz.pinned (.plain (OpenSpec.ofChange rockridgeEntriesSpec)) rockridgeEntriesCard

/-- THE TIED CARD OF 'masterdisclaw25.RockridgeTargets'. -/
def rockridgeTargetsCard : Claim7 := { stood := { row := rockridgeTargetsRow, standIns := [], harness := (true, "f49cc9cfb09d933837197ec8b72edd9ecbc2b389ef7dd2875db59b25ecaa1598"), looks := true }, kinds := [], alts := [], laidByText := true, laidKinds := [.data, .data, .data, .data, .sentinel, .sentinel, .pinned], laidTests := true, laidLooks := .later }
def RockridgeTargetsCardSaid : Prop := Claim7.holds Tryz.pinned (.plain (OpenSpec.ofChange rockridgeTargetsSpec)) rockridgeTargetsCard

/-- THE TIED CARD OF 'masterdisclaw25.RockridgeDivided'. -/
def rockridgeDividedCard : Claim7 := { stood := { row := rockridgeDividedRow, standIns := [], harness := (true, "f49cc9cfb09d933837197ec8b72edd9ecbc2b389ef7dd2875db59b25ecaa1598"), looks := true }, kinds := [], alts := [], laidByText := true, laidKinds := [.data, .data, .data, .data, .sentinel, .sentinel, .pinned], laidTests := true, laidLooks := .later }
def RockridgeDividedCardSaid : Prop := Claim7.holds Tryz.pinned (.plain (OpenSpec.ofChange rockridgeDividedSpec)) rockridgeDividedCard

/-- THE TIED CARD OF 'masterdisclaw25.RockridgeSizes'. -/
def rockridgeSizesCard : Claim7 := { stood := { row := rockridgeSizesRow, standIns := [], harness := (true, "f49cc9cfb09d933837197ec8b72edd9ecbc2b389ef7dd2875db59b25ecaa1598"), looks := true }, kinds := [], alts := [], laidByText := true, laidKinds := [.data, .data, .data, .data, .sentinel, .sentinel, .pinned], laidTests := true, laidLooks := .later }
def RockridgeSizesCardSaid : Prop := Claim7.holds Tryz.pinned (.plain (OpenSpec.ofChange rockridgeSizesSpec)) rockridgeSizesCard

/-- THE TIED CARD OF 'masterdisclaw25.RockridgeReturns'. -/
def rockridgeReturnsCard : Claim7 := { stood := { row := rockridgeReturnsRow, standIns := [], harness := (true, "f49cc9cfb09d933837197ec8b72edd9ecbc2b389ef7dd2875db59b25ecaa1598"), looks := true }, kinds := [], alts := [], laidByText := true, laidKinds := [.data, .data, .data, .data, .sentinel, .sentinel, .pinned], laidTests := true, laidLooks := .later }
def RockridgeReturnsCardSaid : Prop := Claim7.holds Tryz.pinned (.plain (OpenSpec.ofChange rockridgeReturnsSpec)) rockridgeReturnsCard

/-- THE SECOND FORM's CARD OF 'masterdisclaw25.RockridgeEntries'. -/
def rockridgeEntriesUptoCard : Claim7 := { stood := { row := rockridgeEntriesUptoRow, standIns := [], harness := (true, "f49cc9cfb09d933837197ec8b72edd9ecbc2b389ef7dd2875db59b25ecaa1598"), looks := true }, kinds := [], alts := [], laidByText := true, laidKinds := [.data, .data, .data, .data, .sentinel, .sentinel, .pinned], laidTests := true, laidLooks := .later }
def RockridgeEntriesUptoCardSaid : Prop := Claim7.holds Tryz.pinned (.plain (OpenSpec.upto rockridgeEntriesSpec)) rockridgeEntriesUptoCard

/-- THE SECOND FORM's CARD OF 'masterdisclaw25.RockridgeTargets'. -/
def rockridgeTargetsUptoCard : Claim7 := { stood := { row := rockridgeTargetsUptoRow, standIns := [], harness := (true, "f49cc9cfb09d933837197ec8b72edd9ecbc2b389ef7dd2875db59b25ecaa1598"), looks := true }, kinds := [], alts := [], laidByText := true, laidKinds := [.data, .data, .data, .data, .sentinel, .sentinel, .pinned], laidTests := true, laidLooks := .later }
def RockridgeTargetsUptoCardSaid : Prop := Claim7.holds Tryz.pinned (.plain (OpenSpec.upto rockridgeTargetsSpec)) rockridgeTargetsUptoCard

/-- THE SECOND FORM's CARD OF 'masterdisclaw25.RockridgeDivided'. -/
def rockridgeDividedUptoCard : Claim7 := { stood := { row := rockridgeDividedUptoRow, standIns := [], harness := (true, "f49cc9cfb09d933837197ec8b72edd9ecbc2b389ef7dd2875db59b25ecaa1598"), looks := true }, kinds := [], alts := [], laidByText := true, laidKinds := [.data, .data, .data, .data, .sentinel, .sentinel, .pinned], laidTests := true, laidLooks := .later }
def RockridgeDividedUptoCardSaid : Prop := Claim7.holds Tryz.pinned (.plain (OpenSpec.upto rockridgeDividedSpec)) rockridgeDividedUptoCard

/-- THE SECOND FORM's CARD OF 'masterdisclaw25.RockridgeSizes'. -/
def rockridgeSizesUptoCard : Claim7 := { stood := { row := rockridgeSizesUptoRow, standIns := [], harness := (true, "f49cc9cfb09d933837197ec8b72edd9ecbc2b389ef7dd2875db59b25ecaa1598"), looks := true }, kinds := [], alts := [], laidByText := true, laidKinds := [.data, .data, .data, .data, .sentinel, .sentinel, .pinned], laidTests := true, laidLooks := .later }
def RockridgeSizesUptoCardSaid : Prop := Claim7.holds Tryz.pinned (.plain (OpenSpec.upto rockridgeSizesSpec)) rockridgeSizesUptoCard

/-- THE SECOND FORM's CARD OF 'masterdisclaw25.RockridgeReturns'. -/
def rockridgeReturnsUptoCard : Claim7 := { stood := { row := rockridgeReturnsUptoRow, standIns := [], harness := (true, "f49cc9cfb09d933837197ec8b72edd9ecbc2b389ef7dd2875db59b25ecaa1598"), looks := true }, kinds := [], alts := [], laidByText := true, laidKinds := [.data, .data, .data, .data, .sentinel, .sentinel, .pinned], laidTests := true, laidLooks := .later }
def RockridgeReturnsUptoCardSaid : Prop := Claim7.holds Tryz.pinned (.plain (OpenSpec.upto rockridgeReturnsSpec)) rockridgeReturnsUptoCard
end Rows
end Go.Proofs.YtopajpomhflgbaaGreatDoor
