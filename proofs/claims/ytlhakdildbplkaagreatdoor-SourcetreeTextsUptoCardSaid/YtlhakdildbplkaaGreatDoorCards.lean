/-
  DERIVED. GIVEN WITH THE SEED: THE CARDS: each row of YtlhakdildbplkaaGreatDoorRows.lean that lists a variable, with what it lists TIED to the program's text (the seventh form; the later family's looks); each row that meets fmt, with fmt's text TOLD by the authors' own Lean function (tested against real Go, not proved from fmt's source: count such statements apart). THE CARD IS WHAT COUNTS. Prove the row's statement (the work); the ties are given (YtlhakdildbplkaaGreatDoorTie.lean); close each card by the builder's one call (the guide's Derived/Test/ToyasCard.lean, 'card_holds'). Laid BY PROGRAM, IN A SANDBOX (cutbox-door.mjs). By AI agents, Wed Nov 11 2026. No macro, syntax, notation, axiom, sorry.
-/
import Derived.Test.YtlhakdildbplkaaGreatDoorRows
import GoSem.ClaimSeven
namespace Go.Proofs.YtlhakdildbplkaaGreatDoor
namespace Rows

/-- THE TIED CARD OF 'masterdisclaw18.SourcetreeChecks'. -/
def sourcetreeChecksCard : Claim7 := { stood := { row := sourcetreeChecksRow, standIns := [], harness := (true, "0dc52a49069bb316d0dc75958bcb4db68a56f3fd7975cb53ffe564656d0a1935"), looks := true }, kinds := [], alts := [], laidByText := true, laidKinds := [.data, .data, .data, .data, .sentinel, .sentinel, .pinned], laidTests := true, laidLooks := .later }
def SourcetreeChecksCardSaid : Prop := Claim7.holds Tryz.pinned (.plain (OpenSpec.ofChange sourcetreeChecksSpec)) sourcetreeChecksCard

/-- THE TIED CARD OF 'masterdisclaw18.SourcetreePaths'. -/
def sourcetreePathsCard : Claim7 := { stood := { row := sourcetreePathsRow, standIns := [], harness := (true, "0dc52a49069bb316d0dc75958bcb4db68a56f3fd7975cb53ffe564656d0a1935"), looks := true }, kinds := [], alts := [], laidByText := true, laidKinds := [.data, .data, .data, .data, .sentinel, .sentinel, .pinned], laidTests := true, laidLooks := .later }
def SourcetreePathsCardSaid : Prop := Claim7.holds Tryz.pinned (.plain (OpenSpec.ofChange sourcetreePathsSpec)) sourcetreePathsCard

/-- THE TIED CARD OF 'masterdisclaw18.SourcetreeEdits'. -/
def sourcetreeEditsCard : Claim7 := { stood := { row := sourcetreeEditsRow, standIns := [], harness := (true, "0dc52a49069bb316d0dc75958bcb4db68a56f3fd7975cb53ffe564656d0a1935"), looks := true }, kinds := [], alts := [], laidByText := true, laidKinds := [.data, .data, .data, .data, .sentinel, .sentinel, .pinned], laidTests := true, laidLooks := .later }
def SourcetreeEditsCardSaid : Prop := Claim7.holds Tryz.pinned (.plain (OpenSpec.ofChange sourcetreeEditsSpec)) sourcetreeEditsCard

/-- THE TIED CARD OF 'masterdisclaw18.SourcetreeTexts'. -/
def sourcetreeTextsCard : Claim7 := { stood := { row := sourcetreeTextsRow, standIns := [], harness := (true, "0dc52a49069bb316d0dc75958bcb4db68a56f3fd7975cb53ffe564656d0a1935"), looks := true }, kinds := [], alts := [], laidByText := true, laidKinds := [.data, .data, .data, .data, .sentinel, .sentinel, .pinned], laidTests := true, laidLooks := .later }
def SourcetreeTextsCardSaid : Prop := Claim7.holds Tryz.pinned (.plain (OpenSpec.ofChange sourcetreeTextsSpec)) sourcetreeTextsCard

/-- THE TIED CARD OF 'masterdisclaw18.SourcetreeSorts'. -/
def sourcetreeSortsCard : Claim7 := { stood := { row := sourcetreeSortsRow, standIns := [], harness := (true, "0dc52a49069bb316d0dc75958bcb4db68a56f3fd7975cb53ffe564656d0a1935"), looks := true }, kinds := [], alts := [], laidByText := true, laidKinds := [.data, .data, .data, .data, .sentinel, .sentinel, .pinned], laidTests := true, laidLooks := .later }
def SourcetreeSortsCardSaid : Prop := Claim7.holds Tryz.pinned (.plain (OpenSpec.ofChange sourcetreeSortsSpec)) sourcetreeSortsCard

/-- THE TIED CARD OF 'masterdisclaw18.SourcetreeReturns'. -/
def sourcetreeReturnsCard : Claim7 := { stood := { row := sourcetreeReturnsRow, standIns := [], harness := (true, "0dc52a49069bb316d0dc75958bcb4db68a56f3fd7975cb53ffe564656d0a1935"), looks := true }, kinds := [], alts := [], laidByText := true, laidKinds := [.data, .data, .data, .data, .sentinel, .sentinel, .pinned], laidTests := true, laidLooks := .later }
def SourcetreeReturnsCardSaid : Prop := Claim7.holds Tryz.pinned (.plain (OpenSpec.ofChange sourcetreeReturnsSpec)) sourcetreeReturnsCard

/-- THE TIED CARD OF 'masterdisclaw18.SourcetreePuts'. -/
def sourcetreePutsCard : Claim7 := { stood := { row := sourcetreePutsRow, standIns := [], harness := (true, "0dc52a49069bb316d0dc75958bcb4db68a56f3fd7975cb53ffe564656d0a1935"), looks := true }, kinds := [], alts := [], laidByText := true, laidKinds := [.data, .data, .data, .data, .sentinel, .sentinel, .pinned], laidTests := true, laidLooks := .later }
def SourcetreePutsCardSaid : Prop := Claim7.holds Tryz.pinned (.plain (OpenSpec.ofChange sourcetreePutsSpec)) sourcetreePutsCard

/-- THE TIED CARD OF 'masterdisclaw18.SourcetreeRemoves'. -/
def sourcetreeRemovesCard : Claim7 := { stood := { row := sourcetreeRemovesRow, standIns := [], harness := (true, "0dc52a49069bb316d0dc75958bcb4db68a56f3fd7975cb53ffe564656d0a1935"), looks := true }, kinds := [], alts := [], laidByText := true, laidKinds := [.data, .data, .data, .data, .sentinel, .sentinel, .pinned], laidTests := true, laidLooks := .later }
def SourcetreeRemovesCardSaid : Prop := Claim7.holds Tryz.pinned (.plain (OpenSpec.ofChange sourcetreeRemovesSpec)) sourcetreeRemovesCard

/-- THE SECOND FORM's CARD OF 'masterdisclaw18.SourcetreeChecks'. -/
def sourcetreeChecksUptoCard : Claim7 := { stood := { row := sourcetreeChecksUptoRow, standIns := [], harness := (true, "0dc52a49069bb316d0dc75958bcb4db68a56f3fd7975cb53ffe564656d0a1935"), looks := true }, kinds := [], alts := [], laidByText := true, laidKinds := [.data, .data, .data, .data, .sentinel, .sentinel, .pinned], laidTests := true, laidLooks := .later }
def SourcetreeChecksUptoCardSaid : Prop := Claim7.holds Tryz.pinned (.plain (OpenSpec.upto sourcetreeChecksSpec)) sourcetreeChecksUptoCard

/-- THE SECOND FORM's CARD OF 'masterdisclaw18.SourcetreePaths'. -/
def sourcetreePathsUptoCard : Claim7 := { stood := { row := sourcetreePathsUptoRow, standIns := [], harness := (true, "0dc52a49069bb316d0dc75958bcb4db68a56f3fd7975cb53ffe564656d0a1935"), looks := true }, kinds := [], alts := [], laidByText := true, laidKinds := [.data, .data, .data, .data, .sentinel, .sentinel, .pinned], laidTests := true, laidLooks := .later }
def SourcetreePathsUptoCardSaid : Prop := Claim7.holds Tryz.pinned (.plain (OpenSpec.upto sourcetreePathsSpec)) sourcetreePathsUptoCard

/-- THE SECOND FORM's CARD OF 'masterdisclaw18.SourcetreeEdits'. -/
def sourcetreeEditsUptoCard : Claim7 := { stood := { row := sourcetreeEditsUptoRow, standIns := [], harness := (true, "0dc52a49069bb316d0dc75958bcb4db68a56f3fd7975cb53ffe564656d0a1935"), looks := true }, kinds := [], alts := [], laidByText := true, laidKinds := [.data, .data, .data, .data, .sentinel, .sentinel, .pinned], laidTests := true, laidLooks := .later }
def SourcetreeEditsUptoCardSaid : Prop := Claim7.holds Tryz.pinned (.plain (OpenSpec.upto sourcetreeEditsSpec)) sourcetreeEditsUptoCard

/-- THE SECOND FORM's CARD OF 'masterdisclaw18.SourcetreeTexts'. -/
def sourcetreeTextsUptoCard : Claim7 := { stood := { row := sourcetreeTextsUptoRow, standIns := [], harness := (true, "0dc52a49069bb316d0dc75958bcb4db68a56f3fd7975cb53ffe564656d0a1935"), looks := true }, kinds := [], alts := [], laidByText := true, laidKinds := [.data, .data, .data, .data, .sentinel, .sentinel, .pinned], laidTests := true, laidLooks := .later }
def SourcetreeTextsUptoCardSaid : Prop := Claim7.holds Tryz.pinned (.plain (OpenSpec.upto sourcetreeTextsSpec)) sourcetreeTextsUptoCard

/-- THE SECOND FORM's CARD OF 'masterdisclaw18.SourcetreeSorts'. -/
def sourcetreeSortsUptoCard : Claim7 := { stood := { row := sourcetreeSortsUptoRow, standIns := [], harness := (true, "0dc52a49069bb316d0dc75958bcb4db68a56f3fd7975cb53ffe564656d0a1935"), looks := true }, kinds := [], alts := [], laidByText := true, laidKinds := [.data, .data, .data, .data, .sentinel, .sentinel, .pinned], laidTests := true, laidLooks := .later }
def SourcetreeSortsUptoCardSaid : Prop := Claim7.holds Tryz.pinned (.plain (OpenSpec.upto sourcetreeSortsSpec)) sourcetreeSortsUptoCard

/-- THE SECOND FORM's CARD OF 'masterdisclaw18.SourcetreeReturns'. -/
def sourcetreeReturnsUptoCard : Claim7 := { stood := { row := sourcetreeReturnsUptoRow, standIns := [], harness := (true, "0dc52a49069bb316d0dc75958bcb4db68a56f3fd7975cb53ffe564656d0a1935"), looks := true }, kinds := [], alts := [], laidByText := true, laidKinds := [.data, .data, .data, .data, .sentinel, .sentinel, .pinned], laidTests := true, laidLooks := .later }
def SourcetreeReturnsUptoCardSaid : Prop := Claim7.holds Tryz.pinned (.plain (OpenSpec.upto sourcetreeReturnsSpec)) sourcetreeReturnsUptoCard

/-- THE SECOND FORM's CARD OF 'masterdisclaw18.SourcetreePuts'. -/
def sourcetreePutsUptoCard : Claim7 := { stood := { row := sourcetreePutsUptoRow, standIns := [], harness := (true, "0dc52a49069bb316d0dc75958bcb4db68a56f3fd7975cb53ffe564656d0a1935"), looks := true }, kinds := [], alts := [], laidByText := true, laidKinds := [.data, .data, .data, .data, .sentinel, .sentinel, .pinned], laidTests := true, laidLooks := .later }
def SourcetreePutsUptoCardSaid : Prop := Claim7.holds Tryz.pinned (.plain (OpenSpec.upto sourcetreePutsSpec)) sourcetreePutsUptoCard

/-- THE SECOND FORM's CARD OF 'masterdisclaw18.SourcetreeRemoves'. -/
def sourcetreeRemovesUptoCard : Claim7 := { stood := { row := sourcetreeRemovesUptoRow, standIns := [], harness := (true, "0dc52a49069bb316d0dc75958bcb4db68a56f3fd7975cb53ffe564656d0a1935"), looks := true }, kinds := [], alts := [], laidByText := true, laidKinds := [.data, .data, .data, .data, .sentinel, .sentinel, .pinned], laidTests := true, laidLooks := .later }
def SourcetreeRemovesUptoCardSaid : Prop := Claim7.holds Tryz.pinned (.plain (OpenSpec.upto sourcetreeRemovesSpec)) sourcetreeRemovesUptoCard
end Rows
end Go.Proofs.YtlhakdildbplkaaGreatDoor
