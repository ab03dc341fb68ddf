/-
  DERIVED. GIVEN WITH THE SEED: THE CARDS: each row of YtocgindpjjolpaaGreatDoorRows.lean that lists a variable, with what it lists TIED to the program's text (the seventh form; the later family's looks); each row that meets fmt, with fmt's text TOLD by the authors' own Lean function (tested against real Go, not proved from fmt's source: count such statements apart). THE CARD IS WHAT COUNTS. Prove the row's statement (the work); the ties are given (YtocgindpjjolpaaGreatDoorTie.lean); close each card by the builder's one call (the guide's Derived/Test/ToyasCard.lean, 'card_holds'). Laid BY PROGRAM, IN A SANDBOX (cutbox-door.mjs). By AI agents, Wed Nov 11 2026. No macro, syntax, notation, axiom, sorry.
-/
import Derived.Test.YtocgindpjjolpaaGreatDoorRows
import GoSem.ClaimSeven
namespace Go.Proofs.YtocgindpjjolpaaGreatDoor
namespace Rows

/-- THE TIED CARD OF 'masterdisclaw47.FileorderOrders'. -/
def fileorderOrdersCard : Claim7 := { stood := { row := fileorderOrdersRow, standIns := [], harness := (true, "94b2da3f6cd4e3bc6492da24fdda739121b46287ee0eaa8e770d04905f481977"), looks := false }, kinds := [], alts := [], laidByText := true, laidKinds := [.data, .pinned], laidTests := true, laidLooks := .later }
def FileorderOrdersCardSaid : Prop := Claim7.holds Tryz.pinned (.plain (OpenSpec.ofChange fileorderOrdersSpec)) fileorderOrdersCard

/-- THE TIED CARD OF 'masterdisclaw47.FileorderPlaces'. -/
def fileorderPlacesCard : Claim7 := { stood := { row := fileorderPlacesRow, standIns := [], harness := (true, "94b2da3f6cd4e3bc6492da24fdda739121b46287ee0eaa8e770d04905f481977"), looks := false }, kinds := [], alts := [], laidByText := true, laidKinds := [.data, .pinned], laidTests := true, laidLooks := .later }
def FileorderPlacesCardSaid : Prop := Claim7.holds Tryz.pinned (.plain (OpenSpec.ofChange fileorderPlacesSpec)) fileorderPlacesCard

/-- THE TIED CARD OF 'masterdisclaw47.FileorderCosts'. -/
def fileorderCostsCard : Claim7 := { stood := { row := fileorderCostsRow, standIns := [], harness := (true, "94b2da3f6cd4e3bc6492da24fdda739121b46287ee0eaa8e770d04905f481977"), looks := false }, kinds := [], alts := [], laidByText := true, laidKinds := [.data, .pinned], laidTests := true, laidLooks := .later }
def FileorderCostsCardSaid : Prop := Claim7.holds Tryz.pinned (.plain (OpenSpec.ofChange fileorderCostsSpec)) fileorderCostsCard

/-- THE TIED CARD OF 'masterdisclaw47.FileorderSearches'. -/
def fileorderSearchesCard : Claim7 := { stood := { row := fileorderSearchesRow, standIns := [], harness := (true, "94b2da3f6cd4e3bc6492da24fdda739121b46287ee0eaa8e770d04905f481977"), looks := false }, kinds := [], alts := [], laidByText := true, laidKinds := [.data, .pinned], laidTests := true, laidLooks := .later }
def FileorderSearchesCardSaid : Prop := Claim7.holds Tryz.pinned (.plain (OpenSpec.ofChange fileorderSearchesSpec)) fileorderSearchesCard

/-- THE TIED CARD OF 'masterdisclaw47.FileorderStreams'. -/
def fileorderStreamsCard : Claim7 := { stood := { row := fileorderStreamsRow, standIns := [], harness := (true, "94b2da3f6cd4e3bc6492da24fdda739121b46287ee0eaa8e770d04905f481977"), looks := false }, kinds := [], alts := [], laidByText := true, laidKinds := [.data, .pinned], laidTests := true, laidLooks := .later }
def FileorderStreamsCardSaid : Prop := Claim7.holds Tryz.pinned (.plain (OpenSpec.ofChange fileorderStreamsSpec)) fileorderStreamsCard

/-- THE TIED CARD OF 'masterdisclaw47.FileorderWeighs'. -/
def fileorderWeighsCard : Claim7 := { stood := { row := fileorderWeighsRow, standIns := [], harness := (true, "94b2da3f6cd4e3bc6492da24fdda739121b46287ee0eaa8e770d04905f481977"), looks := false }, kinds := [], alts := [], laidByText := true, laidKinds := [.data, .pinned], laidTests := true, laidLooks := .later }
def FileorderWeighsCardSaid : Prop := Claim7.holds Tryz.pinned (.plain (OpenSpec.ofChange fileorderWeighsSpec)) fileorderWeighsCard

/-- THE TIED CARD OF 'masterdisclaw47.FileorderLeast'. -/
def fileorderLeastCard : Claim7 := { stood := { row := fileorderLeastRow, standIns := [], harness := (true, "94b2da3f6cd4e3bc6492da24fdda739121b46287ee0eaa8e770d04905f481977"), looks := false }, kinds := [], alts := [], laidByText := true, laidKinds := [.data, .pinned], laidTests := true, laidLooks := .later }
def FileorderLeastCardSaid : Prop := Claim7.holds Tryz.pinned (.plain (OpenSpec.ofChange fileorderLeastSpec)) fileorderLeastCard

/-- THE TIED CARD OF 'masterdisclaw47.FileorderGaps'. -/
def fileorderGapsCard : Claim7 := { stood := { row := fileorderGapsRow, standIns := [], harness := (true, "94b2da3f6cd4e3bc6492da24fdda739121b46287ee0eaa8e770d04905f481977"), looks := false }, kinds := [], alts := [], laidByText := true, laidKinds := [.data, .pinned], laidTests := true, laidLooks := .later }
def FileorderGapsCardSaid : Prop := Claim7.holds Tryz.pinned (.plain (OpenSpec.ofChange fileorderGapsSpec)) fileorderGapsCard

/-- THE SECOND FORM's CARD OF 'masterdisclaw47.FileorderOrders'. -/
def fileorderOrdersUptoCard : Claim7 := { stood := { row := fileorderOrdersUptoRow, standIns := [], harness := (true, "94b2da3f6cd4e3bc6492da24fdda739121b46287ee0eaa8e770d04905f481977"), looks := false }, kinds := [], alts := [], laidByText := true, laidKinds := [.data, .pinned], laidTests := true, laidLooks := .later }
def FileorderOrdersUptoCardSaid : Prop := Claim7.holds Tryz.pinned (.plain (OpenSpec.upto fileorderOrdersSpec)) fileorderOrdersUptoCard

/-- THE SECOND FORM's CARD OF 'masterdisclaw47.FileorderPlaces'. -/
def fileorderPlacesUptoCard : Claim7 := { stood := { row := fileorderPlacesUptoRow, standIns := [], harness := (true, "94b2da3f6cd4e3bc6492da24fdda739121b46287ee0eaa8e770d04905f481977"), looks := false }, kinds := [], alts := [], laidByText := true, laidKinds := [.data, .pinned], laidTests := true, laidLooks := .later }
def FileorderPlacesUptoCardSaid : Prop := Claim7.holds Tryz.pinned (.plain (OpenSpec.upto fileorderPlacesSpec)) fileorderPlacesUptoCard

/-- THE SECOND FORM's CARD OF 'masterdisclaw47.FileorderCosts'. -/
def fileorderCostsUptoCard : Claim7 := { stood := { row := fileorderCostsUptoRow, standIns := [], harness := (true, "94b2da3f6cd4e3bc6492da24fdda739121b46287ee0eaa8e770d04905f481977"), looks := false }, kinds := [], alts := [], laidByText := true, laidKinds := [.data, .pinned], laidTests := true, laidLooks := .later }
def FileorderCostsUptoCardSaid : Prop := Claim7.holds Tryz.pinned (.plain (OpenSpec.upto fileorderCostsSpec)) fileorderCostsUptoCard

/-- THE SECOND FORM's CARD OF 'masterdisclaw47.FileorderSearches'. -/
def fileorderSearchesUptoCard : Claim7 := { stood := { row := fileorderSearchesUptoRow, standIns := [], harness := (true, "94b2da3f6cd4e3bc6492da24fdda739121b46287ee0eaa8e770d04905f481977"), looks := false }, kinds := [], alts := [], laidByText := true, laidKinds := [.data, .pinned], laidTests := true, laidLooks := .later }
def FileorderSearchesUptoCardSaid : Prop := Claim7.holds Tryz.pinned (.plain (OpenSpec.upto fileorderSearchesSpec)) fileorderSearchesUptoCard

/-- THE SECOND FORM's CARD OF 'masterdisclaw47.FileorderStreams'. -/
def fileorderStreamsUptoCard : Claim7 := { stood := { row := fileorderStreamsUptoRow, standIns := [], harness := (true, "94b2da3f6cd4e3bc6492da24fdda739121b46287ee0eaa8e770d04905f481977"), looks := false }, kinds := [], alts := [], laidByText := true, laidKinds := [.data, .pinned], laidTests := true, laidLooks := .later }
def FileorderStreamsUptoCardSaid : Prop := Claim7.holds Tryz.pinned (.plain (OpenSpec.upto fileorderStreamsSpec)) fileorderStreamsUptoCard

/-- THE SECOND FORM's CARD OF 'masterdisclaw47.FileorderWeighs'. -/
def fileorderWeighsUptoCard : Claim7 := { stood := { row := fileorderWeighsUptoRow, standIns := [], harness := (true, "94b2da3f6cd4e3bc6492da24fdda739121b46287ee0eaa8e770d04905f481977"), looks := false }, kinds := [], alts := [], laidByText := true, laidKinds := [.data, .pinned], laidTests := true, laidLooks := .later }
def FileorderWeighsUptoCardSaid : Prop := Claim7.holds Tryz.pinned (.plain (OpenSpec.upto fileorderWeighsSpec)) fileorderWeighsUptoCard

/-- THE SECOND FORM's CARD OF 'masterdisclaw47.FileorderLeast'. -/
def fileorderLeastUptoCard : Claim7 := { stood := { row := fileorderLeastUptoRow, standIns := [], harness := (true, "94b2da3f6cd4e3bc6492da24fdda739121b46287ee0eaa8e770d04905f481977"), looks := false }, kinds := [], alts := [], laidByText := true, laidKinds := [.data, .pinned], laidTests := true, laidLooks := .later }
def FileorderLeastUptoCardSaid : Prop := Claim7.holds Tryz.pinned (.plain (OpenSpec.upto fileorderLeastSpec)) fileorderLeastUptoCard

/-- THE SECOND FORM's CARD OF 'masterdisclaw47.FileorderGaps'. -/
def fileorderGapsUptoCard : Claim7 := { stood := { row := fileorderGapsUptoRow, standIns := [], harness := (true, "94b2da3f6cd4e3bc6492da24fdda739121b46287ee0eaa8e770d04905f481977"), looks := false }, kinds := [], alts := [], laidByText := true, laidKinds := [.data, .pinned], laidTests := true, laidLooks := .later }
def FileorderGapsUptoCardSaid : Prop := Claim7.holds Tryz.pinned (.plain (OpenSpec.upto fileorderGapsSpec)) fileorderGapsUptoCard
end Rows
end Go.Proofs.YtocgindpjjolpaaGreatDoor
