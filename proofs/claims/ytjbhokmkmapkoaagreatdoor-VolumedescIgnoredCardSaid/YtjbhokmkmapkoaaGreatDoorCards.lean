/-
  DERIVED. GIVEN WITH THE SEED: THE CARDS: each row of YtjbhokmkmapkoaaGreatDoorRows.lean that lists a variable, with what it lists TIED to the program's text (the seventh form; the later family's looks); each row that meets fmt, with fmt's text TOLD by the authors' own Lean function (tested against real Go, not proved from fmt's source: count such statements apart). THE CARD IS WHAT COUNTS. Prove the row's statement (the work); the ties are given (YtjbhokmkmapkoaaGreatDoorTie.lean); close each card by the builder's one call (the guide's Derived/Test/ToyasCard.lean, 'card_holds'). Laid BY PROGRAM, IN A SANDBOX (cutbox-door.mjs). By AI agents, Wed Nov 11 2026. No macro, syntax, notation, axiom, sorry.
-/
import Derived.Test.YtjbhokmkmapkoaaGreatDoorRows
import GoSem.ClaimSeven
namespace Go.Proofs.YtjbhokmkmapkoaaGreatDoor
namespace Rows

/-- THE TIED CARD OF 'masterdisclaw23.VolumedescEncodes'. -/
def volumedescEncodesCard : Claim7 := { stood := { row := volumedescEncodesRow, standIns := [], harness := (true, "a954ce78310656b8ee7fa2f339d2606f3ff9faf40b2327da92cbaea4aa9c87d0"), looks := true }, kinds := [], alts := [], laidByText := true, laidKinds := [.data, .data, .data, .data, .sentinel, .sentinel, .pinned], laidTests := true, laidLooks := .later }
def VolumedescEncodesCardSaid : Prop := Claim7.holds Tryz.pinned (.plain (OpenSpec.ofChange volumedescEncodesSpec)) volumedescEncodesCard

/-- THE TIED CARD OF 'masterdisclaw23.VolumedescDecodes'. -/
def volumedescDecodesCard : Claim7 := { stood := { row := volumedescDecodesRow, standIns := [], harness := (true, "a954ce78310656b8ee7fa2f339d2606f3ff9faf40b2327da92cbaea4aa9c87d0"), looks := true }, kinds := [], alts := [], laidByText := true, laidKinds := [.data, .data, .data, .data, .sentinel, .sentinel, .pinned], laidTests := true, laidLooks := .later }
def VolumedescDecodesCardSaid : Prop := Claim7.holds Tryz.pinned (.plain (OpenSpec.ofChange volumedescDecodesSpec)) volumedescDecodesCard

/-- THE TIED CARD OF 'masterdisclaw23.VolumedescReads'. -/
def volumedescReadsCard : Claim7 := { stood := { row := volumedescReadsRow, standIns := [], harness := (true, "a954ce78310656b8ee7fa2f339d2606f3ff9faf40b2327da92cbaea4aa9c87d0"), looks := true }, kinds := [], alts := [], laidByText := true, laidKinds := [.data, .data, .data, .data, .sentinel, .sentinel, .pinned], laidTests := true, laidLooks := .later }
def VolumedescReadsCardSaid : Prop := Claim7.holds Tryz.pinned (.plain (OpenSpec.ofChange volumedescReadsSpec)) volumedescReadsCard

/-- THE TIED CARD OF 'masterdisclaw23.VolumedescReturns'. -/
def volumedescReturnsCard : Claim7 := { stood := { row := volumedescReturnsRow, standIns := [], harness := (true, "a954ce78310656b8ee7fa2f339d2606f3ff9faf40b2327da92cbaea4aa9c87d0"), looks := true }, kinds := [], alts := [], laidByText := true, laidKinds := [.data, .data, .data, .data, .sentinel, .sentinel, .pinned], laidTests := true, laidLooks := .later }
def VolumedescReturnsCardSaid : Prop := Claim7.holds Tryz.pinned (.plain (OpenSpec.ofChange volumedescReturnsSpec)) volumedescReturnsCard

/-- THE TIED CARD OF 'masterdisclaw23.VolumedescBack'. -/
def volumedescBackCard : Claim7 := { stood := { row := volumedescBackRow, standIns := [], harness := (true, "a954ce78310656b8ee7fa2f339d2606f3ff9faf40b2327da92cbaea4aa9c87d0"), looks := true }, kinds := [], alts := [], laidByText := true, laidKinds := [.data, .data, .data, .data, .sentinel, .sentinel, .pinned], laidTests := true, laidLooks := .later }
def VolumedescBackCardSaid : Prop := Claim7.holds Tryz.pinned (.plain (OpenSpec.ofChange volumedescBackSpec)) volumedescBackCard

/-- THE TIED CARD OF 'masterdisclaw23.VolumedescSequence'. -/
def volumedescSequenceCard : Claim7 := { stood := { row := volumedescSequenceRow, standIns := [], harness := (true, "a954ce78310656b8ee7fa2f339d2606f3ff9faf40b2327da92cbaea4aa9c87d0"), looks := true }, kinds := [], alts := [], laidByText := true, laidKinds := [.data, .data, .data, .data, .sentinel, .sentinel, .pinned], laidTests := true, laidLooks := .later }
def VolumedescSequenceCardSaid : Prop := Claim7.holds Tryz.pinned (.plain (OpenSpec.ofChange volumedescSequenceSpec)) volumedescSequenceCard

/-- THE TIED CARD OF 'masterdisclaw23.VolumedescHalves'. -/
def volumedescHalvesCard : Claim7 := { stood := { row := volumedescHalvesRow, standIns := [], harness := (true, "a954ce78310656b8ee7fa2f339d2606f3ff9faf40b2327da92cbaea4aa9c87d0"), looks := true }, kinds := [], alts := [], laidByText := true, laidKinds := [.data, .data, .data, .data, .sentinel, .sentinel, .pinned], laidTests := true, laidLooks := .later }
def VolumedescHalvesCardSaid : Prop := Claim7.holds Tryz.pinned (.plain (OpenSpec.ofChange volumedescHalvesSpec)) volumedescHalvesCard

/-- THE TIED CARD OF 'masterdisclaw23.VolumedescIgnored'. -/
def volumedescIgnoredCard : Claim7 := { stood := { row := volumedescIgnoredRow, standIns := [], harness := (true, "a954ce78310656b8ee7fa2f339d2606f3ff9faf40b2327da92cbaea4aa9c87d0"), looks := true }, kinds := [], alts := [], laidByText := true, laidKinds := [.data, .data, .data, .data, .sentinel, .sentinel, .pinned], laidTests := true, laidLooks := .later }
def VolumedescIgnoredCardSaid : Prop := Claim7.holds Tryz.pinned (.plain (OpenSpec.ofChange volumedescIgnoredSpec)) volumedescIgnoredCard

/-- THE SECOND FORM's CARD OF 'masterdisclaw23.VolumedescEncodes'. -/
def volumedescEncodesUptoCard : Claim7 := { stood := { row := volumedescEncodesUptoRow, standIns := [], harness := (true, "a954ce78310656b8ee7fa2f339d2606f3ff9faf40b2327da92cbaea4aa9c87d0"), looks := true }, kinds := [], alts := [], laidByText := true, laidKinds := [.data, .data, .data, .data, .sentinel, .sentinel, .pinned], laidTests := true, laidLooks := .later }
def VolumedescEncodesUptoCardSaid : Prop := Claim7.holds Tryz.pinned (.plain (OpenSpec.upto volumedescEncodesSpec)) volumedescEncodesUptoCard

/-- THE SECOND FORM's CARD OF 'masterdisclaw23.VolumedescDecodes'. -/
def volumedescDecodesUptoCard : Claim7 := { stood := { row := volumedescDecodesUptoRow, standIns := [], harness := (true, "a954ce78310656b8ee7fa2f339d2606f3ff9faf40b2327da92cbaea4aa9c87d0"), looks := true }, kinds := [], alts := [], laidByText := true, laidKinds := [.data, .data, .data, .data, .sentinel, .sentinel, .pinned], laidTests := true, laidLooks := .later }
def VolumedescDecodesUptoCardSaid : Prop := Claim7.holds Tryz.pinned (.plain (OpenSpec.upto volumedescDecodesSpec)) volumedescDecodesUptoCard

/-- THE SECOND FORM's CARD OF 'masterdisclaw23.VolumedescReads'. -/
def volumedescReadsUptoCard : Claim7 := { stood := { row := volumedescReadsUptoRow, standIns := [], harness := (true, "a954ce78310656b8ee7fa2f339d2606f3ff9faf40b2327da92cbaea4aa9c87d0"), looks := true }, kinds := [], alts := [], laidByText := true, laidKinds := [.data, .data, .data, .data, .sentinel, .sentinel, .pinned], laidTests := true, laidLooks := .later }
def VolumedescReadsUptoCardSaid : Prop := Claim7.holds Tryz.pinned (.plain (OpenSpec.upto volumedescReadsSpec)) volumedescReadsUptoCard

/-- THE SECOND FORM's CARD OF 'masterdisclaw23.VolumedescReturns'. -/
def volumedescReturnsUptoCard : Claim7 := { stood := { row := volumedescReturnsUptoRow, standIns := [], harness := (true, "a954ce78310656b8ee7fa2f339d2606f3ff9faf40b2327da92cbaea4aa9c87d0"), looks := true }, kinds := [], alts := [], laidByText := true, laidKinds := [.data, .data, .data, .data, .sentinel, .sentinel, .pinned], laidTests := true, laidLooks := .later }
def VolumedescReturnsUptoCardSaid : Prop := Claim7.holds Tryz.pinned (.plain (OpenSpec.upto volumedescReturnsSpec)) volumedescReturnsUptoCard

/-- THE SECOND FORM's CARD OF 'masterdisclaw23.VolumedescBack'. -/
def volumedescBackUptoCard : Claim7 := { stood := { row := volumedescBackUptoRow, standIns := [], harness := (true, "a954ce78310656b8ee7fa2f339d2606f3ff9faf40b2327da92cbaea4aa9c87d0"), looks := true }, kinds := [], alts := [], laidByText := true, laidKinds := [.data, .data, .data, .data, .sentinel, .sentinel, .pinned], laidTests := true, laidLooks := .later }
def VolumedescBackUptoCardSaid : Prop := Claim7.holds Tryz.pinned (.plain (OpenSpec.upto volumedescBackSpec)) volumedescBackUptoCard

/-- THE SECOND FORM's CARD OF 'masterdisclaw23.VolumedescSequence'. -/
def volumedescSequenceUptoCard : Claim7 := { stood := { row := volumedescSequenceUptoRow, standIns := [], harness := (true, "a954ce78310656b8ee7fa2f339d2606f3ff9faf40b2327da92cbaea4aa9c87d0"), looks := true }, kinds := [], alts := [], laidByText := true, laidKinds := [.data, .data, .data, .data, .sentinel, .sentinel, .pinned], laidTests := true, laidLooks := .later }
def VolumedescSequenceUptoCardSaid : Prop := Claim7.holds Tryz.pinned (.plain (OpenSpec.upto volumedescSequenceSpec)) volumedescSequenceUptoCard

/-- THE SECOND FORM's CARD OF 'masterdisclaw23.VolumedescHalves'. -/
def volumedescHalvesUptoCard : Claim7 := { stood := { row := volumedescHalvesUptoRow, standIns := [], harness := (true, "a954ce78310656b8ee7fa2f339d2606f3ff9faf40b2327da92cbaea4aa9c87d0"), looks := true }, kinds := [], alts := [], laidByText := true, laidKinds := [.data, .data, .data, .data, .sentinel, .sentinel, .pinned], laidTests := true, laidLooks := .later }
def VolumedescHalvesUptoCardSaid : Prop := Claim7.holds Tryz.pinned (.plain (OpenSpec.upto volumedescHalvesSpec)) volumedescHalvesUptoCard

/-- THE SECOND FORM's CARD OF 'masterdisclaw23.VolumedescIgnored'. -/
def volumedescIgnoredUptoCard : Claim7 := { stood := { row := volumedescIgnoredUptoRow, standIns := [], harness := (true, "a954ce78310656b8ee7fa2f339d2606f3ff9faf40b2327da92cbaea4aa9c87d0"), looks := true }, kinds := [], alts := [], laidByText := true, laidKinds := [.data, .data, .data, .data, .sentinel, .sentinel, .pinned], laidTests := true, laidLooks := .later }
def VolumedescIgnoredUptoCardSaid : Prop := Claim7.holds Tryz.pinned (.plain (OpenSpec.upto volumedescIgnoredSpec)) volumedescIgnoredUptoCard
end Rows
end Go.Proofs.YtjbhokmkmapkoaaGreatDoor
