/-
  NARROWER THAN 'FOR EVERY INPUT', by the rows' own cells (each row's printed sentence says how): FileorderOrders: loops, laid · FileorderPlaces: loops, laid · FileorderCosts: laid · FileorderSearches: loops, laid · FileorderStreams: loops, laid · FileorderWeighs: loops, laid · FileorderLeast: loops, laid · FileorderGaps: loops, laid.
  DERIVED. THE GIVEN ROWS OF THIS SEAT. 8 by the template 'for every input the law returns true; each argument reads behind the call as it read before'; 0 by the template 'total and deterministic' (their statements: YtocgindpjjolpaaGreatDoorTotals.lean).
  GIVEN WITH THE SEED: the statements are not yours to turn. If you find one false, say at which input.
  Laid BY PROGRAM, IN A SANDBOX (cutbox-rows.mjs): the forced cells as the released guide's own fill.sh prints them over the translation 96c906d9dc019ca8… (all of the seat's roots in one cut). By AI agents, Wed Nov 11 2026. No macro, syntax, notation, axiom, sorry.
-/
import Derived.Test.YtocgindpjjolpaaGreatDoorChecked
import GoSem.PinnedTables
import GoSem.Claim
import GoSem.ClaimJoined
import GoSem.ClaimMapViews
import Derived.JoinedTies
import Derived.KernelRfl
namespace Go.Proofs.YtocgindpjjolpaaGreatDoor
/- THE CELL 'sum', in the pinned program and in every row, IS THE sha256 OF THE DUMP (.gsa) THAT YtocgindpjjolpaaGreatDoorProg.lean LOADS. Nothing in Lean hashes anything: it is a label: what it is worth is what the hold of that sum in a sandbox is worth. -/
noncomputable def Tryz.pinned : Pinned := { name := "ytocgindpjjolpaagreatdoor", sum := "96c906d9dc019ca83fa03f0dfb5c65294a4f0d5dd5e1acad659714288f995235", checked := Tryz.checked }
namespace Rows
def none {H : Type} : Left H := { results := [], args := [] }

/- WHAT THE LISTED PACKAGE-LEVEL VARIABLES READ AS WHEN THE CALL BEGINS. Each datum BY PROGRAM (the guide's laid-datum.mjs) off the statement by which the dump's own 'gosem.cut.vars' lays the variable. In a bare row this is a premise. The card (YtocgindpjjolpaaGreatDoorCards.lean) ties it to the program's text. -/
def laid_unicode_utf8_acceptRanges {H : Type} : DataW H := .agg [.agg [.lit (.int .u8 128), .lit (.int .u8 191)], .agg [.lit (.int .u8 160), .lit (.int .u8 191)], .agg [.lit (.int .u8 128), .lit (.int .u8 159)], .agg [.lit (.int .u8 144), .lit (.int .u8 191)], .agg [.lit (.int .u8 128), .lit (.int .u8 143)], .agg [.lit (.int .u8 0), .lit (.int .u8 0)], .agg [.lit (.int .u8 0), .lit (.int .u8 0)], .agg [.lit (.int .u8 0), .lit (.int .u8 0)], .agg [.lit (.int .u8 0), .lit (.int .u8 0)], .agg [.lit (.int .u8 0), .lit (.int .u8 0)], .agg [.lit (.int .u8 0), .lit (.int .u8 0)], .agg [.lit (.int .u8 0), .lit (.int .u8 0)], .agg [.lit (.int .u8 0), .lit (.int .u8 0)], .agg [.lit (.int .u8 0), .lit (.int .u8 0)], .agg [.lit (.int .u8 0), .lit (.int .u8 0)], .agg [.lit (.int .u8 0), .lit (.int .u8 0)]]
/-- One of Go's own tables, pinned by name: the form's constant. -/
def laid_unicode_utf8_first : DataW Unit := Go.Pinned.utf8First

/-- 'masterdisclaw47.FileorderOrders': WHATEVER THE INPUT: true; the input reads as it did. -/
def fileorderOrdersSpec : ChangeSpec := { name := "fileorderOrders", fn := fun _ => fun
  | [d1, d2, d3] => { results := [.lit (.bool true)], args := [d1, d2, d3] }
  | _ => none }
def fileorderOrdersRow : OpenClaim := { program := "ytocgindpjjolpaagreatdoor", sum := "96c906d9dc019ca83fa03f0dfb5c65294a4f0d5dd5e1acad659714288f995235", func := "masterdisc/masterdisclaw47.FileorderOrders", spec := "fileorderOrders", inPlace := ["internal/abi.NoEscape", "internal/bytealg.MakeNoZero", "internal/bytealg.IndexByteString", "internal/bytealg.IndexString", "internal/bytealg.CountString", "internal/bytealg.abigen_runtime_cmpstring"], unfollowed := true, recurses := true, named := ["internal/bytealg.MaxLen", "unicode/utf8.first", "unicode/utf8.acceptRanges"], loops := true, apart := false, laid := [("unicode/utf8.acceptRanges", laid_unicode_utf8_acceptRanges), ("unicode/utf8.first", laid_unicode_utf8_first)] }
def FileorderOrdersSaid : Prop := fileorderOrdersRow.holds Tryz.pinned (OpenSpec.ofChange fileorderOrdersSpec)

/-- ITS FALSE NEIGHBOUR: 'it returns false'. Refute it at one input. -/
def fileorderOrdersWrong : ChangeSpec := { name := "fileorderOrders", fn := fun _ => fun
  | [d1, d2, d3] => { results := [.lit (.bool false)], args := [d1, d2, d3] }
  | _ => none }
def FileorderOrdersWrongFalsely : Prop := fileorderOrdersRow.holds Tryz.pinned (OpenSpec.ofChange fileorderOrdersWrong)

/-- 'masterdisclaw47.FileorderPlaces': WHATEVER THE INPUT: true; the input reads as it did. -/
def fileorderPlacesSpec : ChangeSpec := { name := "fileorderPlaces", fn := fun _ => fun
  | [d1, d2, d3, d4] => { results := [.lit (.bool true)], args := [d1, d2, d3, d4] }
  | _ => none }
def fileorderPlacesRow : OpenClaim := { program := "ytocgindpjjolpaagreatdoor", sum := "96c906d9dc019ca83fa03f0dfb5c65294a4f0d5dd5e1acad659714288f995235", func := "masterdisc/masterdisclaw47.FileorderPlaces", spec := "fileorderPlaces", inPlace := ["internal/abi.NoEscape", "internal/bytealg.MakeNoZero", "internal/bytealg.IndexByteString", "internal/bytealg.IndexString", "internal/bytealg.CountString", "internal/bytealg.abigen_runtime_cmpstring"], unfollowed := true, recurses := true, named := ["internal/bytealg.MaxLen", "unicode/utf8.first", "unicode/utf8.acceptRanges"], loops := true, apart := false, laid := [("unicode/utf8.acceptRanges", laid_unicode_utf8_acceptRanges), ("unicode/utf8.first", laid_unicode_utf8_first)] }
def FileorderPlacesSaid : Prop := fileorderPlacesRow.holds Tryz.pinned (OpenSpec.ofChange fileorderPlacesSpec)

/-- ITS FALSE NEIGHBOUR: 'it returns false'. Refute it at one input. -/
def fileorderPlacesWrong : ChangeSpec := { name := "fileorderPlaces", fn := fun _ => fun
  | [d1, d2, d3, d4] => { results := [.lit (.bool false)], args := [d1, d2, d3, d4] }
  | _ => none }
def FileorderPlacesWrongFalsely : Prop := fileorderPlacesRow.holds Tryz.pinned (OpenSpec.ofChange fileorderPlacesWrong)

/-- 'masterdisclaw47.FileorderCosts': WHATEVER THE INPUT: true; the input reads as it did. -/
def fileorderCostsSpec : ChangeSpec := { name := "fileorderCosts", fn := fun _ => fun
  | [d1, d2] => { results := [.lit (.bool true)], args := [d1, d2] }
  | _ => none }
def fileorderCostsRow : OpenClaim := { program := "ytocgindpjjolpaagreatdoor", sum := "96c906d9dc019ca83fa03f0dfb5c65294a4f0d5dd5e1acad659714288f995235", func := "masterdisc/masterdisclaw47.FileorderCosts", spec := "fileorderCosts", inPlace := ["internal/abi.NoEscape", "internal/bytealg.MakeNoZero", "internal/bytealg.IndexByteString", "internal/bytealg.IndexString", "internal/bytealg.CountString", "internal/bytealg.abigen_runtime_cmpstring"], unfollowed := true, recurses := true, named := ["internal/bytealg.MaxLen", "unicode/utf8.first", "unicode/utf8.acceptRanges"], apart := false, laid := [("unicode/utf8.acceptRanges", laid_unicode_utf8_acceptRanges), ("unicode/utf8.first", laid_unicode_utf8_first)] }
def FileorderCostsSaid : Prop := fileorderCostsRow.holds Tryz.pinned (OpenSpec.ofChange fileorderCostsSpec)

/-- ITS FALSE NEIGHBOUR: 'it returns false'. Refute it at one input. -/
def fileorderCostsWrong : ChangeSpec := { name := "fileorderCosts", fn := fun _ => fun
  | [d1, d2] => { results := [.lit (.bool false)], args := [d1, d2] }
  | _ => none }
def FileorderCostsWrongFalsely : Prop := fileorderCostsRow.holds Tryz.pinned (OpenSpec.ofChange fileorderCostsWrong)

/-- 'masterdisclaw47.FileorderSearches': WHATEVER THE INPUT: true; the input reads as it did. -/
def fileorderSearchesSpec : ChangeSpec := { name := "fileorderSearches", fn := fun _ => fun
  | [d1, d2] => { results := [.lit (.bool true)], args := [d1, d2] }
  | _ => none }
def fileorderSearchesRow : OpenClaim := { program := "ytocgindpjjolpaagreatdoor", sum := "96c906d9dc019ca83fa03f0dfb5c65294a4f0d5dd5e1acad659714288f995235", func := "masterdisc/masterdisclaw47.FileorderSearches", spec := "fileorderSearches", inPlace := ["internal/abi.NoEscape", "internal/bytealg.MakeNoZero", "internal/bytealg.IndexByteString", "internal/bytealg.IndexString", "internal/bytealg.CountString", "internal/bytealg.abigen_runtime_cmpstring"], unfollowed := true, recurses := true, named := ["internal/bytealg.MaxLen", "unicode/utf8.first", "unicode/utf8.acceptRanges"], loops := true, apart := false, laid := [("unicode/utf8.acceptRanges", laid_unicode_utf8_acceptRanges), ("unicode/utf8.first", laid_unicode_utf8_first)] }
def FileorderSearchesSaid : Prop := fileorderSearchesRow.holds Tryz.pinned (OpenSpec.ofChange fileorderSearchesSpec)

/-- ITS FALSE NEIGHBOUR: 'it returns false'. Refute it at one input. -/
def fileorderSearchesWrong : ChangeSpec := { name := "fileorderSearches", fn := fun _ => fun
  | [d1, d2] => { results := [.lit (.bool false)], args := [d1, d2] }
  | _ => none }
def FileorderSearchesWrongFalsely : Prop := fileorderSearchesRow.holds Tryz.pinned (OpenSpec.ofChange fileorderSearchesWrong)

/-- 'masterdisclaw47.FileorderStreams': WHATEVER THE INPUT: true; the input reads as it did. -/
def fileorderStreamsSpec : ChangeSpec := { name := "fileorderStreams", fn := fun _ => fun
  | [d1, d2] => { results := [.lit (.bool true)], args := [d1, d2] }
  | _ => none }
def fileorderStreamsRow : OpenClaim := { program := "ytocgindpjjolpaagreatdoor", sum := "96c906d9dc019ca83fa03f0dfb5c65294a4f0d5dd5e1acad659714288f995235", func := "masterdisc/masterdisclaw47.FileorderStreams", spec := "fileorderStreams", inPlace := ["internal/abi.NoEscape", "internal/bytealg.MakeNoZero", "internal/bytealg.IndexByteString", "internal/bytealg.IndexString", "internal/bytealg.CountString", "internal/bytealg.abigen_runtime_cmpstring"], unfollowed := true, recurses := true, named := ["internal/bytealg.MaxLen", "unicode/utf8.first", "unicode/utf8.acceptRanges"], loops := true, apart := false, laid := [("unicode/utf8.acceptRanges", laid_unicode_utf8_acceptRanges), ("unicode/utf8.first", laid_unicode_utf8_first)] }
def FileorderStreamsSaid : Prop := fileorderStreamsRow.holds Tryz.pinned (OpenSpec.ofChange fileorderStreamsSpec)

/-- ITS FALSE NEIGHBOUR: 'it returns false'. Refute it at one input. -/
def fileorderStreamsWrong : ChangeSpec := { name := "fileorderStreams", fn := fun _ => fun
  | [d1, d2] => { results := [.lit (.bool false)], args := [d1, d2] }
  | _ => none }
def FileorderStreamsWrongFalsely : Prop := fileorderStreamsRow.holds Tryz.pinned (OpenSpec.ofChange fileorderStreamsWrong)

/-- 'masterdisclaw47.FileorderWeighs': WHATEVER THE INPUT: true; the input reads as it did. -/
def fileorderWeighsSpec : ChangeSpec := { name := "fileorderWeighs", fn := fun _ => fun
  | [d] => { results := [.lit (.bool true)], args := [d] }
  | _ => none }
def fileorderWeighsRow : OpenClaim := { program := "ytocgindpjjolpaagreatdoor", sum := "96c906d9dc019ca83fa03f0dfb5c65294a4f0d5dd5e1acad659714288f995235", func := "masterdisc/masterdisclaw47.FileorderWeighs", spec := "fileorderWeighs", inPlace := ["internal/abi.NoEscape", "internal/bytealg.MakeNoZero", "internal/bytealg.IndexByteString", "internal/bytealg.IndexString", "internal/bytealg.CountString", "internal/bytealg.abigen_runtime_cmpstring"], unfollowed := true, recurses := true, named := ["internal/bytealg.MaxLen", "unicode/utf8.first", "unicode/utf8.acceptRanges"], loops := true, apart := false, laid := [("unicode/utf8.acceptRanges", laid_unicode_utf8_acceptRanges), ("unicode/utf8.first", laid_unicode_utf8_first)] }
def FileorderWeighsSaid : Prop := fileorderWeighsRow.holds Tryz.pinned (OpenSpec.ofChange fileorderWeighsSpec)

/-- ITS FALSE NEIGHBOUR: 'it returns false'. Refute it at one input. -/
def fileorderWeighsWrong : ChangeSpec := { name := "fileorderWeighs", fn := fun _ => fun
  | [d] => { results := [.lit (.bool false)], args := [d] }
  | _ => none }
def FileorderWeighsWrongFalsely : Prop := fileorderWeighsRow.holds Tryz.pinned (OpenSpec.ofChange fileorderWeighsWrong)

/-- 'masterdisclaw47.FileorderLeast': WHATEVER THE INPUT: true; the input reads as it did. -/
def fileorderLeastSpec : ChangeSpec := { name := "fileorderLeast", fn := fun _ => fun
  | [d1, d2, d3] => { results := [.lit (.bool true)], args := [d1, d2, d3] }
  | _ => none }
def fileorderLeastRow : OpenClaim := { program := "ytocgindpjjolpaagreatdoor", sum := "96c906d9dc019ca83fa03f0dfb5c65294a4f0d5dd5e1acad659714288f995235", func := "masterdisc/masterdisclaw47.FileorderLeast", spec := "fileorderLeast", inPlace := ["internal/abi.NoEscape", "internal/bytealg.MakeNoZero", "internal/bytealg.IndexByteString", "internal/bytealg.IndexString", "internal/bytealg.CountString", "internal/bytealg.abigen_runtime_cmpstring"], unfollowed := true, recurses := true, named := ["internal/bytealg.MaxLen", "unicode/utf8.first", "unicode/utf8.acceptRanges"], loops := true, apart := false, laid := [("unicode/utf8.acceptRanges", laid_unicode_utf8_acceptRanges), ("unicode/utf8.first", laid_unicode_utf8_first)] }
def FileorderLeastSaid : Prop := fileorderLeastRow.holds Tryz.pinned (OpenSpec.ofChange fileorderLeastSpec)

/-- ITS FALSE NEIGHBOUR: 'it returns false'. Refute it at one input. -/
def fileorderLeastWrong : ChangeSpec := { name := "fileorderLeast", fn := fun _ => fun
  | [d1, d2, d3] => { results := [.lit (.bool false)], args := [d1, d2, d3] }
  | _ => none }
def FileorderLeastWrongFalsely : Prop := fileorderLeastRow.holds Tryz.pinned (OpenSpec.ofChange fileorderLeastWrong)

/-- 'masterdisclaw47.FileorderGaps': WHATEVER THE INPUT: true; the input reads as it did. -/
def fileorderGapsSpec : ChangeSpec := { name := "fileorderGaps", fn := fun _ => fun
  | [d1, d2, d3] => { results := [.lit (.bool true)], args := [d1, d2, d3] }
  | _ => none }
def fileorderGapsRow : OpenClaim := { program := "ytocgindpjjolpaagreatdoor", sum := "96c906d9dc019ca83fa03f0dfb5c65294a4f0d5dd5e1acad659714288f995235", func := "masterdisc/masterdisclaw47.FileorderGaps", spec := "fileorderGaps", inPlace := ["internal/abi.NoEscape", "internal/bytealg.MakeNoZero", "internal/bytealg.IndexByteString", "internal/bytealg.IndexString", "internal/bytealg.CountString", "internal/bytealg.abigen_runtime_cmpstring"], unfollowed := true, recurses := true, named := ["internal/bytealg.MaxLen", "unicode/utf8.first", "unicode/utf8.acceptRanges"], loops := true, apart := false, laid := [("unicode/utf8.acceptRanges", laid_unicode_utf8_acceptRanges), ("unicode/utf8.first", laid_unicode_utf8_first)] }
def FileorderGapsSaid : Prop := fileorderGapsRow.holds Tryz.pinned (OpenSpec.ofChange fileorderGapsSpec)

/-- ITS FALSE NEIGHBOUR: 'it returns false'. Refute it at one input. -/
def fileorderGapsWrong : ChangeSpec := { name := "fileorderGaps", fn := fun _ => fun
  | [d1, d2, d3] => { results := [.lit (.bool false)], args := [d1, d2, d3] }
  | _ => none }
def FileorderGapsWrongFalsely : Prop := fileorderGapsRow.holds Tryz.pinned (OpenSpec.ofChange fileorderGapsWrong)

/- THE SECOND FORM. 'bulk': how many values and letters a reading holds, each counted each time it is reached (what is shared counts as often as it is met; a slice's spare places count too). A statement '..UptoSaid' is the law's where the arguments, and the package variables that the reading takes, are together of bulk at most 1048576: NARROWER than '..Said'. Prove '..Said' where nothing that the law and all that it calls make is longer than what came in: it says more and counts as full. Else prove '..UptoSaid'. A law counts once. -/
mutual
def uptoBulk {H : Type} : DataW H → Nat
  | .lit (.string bytes) => bytes.length + 1
  | .lit _ => 1
  | .nil => 1
  | .ptr d => uptoBulk d + 1
  | .slice elems spare => uptoBulkAll elems + uptoBulkAll spare + 1
  | .agg parts => uptoBulkAll parts + 1
  | .iface _ d => uptoBulk d + 1
  | .map entries => uptoBulkEntries entries + 1
  | .held _ => 1
def uptoBulkAll {H : Type} : List (DataW H) → Nat
  | [] => 0
  | d :: r => uptoBulk d + uptoBulkAll r
def uptoBulkEntries {H : Type} : List (Lit × DataW H) → Nat
  | [] => 0
  | x :: r => uptoBulkEntry x + uptoBulkEntries r
def uptoBulkEntry {H : Type} : Lit × DataW H → Nat
  | (.string bytes, d) => bytes.length + uptoBulk d + 1
  | (_, d) => uptoBulk d + 1
 end
def uptoSmall : (H : Type) → List (DataW H) → Bool := fun _ ds => decide (uptoBulkAll ds ≤ 1048576)
def OpenSpec.upto (s : _root_.Go.ChangeSpec) : _root_.Go.OpenSpec := { _root_.Go.OpenSpec.ofChange s with cond := some uptoSmall }

/-- 'masterdisclaw47.FileorderOrders', WHERE WHAT IT READS IS OF BULK AT MOST 1048576: true; the input reads as it did. -/
def fileorderOrdersUptoRow : OpenClaim := { program := "ytocgindpjjolpaagreatdoor", sum := "96c906d9dc019ca83fa03f0dfb5c65294a4f0d5dd5e1acad659714288f995235", func := "masterdisc/masterdisclaw47.FileorderOrders", spec := "fileorderOrders", inPlace := ["internal/abi.NoEscape", "internal/bytealg.MakeNoZero", "internal/bytealg.IndexByteString", "internal/bytealg.IndexString", "internal/bytealg.CountString", "internal/bytealg.abigen_runtime_cmpstring"], unfollowed := true, recurses := true, named := ["internal/bytealg.MaxLen", "unicode/utf8.first", "unicode/utf8.acceptRanges"], loops := true, apart := false, laid := [("unicode/utf8.acceptRanges", laid_unicode_utf8_acceptRanges), ("unicode/utf8.first", laid_unicode_utf8_first)], narrowed := true }
def FileorderOrdersUptoSaid : Prop := fileorderOrdersUptoRow.holds Tryz.pinned (OpenSpec.upto fileorderOrdersSpec)

/-- 'masterdisclaw47.FileorderPlaces', WHERE WHAT IT READS IS OF BULK AT MOST 1048576: true; the input reads as it did. -/
def fileorderPlacesUptoRow : OpenClaim := { program := "ytocgindpjjolpaagreatdoor", sum := "96c906d9dc019ca83fa03f0dfb5c65294a4f0d5dd5e1acad659714288f995235", func := "masterdisc/masterdisclaw47.FileorderPlaces", spec := "fileorderPlaces", inPlace := ["internal/abi.NoEscape", "internal/bytealg.MakeNoZero", "internal/bytealg.IndexByteString", "internal/bytealg.IndexString", "internal/bytealg.CountString", "internal/bytealg.abigen_runtime_cmpstring"], unfollowed := true, recurses := true, named := ["internal/bytealg.MaxLen", "unicode/utf8.first", "unicode/utf8.acceptRanges"], loops := true, apart := false, laid := [("unicode/utf8.acceptRanges", laid_unicode_utf8_acceptRanges), ("unicode/utf8.first", laid_unicode_utf8_first)], narrowed := true }
def FileorderPlacesUptoSaid : Prop := fileorderPlacesUptoRow.holds Tryz.pinned (OpenSpec.upto fileorderPlacesSpec)

/-- 'masterdisclaw47.FileorderCosts', WHERE WHAT IT READS IS OF BULK AT MOST 1048576: true; the input reads as it did. -/
def fileorderCostsUptoRow : OpenClaim := { program := "ytocgindpjjolpaagreatdoor", sum := "96c906d9dc019ca83fa03f0dfb5c65294a4f0d5dd5e1acad659714288f995235", func := "masterdisc/masterdisclaw47.FileorderCosts", spec := "fileorderCosts", inPlace := ["internal/abi.NoEscape", "internal/bytealg.MakeNoZero", "internal/bytealg.IndexByteString", "internal/bytealg.IndexString", "internal/bytealg.CountString", "internal/bytealg.abigen_runtime_cmpstring"], unfollowed := true, recurses := true, named := ["internal/bytealg.MaxLen", "unicode/utf8.first", "unicode/utf8.acceptRanges"], apart := false, laid := [("unicode/utf8.acceptRanges", laid_unicode_utf8_acceptRanges), ("unicode/utf8.first", laid_unicode_utf8_first)], narrowed := true }
def FileorderCostsUptoSaid : Prop := fileorderCostsUptoRow.holds Tryz.pinned (OpenSpec.upto fileorderCostsSpec)

/-- 'masterdisclaw47.FileorderSearches', WHERE WHAT IT READS IS OF BULK AT MOST 1048576: true; the input reads as it did. -/
def fileorderSearchesUptoRow : OpenClaim := { program := "ytocgindpjjolpaagreatdoor", sum := "96c906d9dc019ca83fa03f0dfb5c65294a4f0d5dd5e1acad659714288f995235", func := "masterdisc/masterdisclaw47.FileorderSearches", spec := "fileorderSearches", inPlace := ["internal/abi.NoEscape", "internal/bytealg.MakeNoZero", "internal/bytealg.IndexByteString", "internal/bytealg.IndexString", "internal/bytealg.CountString", "internal/bytealg.abigen_runtime_cmpstring"], unfollowed := true, recurses := true, named := ["internal/bytealg.MaxLen", "unicode/utf8.first", "unicode/utf8.acceptRanges"], loops := true, apart := false, laid := [("unicode/utf8.acceptRanges", laid_unicode_utf8_acceptRanges), ("unicode/utf8.first", laid_unicode_utf8_first)], narrowed := true }
def FileorderSearchesUptoSaid : Prop := fileorderSearchesUptoRow.holds Tryz.pinned (OpenSpec.upto fileorderSearchesSpec)

/-- 'masterdisclaw47.FileorderStreams', WHERE WHAT IT READS IS OF BULK AT MOST 1048576: true; the input reads as it did. -/
def fileorderStreamsUptoRow : OpenClaim := { program := "ytocgindpjjolpaagreatdoor", sum := "96c906d9dc019ca83fa03f0dfb5c65294a4f0d5dd5e1acad659714288f995235", func := "masterdisc/masterdisclaw47.FileorderStreams", spec := "fileorderStreams", inPlace := ["internal/abi.NoEscape", "internal/bytealg.MakeNoZero", "internal/bytealg.IndexByteString", "internal/bytealg.IndexString", "internal/bytealg.CountString", "internal/bytealg.abigen_runtime_cmpstring"], unfollowed := true, recurses := true, named := ["internal/bytealg.MaxLen", "unicode/utf8.first", "unicode/utf8.acceptRanges"], loops := true, apart := false, laid := [("unicode/utf8.acceptRanges", laid_unicode_utf8_acceptRanges), ("unicode/utf8.first", laid_unicode_utf8_first)], narrowed := true }
def FileorderStreamsUptoSaid : Prop := fileorderStreamsUptoRow.holds Tryz.pinned (OpenSpec.upto fileorderStreamsSpec)

/-- 'masterdisclaw47.FileorderWeighs', WHERE WHAT IT READS IS OF BULK AT MOST 1048576: true; the input reads as it did. -/
def fileorderWeighsUptoRow : OpenClaim := { program := "ytocgindpjjolpaagreatdoor", sum := "96c906d9dc019ca83fa03f0dfb5c65294a4f0d5dd5e1acad659714288f995235", func := "masterdisc/masterdisclaw47.FileorderWeighs", spec := "fileorderWeighs", inPlace := ["internal/abi.NoEscape", "internal/bytealg.MakeNoZero", "internal/bytealg.IndexByteString", "internal/bytealg.IndexString", "internal/bytealg.CountString", "internal/bytealg.abigen_runtime_cmpstring"], unfollowed := true, recurses := true, named := ["internal/bytealg.MaxLen", "unicode/utf8.first", "unicode/utf8.acceptRanges"], loops := true, apart := false, laid := [("unicode/utf8.acceptRanges", laid_unicode_utf8_acceptRanges), ("unicode/utf8.first", laid_unicode_utf8_first)], narrowed := true }
def FileorderWeighsUptoSaid : Prop := fileorderWeighsUptoRow.holds Tryz.pinned (OpenSpec.upto fileorderWeighsSpec)

/-- 'masterdisclaw47.FileorderLeast', WHERE WHAT IT READS IS OF BULK AT MOST 1048576: true; the input reads as it did. -/
def fileorderLeastUptoRow : OpenClaim := { program := "ytocgindpjjolpaagreatdoor", sum := "96c906d9dc019ca83fa03f0dfb5c65294a4f0d5dd5e1acad659714288f995235", func := "masterdisc/masterdisclaw47.FileorderLeast", spec := "fileorderLeast", inPlace := ["internal/abi.NoEscape", "internal/bytealg.MakeNoZero", "internal/bytealg.IndexByteString", "internal/bytealg.IndexString", "internal/bytealg.CountString", "internal/bytealg.abigen_runtime_cmpstring"], unfollowed := true, recurses := true, named := ["internal/bytealg.MaxLen", "unicode/utf8.first", "unicode/utf8.acceptRanges"], loops := true, apart := false, laid := [("unicode/utf8.acceptRanges", laid_unicode_utf8_acceptRanges), ("unicode/utf8.first", laid_unicode_utf8_first)], narrowed := true }
def FileorderLeastUptoSaid : Prop := fileorderLeastUptoRow.holds Tryz.pinned (OpenSpec.upto fileorderLeastSpec)

/-- 'masterdisclaw47.FileorderGaps', WHERE WHAT IT READS IS OF BULK AT MOST 1048576: true; the input reads as it did. -/
def fileorderGapsUptoRow : OpenClaim := { program := "ytocgindpjjolpaagreatdoor", sum := "96c906d9dc019ca83fa03f0dfb5c65294a4f0d5dd5e1acad659714288f995235", func := "masterdisc/masterdisclaw47.FileorderGaps", spec := "fileorderGaps", inPlace := ["internal/abi.NoEscape", "internal/bytealg.MakeNoZero", "internal/bytealg.IndexByteString", "internal/bytealg.IndexString", "internal/bytealg.CountString", "internal/bytealg.abigen_runtime_cmpstring"], unfollowed := true, recurses := true, named := ["internal/bytealg.MaxLen", "unicode/utf8.first", "unicode/utf8.acceptRanges"], loops := true, apart := false, laid := [("unicode/utf8.acceptRanges", laid_unicode_utf8_acceptRanges), ("unicode/utf8.first", laid_unicode_utf8_first)], narrowed := true }
def FileorderGapsUptoSaid : Prop := fileorderGapsUptoRow.holds Tryz.pinned (OpenSpec.upto fileorderGapsSpec)

end Rows
end Go.Proofs.YtocgindpjjolpaaGreatDoor
