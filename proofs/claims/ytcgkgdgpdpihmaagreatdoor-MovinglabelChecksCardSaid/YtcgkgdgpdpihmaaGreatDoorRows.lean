/-
  NARROWER THAN 'FOR EVERY INPUT', by the rows' own cells (each row's printed sentence says how): MovinglabelChecks: laid · MovinglabelNormal: laid · MovinglabelFollows: laid · MovinglabelVisits: laid · MovinglabelShifts: laid · MovinglabelMakes: laid · MovinglabelCompares: laid · MovinglabelPatches: laid · MovinglabelCombines: laid · MovinglabelValues: laid.
  DERIVED. THE GIVEN ROWS OF THIS SEAT. 10 by the template 'for every input the law returns true; each argument reads behind the call as it read before'; 0 by the template 'total and deterministic' (their statements: YtcgkgdgpdpihmaaGreatDoorTotals.lean).
  GIVEN WITH THE SEED: the statements are not yours to turn. If you find one false, say at which input.
  Laid BY PROGRAM, IN A SANDBOX (cutbox-rows.mjs): the forced cells as the released guide's own fill.sh prints them over the translation 5b7b265f47be0f34… (all of the seat's roots in one cut). By AI agents, Wed Nov 11 2026. No macro, syntax, notation, axiom, sorry.
-/
import Derived.Test.YtcgkgdgpdpihmaaGreatDoorChecked
import GoSem.PinnedTables
import GoSem.Claim
import GoSem.ClaimJoined
import GoSem.ClaimMapViews
import Derived.JoinedTies
import Derived.KernelRfl
namespace Go.Proofs.YtcgkgdgpdpihmaaGreatDoor
/- THE CELL 'sum', in the pinned program and in every row, IS THE sha256 OF THE DUMP (.gsa) THAT YtcgkgdgpdpihmaaGreatDoorProg.lean LOADS. Nothing in Lean hashes anything: it is a label: what it is worth is what the hold of that sum in a sandbox is worth. -/
noncomputable def Tryz.pinned : Pinned := { name := "ytcgkgdgpdpihmaagreatdoor", sum := "5b7b265f47be0f34e3b5f22b85defbfff8d10e2451cc82f2c5300c941b51f751", checked := Tryz.checked }
namespace Rows
def none {H : Type} : Left H := { results := [], args := [] }

/- WHAT THE LISTED PACKAGE-LEVEL VARIABLES READ AS WHEN THE CALL BEGINS. Each datum BY PROGRAM (the guide's laid-datum.mjs) off the statement by which the dump's own 'gosem.cut.vars' lays the variable. In a bare row this is a premise. The card (YtcgkgdgpdpihmaaGreatDoorCards.lean) ties it to the program's text. -/
def laid_unicode_utf8_acceptRanges {H : Type} : DataW H := .agg [.agg [.lit (.int .u8 128), .lit (.int .u8 191)], .agg [.lit (.int .u8 160), .lit (.int .u8 191)], .agg [.lit (.int .u8 128), .lit (.int .u8 159)], .agg [.lit (.int .u8 144), .lit (.int .u8 191)], .agg [.lit (.int .u8 128), .lit (.int .u8 143)], .agg [.lit (.int .u8 0), .lit (.int .u8 0)], .agg [.lit (.int .u8 0), .lit (.int .u8 0)], .agg [.lit (.int .u8 0), .lit (.int .u8 0)], .agg [.lit (.int .u8 0), .lit (.int .u8 0)], .agg [.lit (.int .u8 0), .lit (.int .u8 0)], .agg [.lit (.int .u8 0), .lit (.int .u8 0)], .agg [.lit (.int .u8 0), .lit (.int .u8 0)], .agg [.lit (.int .u8 0), .lit (.int .u8 0)], .agg [.lit (.int .u8 0), .lit (.int .u8 0)], .agg [.lit (.int .u8 0), .lit (.int .u8 0)], .agg [.lit (.int .u8 0), .lit (.int .u8 0)]]
def laid_viator_movinglabel_rules {H : Type} : DataW H := .agg []
/-- One of Go's own tables, pinned by name: the form's constant. -/
def laid_unicode_utf8_first : DataW Unit := Go.Pinned.utf8First

/-- 'viatorlaw16.MovinglabelChecks': WHATEVER THE INPUT: true; the input reads as it did. -/
def movinglabelChecksSpec : ChangeSpec := { name := "movinglabelChecks", fn := fun _ => fun
  | [d1, d2] => { results := [.lit (.bool true)], args := [d1, d2] }
  | _ => none }
def movinglabelChecksRow : OpenClaim := { program := "ytcgkgdgpdpihmaagreatdoor", sum := "5b7b265f47be0f34e3b5f22b85defbfff8d10e2451cc82f2c5300c941b51f751", func := "viator/viatorlaw16.MovinglabelChecks", spec := "movinglabelChecks", inPlace := ["internal/bytealg.IndexByteString", "internal/bytealg.IndexString", "math/bits.Add64", "internal/bytealg.abigen_runtime_cmpstring", "internal/abi.NoEscape", "internal/bytealg.MakeNoZero"], unfollowed := true, recurses := true, named := ["unicode/utf8.first", "unicode/utf8.acceptRanges", "viator/movinglabel.rules", "internal/bytealg.MaxLen"], apart := false, laid := [("unicode/utf8.acceptRanges", laid_unicode_utf8_acceptRanges), ("viator/movinglabel.rules", laid_viator_movinglabel_rules), ("unicode/utf8.first", laid_unicode_utf8_first)] }
def MovinglabelChecksSaid : Prop := movinglabelChecksRow.holds Tryz.pinned (OpenSpec.ofChange movinglabelChecksSpec)

/-- ITS FALSE NEIGHBOUR: 'it returns false'. Refute it at one input. -/
def movinglabelChecksWrong : ChangeSpec := { name := "movinglabelChecks", fn := fun _ => fun
  | [d1, d2] => { results := [.lit (.bool false)], args := [d1, d2] }
  | _ => none }
def MovinglabelChecksWrongFalsely : Prop := movinglabelChecksRow.holds Tryz.pinned (OpenSpec.ofChange movinglabelChecksWrong)

/-- 'viatorlaw16.MovinglabelNormal': WHATEVER THE INPUT: true; the input reads as it did. -/
def movinglabelNormalSpec : ChangeSpec := { name := "movinglabelNormal", fn := fun _ => fun
  | [d] => { results := [.lit (.bool true)], args := [d] }
  | _ => none }
def movinglabelNormalRow : OpenClaim := { program := "ytcgkgdgpdpihmaagreatdoor", sum := "5b7b265f47be0f34e3b5f22b85defbfff8d10e2451cc82f2c5300c941b51f751", func := "viator/viatorlaw16.MovinglabelNormal", spec := "movinglabelNormal", inPlace := ["internal/bytealg.IndexByteString", "internal/bytealg.IndexString", "math/bits.Add64", "internal/bytealg.abigen_runtime_cmpstring", "internal/abi.NoEscape", "internal/bytealg.MakeNoZero"], unfollowed := true, recurses := true, named := ["viator/movinglabel.rules", "unicode/utf8.first", "unicode/utf8.acceptRanges", "internal/bytealg.MaxLen"], apart := false, laid := [("unicode/utf8.acceptRanges", laid_unicode_utf8_acceptRanges), ("viator/movinglabel.rules", laid_viator_movinglabel_rules), ("unicode/utf8.first", laid_unicode_utf8_first)] }
def MovinglabelNormalSaid : Prop := movinglabelNormalRow.holds Tryz.pinned (OpenSpec.ofChange movinglabelNormalSpec)

/-- ITS FALSE NEIGHBOUR: 'it returns false'. Refute it at one input. -/
def movinglabelNormalWrong : ChangeSpec := { name := "movinglabelNormal", fn := fun _ => fun
  | [d] => { results := [.lit (.bool false)], args := [d] }
  | _ => none }
def MovinglabelNormalWrongFalsely : Prop := movinglabelNormalRow.holds Tryz.pinned (OpenSpec.ofChange movinglabelNormalWrong)

/-- 'viatorlaw16.MovinglabelFollows': WHATEVER THE INPUT: true; the input reads as it did. -/
def movinglabelFollowsSpec : ChangeSpec := { name := "movinglabelFollows", fn := fun _ => fun
  | [d1, d2, d3] => { results := [.lit (.bool true)], args := [d1, d2, d3] }
  | _ => none }
def movinglabelFollowsRow : OpenClaim := { program := "ytcgkgdgpdpihmaagreatdoor", sum := "5b7b265f47be0f34e3b5f22b85defbfff8d10e2451cc82f2c5300c941b51f751", func := "viator/viatorlaw16.MovinglabelFollows", spec := "movinglabelFollows", inPlace := ["internal/bytealg.IndexByteString", "internal/bytealg.IndexString", "math/bits.Add64", "internal/bytealg.abigen_runtime_cmpstring", "internal/abi.NoEscape", "internal/bytealg.MakeNoZero"], unfollowed := true, recurses := true, named := ["unicode/utf8.first", "unicode/utf8.acceptRanges", "viator/movinglabel.rules", "internal/bytealg.MaxLen"], apart := false, laid := [("unicode/utf8.acceptRanges", laid_unicode_utf8_acceptRanges), ("viator/movinglabel.rules", laid_viator_movinglabel_rules), ("unicode/utf8.first", laid_unicode_utf8_first)] }
def MovinglabelFollowsSaid : Prop := movinglabelFollowsRow.holds Tryz.pinned (OpenSpec.ofChange movinglabelFollowsSpec)

/-- ITS FALSE NEIGHBOUR: 'it returns false'. Refute it at one input. -/
def movinglabelFollowsWrong : ChangeSpec := { name := "movinglabelFollows", fn := fun _ => fun
  | [d1, d2, d3] => { results := [.lit (.bool false)], args := [d1, d2, d3] }
  | _ => none }
def MovinglabelFollowsWrongFalsely : Prop := movinglabelFollowsRow.holds Tryz.pinned (OpenSpec.ofChange movinglabelFollowsWrong)

/-- 'viatorlaw16.MovinglabelVisits': WHATEVER THE INPUT: true; the input reads as it did. -/
def movinglabelVisitsSpec : ChangeSpec := { name := "movinglabelVisits", fn := fun _ => fun
  | [d1, d2] => { results := [.lit (.bool true)], args := [d1, d2] }
  | _ => none }
def movinglabelVisitsRow : OpenClaim := { program := "ytcgkgdgpdpihmaagreatdoor", sum := "5b7b265f47be0f34e3b5f22b85defbfff8d10e2451cc82f2c5300c941b51f751", func := "viator/viatorlaw16.MovinglabelVisits", spec := "movinglabelVisits", inPlace := ["internal/bytealg.IndexByteString", "internal/bytealg.IndexString", "math/bits.Add64", "internal/bytealg.abigen_runtime_cmpstring", "internal/abi.NoEscape", "internal/bytealg.MakeNoZero"], unfollowed := true, recurses := true, named := ["unicode/utf8.first", "unicode/utf8.acceptRanges", "viator/movinglabel.rules", "internal/bytealg.MaxLen"], apart := false, laid := [("unicode/utf8.acceptRanges", laid_unicode_utf8_acceptRanges), ("viator/movinglabel.rules", laid_viator_movinglabel_rules), ("unicode/utf8.first", laid_unicode_utf8_first)] }
def MovinglabelVisitsSaid : Prop := movinglabelVisitsRow.holds Tryz.pinned (OpenSpec.ofChange movinglabelVisitsSpec)

/-- ITS FALSE NEIGHBOUR: 'it returns false'. Refute it at one input. -/
def movinglabelVisitsWrong : ChangeSpec := { name := "movinglabelVisits", fn := fun _ => fun
  | [d1, d2] => { results := [.lit (.bool false)], args := [d1, d2] }
  | _ => none }
def MovinglabelVisitsWrongFalsely : Prop := movinglabelVisitsRow.holds Tryz.pinned (OpenSpec.ofChange movinglabelVisitsWrong)

/-- 'viatorlaw16.MovinglabelShifts': WHATEVER THE INPUT: true; the input reads as it did. -/
def movinglabelShiftsSpec : ChangeSpec := { name := "movinglabelShifts", fn := fun _ => fun
  | [d1, d2, d3] => { results := [.lit (.bool true)], args := [d1, d2, d3] }
  | _ => none }
def movinglabelShiftsRow : OpenClaim := { program := "ytcgkgdgpdpihmaagreatdoor", sum := "5b7b265f47be0f34e3b5f22b85defbfff8d10e2451cc82f2c5300c941b51f751", func := "viator/viatorlaw16.MovinglabelShifts", spec := "movinglabelShifts", inPlace := ["internal/bytealg.IndexByteString", "internal/bytealg.IndexString", "math/bits.Add64", "internal/bytealg.abigen_runtime_cmpstring", "internal/abi.NoEscape", "internal/bytealg.MakeNoZero"], unfollowed := true, recurses := true, named := ["viator/movinglabel.rules", "unicode/utf8.first", "unicode/utf8.acceptRanges", "internal/bytealg.MaxLen"], apart := false, laid := [("unicode/utf8.acceptRanges", laid_unicode_utf8_acceptRanges), ("viator/movinglabel.rules", laid_viator_movinglabel_rules), ("unicode/utf8.first", laid_unicode_utf8_first)] }
def MovinglabelShiftsSaid : Prop := movinglabelShiftsRow.holds Tryz.pinned (OpenSpec.ofChange movinglabelShiftsSpec)

/-- ITS FALSE NEIGHBOUR: 'it returns false'. Refute it at one input. -/
def movinglabelShiftsWrong : ChangeSpec := { name := "movinglabelShifts", fn := fun _ => fun
  | [d1, d2, d3] => { results := [.lit (.bool false)], args := [d1, d2, d3] }
  | _ => none }
def MovinglabelShiftsWrongFalsely : Prop := movinglabelShiftsRow.holds Tryz.pinned (OpenSpec.ofChange movinglabelShiftsWrong)

/-- 'viatorlaw16.MovinglabelMakes': WHATEVER THE INPUT: true; the input reads as it did. -/
def movinglabelMakesSpec : ChangeSpec := { name := "movinglabelMakes", fn := fun _ => fun
  | [d1, d2, d3] => { results := [.lit (.bool true)], args := [d1, d2, d3] }
  | _ => none }
def movinglabelMakesRow : OpenClaim := { program := "ytcgkgdgpdpihmaagreatdoor", sum := "5b7b265f47be0f34e3b5f22b85defbfff8d10e2451cc82f2c5300c941b51f751", func := "viator/viatorlaw16.MovinglabelMakes", spec := "movinglabelMakes", inPlace := ["internal/bytealg.IndexByteString", "internal/bytealg.IndexString", "math/bits.Add64", "internal/bytealg.abigen_runtime_cmpstring", "internal/abi.NoEscape", "internal/bytealg.MakeNoZero"], unfollowed := true, recurses := true, named := ["unicode/utf8.first", "unicode/utf8.acceptRanges", "viator/movinglabel.rules", "internal/bytealg.MaxLen"], apart := false, laid := [("unicode/utf8.acceptRanges", laid_unicode_utf8_acceptRanges), ("viator/movinglabel.rules", laid_viator_movinglabel_rules), ("unicode/utf8.first", laid_unicode_utf8_first)] }
def MovinglabelMakesSaid : Prop := movinglabelMakesRow.holds Tryz.pinned (OpenSpec.ofChange movinglabelMakesSpec)

/-- ITS FALSE NEIGHBOUR: 'it returns false'. Refute it at one input. -/
def movinglabelMakesWrong : ChangeSpec := { name := "movinglabelMakes", fn := fun _ => fun
  | [d1, d2, d3] => { results := [.lit (.bool false)], args := [d1, d2, d3] }
  | _ => none }
def MovinglabelMakesWrongFalsely : Prop := movinglabelMakesRow.holds Tryz.pinned (OpenSpec.ofChange movinglabelMakesWrong)

/-- 'viatorlaw16.MovinglabelCompares': WHATEVER THE INPUT: true; the input reads as it did. -/
def movinglabelComparesSpec : ChangeSpec := { name := "movinglabelCompares", fn := fun _ => fun
  | [d1, d2, d3] => { results := [.lit (.bool true)], args := [d1, d2, d3] }
  | _ => none }
def movinglabelComparesRow : OpenClaim := { program := "ytcgkgdgpdpihmaagreatdoor", sum := "5b7b265f47be0f34e3b5f22b85defbfff8d10e2451cc82f2c5300c941b51f751", func := "viator/viatorlaw16.MovinglabelCompares", spec := "movinglabelCompares", inPlace := ["internal/bytealg.IndexByteString", "internal/bytealg.IndexString", "math/bits.Add64", "internal/bytealg.abigen_runtime_cmpstring", "internal/abi.NoEscape", "internal/bytealg.MakeNoZero"], unfollowed := true, recurses := true, named := ["unicode/utf8.first", "unicode/utf8.acceptRanges", "viator/movinglabel.rules", "internal/bytealg.MaxLen"], apart := false, laid := [("unicode/utf8.acceptRanges", laid_unicode_utf8_acceptRanges), ("viator/movinglabel.rules", laid_viator_movinglabel_rules), ("unicode/utf8.first", laid_unicode_utf8_first)] }
def MovinglabelComparesSaid : Prop := movinglabelComparesRow.holds Tryz.pinned (OpenSpec.ofChange movinglabelComparesSpec)

/-- ITS FALSE NEIGHBOUR: 'it returns false'. Refute it at one input. -/
def movinglabelComparesWrong : ChangeSpec := { name := "movinglabelCompares", fn := fun _ => fun
  | [d1, d2, d3] => { results := [.lit (.bool false)], args := [d1, d2, d3] }
  | _ => none }
def MovinglabelComparesWrongFalsely : Prop := movinglabelComparesRow.holds Tryz.pinned (OpenSpec.ofChange movinglabelComparesWrong)

/-- 'viatorlaw16.MovinglabelPatches': WHATEVER THE INPUT: true; the input reads as it did. -/
def movinglabelPatchesSpec : ChangeSpec := { name := "movinglabelPatches", fn := fun _ => fun
  | [d1, d2, d3] => { results := [.lit (.bool true)], args := [d1, d2, d3] }
  | _ => none }
def movinglabelPatchesRow : OpenClaim := { program := "ytcgkgdgpdpihmaagreatdoor", sum := "5b7b265f47be0f34e3b5f22b85defbfff8d10e2451cc82f2c5300c941b51f751", func := "viator/viatorlaw16.MovinglabelPatches", spec := "movinglabelPatches", inPlace := ["internal/bytealg.IndexByteString", "internal/bytealg.IndexString", "math/bits.Add64", "internal/bytealg.abigen_runtime_cmpstring", "internal/abi.NoEscape", "internal/bytealg.MakeNoZero"], unfollowed := true, recurses := true, named := ["viator/movinglabel.rules", "unicode/utf8.first", "unicode/utf8.acceptRanges", "internal/bytealg.MaxLen"], apart := false, laid := [("unicode/utf8.acceptRanges", laid_unicode_utf8_acceptRanges), ("viator/movinglabel.rules", laid_viator_movinglabel_rules), ("unicode/utf8.first", laid_unicode_utf8_first)] }
def MovinglabelPatchesSaid : Prop := movinglabelPatchesRow.holds Tryz.pinned (OpenSpec.ofChange movinglabelPatchesSpec)

/-- ITS FALSE NEIGHBOUR: 'it returns false'. Refute it at one input. -/
def movinglabelPatchesWrong : ChangeSpec := { name := "movinglabelPatches", fn := fun _ => fun
  | [d1, d2, d3] => { results := [.lit (.bool false)], args := [d1, d2, d3] }
  | _ => none }
def MovinglabelPatchesWrongFalsely : Prop := movinglabelPatchesRow.holds Tryz.pinned (OpenSpec.ofChange movinglabelPatchesWrong)

/-- 'viatorlaw16.MovinglabelCombines': WHATEVER THE INPUT: true; the input reads as it did. -/
def movinglabelCombinesSpec : ChangeSpec := { name := "movinglabelCombines", fn := fun _ => fun
  | [d1, d2] => { results := [.lit (.bool true)], args := [d1, d2] }
  | _ => none }
def movinglabelCombinesRow : OpenClaim := { program := "ytcgkgdgpdpihmaagreatdoor", sum := "5b7b265f47be0f34e3b5f22b85defbfff8d10e2451cc82f2c5300c941b51f751", func := "viator/viatorlaw16.MovinglabelCombines", spec := "movinglabelCombines", inPlace := ["internal/bytealg.IndexByteString", "internal/bytealg.IndexString", "math/bits.Add64", "internal/bytealg.abigen_runtime_cmpstring", "internal/abi.NoEscape", "internal/bytealg.MakeNoZero"], unfollowed := true, recurses := true, named := ["viator/movinglabel.rules", "unicode/utf8.first", "unicode/utf8.acceptRanges", "internal/bytealg.MaxLen"], apart := false, laid := [("unicode/utf8.acceptRanges", laid_unicode_utf8_acceptRanges), ("viator/movinglabel.rules", laid_viator_movinglabel_rules), ("unicode/utf8.first", laid_unicode_utf8_first)] }
def MovinglabelCombinesSaid : Prop := movinglabelCombinesRow.holds Tryz.pinned (OpenSpec.ofChange movinglabelCombinesSpec)

/-- ITS FALSE NEIGHBOUR: 'it returns false'. Refute it at one input. -/
def movinglabelCombinesWrong : ChangeSpec := { name := "movinglabelCombines", fn := fun _ => fun
  | [d1, d2] => { results := [.lit (.bool false)], args := [d1, d2] }
  | _ => none }
def MovinglabelCombinesWrongFalsely : Prop := movinglabelCombinesRow.holds Tryz.pinned (OpenSpec.ofChange movinglabelCombinesWrong)

/-- 'viatorlaw16.MovinglabelValues': WHATEVER THE INPUT: true; the input reads as it did. -/
def movinglabelValuesSpec : ChangeSpec := { name := "movinglabelValues", fn := fun _ => fun
  | [d1, d2, d3] => { results := [.lit (.bool true)], args := [d1, d2, d3] }
  | _ => none }
def movinglabelValuesRow : OpenClaim := { program := "ytcgkgdgpdpihmaagreatdoor", sum := "5b7b265f47be0f34e3b5f22b85defbfff8d10e2451cc82f2c5300c941b51f751", func := "viator/viatorlaw16.MovinglabelValues", spec := "movinglabelValues", inPlace := ["internal/bytealg.IndexByteString", "internal/bytealg.IndexString", "math/bits.Add64", "internal/bytealg.abigen_runtime_cmpstring", "internal/abi.NoEscape", "internal/bytealg.MakeNoZero"], unfollowed := true, recurses := true, named := ["unicode/utf8.first", "unicode/utf8.acceptRanges", "viator/movinglabel.rules", "internal/bytealg.MaxLen"], apart := false, laid := [("unicode/utf8.acceptRanges", laid_unicode_utf8_acceptRanges), ("viator/movinglabel.rules", laid_viator_movinglabel_rules), ("unicode/utf8.first", laid_unicode_utf8_first)] }
def MovinglabelValuesSaid : Prop := movinglabelValuesRow.holds Tryz.pinned (OpenSpec.ofChange movinglabelValuesSpec)

/-- ITS FALSE NEIGHBOUR: 'it returns false'. Refute it at one input. -/
def movinglabelValuesWrong : ChangeSpec := { name := "movinglabelValues", fn := fun _ => fun
  | [d1, d2, d3] => { results := [.lit (.bool false)], args := [d1, d2, d3] }
  | _ => none }
def MovinglabelValuesWrongFalsely : Prop := movinglabelValuesRow.holds Tryz.pinned (OpenSpec.ofChange movinglabelValuesWrong)

/- THE SECOND FORM. 'bulk': how many values and letters a reading holds, each counted each time it is reached (what is shared counts as often as it is met; a slice's spare places count too). A statement '..UptoSaid' is the law's where the arguments, and the package variables that the reading takes, are together of bulk at most 1048576: NARROWER than '..Said'. Prove '..Said' where nothing that the law and all that it calls make is longer than what came in: it says more and counts as full. Else prove '..UptoSaid'. A law counts once. -/
mutual
def uptoBulk {H : Type} : DataW H → Nat
  | .lit (.string bytes) => bytes.length + 1
  | .lit _ => 1
  | .nil => 1
  | .ptr d => uptoBulk d + 1
  | .slice elems spare => uptoBulkAll elems + uptoBulkAll spare + 1
  | .agg parts => uptoBulkAll parts + 1
  | .iface _ d => uptoBulk d + 1
  | .map entries => uptoBulkEntries entries + 1
  | .held _ => 1
def uptoBulkAll {H : Type} : List (DataW H) → Nat
  | [] => 0
  | d :: r => uptoBulk d + uptoBulkAll r
def uptoBulkEntries {H : Type} : List (Lit × DataW H) → Nat
  | [] => 0
  | x :: r => uptoBulkEntry x + uptoBulkEntries r
def uptoBulkEntry {H : Type} : Lit × DataW H → Nat
  | (.string bytes, d) => bytes.length + uptoBulk d + 1
  | (_, d) => uptoBulk d + 1
 end
def uptoSmall : (H : Type) → List (DataW H) → Bool := fun _ ds => decide (uptoBulkAll ds ≤ 1048576)
def OpenSpec.upto (s : _root_.Go.ChangeSpec) : _root_.Go.OpenSpec := { _root_.Go.OpenSpec.ofChange s with cond := some uptoSmall }

/-- 'viatorlaw16.MovinglabelChecks', WHERE WHAT IT READS IS OF BULK AT MOST 1048576: true; the input reads as it did. -/
def movinglabelChecksUptoRow : OpenClaim := { program := "ytcgkgdgpdpihmaagreatdoor", sum := "5b7b265f47be0f34e3b5f22b85defbfff8d10e2451cc82f2c5300c941b51f751", func := "viator/viatorlaw16.MovinglabelChecks", spec := "movinglabelChecks", inPlace := ["internal/bytealg.IndexByteString", "internal/bytealg.IndexString", "math/bits.Add64", "internal/bytealg.abigen_runtime_cmpstring", "internal/abi.NoEscape", "internal/bytealg.MakeNoZero"], unfollowed := true, recurses := true, named := ["unicode/utf8.first", "unicode/utf8.acceptRanges", "viator/movinglabel.rules", "internal/bytealg.MaxLen"], apart := false, laid := [("unicode/utf8.acceptRanges", laid_unicode_utf8_acceptRanges), ("viator/movinglabel.rules", laid_viator_movinglabel_rules), ("unicode/utf8.first", laid_unicode_utf8_first)], narrowed := true }
def MovinglabelChecksUptoSaid : Prop := movinglabelChecksUptoRow.holds Tryz.pinned (OpenSpec.upto movinglabelChecksSpec)

/-- 'viatorlaw16.MovinglabelNormal', WHERE WHAT IT READS IS OF BULK AT MOST 1048576: true; the input reads as it did. -/
def movinglabelNormalUptoRow : OpenClaim := { program := "ytcgkgdgpdpihmaagreatdoor", sum := "5b7b265f47be0f34e3b5f22b85defbfff8d10e2451cc82f2c5300c941b51f751", func := "viator/viatorlaw16.MovinglabelNormal", spec := "movinglabelNormal", inPlace := ["internal/bytealg.IndexByteString", "internal/bytealg.IndexString", "math/bits.Add64", "internal/bytealg.abigen_runtime_cmpstring", "internal/abi.NoEscape", "internal/bytealg.MakeNoZero"], unfollowed := true, recurses := true, named := ["viator/movinglabel.rules", "unicode/utf8.first", "unicode/utf8.acceptRanges", "internal/bytealg.MaxLen"], apart := false, laid := [("unicode/utf8.acceptRanges", laid_unicode_utf8_acceptRanges), ("viator/movinglabel.rules", laid_viator_movinglabel_rules), ("unicode/utf8.first", laid_unicode_utf8_first)], narrowed := true }
def MovinglabelNormalUptoSaid : Prop := movinglabelNormalUptoRow.holds Tryz.pinned (OpenSpec.upto movinglabelNormalSpec)

/-- 'viatorlaw16.MovinglabelFollows', WHERE WHAT IT READS IS OF BULK AT MOST 1048576: true; the input reads as it did. -/
def movinglabelFollowsUptoRow : OpenClaim := { program := "ytcgkgdgpdpihmaagreatdoor", sum := "5b7b265f47be0f34e3b5f22b85defbfff8d10e2451cc82f2c5300c941b51f751", func := "viator/viatorlaw16.MovinglabelFollows", spec := "movinglabelFollows", inPlace := ["internal/bytealg.IndexByteString", "internal/bytealg.IndexString", "math/bits.Add64", "internal/bytealg.abigen_runtime_cmpstring", "internal/abi.NoEscape", "internal/bytealg.MakeNoZero"], unfollowed := true, recurses := true, named := ["unicode/utf8.first", "unicode/utf8.acceptRanges", "viator/movinglabel.rules", "internal/bytealg.MaxLen"], apart := false, laid := [("unicode/utf8.acceptRanges", laid_unicode_utf8_acceptRanges), ("viator/movinglabel.rules", laid_viator_movinglabel_rules), ("unicode/utf8.first", laid_unicode_utf8_first)], narrowed := true }
def MovinglabelFollowsUptoSaid : Prop := movinglabelFollowsUptoRow.holds Tryz.pinned (OpenSpec.upto movinglabelFollowsSpec)

/-- 'viatorlaw16.MovinglabelVisits', WHERE WHAT IT READS IS OF BULK AT MOST 1048576: true; the input reads as it did. -/
def movinglabelVisitsUptoRow : OpenClaim := { program := "ytcgkgdgpdpihmaagreatdoor", sum := "5b7b265f47be0f34e3b5f22b85defbfff8d10e2451cc82f2c5300c941b51f751", func := "viator/viatorlaw16.MovinglabelVisits", spec := "movinglabelVisits", inPlace := ["internal/bytealg.IndexByteString", "internal/bytealg.IndexString", "math/bits.Add64", "internal/bytealg.abigen_runtime_cmpstring", "internal/abi.NoEscape", "internal/bytealg.MakeNoZero"], unfollowed := true, recurses := true, named := ["unicode/utf8.first", "unicode/utf8.acceptRanges", "viator/movinglabel.rules", "internal/bytealg.MaxLen"], apart := false, laid := [("unicode/utf8.acceptRanges", laid_unicode_utf8_acceptRanges), ("viator/movinglabel.rules", laid_viator_movinglabel_rules), ("unicode/utf8.first", laid_unicode_utf8_first)], narrowed := true }
def MovinglabelVisitsUptoSaid : Prop := movinglabelVisitsUptoRow.holds Tryz.pinned (OpenSpec.upto movinglabelVisitsSpec)

/-- 'viatorlaw16.MovinglabelShifts', WHERE WHAT IT READS IS OF BULK AT MOST 1048576: true; the input reads as it did. -/
def movinglabelShiftsUptoRow : OpenClaim := { program := "ytcgkgdgpdpihmaagreatdoor", sum := "5b7b265f47be0f34e3b5f22b85defbfff8d10e2451cc82f2c5300c941b51f751", func := "viator/viatorlaw16.MovinglabelShifts", spec := "movinglabelShifts", inPlace := ["internal/bytealg.IndexByteString", "internal/bytealg.IndexString", "math/bits.Add64", "internal/bytealg.abigen_runtime_cmpstring", "internal/abi.NoEscape", "internal/bytealg.MakeNoZero"], unfollowed := true, recurses := true, named := ["viator/movinglabel.rules", "unicode/utf8.first", "unicode/utf8.acceptRanges", "internal/bytealg.MaxLen"], apart := false, laid := [("unicode/utf8.acceptRanges", laid_unicode_utf8_acceptRanges), ("viator/movinglabel.rules", laid_viator_movinglabel_rules), ("unicode/utf8.first", laid_unicode_utf8_first)], narrowed := true }
def MovinglabelShiftsUptoSaid : Prop := movinglabelShiftsUptoRow.holds Tryz.pinned (OpenSpec.upto movinglabelShiftsSpec)

/-- 'viatorlaw16.MovinglabelMakes', WHERE WHAT IT READS IS OF BULK AT MOST 1048576: true; the input reads as it did. -/
def movinglabelMakesUptoRow : OpenClaim := { program := "ytcgkgdgpdpihmaagreatdoor", sum := "5b7b265f47be0f34e3b5f22b85defbfff8d10e2451cc82f2c5300c941b51f751", func := "viator/viatorlaw16.MovinglabelMakes", spec := "movinglabelMakes", inPlace := ["internal/bytealg.IndexByteString", "internal/bytealg.IndexString", "math/bits.Add64", "internal/bytealg.abigen_runtime_cmpstring", "internal/abi.NoEscape", "internal/bytealg.MakeNoZero"], unfollowed := true, recurses := true, named := ["unicode/utf8.first", "unicode/utf8.acceptRanges", "viator/movinglabel.rules", "internal/bytealg.MaxLen"], apart := false, laid := [("unicode/utf8.acceptRanges", laid_unicode_utf8_acceptRanges), ("viator/movinglabel.rules", laid_viator_movinglabel_rules), ("unicode/utf8.first", laid_unicode_utf8_first)], narrowed := true }
def MovinglabelMakesUptoSaid : Prop := movinglabelMakesUptoRow.holds Tryz.pinned (OpenSpec.upto movinglabelMakesSpec)

/-- 'viatorlaw16.MovinglabelCompares', WHERE WHAT IT READS IS OF BULK AT MOST 1048576: true; the input reads as it did. -/
def movinglabelComparesUptoRow : OpenClaim := { program := "ytcgkgdgpdpihmaagreatdoor", sum := "5b7b265f47be0f34e3b5f22b85defbfff8d10e2451cc82f2c5300c941b51f751", func := "viator/viatorlaw16.MovinglabelCompares", spec := "movinglabelCompares", inPlace := ["internal/bytealg.IndexByteString", "internal/bytealg.IndexString", "math/bits.Add64", "internal/bytealg.abigen_runtime_cmpstring", "internal/abi.NoEscape", "internal/bytealg.MakeNoZero"], unfollowed := true, recurses := true, named := ["unicode/utf8.first", "unicode/utf8.acceptRanges", "viator/movinglabel.rules", "internal/bytealg.MaxLen"], apart := false, laid := [("unicode/utf8.acceptRanges", laid_unicode_utf8_acceptRanges), ("viator/movinglabel.rules", laid_viator_movinglabel_rules), ("unicode/utf8.first", laid_unicode_utf8_first)], narrowed := true }
def MovinglabelComparesUptoSaid : Prop := movinglabelComparesUptoRow.holds Tryz.pinned (OpenSpec.upto movinglabelComparesSpec)

/-- 'viatorlaw16.MovinglabelPatches', WHERE WHAT IT READS IS OF BULK AT MOST 1048576: true; the input reads as it did. -/
def movinglabelPatchesUptoRow : OpenClaim := { program := "ytcgkgdgpdpihmaagreatdoor", sum := "5b7b265f47be0f34e3b5f22b85defbfff8d10e2451cc82f2c5300c941b51f751", func := "viator/viatorlaw16.MovinglabelPatches", spec := "movinglabelPatches", inPlace := ["internal/bytealg.IndexByteString", "internal/bytealg.IndexString", "math/bits.Add64", "internal/bytealg.abigen_runtime_cmpstring", "internal/abi.NoEscape", "internal/bytealg.MakeNoZero"], unfollowed := true, recurses := true, named := ["viator/movinglabel.rules", "unicode/utf8.first", "unicode/utf8.acceptRanges", "internal/bytealg.MaxLen"], apart := false, laid := [("unicode/utf8.acceptRanges", laid_unicode_utf8_acceptRanges), ("viator/movinglabel.rules", laid_viator_movinglabel_rules), ("unicode/utf8.first", laid_unicode_utf8_first)], narrowed := true }
def MovinglabelPatchesUptoSaid : Prop := movinglabelPatchesUptoRow.holds Tryz.pinned (OpenSpec.upto movinglabelPatchesSpec)

/-- 'viatorlaw16.MovinglabelCombines', WHERE WHAT IT READS IS OF BULK AT MOST 1048576: true; the input reads as it did. -/
def movinglabelCombinesUptoRow : OpenClaim := { program := "ytcgkgdgpdpihmaagreatdoor", sum := "5b7b265f47be0f34e3b5f22b85defbfff8d10e2451cc82f2c5300c941b51f751", func := "viator/viatorlaw16.MovinglabelCombines", spec := "movinglabelCombines", inPlace := ["internal/bytealg.IndexByteString", "internal/bytealg.IndexString", "math/bits.Add64", "internal/bytealg.abigen_runtime_cmpstring", "internal/abi.NoEscape", "internal/bytealg.MakeNoZero"], unfollowed := true, recurses := true, named := ["viator/movinglabel.rules", "unicode/utf8.first", "unicode/utf8.acceptRanges", "internal/bytealg.MaxLen"], apart := false, laid := [("unicode/utf8.acceptRanges", laid_unicode_utf8_acceptRanges), ("viator/movinglabel.rules", laid_viator_movinglabel_rules), ("unicode/utf8.first", laid_unicode_utf8_first)], narrowed := true }
def MovinglabelCombinesUptoSaid : Prop := movinglabelCombinesUptoRow.holds Tryz.pinned (OpenSpec.upto movinglabelCombinesSpec)

/-- 'viatorlaw16.MovinglabelValues', WHERE WHAT IT READS IS OF BULK AT MOST 1048576: true; the input reads as it did. -/
def movinglabelValuesUptoRow : OpenClaim := { program := "ytcgkgdgpdpihmaagreatdoor", sum := "5b7b265f47be0f34e3b5f22b85defbfff8d10e2451cc82f2c5300c941b51f751", func := "viator/viatorlaw16.MovinglabelValues", spec := "movinglabelValues", inPlace := ["internal/bytealg.IndexByteString", "internal/bytealg.IndexString", "math/bits.Add64", "internal/bytealg.abigen_runtime_cmpstring", "internal/abi.NoEscape", "internal/bytealg.MakeNoZero"], unfollowed := true, recurses := true, named := ["unicode/utf8.first", "unicode/utf8.acceptRanges", "viator/movinglabel.rules", "internal/bytealg.MaxLen"], apart := false, laid := [("unicode/utf8.acceptRanges", laid_unicode_utf8_acceptRanges), ("viator/movinglabel.rules", laid_viator_movinglabel_rules), ("unicode/utf8.first", laid_unicode_utf8_first)], narrowed := true }
def MovinglabelValuesUptoSaid : Prop := movinglabelValuesUptoRow.holds Tryz.pinned (OpenSpec.upto movinglabelValuesSpec)

end Rows
end Go.Proofs.YtcgkgdgpdpihmaaGreatDoor
