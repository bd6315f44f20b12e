/-
  NARROWER THAN 'FOR EVERY INPUT', by the rows' own cells (each row's printed sentence says how): ReconstructExplains: laid · ReconstructLocal: laid · ReconstructFull: laid · ReconstructOrderless: laid · ReconstructObjects: laid · ReconstructGaps: laid · ReconstructPasses: laid.
  DERIVED. THE GIVEN ROWS OF THIS SEAT. 7 by the template 'for every input the law returns true; each argument reads behind the call as it read before'; 0 by the template 'total and deterministic' (their statements: YtjicdlilgjdefaaGreatDoorTotals.lean).
  GIVEN WITH THE SEED: the statements are not yours to turn. If you find one false, say at which input.
  Laid BY PROGRAM, IN A SANDBOX (cutbox-rows.mjs): the forced cells as the released guide's own fill.sh prints them over the translation 9873d865e46413e2… (all of the seat's roots in one cut). By AI agents, Wed Nov 11 2026. No macro, syntax, notation, axiom, sorry.
-/
import Derived.Test.YtjicdlilgjdefaaGreatDoorChecked
import GoSem.PinnedTables
import GoSem.Claim
import GoSem.ClaimJoined
import GoSem.ClaimMapViews
import Derived.JoinedTies
import Derived.KernelRfl
namespace Go.Proofs.YtjicdlilgjdefaaGreatDoor
/- THE CELL 'sum', in the pinned program and in every row, IS THE sha256 OF THE DUMP (.gsa) THAT YtjicdlilgjdefaaGreatDoorProg.lean LOADS. Nothing in Lean hashes anything: it is a label: what it is worth is what the hold of that sum in a sandbox is worth. -/
noncomputable def Tryz.pinned : Pinned := { name := "ytjicdlilgjdefaagreatdoor", sum := "9873d865e46413e2a87c400457814e8b4ee38acb96078ba44f6cec8f98981d8c", checked := Tryz.checked }
namespace Rows
def none {H : Type} : Left H := { results := [], args := [] }

/- WHAT THE LISTED PACKAGE-LEVEL VARIABLES READ AS WHEN THE CALL BEGINS. Each datum BY PROGRAM (the guide's laid-datum.mjs) off the statement by which the dump's own 'gosem.cut.vars' lays the variable. In a bare row this is a premise. The card (YtjicdlilgjdefaaGreatDoorCards.lean) ties it to the program's text. -/
def laid_unicode_utf8_acceptRanges {H : Type} : DataW H := .agg [.agg [.lit (.int .u8 128), .lit (.int .u8 191)], .agg [.lit (.int .u8 160), .lit (.int .u8 191)], .agg [.lit (.int .u8 128), .lit (.int .u8 159)], .agg [.lit (.int .u8 144), .lit (.int .u8 191)], .agg [.lit (.int .u8 128), .lit (.int .u8 143)], .agg [.lit (.int .u8 0), .lit (.int .u8 0)], .agg [.lit (.int .u8 0), .lit (.int .u8 0)], .agg [.lit (.int .u8 0), .lit (.int .u8 0)], .agg [.lit (.int .u8 0), .lit (.int .u8 0)], .agg [.lit (.int .u8 0), .lit (.int .u8 0)], .agg [.lit (.int .u8 0), .lit (.int .u8 0)], .agg [.lit (.int .u8 0), .lit (.int .u8 0)], .agg [.lit (.int .u8 0), .lit (.int .u8 0)], .agg [.lit (.int .u8 0), .lit (.int .u8 0)], .agg [.lit (.int .u8 0), .lit (.int .u8 0)], .agg [.lit (.int .u8 0), .lit (.int .u8 0)]]
/-- One of Go's own tables, pinned by name: the form's constant. -/
def laid_unicode_utf8_first : DataW Unit := Go.Pinned.utf8First

/-- 'viatorlaw28.ReconstructExplains': WHATEVER THE INPUT: true; the input reads as it did. -/
def reconstructExplainsSpec : ChangeSpec := { name := "reconstructExplains", fn := fun _ => fun
  | [d1, d2] => { results := [.lit (.bool true)], args := [d1, d2] }
  | _ => none }
def reconstructExplainsRow : OpenClaim := { program := "ytjicdlilgjdefaagreatdoor", sum := "9873d865e46413e2a87c400457814e8b4ee38acb96078ba44f6cec8f98981d8c", func := "viator/viatorlaw28.ReconstructExplains", spec := "reconstructExplains", inPlace := ["internal/bytealg.IndexByteString", "internal/bytealg.IndexString", "math/bits.Add64", "internal/bytealg.abigen_runtime_cmpstring"], unfollowed := true, recurses := true, named := ["unicode/utf8.first", "unicode/utf8.acceptRanges", "internal/bytealg.MaxLen"], plainKeys := false, apart := false, laid := [("unicode/utf8.acceptRanges", laid_unicode_utf8_acceptRanges), ("unicode/utf8.first", laid_unicode_utf8_first)] }
def ReconstructExplainsSaid : Prop := reconstructExplainsRow.holds Tryz.pinned (OpenSpec.ofChange reconstructExplainsSpec)

/-- ITS FALSE NEIGHBOUR: 'it returns false'. Refute it at one input. -/
def reconstructExplainsWrong : ChangeSpec := { name := "reconstructExplains", fn := fun _ => fun
  | [d1, d2] => { results := [.lit (.bool false)], args := [d1, d2] }
  | _ => none }
def ReconstructExplainsWrongFalsely : Prop := reconstructExplainsRow.holds Tryz.pinned (OpenSpec.ofChange reconstructExplainsWrong)

/-- 'viatorlaw28.ReconstructLocal': WHATEVER THE INPUT: true; the input reads as it did. -/
def reconstructLocalSpec : ChangeSpec := { name := "reconstructLocal", fn := fun _ => fun
  | [d1, d2] => { results := [.lit (.bool true)], args := [d1, d2] }
  | _ => none }
def reconstructLocalRow : OpenClaim := { program := "ytjicdlilgjdefaagreatdoor", sum := "9873d865e46413e2a87c400457814e8b4ee38acb96078ba44f6cec8f98981d8c", func := "viator/viatorlaw28.ReconstructLocal", spec := "reconstructLocal", inPlace := ["internal/bytealg.IndexByteString", "internal/bytealg.IndexString", "math/bits.Add64", "internal/bytealg.abigen_runtime_cmpstring"], unfollowed := true, recurses := true, named := ["unicode/utf8.first", "unicode/utf8.acceptRanges", "internal/bytealg.MaxLen"], plainKeys := false, apart := false, laid := [("unicode/utf8.acceptRanges", laid_unicode_utf8_acceptRanges), ("unicode/utf8.first", laid_unicode_utf8_first)] }
def ReconstructLocalSaid : Prop := reconstructLocalRow.holds Tryz.pinned (OpenSpec.ofChange reconstructLocalSpec)

/-- ITS FALSE NEIGHBOUR: 'it returns false'. Refute it at one input. -/
def reconstructLocalWrong : ChangeSpec := { name := "reconstructLocal", fn := fun _ => fun
  | [d1, d2] => { results := [.lit (.bool false)], args := [d1, d2] }
  | _ => none }
def ReconstructLocalWrongFalsely : Prop := reconstructLocalRow.holds Tryz.pinned (OpenSpec.ofChange reconstructLocalWrong)

/-- 'viatorlaw28.ReconstructFull': WHATEVER THE INPUT: true; the input reads as it did. -/
def reconstructFullSpec : ChangeSpec := { name := "reconstructFull", fn := fun _ => fun
  | [d] => { results := [.lit (.bool true)], args := [d] }
  | _ => none }
def reconstructFullRow : OpenClaim := { program := "ytjicdlilgjdefaagreatdoor", sum := "9873d865e46413e2a87c400457814e8b4ee38acb96078ba44f6cec8f98981d8c", func := "viator/viatorlaw28.ReconstructFull", spec := "reconstructFull", inPlace := ["internal/bytealg.abigen_runtime_cmpstring", "internal/bytealg.IndexByteString", "internal/bytealg.IndexString", "math/bits.Add64"], unfollowed := true, recurses := true, named := ["unicode/utf8.first", "unicode/utf8.acceptRanges", "internal/bytealg.MaxLen"], plainKeys := false, apart := false, laid := [("unicode/utf8.acceptRanges", laid_unicode_utf8_acceptRanges), ("unicode/utf8.first", laid_unicode_utf8_first)] }
def ReconstructFullSaid : Prop := reconstructFullRow.holds Tryz.pinned (OpenSpec.ofChange reconstructFullSpec)

/-- ITS FALSE NEIGHBOUR: 'it returns false'. Refute it at one input. -/
def reconstructFullWrong : ChangeSpec := { name := "reconstructFull", fn := fun _ => fun
  | [d] => { results := [.lit (.bool false)], args := [d] }
  | _ => none }
def ReconstructFullWrongFalsely : Prop := reconstructFullRow.holds Tryz.pinned (OpenSpec.ofChange reconstructFullWrong)

/-- 'viatorlaw28.ReconstructOrderless': WHATEVER THE INPUT: true; the input reads as it did. -/
def reconstructOrderlessSpec : ChangeSpec := { name := "reconstructOrderless", fn := fun _ => fun
  | [d1, d2, d3] => { results := [.lit (.bool true)], args := [d1, d2, d3] }
  | _ => none }
def reconstructOrderlessRow : OpenClaim := { program := "ytjicdlilgjdefaagreatdoor", sum := "9873d865e46413e2a87c400457814e8b4ee38acb96078ba44f6cec8f98981d8c", func := "viator/viatorlaw28.ReconstructOrderless", spec := "reconstructOrderless", inPlace := ["internal/bytealg.IndexByteString", "internal/bytealg.IndexString", "math/bits.Add64", "internal/bytealg.abigen_runtime_cmpstring"], unfollowed := true, recurses := true, named := ["unicode/utf8.first", "unicode/utf8.acceptRanges", "internal/bytealg.MaxLen"], plainKeys := false, apart := false, laid := [("unicode/utf8.acceptRanges", laid_unicode_utf8_acceptRanges), ("unicode/utf8.first", laid_unicode_utf8_first)] }
def ReconstructOrderlessSaid : Prop := reconstructOrderlessRow.holds Tryz.pinned (OpenSpec.ofChange reconstructOrderlessSpec)

/-- ITS FALSE NEIGHBOUR: 'it returns false'. Refute it at one input. -/
def reconstructOrderlessWrong : ChangeSpec := { name := "reconstructOrderless", fn := fun _ => fun
  | [d1, d2, d3] => { results := [.lit (.bool false)], args := [d1, d2, d3] }
  | _ => none }
def ReconstructOrderlessWrongFalsely : Prop := reconstructOrderlessRow.holds Tryz.pinned (OpenSpec.ofChange reconstructOrderlessWrong)

/-- 'viatorlaw28.ReconstructObjects': WHATEVER THE INPUT: true; the input reads as it did. -/
def reconstructObjectsSpec : ChangeSpec := { name := "reconstructObjects", fn := fun _ => fun
  | [d1, d2] => { results := [.lit (.bool true)], args := [d1, d2] }
  | _ => none }
def reconstructObjectsRow : OpenClaim := { program := "ytjicdlilgjdefaagreatdoor", sum := "9873d865e46413e2a87c400457814e8b4ee38acb96078ba44f6cec8f98981d8c", func := "viator/viatorlaw28.ReconstructObjects", spec := "reconstructObjects", inPlace := ["internal/bytealg.IndexByteString", "internal/bytealg.IndexString", "math/bits.Add64", "internal/bytealg.abigen_runtime_cmpstring"], unfollowed := true, recurses := true, named := ["unicode/utf8.first", "unicode/utf8.acceptRanges", "internal/bytealg.MaxLen"], plainKeys := false, apart := false, laid := [("unicode/utf8.acceptRanges", laid_unicode_utf8_acceptRanges), ("unicode/utf8.first", laid_unicode_utf8_first)] }
def ReconstructObjectsSaid : Prop := reconstructObjectsRow.holds Tryz.pinned (OpenSpec.ofChange reconstructObjectsSpec)

/-- ITS FALSE NEIGHBOUR: 'it returns false'. Refute it at one input. -/
def reconstructObjectsWrong : ChangeSpec := { name := "reconstructObjects", fn := fun _ => fun
  | [d1, d2] => { results := [.lit (.bool false)], args := [d1, d2] }
  | _ => none }
def ReconstructObjectsWrongFalsely : Prop := reconstructObjectsRow.holds Tryz.pinned (OpenSpec.ofChange reconstructObjectsWrong)

/-- 'viatorlaw28.ReconstructGaps': WHATEVER THE INPUT: true; the input reads as it did. -/
def reconstructGapsSpec : ChangeSpec := { name := "reconstructGaps", fn := fun _ => fun
  | [d1, d2] => { results := [.lit (.bool true)], args := [d1, d2] }
  | _ => none }
def reconstructGapsRow : OpenClaim := { program := "ytjicdlilgjdefaagreatdoor", sum := "9873d865e46413e2a87c400457814e8b4ee38acb96078ba44f6cec8f98981d8c", func := "viator/viatorlaw28.ReconstructGaps", spec := "reconstructGaps", inPlace := ["internal/bytealg.IndexByteString", "internal/bytealg.IndexString", "math/bits.Add64", "internal/bytealg.abigen_runtime_cmpstring"], unfollowed := true, recurses := true, named := ["unicode/utf8.first", "unicode/utf8.acceptRanges", "internal/bytealg.MaxLen"], plainKeys := false, apart := false, laid := [("unicode/utf8.acceptRanges", laid_unicode_utf8_acceptRanges), ("unicode/utf8.first", laid_unicode_utf8_first)] }
def ReconstructGapsSaid : Prop := reconstructGapsRow.holds Tryz.pinned (OpenSpec.ofChange reconstructGapsSpec)

/-- ITS FALSE NEIGHBOUR: 'it returns false'. Refute it at one input. -/
def reconstructGapsWrong : ChangeSpec := { name := "reconstructGaps", fn := fun _ => fun
  | [d1, d2] => { results := [.lit (.bool false)], args := [d1, d2] }
  | _ => none }
def ReconstructGapsWrongFalsely : Prop := reconstructGapsRow.holds Tryz.pinned (OpenSpec.ofChange reconstructGapsWrong)

/-- 'viatorlaw28.ReconstructPasses': WHATEVER THE INPUT: true; the input reads as it did. -/
def reconstructPassesSpec : ChangeSpec := { name := "reconstructPasses", fn := fun _ => fun
  | [d] => { results := [.lit (.bool true)], args := [d] }
  | _ => none }
def reconstructPassesRow : OpenClaim := { program := "ytjicdlilgjdefaagreatdoor", sum := "9873d865e46413e2a87c400457814e8b4ee38acb96078ba44f6cec8f98981d8c", func := "viator/viatorlaw28.ReconstructPasses", spec := "reconstructPasses", inPlace := ["internal/bytealg.IndexByteString", "internal/bytealg.IndexString", "math/bits.Add64", "internal/bytealg.abigen_runtime_cmpstring", "internal/abi.NoEscape", "internal/bytealg.MakeNoZero"], unfollowed := true, recurses := true, named := ["unicode/utf8.first", "unicode/utf8.acceptRanges", "internal/bytealg.MaxLen"], plainKeys := false, apart := false, laid := [("unicode/utf8.acceptRanges", laid_unicode_utf8_acceptRanges), ("unicode/utf8.first", laid_unicode_utf8_first)] }
def ReconstructPassesSaid : Prop := reconstructPassesRow.holds Tryz.pinned (OpenSpec.ofChange reconstructPassesSpec)

/-- ITS FALSE NEIGHBOUR: 'it returns false'. Refute it at one input. -/
def reconstructPassesWrong : ChangeSpec := { name := "reconstructPasses", fn := fun _ => fun
  | [d] => { results := [.lit (.bool false)], args := [d] }
  | _ => none }
def ReconstructPassesWrongFalsely : Prop := reconstructPassesRow.holds Tryz.pinned (OpenSpec.ofChange reconstructPassesWrong)

/- THE SECOND FORM. 'bulk': how many values and letters a reading holds, each counted each time it is reached (what is shared counts as often as it is met; a slice's spare places count too). A statement '..UptoSaid' is the law's where the arguments, and the package variables that the reading takes, are together of bulk at most 1048576: NARROWER than '..Said'. Prove '..Said' where nothing that the law and all that it calls make is longer than what came in: it says more and counts as full. Else prove '..UptoSaid'. A law counts once. -/
mutual
def uptoBulk {H : Type} : DataW H → Nat
  | .lit (.string bytes) => bytes.length + 1
  | .lit _ => 1
  | .nil => 1
  | .ptr d => uptoBulk d + 1
  | .slice elems spare => uptoBulkAll elems + uptoBulkAll spare + 1
  | .agg parts => uptoBulkAll parts + 1
  | .iface _ d => uptoBulk d + 1
  | .map entries => uptoBulkEntries entries + 1
  | .held _ => 1
def uptoBulkAll {H : Type} : List (DataW H) → Nat
  | [] => 0
  | d :: r => uptoBulk d + uptoBulkAll r
def uptoBulkEntries {H : Type} : List (Lit × DataW H) → Nat
  | [] => 0
  | x :: r => uptoBulkEntry x + uptoBulkEntries r
def uptoBulkEntry {H : Type} : Lit × DataW H → Nat
  | (.string bytes, d) => bytes.length + uptoBulk d + 1
  | (_, d) => uptoBulk d + 1
 end
def uptoSmall : (H : Type) → List (DataW H) → Bool := fun _ ds => decide (uptoBulkAll ds ≤ 1048576)
def OpenSpec.upto (s : _root_.Go.ChangeSpec) : _root_.Go.OpenSpec := { _root_.Go.OpenSpec.ofChange s with cond := some uptoSmall }

/-- 'viatorlaw28.ReconstructExplains', WHERE WHAT IT READS IS OF BULK AT MOST 1048576: true; the input reads as it did. -/
def reconstructExplainsUptoRow : OpenClaim := { program := "ytjicdlilgjdefaagreatdoor", sum := "9873d865e46413e2a87c400457814e8b4ee38acb96078ba44f6cec8f98981d8c", func := "viator/viatorlaw28.ReconstructExplains", spec := "reconstructExplains", inPlace := ["internal/bytealg.IndexByteString", "internal/bytealg.IndexString", "math/bits.Add64", "internal/bytealg.abigen_runtime_cmpstring"], unfollowed := true, recurses := true, named := ["unicode/utf8.first", "unicode/utf8.acceptRanges", "internal/bytealg.MaxLen"], plainKeys := false, apart := false, laid := [("unicode/utf8.acceptRanges", laid_unicode_utf8_acceptRanges), ("unicode/utf8.first", laid_unicode_utf8_first)], narrowed := true }
def ReconstructExplainsUptoSaid : Prop := reconstructExplainsUptoRow.holds Tryz.pinned (OpenSpec.upto reconstructExplainsSpec)

/-- 'viatorlaw28.ReconstructLocal', WHERE WHAT IT READS IS OF BULK AT MOST 1048576: true; the input reads as it did. -/
def reconstructLocalUptoRow : OpenClaim := { program := "ytjicdlilgjdefaagreatdoor", sum := "9873d865e46413e2a87c400457814e8b4ee38acb96078ba44f6cec8f98981d8c", func := "viator/viatorlaw28.ReconstructLocal", spec := "reconstructLocal", inPlace := ["internal/bytealg.IndexByteString", "internal/bytealg.IndexString", "math/bits.Add64", "internal/bytealg.abigen_runtime_cmpstring"], unfollowed := true, recurses := true, named := ["unicode/utf8.first", "unicode/utf8.acceptRanges", "internal/bytealg.MaxLen"], plainKeys := false, apart := false, laid := [("unicode/utf8.acceptRanges", laid_unicode_utf8_acceptRanges), ("unicode/utf8.first", laid_unicode_utf8_first)], narrowed := true }
def ReconstructLocalUptoSaid : Prop := reconstructLocalUptoRow.holds Tryz.pinned (OpenSpec.upto reconstructLocalSpec)

/-- 'viatorlaw28.ReconstructFull', WHERE WHAT IT READS IS OF BULK AT MOST 1048576: true; the input reads as it did. -/
def reconstructFullUptoRow : OpenClaim := { program := "ytjicdlilgjdefaagreatdoor", sum := "9873d865e46413e2a87c400457814e8b4ee38acb96078ba44f6cec8f98981d8c", func := "viator/viatorlaw28.ReconstructFull", spec := "reconstructFull", inPlace := ["internal/bytealg.abigen_runtime_cmpstring", "internal/bytealg.IndexByteString", "internal/bytealg.IndexString", "math/bits.Add64"], unfollowed := true, recurses := true, named := ["unicode/utf8.first", "unicode/utf8.acceptRanges", "internal/bytealg.MaxLen"], plainKeys := false, apart := false, laid := [("unicode/utf8.acceptRanges", laid_unicode_utf8_acceptRanges), ("unicode/utf8.first", laid_unicode_utf8_first)], narrowed := true }
def ReconstructFullUptoSaid : Prop := reconstructFullUptoRow.holds Tryz.pinned (OpenSpec.upto reconstructFullSpec)

/-- 'viatorlaw28.ReconstructOrderless', WHERE WHAT IT READS IS OF BULK AT MOST 1048576: true; the input reads as it did. -/
def reconstructOrderlessUptoRow : OpenClaim := { program := "ytjicdlilgjdefaagreatdoor", sum := "9873d865e46413e2a87c400457814e8b4ee38acb96078ba44f6cec8f98981d8c", func := "viator/viatorlaw28.ReconstructOrderless", spec := "reconstructOrderless", inPlace := ["internal/bytealg.IndexByteString", "internal/bytealg.IndexString", "math/bits.Add64", "internal/bytealg.abigen_runtime_cmpstring"], unfollowed := true, recurses := true, named := ["unicode/utf8.first", "unicode/utf8.acceptRanges", "internal/bytealg.MaxLen"], plainKeys := false, apart := false, laid := [("unicode/utf8.acceptRanges", laid_unicode_utf8_acceptRanges), ("unicode/utf8.first", laid_unicode_utf8_first)], narrowed := true }
def ReconstructOrderlessUptoSaid : Prop := reconstructOrderlessUptoRow.holds Tryz.pinned (OpenSpec.upto reconstructOrderlessSpec)

/-- 'viatorlaw28.ReconstructObjects', WHERE WHAT IT READS IS OF BULK AT MOST 1048576: true; the input reads as it did. -/
def reconstructObjectsUptoRow : OpenClaim := { program := "ytjicdlilgjdefaagreatdoor", sum := "9873d865e46413e2a87c400457814e8b4ee38acb96078ba44f6cec8f98981d8c", func := "viator/viatorlaw28.ReconstructObjects", spec := "reconstructObjects", inPlace := ["internal/bytealg.IndexByteString", "internal/bytealg.IndexString", "math/bits.Add64", "internal/bytealg.abigen_runtime_cmpstring"], unfollowed := true, recurses := true, named := ["unicode/utf8.first", "unicode/utf8.acceptRanges", "internal/bytealg.MaxLen"], plainKeys := false, apart := false, laid := [("unicode/utf8.acceptRanges", laid_unicode_utf8_acceptRanges), ("unicode/utf8.first", laid_unicode_utf8_first)], narrowed := true }
def ReconstructObjectsUptoSaid : Prop := reconstructObjectsUptoRow.holds Tryz.pinned (OpenSpec.upto reconstructObjectsSpec)

/-- 'viatorlaw28.ReconstructGaps', WHERE WHAT IT READS IS OF BULK AT MOST 1048576: true; the input reads as it did. -/
def reconstructGapsUptoRow : OpenClaim := { program := "ytjicdlilgjdefaagreatdoor", sum := "9873d865e46413e2a87c400457814e8b4ee38acb96078ba44f6cec8f98981d8c", func := "viator/viatorlaw28.ReconstructGaps", spec := "reconstructGaps", inPlace := ["internal/bytealg.IndexByteString", "internal/bytealg.IndexString", "math/bits.Add64", "internal/bytealg.abigen_runtime_cmpstring"], unfollowed := true, recurses := true, named := ["unicode/utf8.first", "unicode/utf8.acceptRanges", "internal/bytealg.MaxLen"], plainKeys := false, apart := false, laid := [("unicode/utf8.acceptRanges", laid_unicode_utf8_acceptRanges), ("unicode/utf8.first", laid_unicode_utf8_first)], narrowed := true }
def ReconstructGapsUptoSaid : Prop := reconstructGapsUptoRow.holds Tryz.pinned (OpenSpec.upto reconstructGapsSpec)

/-- 'viatorlaw28.ReconstructPasses', WHERE WHAT IT READS IS OF BULK AT MOST 1048576: true; the input reads as it did. -/
def reconstructPassesUptoRow : OpenClaim := { program := "ytjicdlilgjdefaagreatdoor", sum := "9873d865e46413e2a87c400457814e8b4ee38acb96078ba44f6cec8f98981d8c", func := "viator/viatorlaw28.ReconstructPasses", spec := "reconstructPasses", inPlace := ["internal/bytealg.IndexByteString", "internal/bytealg.IndexString", "math/bits.Add64", "internal/bytealg.abigen_runtime_cmpstring", "internal/abi.NoEscape", "internal/bytealg.MakeNoZero"], unfollowed := true, recurses := true, named := ["unicode/utf8.first", "unicode/utf8.acceptRanges", "internal/bytealg.MaxLen"], plainKeys := false, apart := false, laid := [("unicode/utf8.acceptRanges", laid_unicode_utf8_acceptRanges), ("unicode/utf8.first", laid_unicode_utf8_first)], narrowed := true }
def ReconstructPassesUptoSaid : Prop := reconstructPassesUptoRow.holds Tryz.pinned (OpenSpec.upto reconstructPassesSpec)

end Rows
end Go.Proofs.YtjicdlilgjdefaaGreatDoor
