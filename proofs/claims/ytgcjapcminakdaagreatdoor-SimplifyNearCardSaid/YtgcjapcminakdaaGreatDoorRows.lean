/-
  NARROWER THAN 'FOR EVERY INPUT', by the rows' own cells (each row's printed sentence says how): SimplifyDeviates: laid · SimplifyBuilds: laid · SimplifyRefuses: laid · SimplifyRuns: laid · SimplifySimplifies: laid · SimplifyNear: laid.
  DERIVED. THE GIVEN ROWS OF THIS SEAT. 6 by the template 'for every input the law returns true; each argument reads behind the call as it read before'; 0 by the template 'total and deterministic' (their statements: YtgcjapcminakdaaGreatDoorTotals.lean).
  GIVEN WITH THE SEED: the statements are not yours to turn. If you find one false, say at which input.
  Laid BY PROGRAM, IN A SANDBOX (cutbox-rows.mjs): the forced cells as the released guide's own fill.sh prints them over the translation fc317d4be963b9ba… (all of the seat's roots in one cut). By AI agents, Wed Nov 11 2026. No macro, syntax, notation, axiom, sorry.
-/
import Derived.Test.YtgcjapcminakdaaGreatDoorChecked
import GoSem.PinnedTables
import GoSem.Claim
import GoSem.ClaimJoined
import GoSem.ClaimMapViews
import Derived.JoinedTies
import Derived.KernelRfl
namespace Go.Proofs.YtgcjapcminakdaaGreatDoor
/- THE CELL 'sum', in the pinned program and in every row, IS THE sha256 OF THE DUMP (.gsa) THAT YtgcjapcminakdaaGreatDoorProg.lean LOADS. Nothing in Lean hashes anything: it is a label: what it is worth is what the hold of that sum in a sandbox is worth. -/
noncomputable def Tryz.pinned : Pinned := { name := "ytgcjapcminakdaagreatdoor", sum := "fc317d4be963b9ba9055a1e7cf3ac81b95d25a01f5f443f009cac4d275b29ef9", checked := Tryz.checked }
namespace Rows
def none {H : Type} : Left H := { results := [], args := [] }

/- WHAT THE LISTED PACKAGE-LEVEL VARIABLES READ AS WHEN THE CALL BEGINS. Each datum BY PROGRAM (the guide's laid-datum.mjs) off the statement by which the dump's own 'gosem.cut.vars' lays the variable. In a bare row this is a premise. The card (YtgcjapcminakdaaGreatDoorCards.lean) ties it to the program's text. -/
def laid_unicode_utf8_acceptRanges {H : Type} : DataW H := .agg [.agg [.lit (.int .u8 128), .lit (.int .u8 191)], .agg [.lit (.int .u8 160), .lit (.int .u8 191)], .agg [.lit (.int .u8 128), .lit (.int .u8 159)], .agg [.lit (.int .u8 144), .lit (.int .u8 191)], .agg [.lit (.int .u8 128), .lit (.int .u8 143)], .agg [.lit (.int .u8 0), .lit (.int .u8 0)], .agg [.lit (.int .u8 0), .lit (.int .u8 0)], .agg [.lit (.int .u8 0), .lit (.int .u8 0)], .agg [.lit (.int .u8 0), .lit (.int .u8 0)], .agg [.lit (.int .u8 0), .lit (.int .u8 0)], .agg [.lit (.int .u8 0), .lit (.int .u8 0)], .agg [.lit (.int .u8 0), .lit (.int .u8 0)], .agg [.lit (.int .u8 0), .lit (.int .u8 0)], .agg [.lit (.int .u8 0), .lit (.int .u8 0)], .agg [.lit (.int .u8 0), .lit (.int .u8 0)], .agg [.lit (.int .u8 0), .lit (.int .u8 0)]]
/-- One of Go's own tables, pinned by name: the form's constant. -/
def laid_unicode_utf8_first : DataW Unit := Go.Pinned.utf8First

/-- 'viatorlaw31.SimplifyDeviates': WHATEVER THE INPUT: true; the input reads as it did. -/
def simplifyDeviatesSpec : ChangeSpec := { name := "simplifyDeviates", fn := fun _ => fun
  | [d1, d2, d3] => { results := [.lit (.bool true)], args := [d1, d2, d3] }
  | _ => none }
def simplifyDeviatesRow : OpenClaim := { program := "ytgcjapcminakdaagreatdoor", sum := "fc317d4be963b9ba9055a1e7cf3ac81b95d25a01f5f443f009cac4d275b29ef9", func := "viator/viatorlaw31.SimplifyDeviates", spec := "simplifyDeviates", inPlace := ["internal/bytealg.abigen_runtime_cmpstring", "internal/bytealg.IndexByteString", "internal/bytealg.IndexString", "math/bits.Add64"], unfollowed := true, recurses := true, named := ["unicode/utf8.first", "unicode/utf8.acceptRanges", "internal/bytealg.MaxLen"], plainKeys := false, apart := false, laid := [("unicode/utf8.acceptRanges", laid_unicode_utf8_acceptRanges), ("unicode/utf8.first", laid_unicode_utf8_first)] }
def SimplifyDeviatesSaid : Prop := simplifyDeviatesRow.holds Tryz.pinned (OpenSpec.ofChange simplifyDeviatesSpec)

/-- ITS FALSE NEIGHBOUR: 'it returns false'. Refute it at one input. -/
def simplifyDeviatesWrong : ChangeSpec := { name := "simplifyDeviates", fn := fun _ => fun
  | [d1, d2, d3] => { results := [.lit (.bool false)], args := [d1, d2, d3] }
  | _ => none }
def SimplifyDeviatesWrongFalsely : Prop := simplifyDeviatesRow.holds Tryz.pinned (OpenSpec.ofChange simplifyDeviatesWrong)

/-- 'viatorlaw31.SimplifyBuilds': WHATEVER THE INPUT: true; the input reads as it did. -/
def simplifyBuildsSpec : ChangeSpec := { name := "simplifyBuilds", fn := fun _ => fun
  | [d1, d2, d3] => { results := [.lit (.bool true)], args := [d1, d2, d3] }
  | _ => none }
def simplifyBuildsRow : OpenClaim := { program := "ytgcjapcminakdaagreatdoor", sum := "fc317d4be963b9ba9055a1e7cf3ac81b95d25a01f5f443f009cac4d275b29ef9", func := "viator/viatorlaw31.SimplifyBuilds", spec := "simplifyBuilds", inPlace := ["internal/bytealg.abigen_runtime_cmpstring", "internal/bytealg.IndexByteString", "internal/bytealg.IndexString", "math/bits.Add64"], unfollowed := true, recurses := true, named := ["unicode/utf8.first", "unicode/utf8.acceptRanges", "internal/bytealg.MaxLen"], plainKeys := false, apart := false, laid := [("unicode/utf8.acceptRanges", laid_unicode_utf8_acceptRanges), ("unicode/utf8.first", laid_unicode_utf8_first)] }
def SimplifyBuildsSaid : Prop := simplifyBuildsRow.holds Tryz.pinned (OpenSpec.ofChange simplifyBuildsSpec)

/-- ITS FALSE NEIGHBOUR: 'it returns false'. Refute it at one input. -/
def simplifyBuildsWrong : ChangeSpec := { name := "simplifyBuilds", fn := fun _ => fun
  | [d1, d2, d3] => { results := [.lit (.bool false)], args := [d1, d2, d3] }
  | _ => none }
def SimplifyBuildsWrongFalsely : Prop := simplifyBuildsRow.holds Tryz.pinned (OpenSpec.ofChange simplifyBuildsWrong)

/-- 'viatorlaw31.SimplifyRefuses': WHATEVER THE INPUT: true; the input reads as it did. -/
def simplifyRefusesSpec : ChangeSpec := { name := "simplifyRefuses", fn := fun _ => fun
  | [d1, d2] => { results := [.lit (.bool true)], args := [d1, d2] }
  | _ => none }
def simplifyRefusesRow : OpenClaim := { program := "ytgcjapcminakdaagreatdoor", sum := "fc317d4be963b9ba9055a1e7cf3ac81b95d25a01f5f443f009cac4d275b29ef9", func := "viator/viatorlaw31.SimplifyRefuses", spec := "simplifyRefuses", inPlace := ["internal/bytealg.abigen_runtime_cmpstring", "internal/bytealg.IndexByteString", "internal/bytealg.IndexString", "math/bits.Add64", "internal/abi.NoEscape", "internal/bytealg.MakeNoZero"], unfollowed := true, recurses := true, named := ["unicode/utf8.first", "unicode/utf8.acceptRanges", "internal/bytealg.MaxLen"], plainKeys := false, apart := false, laid := [("unicode/utf8.acceptRanges", laid_unicode_utf8_acceptRanges), ("unicode/utf8.first", laid_unicode_utf8_first)] }
def SimplifyRefusesSaid : Prop := simplifyRefusesRow.holds Tryz.pinned (OpenSpec.ofChange simplifyRefusesSpec)

/-- ITS FALSE NEIGHBOUR: 'it returns false'. Refute it at one input. -/
def simplifyRefusesWrong : ChangeSpec := { name := "simplifyRefuses", fn := fun _ => fun
  | [d1, d2] => { results := [.lit (.bool false)], args := [d1, d2] }
  | _ => none }
def SimplifyRefusesWrongFalsely : Prop := simplifyRefusesRow.holds Tryz.pinned (OpenSpec.ofChange simplifyRefusesWrong)

/-- 'viatorlaw31.SimplifyRuns': WHATEVER THE INPUT: true; the input reads as it did. -/
def simplifyRunsSpec : ChangeSpec := { name := "simplifyRuns", fn := fun _ => fun
  | [d1, d2] => { results := [.lit (.bool true)], args := [d1, d2] }
  | _ => none }
def simplifyRunsRow : OpenClaim := { program := "ytgcjapcminakdaagreatdoor", sum := "fc317d4be963b9ba9055a1e7cf3ac81b95d25a01f5f443f009cac4d275b29ef9", func := "viator/viatorlaw31.SimplifyRuns", spec := "simplifyRuns", inPlace := ["internal/bytealg.abigen_runtime_cmpstring", "internal/bytealg.IndexByteString", "internal/bytealg.IndexString", "math/bits.Add64", "internal/abi.NoEscape", "internal/bytealg.MakeNoZero"], unfollowed := true, recurses := true, named := ["unicode/utf8.first", "unicode/utf8.acceptRanges", "internal/bytealg.MaxLen"], plainKeys := false, apart := false, laid := [("unicode/utf8.acceptRanges", laid_unicode_utf8_acceptRanges), ("unicode/utf8.first", laid_unicode_utf8_first)] }
def SimplifyRunsSaid : Prop := simplifyRunsRow.holds Tryz.pinned (OpenSpec.ofChange simplifyRunsSpec)

/-- ITS FALSE NEIGHBOUR: 'it returns false'. Refute it at one input. -/
def simplifyRunsWrong : ChangeSpec := { name := "simplifyRuns", fn := fun _ => fun
  | [d1, d2] => { results := [.lit (.bool false)], args := [d1, d2] }
  | _ => none }
def SimplifyRunsWrongFalsely : Prop := simplifyRunsRow.holds Tryz.pinned (OpenSpec.ofChange simplifyRunsWrong)

/-- 'viatorlaw31.SimplifySimplifies': WHATEVER THE INPUT: true; the input reads as it did. -/
def simplifySimplifiesSpec : ChangeSpec := { name := "simplifySimplifies", fn := fun _ => fun
  | [d1, d2, d3] => { results := [.lit (.bool true)], args := [d1, d2, d3] }
  | _ => none }
def simplifySimplifiesRow : OpenClaim := { program := "ytgcjapcminakdaagreatdoor", sum := "fc317d4be963b9ba9055a1e7cf3ac81b95d25a01f5f443f009cac4d275b29ef9", func := "viator/viatorlaw31.SimplifySimplifies", spec := "simplifySimplifies", inPlace := ["internal/bytealg.abigen_runtime_cmpstring", "internal/bytealg.IndexByteString", "internal/bytealg.IndexString", "math/bits.Add64", "internal/abi.NoEscape", "internal/bytealg.MakeNoZero"], unfollowed := true, recurses := true, named := ["unicode/utf8.first", "unicode/utf8.acceptRanges", "internal/bytealg.MaxLen"], plainKeys := false, apart := false, laid := [("unicode/utf8.acceptRanges", laid_unicode_utf8_acceptRanges), ("unicode/utf8.first", laid_unicode_utf8_first)] }
def SimplifySimplifiesSaid : Prop := simplifySimplifiesRow.holds Tryz.pinned (OpenSpec.ofChange simplifySimplifiesSpec)

/-- ITS FALSE NEIGHBOUR: 'it returns false'. Refute it at one input. -/
def simplifySimplifiesWrong : ChangeSpec := { name := "simplifySimplifies", fn := fun _ => fun
  | [d1, d2, d3] => { results := [.lit (.bool false)], args := [d1, d2, d3] }
  | _ => none }
def SimplifySimplifiesWrongFalsely : Prop := simplifySimplifiesRow.holds Tryz.pinned (OpenSpec.ofChange simplifySimplifiesWrong)

/-- 'viatorlaw31.SimplifyNear': WHATEVER THE INPUT: true; the input reads as it did. -/
def simplifyNearSpec : ChangeSpec := { name := "simplifyNear", fn := fun _ => fun
  | [d1, d2, d3] => { results := [.lit (.bool true)], args := [d1, d2, d3] }
  | _ => none }
def simplifyNearRow : OpenClaim := { program := "ytgcjapcminakdaagreatdoor", sum := "fc317d4be963b9ba9055a1e7cf3ac81b95d25a01f5f443f009cac4d275b29ef9", func := "viator/viatorlaw31.SimplifyNear", spec := "simplifyNear", inPlace := ["internal/bytealg.abigen_runtime_cmpstring", "internal/bytealg.IndexByteString", "internal/bytealg.IndexString", "math/bits.Add64", "internal/abi.NoEscape", "internal/bytealg.MakeNoZero"], unfollowed := true, recurses := true, named := ["unicode/utf8.first", "unicode/utf8.acceptRanges", "internal/bytealg.MaxLen"], plainKeys := false, apart := false, laid := [("unicode/utf8.acceptRanges", laid_unicode_utf8_acceptRanges), ("unicode/utf8.first", laid_unicode_utf8_first)] }
def SimplifyNearSaid : Prop := simplifyNearRow.holds Tryz.pinned (OpenSpec.ofChange simplifyNearSpec)

/-- ITS FALSE NEIGHBOUR: 'it returns false'. Refute it at one input. -/
def simplifyNearWrong : ChangeSpec := { name := "simplifyNear", fn := fun _ => fun
  | [d1, d2, d3] => { results := [.lit (.bool false)], args := [d1, d2, d3] }
  | _ => none }
def SimplifyNearWrongFalsely : Prop := simplifyNearRow.holds Tryz.pinned (OpenSpec.ofChange simplifyNearWrong)

/- THE SECOND FORM. 'bulk': how many values and letters a reading holds, each counted each time it is reached (what is shared counts as often as it is met; a slice's spare places count too). A statement '..UptoSaid' is the law's where the arguments, and the package variables that the reading takes, are together of bulk at most 1048576: NARROWER than '..Said'. Prove '..Said' where nothing that the law and all that it calls make is longer than what came in: it says more and counts as full. Else prove '..UptoSaid'. A law counts once. -/
mutual
def uptoBulk {H : Type} : DataW H → Nat
  | .lit (.string bytes) => bytes.length + 1
  | .lit _ => 1
  | .nil => 1
  | .ptr d => uptoBulk d + 1
  | .slice elems spare => uptoBulkAll elems + uptoBulkAll spare + 1
  | .agg parts => uptoBulkAll parts + 1
  | .iface _ d => uptoBulk d + 1
  | .map entries => uptoBulkEntries entries + 1
  | .held _ => 1
def uptoBulkAll {H : Type} : List (DataW H) → Nat
  | [] => 0
  | d :: r => uptoBulk d + uptoBulkAll r
def uptoBulkEntries {H : Type} : List (Lit × DataW H) → Nat
  | [] => 0
  | x :: r => uptoBulkEntry x + uptoBulkEntries r
def uptoBulkEntry {H : Type} : Lit × DataW H → Nat
  | (.string bytes, d) => bytes.length + uptoBulk d + 1
  | (_, d) => uptoBulk d + 1
 end
def uptoSmall : (H : Type) → List (DataW H) → Bool := fun _ ds => decide (uptoBulkAll ds ≤ 1048576)
def OpenSpec.upto (s : _root_.Go.ChangeSpec) : _root_.Go.OpenSpec := { _root_.Go.OpenSpec.ofChange s with cond := some uptoSmall }

/-- 'viatorlaw31.SimplifyDeviates', WHERE WHAT IT READS IS OF BULK AT MOST 1048576: true; the input reads as it did. -/
def simplifyDeviatesUptoRow : OpenClaim := { program := "ytgcjapcminakdaagreatdoor", sum := "fc317d4be963b9ba9055a1e7cf3ac81b95d25a01f5f443f009cac4d275b29ef9", func := "viator/viatorlaw31.SimplifyDeviates", spec := "simplifyDeviates", inPlace := ["internal/bytealg.abigen_runtime_cmpstring", "internal/bytealg.IndexByteString", "internal/bytealg.IndexString", "math/bits.Add64"], unfollowed := true, recurses := true, named := ["unicode/utf8.first", "unicode/utf8.acceptRanges", "internal/bytealg.MaxLen"], plainKeys := false, apart := false, laid := [("unicode/utf8.acceptRanges", laid_unicode_utf8_acceptRanges), ("unicode/utf8.first", laid_unicode_utf8_first)], narrowed := true }
def SimplifyDeviatesUptoSaid : Prop := simplifyDeviatesUptoRow.holds Tryz.pinned (OpenSpec.upto simplifyDeviatesSpec)

/-- 'viatorlaw31.SimplifyBuilds', WHERE WHAT IT READS IS OF BULK AT MOST 1048576: true; the input reads as it did. -/
def simplifyBuildsUptoRow : OpenClaim := { program := "ytgcjapcminakdaagreatdoor", sum := "fc317d4be963b9ba9055a1e7cf3ac81b95d25a01f5f443f009cac4d275b29ef9", func := "viator/viatorlaw31.SimplifyBuilds", spec := "simplifyBuilds", inPlace := ["internal/bytealg.abigen_runtime_cmpstring", "internal/bytealg.IndexByteString", "internal/bytealg.IndexString", "math/bits.Add64"], unfollowed := true, recurses := true, named := ["unicode/utf8.first", "unicode/utf8.acceptRanges", "internal/bytealg.MaxLen"], plainKeys := false, apart := false, laid := [("unicode/utf8.acceptRanges", laid_unicode_utf8_acceptRanges), ("unicode/utf8.first", laid_unicode_utf8_first)], narrowed := true }
def SimplifyBuildsUptoSaid : Prop := simplifyBuildsUptoRow.holds Tryz.pinned (OpenSpec.upto simplifyBuildsSpec)

/-- 'viatorlaw31.SimplifyRefuses', WHERE WHAT IT READS IS OF BULK AT MOST 1048576: true; the input reads as it did. -/
def simplifyRefusesUptoRow : OpenClaim := { program := "ytgcjapcminakdaagreatdoor", sum := "fc317d4be963b9ba9055a1e7cf3ac81b95d25a01f5f443f009cac4d275b29ef9", func := "viator/viatorlaw31.SimplifyRefuses", spec := "simplifyRefuses", inPlace := ["internal/bytealg.abigen_runtime_cmpstring", "internal/bytealg.IndexByteString", "internal/bytealg.IndexString", "math/bits.Add64", "internal/abi.NoEscape", "internal/bytealg.MakeNoZero"], unfollowed := true, recurses := true, named := ["unicode/utf8.first", "unicode/utf8.acceptRanges", "internal/bytealg.MaxLen"], plainKeys := false, apart := false, laid := [("unicode/utf8.acceptRanges", laid_unicode_utf8_acceptRanges), ("unicode/utf8.first", laid_unicode_utf8_first)], narrowed := true }
def SimplifyRefusesUptoSaid : Prop := simplifyRefusesUptoRow.holds Tryz.pinned (OpenSpec.upto simplifyRefusesSpec)

/-- 'viatorlaw31.SimplifyRuns', WHERE WHAT IT READS IS OF BULK AT MOST 1048576: true; the input reads as it did. -/
def simplifyRunsUptoRow : OpenClaim := { program := "ytgcjapcminakdaagreatdoor", sum := "fc317d4be963b9ba9055a1e7cf3ac81b95d25a01f5f443f009cac4d275b29ef9", func := "viator/viatorlaw31.SimplifyRuns", spec := "simplifyRuns", inPlace := ["internal/bytealg.abigen_runtime_cmpstring", "internal/bytealg.IndexByteString", "internal/bytealg.IndexString", "math/bits.Add64", "internal/abi.NoEscape", "internal/bytealg.MakeNoZero"], unfollowed := true, recurses := true, named := ["unicode/utf8.first", "unicode/utf8.acceptRanges", "internal/bytealg.MaxLen"], plainKeys := false, apart := false, laid := [("unicode/utf8.acceptRanges", laid_unicode_utf8_acceptRanges), ("unicode/utf8.first", laid_unicode_utf8_first)], narrowed := true }
def SimplifyRunsUptoSaid : Prop := simplifyRunsUptoRow.holds Tryz.pinned (OpenSpec.upto simplifyRunsSpec)

/-- 'viatorlaw31.SimplifySimplifies', WHERE WHAT IT READS IS OF BULK AT MOST 1048576: true; the input reads as it did. -/
def simplifySimplifiesUptoRow : OpenClaim := { program := "ytgcjapcminakdaagreatdoor", sum := "fc317d4be963b9ba9055a1e7cf3ac81b95d25a01f5f443f009cac4d275b29ef9", func := "viator/viatorlaw31.SimplifySimplifies", spec := "simplifySimplifies", inPlace := ["internal/bytealg.abigen_runtime_cmpstring", "internal/bytealg.IndexByteString", "internal/bytealg.IndexString", "math/bits.Add64", "internal/abi.NoEscape", "internal/bytealg.MakeNoZero"], unfollowed := true, recurses := true, named := ["unicode/utf8.first", "unicode/utf8.acceptRanges", "internal/bytealg.MaxLen"], plainKeys := false, apart := false, laid := [("unicode/utf8.acceptRanges", laid_unicode_utf8_acceptRanges), ("unicode/utf8.first", laid_unicode_utf8_first)], narrowed := true }
def SimplifySimplifiesUptoSaid : Prop := simplifySimplifiesUptoRow.holds Tryz.pinned (OpenSpec.upto simplifySimplifiesSpec)

/-- 'viatorlaw31.SimplifyNear', WHERE WHAT IT READS IS OF BULK AT MOST 1048576: true; the input reads as it did. -/
def simplifyNearUptoRow : OpenClaim := { program := "ytgcjapcminakdaagreatdoor", sum := "fc317d4be963b9ba9055a1e7cf3ac81b95d25a01f5f443f009cac4d275b29ef9", func := "viator/viatorlaw31.SimplifyNear", spec := "simplifyNear", inPlace := ["internal/bytealg.abigen_runtime_cmpstring", "internal/bytealg.IndexByteString", "internal/bytealg.IndexString", "math/bits.Add64", "internal/abi.NoEscape", "internal/bytealg.MakeNoZero"], unfollowed := true, recurses := true, named := ["unicode/utf8.first", "unicode/utf8.acceptRanges", "internal/bytealg.MaxLen"], plainKeys := false, apart := false, laid := [("unicode/utf8.acceptRanges", laid_unicode_utf8_acceptRanges), ("unicode/utf8.first", laid_unicode_utf8_first)], narrowed := true }
def SimplifyNearUptoSaid : Prop := simplifyNearUptoRow.holds Tryz.pinned (OpenSpec.upto simplifyNearSpec)

end Rows
end Go.Proofs.YtgcjapcminakdaaGreatDoor
