/-
  NARROWER THAN 'FOR EVERY INPUT', by the rows' own cells (each row's printed sentence says how): ReconstructCompatible: laid · ReconstructChains: laid · ReconstructSettings: laid · ReconstructThrough: laid.
  DERIVED. THE GIVEN ROWS OF THIS SEAT. 4 by the template 'for every input the law returns true; each argument reads behind the call as it read before'; 0 by the template 'total and deterministic' (their statements: YtecgnhneekbhgaaGreatDoorTotals.lean).
  GIVEN WITH THE SEED: the statements are not yours to turn. If you find one false, say at which input.
  Laid BY PROGRAM, IN A SANDBOX (cutbox-rows.mjs): the forced cells as the released guide's own fill.sh prints them over the translation 2cfae93e3a9801bc… (all of the seat's roots in one cut). By AI agents, Wed Nov 11 2026. No macro, syntax, notation, axiom, sorry.
-/
import Derived.Test.YtecgnhneekbhgaaGreatDoorChecked
import GoSem.PinnedTables
import GoSem.Claim
import GoSem.ClaimJoined
import GoSem.ClaimMapViews
import Derived.JoinedTies
import Derived.KernelRfl
namespace Go.Proofs.YtecgnhneekbhgaaGreatDoor
/- THE CELL 'sum', in the pinned program and in every row, IS THE sha256 OF THE DUMP (.gsa) THAT YtecgnhneekbhgaaGreatDoorProg.lean LOADS. Nothing in Lean hashes anything: it is a label: what it is worth is what the hold of that sum in a sandbox is worth. -/
noncomputable def Tryz.pinned : Pinned := { name := "ytecgnhneekbhgaagreatdoor", sum := "2cfae93e3a9801bcdfce266ee4e6893d08cd0a5e7e45ed0d4f482fb7069de870", checked := Tryz.checked }
namespace Rows
def none {H : Type} : Left H := { results := [], args := [] }

/- WHAT THE LISTED PACKAGE-LEVEL VARIABLES READ AS WHEN THE CALL BEGINS. Each datum BY PROGRAM (the guide's laid-datum.mjs) off the statement by which the dump's own 'gosem.cut.vars' lays the variable. In a bare row this is a premise. The card (YtecgnhneekbhgaaGreatDoorCards.lean) ties it to the program's text. -/
def laid_unicode_utf8_acceptRanges {H : Type} : DataW H := .agg [.agg [.lit (.int .u8 128), .lit (.int .u8 191)], .agg [.lit (.int .u8 160), .lit (.int .u8 191)], .agg [.lit (.int .u8 128), .lit (.int .u8 159)], .agg [.lit (.int .u8 144), .lit (.int .u8 191)], .agg [.lit (.int .u8 128), .lit (.int .u8 143)], .agg [.lit (.int .u8 0), .lit (.int .u8 0)], .agg [.lit (.int .u8 0), .lit (.int .u8 0)], .agg [.lit (.int .u8 0), .lit (.int .u8 0)], .agg [.lit (.int .u8 0), .lit (.int .u8 0)], .agg [.lit (.int .u8 0), .lit (.int .u8 0)], .agg [.lit (.int .u8 0), .lit (.int .u8 0)], .agg [.lit (.int .u8 0), .lit (.int .u8 0)], .agg [.lit (.int .u8 0), .lit (.int .u8 0)], .agg [.lit (.int .u8 0), .lit (.int .u8 0)], .agg [.lit (.int .u8 0), .lit (.int .u8 0)], .agg [.lit (.int .u8 0), .lit (.int .u8 0)]]
/-- One of Go's own tables, pinned by name: the form's constant. -/
def laid_unicode_utf8_first : DataW Unit := Go.Pinned.utf8First

/-- 'viatorlaw28.ReconstructCompatible': WHATEVER THE INPUT: true; the input reads as it did. -/
def reconstructCompatibleSpec : ChangeSpec := { name := "reconstructCompatible", fn := fun _ => fun
  | [d1, d2] => { results := [.lit (.bool true)], args := [d1, d2] }
  | _ => none }
def reconstructCompatibleRow : OpenClaim := { program := "ytecgnhneekbhgaagreatdoor", sum := "2cfae93e3a9801bcdfce266ee4e6893d08cd0a5e7e45ed0d4f482fb7069de870", func := "viator/viatorlaw28.ReconstructCompatible", spec := "reconstructCompatible", inPlace := ["internal/bytealg.abigen_runtime_cmpstring", "internal/bytealg.IndexByteString", "internal/bytealg.IndexString", "math/bits.Add64"], unfollowed := true, recurses := true, named := ["unicode/utf8.first", "unicode/utf8.acceptRanges", "internal/bytealg.MaxLen"], plainKeys := false, apart := false, laid := [("unicode/utf8.acceptRanges", laid_unicode_utf8_acceptRanges), ("unicode/utf8.first", laid_unicode_utf8_first)] }
def ReconstructCompatibleSaid : Prop := reconstructCompatibleRow.holds Tryz.pinned (OpenSpec.ofChange reconstructCompatibleSpec)

/-- ITS FALSE NEIGHBOUR: 'it returns false'. Refute it at one input. -/
def reconstructCompatibleWrong : ChangeSpec := { name := "reconstructCompatible", fn := fun _ => fun
  | [d1, d2] => { results := [.lit (.bool false)], args := [d1, d2] }
  | _ => none }
def ReconstructCompatibleWrongFalsely : Prop := reconstructCompatibleRow.holds Tryz.pinned (OpenSpec.ofChange reconstructCompatibleWrong)

/-- 'viatorlaw28.ReconstructChains': WHATEVER THE INPUT: true; the input reads as it did. -/
def reconstructChainsSpec : ChangeSpec := { name := "reconstructChains", fn := fun _ => fun
  | [d1, d2, d3] => { results := [.lit (.bool true)], args := [d1, d2, d3] }
  | _ => none }
def reconstructChainsRow : OpenClaim := { program := "ytecgnhneekbhgaagreatdoor", sum := "2cfae93e3a9801bcdfce266ee4e6893d08cd0a5e7e45ed0d4f482fb7069de870", func := "viator/viatorlaw28.ReconstructChains", spec := "reconstructChains", inPlace := ["internal/bytealg.abigen_runtime_cmpstring", "internal/bytealg.IndexByteString", "internal/bytealg.IndexString", "math/bits.Add64"], unfollowed := true, recurses := true, named := ["unicode/utf8.first", "unicode/utf8.acceptRanges", "internal/bytealg.MaxLen"], plainKeys := false, apart := false, laid := [("unicode/utf8.acceptRanges", laid_unicode_utf8_acceptRanges), ("unicode/utf8.first", laid_unicode_utf8_first)] }
def ReconstructChainsSaid : Prop := reconstructChainsRow.holds Tryz.pinned (OpenSpec.ofChange reconstructChainsSpec)

/-- ITS FALSE NEIGHBOUR: 'it returns false'. Refute it at one input. -/
def reconstructChainsWrong : ChangeSpec := { name := "reconstructChains", fn := fun _ => fun
  | [d1, d2, d3] => { results := [.lit (.bool false)], args := [d1, d2, d3] }
  | _ => none }
def ReconstructChainsWrongFalsely : Prop := reconstructChainsRow.holds Tryz.pinned (OpenSpec.ofChange reconstructChainsWrong)

/-- 'viatorlaw28.ReconstructSettings': WHATEVER THE INPUT: true; the input reads as it did. -/
def reconstructSettingsSpec : ChangeSpec := { name := "reconstructSettings", fn := fun _ => fun
  | [d1, d2, d3] => { results := [.lit (.bool true)], args := [d1, d2, d3] }
  | _ => none }
def reconstructSettingsRow : OpenClaim := { program := "ytecgnhneekbhgaagreatdoor", sum := "2cfae93e3a9801bcdfce266ee4e6893d08cd0a5e7e45ed0d4f482fb7069de870", func := "viator/viatorlaw28.ReconstructSettings", spec := "reconstructSettings", inPlace := ["internal/bytealg.IndexByteString", "internal/bytealg.IndexString", "math/bits.Add64", "internal/bytealg.abigen_runtime_cmpstring"], unfollowed := true, recurses := true, named := ["unicode/utf8.first", "unicode/utf8.acceptRanges", "internal/bytealg.MaxLen"], plainKeys := false, apart := false, laid := [("unicode/utf8.acceptRanges", laid_unicode_utf8_acceptRanges), ("unicode/utf8.first", laid_unicode_utf8_first)] }
def ReconstructSettingsSaid : Prop := reconstructSettingsRow.holds Tryz.pinned (OpenSpec.ofChange reconstructSettingsSpec)

/-- ITS FALSE NEIGHBOUR: 'it returns false'. Refute it at one input. -/
def reconstructSettingsWrong : ChangeSpec := { name := "reconstructSettings", fn := fun _ => fun
  | [d1, d2, d3] => { results := [.lit (.bool false)], args := [d1, d2, d3] }
  | _ => none }
def ReconstructSettingsWrongFalsely : Prop := reconstructSettingsRow.holds Tryz.pinned (OpenSpec.ofChange reconstructSettingsWrong)

/-- 'viatorlaw28.ReconstructThrough': WHATEVER THE INPUT: true; the input reads as it did. -/
def reconstructThroughSpec : ChangeSpec := { name := "reconstructThrough", fn := fun _ => fun
  | [d1, d2, d3] => { results := [.lit (.bool true)], args := [d1, d2, d3] }
  | _ => none }
def reconstructThroughRow : OpenClaim := { program := "ytecgnhneekbhgaagreatdoor", sum := "2cfae93e3a9801bcdfce266ee4e6893d08cd0a5e7e45ed0d4f482fb7069de870", func := "viator/viatorlaw28.ReconstructThrough", spec := "reconstructThrough", inPlace := ["internal/bytealg.abigen_runtime_cmpstring", "internal/bytealg.IndexByteString", "internal/bytealg.IndexString", "math/bits.Add64", "internal/abi.NoEscape", "internal/bytealg.MakeNoZero"], unfollowed := true, recurses := true, named := ["unicode/utf8.first", "unicode/utf8.acceptRanges", "internal/bytealg.MaxLen"], plainKeys := false, apart := false, laid := [("unicode/utf8.acceptRanges", laid_unicode_utf8_acceptRanges), ("unicode/utf8.first", laid_unicode_utf8_first)] }
def ReconstructThroughSaid : Prop := reconstructThroughRow.holds Tryz.pinned (OpenSpec.ofChange reconstructThroughSpec)

/-- ITS FALSE NEIGHBOUR: 'it returns false'. Refute it at one input. -/
def reconstructThroughWrong : ChangeSpec := { name := "reconstructThrough", fn := fun _ => fun
  | [d1, d2, d3] => { results := [.lit (.bool false)], args := [d1, d2, d3] }
  | _ => none }
def ReconstructThroughWrongFalsely : Prop := reconstructThroughRow.holds Tryz.pinned (OpenSpec.ofChange reconstructThroughWrong)

/- THE SECOND FORM. 'bulk': how many values and letters a reading holds, each counted each time it is reached (what is shared counts as often as it is met; a slice's spare places count too). A statement '..UptoSaid' is the law's where the arguments, and the package variables that the reading takes, are together of bulk at most 1048576: NARROWER than '..Said'. Prove '..Said' where nothing that the law and all that it calls make is longer than what came in: it says more and counts as full. Else prove '..UptoSaid'. A law counts once. -/
mutual
def uptoBulk {H : Type} : DataW H → Nat
  | .lit (.string bytes) => bytes.length + 1
  | .lit _ => 1
  | .nil => 1
  | .ptr d => uptoBulk d + 1
  | .slice elems spare => uptoBulkAll elems + uptoBulkAll spare + 1
  | .agg parts => uptoBulkAll parts + 1
  | .iface _ d => uptoBulk d + 1
  | .map entries => uptoBulkEntries entries + 1
  | .held _ => 1
def uptoBulkAll {H : Type} : List (DataW H) → Nat
  | [] => 0
  | d :: r => uptoBulk d + uptoBulkAll r
def uptoBulkEntries {H : Type} : List (Lit × DataW H) → Nat
  | [] => 0
  | x :: r => uptoBulkEntry x + uptoBulkEntries r
def uptoBulkEntry {H : Type} : Lit × DataW H → Nat
  | (.string bytes, d) => bytes.length + uptoBulk d + 1
  | (_, d) => uptoBulk d + 1
 end
def uptoSmall : (H : Type) → List (DataW H) → Bool := fun _ ds => decide (uptoBulkAll ds ≤ 1048576)
def OpenSpec.upto (s : _root_.Go.ChangeSpec) : _root_.Go.OpenSpec := { _root_.Go.OpenSpec.ofChange s with cond := some uptoSmall }

/-- 'viatorlaw28.ReconstructCompatible', WHERE WHAT IT READS IS OF BULK AT MOST 1048576: true; the input reads as it did. -/
def reconstructCompatibleUptoRow : OpenClaim := { program := "ytecgnhneekbhgaagreatdoor", sum := "2cfae93e3a9801bcdfce266ee4e6893d08cd0a5e7e45ed0d4f482fb7069de870", func := "viator/viatorlaw28.ReconstructCompatible", spec := "reconstructCompatible", inPlace := ["internal/bytealg.abigen_runtime_cmpstring", "internal/bytealg.IndexByteString", "internal/bytealg.IndexString", "math/bits.Add64"], unfollowed := true, recurses := true, named := ["unicode/utf8.first", "unicode/utf8.acceptRanges", "internal/bytealg.MaxLen"], plainKeys := false, apart := false, laid := [("unicode/utf8.acceptRanges", laid_unicode_utf8_acceptRanges), ("unicode/utf8.first", laid_unicode_utf8_first)], narrowed := true }
def ReconstructCompatibleUptoSaid : Prop := reconstructCompatibleUptoRow.holds Tryz.pinned (OpenSpec.upto reconstructCompatibleSpec)

/-- 'viatorlaw28.ReconstructChains', WHERE WHAT IT READS IS OF BULK AT MOST 1048576: true; the input reads as it did. -/
def reconstructChainsUptoRow : OpenClaim := { program := "ytecgnhneekbhgaagreatdoor", sum := "2cfae93e3a9801bcdfce266ee4e6893d08cd0a5e7e45ed0d4f482fb7069de870", func := "viator/viatorlaw28.ReconstructChains", spec := "reconstructChains", inPlace := ["internal/bytealg.abigen_runtime_cmpstring", "internal/bytealg.IndexByteString", "internal/bytealg.IndexString", "math/bits.Add64"], unfollowed := true, recurses := true, named := ["unicode/utf8.first", "unicode/utf8.acceptRanges", "internal/bytealg.MaxLen"], plainKeys := false, apart := false, laid := [("unicode/utf8.acceptRanges", laid_unicode_utf8_acceptRanges), ("unicode/utf8.first", laid_unicode_utf8_first)], narrowed := true }
def ReconstructChainsUptoSaid : Prop := reconstructChainsUptoRow.holds Tryz.pinned (OpenSpec.upto reconstructChainsSpec)

/-- 'viatorlaw28.ReconstructSettings', WHERE WHAT IT READS IS OF BULK AT MOST 1048576: true; the input reads as it did. -/
def reconstructSettingsUptoRow : OpenClaim := { program := "ytecgnhneekbhgaagreatdoor", sum := "2cfae93e3a9801bcdfce266ee4e6893d08cd0a5e7e45ed0d4f482fb7069de870", func := "viator/viatorlaw28.ReconstructSettings", spec := "reconstructSettings", inPlace := ["internal/bytealg.IndexByteString", "internal/bytealg.IndexString", "math/bits.Add64", "internal/bytealg.abigen_runtime_cmpstring"], unfollowed := true, recurses := true, named := ["unicode/utf8.first", "unicode/utf8.acceptRanges", "internal/bytealg.MaxLen"], plainKeys := false, apart := false, laid := [("unicode/utf8.acceptRanges", laid_unicode_utf8_acceptRanges), ("unicode/utf8.first", laid_unicode_utf8_first)], narrowed := true }
def ReconstructSettingsUptoSaid : Prop := reconstructSettingsUptoRow.holds Tryz.pinned (OpenSpec.upto reconstructSettingsSpec)

/-- 'viatorlaw28.ReconstructThrough', WHERE WHAT IT READS IS OF BULK AT MOST 1048576: true; the input reads as it did. -/
def reconstructThroughUptoRow : OpenClaim := { program := "ytecgnhneekbhgaagreatdoor", sum := "2cfae93e3a9801bcdfce266ee4e6893d08cd0a5e7e45ed0d4f482fb7069de870", func := "viator/viatorlaw28.ReconstructThrough", spec := "reconstructThrough", inPlace := ["internal/bytealg.abigen_runtime_cmpstring", "internal/bytealg.IndexByteString", "internal/bytealg.IndexString", "math/bits.Add64", "internal/abi.NoEscape", "internal/bytealg.MakeNoZero"], unfollowed := true, recurses := true, named := ["unicode/utf8.first", "unicode/utf8.acceptRanges", "internal/bytealg.MaxLen"], plainKeys := false, apart := false, laid := [("unicode/utf8.acceptRanges", laid_unicode_utf8_acceptRanges), ("unicode/utf8.first", laid_unicode_utf8_first)], narrowed := true }
def ReconstructThroughUptoSaid : Prop := reconstructThroughUptoRow.holds Tryz.pinned (OpenSpec.upto reconstructThroughSpec)

end Rows
end Go.Proofs.YtecgnhneekbhgaaGreatDoor
