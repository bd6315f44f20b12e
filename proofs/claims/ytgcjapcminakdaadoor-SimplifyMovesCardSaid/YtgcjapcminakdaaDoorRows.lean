/-
  NARROWER THAN 'FOR EVERY INPUT', by the rows' own cells (each row's printed sentence says how): SimplifyKeeps: laid · SimplifyMoves: laid · SimplifyErrors: laid · SimplifyGreedy: laid.
  DERIVED. THE GIVEN ROWS OF THIS SEAT. 4 by the template 'for every input the law returns true; each argument reads behind the call as it read before'; 0 by the template 'total and deterministic' (their statements: YtgcjapcminakdaaDoorTotals.lean).
  GIVEN WITH THE SEED: the statements are not yours to turn. If you find one false, say at which input.
  Laid BY PROGRAM, IN A SANDBOX (cutbox-rows.mjs): the forced cells as the released guide's own fill.sh prints them over the translation 5b5c758e625b199e… (all of the seat's roots in one cut). By AI agents, Wed Nov 11 2026. No macro, syntax, notation, axiom, sorry.
-/
import Derived.Test.YtgcjapcminakdaaDoorChecked
import GoSem.PinnedTables
import GoSem.Claim
import GoSem.ClaimJoined
import GoSem.ClaimMapViews
import Derived.JoinedTies
import Derived.KernelRfl
namespace Go.Proofs.YtgcjapcminakdaaDoor
/- THE CELL 'sum', in the pinned program and in every row, IS THE sha256 OF THE DUMP (.gsa) THAT YtgcjapcminakdaaDoorProg.lean LOADS. Nothing in Lean hashes anything: it is a label: what it is worth is what the hold of that sum in a sandbox is worth. -/
noncomputable def Tryd.pinned : Pinned := { name := "ytgcjapcminakdaadoor", sum := "5b5c758e625b199e84b213aad59803de0a56f5afd01015083690d06c58f00828", checked := Tryd.checked }
namespace Rows
def none {H : Type} : Left H := { results := [], args := [] }

/- WHAT THE LISTED PACKAGE-LEVEL VARIABLES READ AS WHEN THE CALL BEGINS. Each datum BY PROGRAM (the guide's laid-datum.mjs) off the statement by which the dump's own 'gosem.cut.vars' lays the variable. In a bare row this is a premise. The card (YtgcjapcminakdaaDoorCards.lean) ties it to the program's text. -/
def laid_unicode_utf8_acceptRanges {H : Type} : DataW H := .agg [.agg [.lit (.int .u8 128), .lit (.int .u8 191)], .agg [.lit (.int .u8 160), .lit (.int .u8 191)], .agg [.lit (.int .u8 128), .lit (.int .u8 159)], .agg [.lit (.int .u8 144), .lit (.int .u8 191)], .agg [.lit (.int .u8 128), .lit (.int .u8 143)], .agg [.lit (.int .u8 0), .lit (.int .u8 0)], .agg [.lit (.int .u8 0), .lit (.int .u8 0)], .agg [.lit (.int .u8 0), .lit (.int .u8 0)], .agg [.lit (.int .u8 0), .lit (.int .u8 0)], .agg [.lit (.int .u8 0), .lit (.int .u8 0)], .agg [.lit (.int .u8 0), .lit (.int .u8 0)], .agg [.lit (.int .u8 0), .lit (.int .u8 0)], .agg [.lit (.int .u8 0), .lit (.int .u8 0)], .agg [.lit (.int .u8 0), .lit (.int .u8 0)], .agg [.lit (.int .u8 0), .lit (.int .u8 0)], .agg [.lit (.int .u8 0), .lit (.int .u8 0)]]
/-- One of Go's own tables, pinned by name: the form's constant. -/
def laid_unicode_utf8_first : DataW Unit := Go.Pinned.utf8First

/-- 'viatorlaw31.SimplifyKeeps': WHATEVER THE INPUT: true; the input reads as it did. -/
def simplifyKeepsSpec : ChangeSpec := { name := "simplifyKeeps", fn := fun _ => fun
  | [d1, d2] => { results := [.lit (.bool true)], args := [d1, d2] }
  | _ => none }
def simplifyKeepsRow : OpenClaim := { program := "ytgcjapcminakdaadoor", sum := "5b5c758e625b199e84b213aad59803de0a56f5afd01015083690d06c58f00828", func := "viator/viatorlaw31.SimplifyKeeps", spec := "simplifyKeeps", inPlace := ["internal/bytealg.abigen_runtime_cmpstring", "internal/bytealg.IndexByteString", "internal/bytealg.IndexString", "math/bits.Add64"], unfollowed := true, recurses := true, named := ["unicode/utf8.first", "unicode/utf8.acceptRanges", "internal/bytealg.MaxLen"], apart := false, laid := [("unicode/utf8.acceptRanges", laid_unicode_utf8_acceptRanges), ("unicode/utf8.first", laid_unicode_utf8_first)] }
def SimplifyKeepsSaid : Prop := simplifyKeepsRow.holds Tryd.pinned (OpenSpec.ofChange simplifyKeepsSpec)

/-- ITS FALSE NEIGHBOUR: 'it returns false'. Refute it at one input. -/
def simplifyKeepsWrong : ChangeSpec := { name := "simplifyKeeps", fn := fun _ => fun
  | [d1, d2] => { results := [.lit (.bool false)], args := [d1, d2] }
  | _ => none }
def SimplifyKeepsWrongFalsely : Prop := simplifyKeepsRow.holds Tryd.pinned (OpenSpec.ofChange simplifyKeepsWrong)

/-- 'viatorlaw31.SimplifyMoves': WHATEVER THE INPUT: true; the input reads as it did. -/
def simplifyMovesSpec : ChangeSpec := { name := "simplifyMoves", fn := fun _ => fun
  | [d1, d2, d3] => { results := [.lit (.bool true)], args := [d1, d2, d3] }
  | _ => none }
def simplifyMovesRow : OpenClaim := { program := "ytgcjapcminakdaadoor", sum := "5b5c758e625b199e84b213aad59803de0a56f5afd01015083690d06c58f00828", func := "viator/viatorlaw31.SimplifyMoves", spec := "simplifyMoves", inPlace := ["internal/bytealg.abigen_runtime_cmpstring", "internal/bytealg.IndexByteString", "internal/bytealg.IndexString", "math/bits.Add64"], unfollowed := true, recurses := true, named := ["unicode/utf8.first", "unicode/utf8.acceptRanges", "internal/bytealg.MaxLen"], apart := false, laid := [("unicode/utf8.acceptRanges", laid_unicode_utf8_acceptRanges), ("unicode/utf8.first", laid_unicode_utf8_first)] }
def SimplifyMovesSaid : Prop := simplifyMovesRow.holds Tryd.pinned (OpenSpec.ofChange simplifyMovesSpec)

/-- ITS FALSE NEIGHBOUR: 'it returns false'. Refute it at one input. -/
def simplifyMovesWrong : ChangeSpec := { name := "simplifyMoves", fn := fun _ => fun
  | [d1, d2, d3] => { results := [.lit (.bool false)], args := [d1, d2, d3] }
  | _ => none }
def SimplifyMovesWrongFalsely : Prop := simplifyMovesRow.holds Tryd.pinned (OpenSpec.ofChange simplifyMovesWrong)

/-- 'viatorlaw31.SimplifyErrors': WHATEVER THE INPUT: true; the input reads as it did. -/
def simplifyErrorsSpec : ChangeSpec := { name := "simplifyErrors", fn := fun _ => fun
  | [d1, d2, d3] => { results := [.lit (.bool true)], args := [d1, d2, d3] }
  | _ => none }
def simplifyErrorsRow : OpenClaim := { program := "ytgcjapcminakdaadoor", sum := "5b5c758e625b199e84b213aad59803de0a56f5afd01015083690d06c58f00828", func := "viator/viatorlaw31.SimplifyErrors", spec := "simplifyErrors", inPlace := ["internal/bytealg.abigen_runtime_cmpstring", "internal/bytealg.IndexByteString", "internal/bytealg.IndexString", "math/bits.Add64"], unfollowed := true, recurses := true, named := ["unicode/utf8.first", "unicode/utf8.acceptRanges", "internal/bytealg.MaxLen"], apart := false, laid := [("unicode/utf8.acceptRanges", laid_unicode_utf8_acceptRanges), ("unicode/utf8.first", laid_unicode_utf8_first)] }
def SimplifyErrorsSaid : Prop := simplifyErrorsRow.holds Tryd.pinned (OpenSpec.ofChange simplifyErrorsSpec)

/-- ITS FALSE NEIGHBOUR: 'it returns false'. Refute it at one input. -/
def simplifyErrorsWrong : ChangeSpec := { name := "simplifyErrors", fn := fun _ => fun
  | [d1, d2, d3] => { results := [.lit (.bool false)], args := [d1, d2, d3] }
  | _ => none }
def SimplifyErrorsWrongFalsely : Prop := simplifyErrorsRow.holds Tryd.pinned (OpenSpec.ofChange simplifyErrorsWrong)

/-- 'viatorlaw31.SimplifyGreedy': WHATEVER THE INPUT: true; the input reads as it did. -/
def simplifyGreedySpec : ChangeSpec := { name := "simplifyGreedy", fn := fun _ => fun
  | [d1, d2, d3] => { results := [.lit (.bool true)], args := [d1, d2, d3] }
  | _ => none }
def simplifyGreedyRow : OpenClaim := { program := "ytgcjapcminakdaadoor", sum := "5b5c758e625b199e84b213aad59803de0a56f5afd01015083690d06c58f00828", func := "viator/viatorlaw31.SimplifyGreedy", spec := "simplifyGreedy", inPlace := ["internal/bytealg.abigen_runtime_cmpstring", "internal/bytealg.IndexByteString", "internal/bytealg.IndexString", "math/bits.Add64"], unfollowed := true, recurses := true, named := ["unicode/utf8.first", "unicode/utf8.acceptRanges", "internal/bytealg.MaxLen"], apart := false, laid := [("unicode/utf8.acceptRanges", laid_unicode_utf8_acceptRanges), ("unicode/utf8.first", laid_unicode_utf8_first)] }
def SimplifyGreedySaid : Prop := simplifyGreedyRow.holds Tryd.pinned (OpenSpec.ofChange simplifyGreedySpec)

/-- ITS FALSE NEIGHBOUR: 'it returns false'. Refute it at one input. -/
def simplifyGreedyWrong : ChangeSpec := { name := "simplifyGreedy", fn := fun _ => fun
  | [d1, d2, d3] => { results := [.lit (.bool false)], args := [d1, d2, d3] }
  | _ => none }
def SimplifyGreedyWrongFalsely : Prop := simplifyGreedyRow.holds Tryd.pinned (OpenSpec.ofChange simplifyGreedyWrong)

/- THE SECOND FORM. 'bulk': how many values and letters a reading holds, each counted each time it is reached (what is shared counts as often as it is met; a slice's spare places count too). A statement '..UptoSaid' is the law's where the arguments, and the package variables that the reading takes, are together of bulk at most 1048576: NARROWER than '..Said'. Prove '..Said' where nothing that the law and all that it calls make is longer than what came in: it says more and counts as full. Else prove '..UptoSaid'. A law counts once. -/
mutual
def uptoBulk {H : Type} : DataW H → Nat
  | .lit (.string bytes) => bytes.length + 1
  | .lit _ => 1
  | .nil => 1
  | .ptr d => uptoBulk d + 1
  | .slice elems spare => uptoBulkAll elems + uptoBulkAll spare + 1
  | .agg parts => uptoBulkAll parts + 1
  | .iface _ d => uptoBulk d + 1
  | .map entries => uptoBulkEntries entries + 1
  | .held _ => 1
def uptoBulkAll {H : Type} : List (DataW H) → Nat
  | [] => 0
  | d :: r => uptoBulk d + uptoBulkAll r
def uptoBulkEntries {H : Type} : List (Lit × DataW H) → Nat
  | [] => 0
  | x :: r => uptoBulkEntry x + uptoBulkEntries r
def uptoBulkEntry {H : Type} : Lit × DataW H → Nat
  | (.string bytes, d) => bytes.length + uptoBulk d + 1
  | (_, d) => uptoBulk d + 1
 end
def uptoSmall : (H : Type) → List (DataW H) → Bool := fun _ ds => decide (uptoBulkAll ds ≤ 1048576)
def OpenSpec.upto (s : _root_.Go.ChangeSpec) : _root_.Go.OpenSpec := { _root_.Go.OpenSpec.ofChange s with cond := some uptoSmall }

/-- 'viatorlaw31.SimplifyKeeps', WHERE WHAT IT READS IS OF BULK AT MOST 1048576: true; the input reads as it did. -/
def simplifyKeepsUptoRow : OpenClaim := { program := "ytgcjapcminakdaadoor", sum := "5b5c758e625b199e84b213aad59803de0a56f5afd01015083690d06c58f00828", func := "viator/viatorlaw31.SimplifyKeeps", spec := "simplifyKeeps", inPlace := ["internal/bytealg.abigen_runtime_cmpstring", "internal/bytealg.IndexByteString", "internal/bytealg.IndexString", "math/bits.Add64"], unfollowed := true, recurses := true, named := ["unicode/utf8.first", "unicode/utf8.acceptRanges", "internal/bytealg.MaxLen"], apart := false, laid := [("unicode/utf8.acceptRanges", laid_unicode_utf8_acceptRanges), ("unicode/utf8.first", laid_unicode_utf8_first)], narrowed := true }
def SimplifyKeepsUptoSaid : Prop := simplifyKeepsUptoRow.holds Tryd.pinned (OpenSpec.upto simplifyKeepsSpec)

/-- 'viatorlaw31.SimplifyMoves', WHERE WHAT IT READS IS OF BULK AT MOST 1048576: true; the input reads as it did. -/
def simplifyMovesUptoRow : OpenClaim := { program := "ytgcjapcminakdaadoor", sum := "5b5c758e625b199e84b213aad59803de0a56f5afd01015083690d06c58f00828", func := "viator/viatorlaw31.SimplifyMoves", spec := "simplifyMoves", inPlace := ["internal/bytealg.abigen_runtime_cmpstring", "internal/bytealg.IndexByteString", "internal/bytealg.IndexString", "math/bits.Add64"], unfollowed := true, recurses := true, named := ["unicode/utf8.first", "unicode/utf8.acceptRanges", "internal/bytealg.MaxLen"], apart := false, laid := [("unicode/utf8.acceptRanges", laid_unicode_utf8_acceptRanges), ("unicode/utf8.first", laid_unicode_utf8_first)], narrowed := true }
def SimplifyMovesUptoSaid : Prop := simplifyMovesUptoRow.holds Tryd.pinned (OpenSpec.upto simplifyMovesSpec)

/-- 'viatorlaw31.SimplifyErrors', WHERE WHAT IT READS IS OF BULK AT MOST 1048576: true; the input reads as it did. -/
def simplifyErrorsUptoRow : OpenClaim := { program := "ytgcjapcminakdaadoor", sum := "5b5c758e625b199e84b213aad59803de0a56f5afd01015083690d06c58f00828", func := "viator/viatorlaw31.SimplifyErrors", spec := "simplifyErrors", inPlace := ["internal/bytealg.abigen_runtime_cmpstring", "internal/bytealg.IndexByteString", "internal/bytealg.IndexString", "math/bits.Add64"], unfollowed := true, recurses := true, named := ["unicode/utf8.first", "unicode/utf8.acceptRanges", "internal/bytealg.MaxLen"], apart := false, laid := [("unicode/utf8.acceptRanges", laid_unicode_utf8_acceptRanges), ("unicode/utf8.first", laid_unicode_utf8_first)], narrowed := true }
def SimplifyErrorsUptoSaid : Prop := simplifyErrorsUptoRow.holds Tryd.pinned (OpenSpec.upto simplifyErrorsSpec)

/-- 'viatorlaw31.SimplifyGreedy', WHERE WHAT IT READS IS OF BULK AT MOST 1048576: true; the input reads as it did. -/
def simplifyGreedyUptoRow : OpenClaim := { program := "ytgcjapcminakdaadoor", sum := "5b5c758e625b199e84b213aad59803de0a56f5afd01015083690d06c58f00828", func := "viator/viatorlaw31.SimplifyGreedy", spec := "simplifyGreedy", inPlace := ["internal/bytealg.abigen_runtime_cmpstring", "internal/bytealg.IndexByteString", "internal/bytealg.IndexString", "math/bits.Add64"], unfollowed := true, recurses := true, named := ["unicode/utf8.first", "unicode/utf8.acceptRanges", "internal/bytealg.MaxLen"], apart := false, laid := [("unicode/utf8.acceptRanges", laid_unicode_utf8_acceptRanges), ("unicode/utf8.first", laid_unicode_utf8_first)], narrowed := true }
def SimplifyGreedyUptoSaid : Prop := simplifyGreedyUptoRow.holds Tryd.pinned (OpenSpec.upto simplifyGreedySpec)

end Rows
end Go.Proofs.YtgcjapcminakdaaDoor
