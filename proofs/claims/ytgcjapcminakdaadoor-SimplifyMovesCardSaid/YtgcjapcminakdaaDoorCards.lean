/-
  DERIVED. GIVEN WITH THE SEED: THE CARDS: each row of YtgcjapcminakdaaDoorRows.lean that lists a variable, with what it lists TIED to the program's text (the seventh form; the later family's looks); each row that meets fmt, with fmt's text TOLD by the authors' own Lean function (tested against real Go, not proved from fmt's source: count such statements apart). THE CARD IS WHAT COUNTS. Prove the row's statement (the work); the ties are given (YtgcjapcminakdaaDoorTie.lean); close each card by the builder's one call (the guide's Derived/Test/ToyasCard.lean, 'card_holds'). Laid BY PROGRAM, IN A SANDBOX (cutbox-door.mjs). By AI agents, Wed Nov 11 2026. No macro, syntax, notation, axiom, sorry.
-/
import Derived.Test.YtgcjapcminakdaaDoorRows
import GoSem.ClaimSeven
namespace Go.Proofs.YtgcjapcminakdaaDoor
namespace Rows

/-- THE TIED CARD OF 'viatorlaw31.SimplifyKeeps'. -/
def simplifyKeepsCard : Claim7 := { stood := { row := simplifyKeepsRow, standIns := [], harness := (true, "19dfb6f26ef436b9bfbe5c739a5a58c225d159062c05b15f2427f16a5c8246f8"), looks := false }, kinds := [], alts := [], laidByText := true, laidKinds := [.data, .pinned], laidTests := true, laidLooks := .later }
def SimplifyKeepsCardSaid : Prop := Claim7.holds Tryd.pinned (.plain (OpenSpec.ofChange simplifyKeepsSpec)) simplifyKeepsCard

/-- THE TIED CARD OF 'viatorlaw31.SimplifyMoves'. -/
def simplifyMovesCard : Claim7 := { stood := { row := simplifyMovesRow, standIns := [], harness := (true, "19dfb6f26ef436b9bfbe5c739a5a58c225d159062c05b15f2427f16a5c8246f8"), looks := false }, kinds := [], alts := [], laidByText := true, laidKinds := [.data, .pinned], laidTests := true, laidLooks := .later }
def SimplifyMovesCardSaid : Prop := Claim7.holds Tryd.pinned (.plain (OpenSpec.ofChange simplifyMovesSpec)) simplifyMovesCard

/-- THE TIED CARD OF 'viatorlaw31.SimplifyErrors'. -/
def simplifyErrorsCard : Claim7 := { stood := { row := simplifyErrorsRow, standIns := [], harness := (true, "19dfb6f26ef436b9bfbe5c739a5a58c225d159062c05b15f2427f16a5c8246f8"), looks := false }, kinds := [], alts := [], laidByText := true, laidKinds := [.data, .pinned], laidTests := true, laidLooks := .later }
def SimplifyErrorsCardSaid : Prop := Claim7.holds Tryd.pinned (.plain (OpenSpec.ofChange simplifyErrorsSpec)) simplifyErrorsCard

/-- THE TIED CARD OF 'viatorlaw31.SimplifyGreedy'. -/
def simplifyGreedyCard : Claim7 := { stood := { row := simplifyGreedyRow, standIns := [], harness := (true, "19dfb6f26ef436b9bfbe5c739a5a58c225d159062c05b15f2427f16a5c8246f8"), looks := false }, kinds := [], alts := [], laidByText := true, laidKinds := [.data, .pinned], laidTests := true, laidLooks := .later }
def SimplifyGreedyCardSaid : Prop := Claim7.holds Tryd.pinned (.plain (OpenSpec.ofChange simplifyGreedySpec)) simplifyGreedyCard

/-- THE SECOND FORM's CARD OF 'viatorlaw31.SimplifyKeeps'. -/
def simplifyKeepsUptoCard : Claim7 := { stood := { row := simplifyKeepsUptoRow, standIns := [], harness := (true, "19dfb6f26ef436b9bfbe5c739a5a58c225d159062c05b15f2427f16a5c8246f8"), looks := false }, kinds := [], alts := [], laidByText := true, laidKinds := [.data, .pinned], laidTests := true, laidLooks := .later }
def SimplifyKeepsUptoCardSaid : Prop := Claim7.holds Tryd.pinned (.plain (OpenSpec.upto simplifyKeepsSpec)) simplifyKeepsUptoCard

/-- THE SECOND FORM's CARD OF 'viatorlaw31.SimplifyMoves'. -/
def simplifyMovesUptoCard : Claim7 := { stood := { row := simplifyMovesUptoRow, standIns := [], harness := (true, "19dfb6f26ef436b9bfbe5c739a5a58c225d159062c05b15f2427f16a5c8246f8"), looks := false }, kinds := [], alts := [], laidByText := true, laidKinds := [.data, .pinned], laidTests := true, laidLooks := .later }
def SimplifyMovesUptoCardSaid : Prop := Claim7.holds Tryd.pinned (.plain (OpenSpec.upto simplifyMovesSpec)) simplifyMovesUptoCard

/-- THE SECOND FORM's CARD OF 'viatorlaw31.SimplifyErrors'. -/
def simplifyErrorsUptoCard : Claim7 := { stood := { row := simplifyErrorsUptoRow, standIns := [], harness := (true, "19dfb6f26ef436b9bfbe5c739a5a58c225d159062c05b15f2427f16a5c8246f8"), looks := false }, kinds := [], alts := [], laidByText := true, laidKinds := [.data, .pinned], laidTests := true, laidLooks := .later }
def SimplifyErrorsUptoCardSaid : Prop := Claim7.holds Tryd.pinned (.plain (OpenSpec.upto simplifyErrorsSpec)) simplifyErrorsUptoCard

/-- THE SECOND FORM's CARD OF 'viatorlaw31.SimplifyGreedy'. -/
def simplifyGreedyUptoCard : Claim7 := { stood := { row := simplifyGreedyUptoRow, standIns := [], harness := (true, "19dfb6f26ef436b9bfbe5c739a5a58c225d159062c05b15f2427f16a5c8246f8"), looks := false }, kinds := [], alts := [], laidByText := true, laidKinds := [.data, .pinned], laidTests := true, laidLooks := .later }
def SimplifyGreedyUptoCardSaid : Prop := Claim7.holds Tryd.pinned (.plain (OpenSpec.upto simplifyGreedySpec)) simplifyGreedyUptoCard
end Rows
end Go.Proofs.YtgcjapcminakdaaDoor
