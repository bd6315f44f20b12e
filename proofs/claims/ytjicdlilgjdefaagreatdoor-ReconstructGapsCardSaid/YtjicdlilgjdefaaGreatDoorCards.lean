/-
  DERIVED. GIVEN WITH THE SEED: THE CARDS: each row of YtjicdlilgjdefaaGreatDoorRows.lean that lists a variable, with what it lists TIED to the program's text (the seventh form; the later family's looks); each row that meets fmt, with fmt's text TOLD by the authors' own Lean function (tested against real Go, not proved from fmt's source: count such statements apart). THE CARD IS WHAT COUNTS. Prove the row's statement (the work); the ties are given (YtjicdlilgjdefaaGreatDoorTie.lean); close each card by the builder's one call (the guide's Derived/Test/ToyasCard.lean, 'card_holds'). Laid BY PROGRAM, IN A SANDBOX (cutbox-door.mjs). By AI agents, Wed Nov 11 2026. No macro, syntax, notation, axiom, sorry.
-/
import Derived.Test.YtjicdlilgjdefaaGreatDoorRows
import GoSem.ClaimSeven
namespace Go.Proofs.YtjicdlilgjdefaaGreatDoor
namespace Rows

/-- THE TIED CARD OF 'viatorlaw28.ReconstructExplains'. -/
def reconstructExplainsCard : Claim7 := { stood := { row := reconstructExplainsRow, standIns := [], harness := (true, "f678e56d338e891619ee98a8c885bb63fd676304e08d681751f3a41b16673748"), looks := false }, kinds := [], alts := [], laidByText := true, laidKinds := [.data, .pinned], laidTests := true, laidLooks := .later }
def ReconstructExplainsCardSaid : Prop := Claim7.holds Tryz.pinned (.plain (OpenSpec.ofChange reconstructExplainsSpec)) reconstructExplainsCard

/-- THE TIED CARD OF 'viatorlaw28.ReconstructLocal'. -/
def reconstructLocalCard : Claim7 := { stood := { row := reconstructLocalRow, standIns := [], harness := (true, "f678e56d338e891619ee98a8c885bb63fd676304e08d681751f3a41b16673748"), looks := false }, kinds := [], alts := [], laidByText := true, laidKinds := [.data, .pinned], laidTests := true, laidLooks := .later }
def ReconstructLocalCardSaid : Prop := Claim7.holds Tryz.pinned (.plain (OpenSpec.ofChange reconstructLocalSpec)) reconstructLocalCard

/-- THE TIED CARD OF 'viatorlaw28.ReconstructFull'. -/
def reconstructFullCard : Claim7 := { stood := { row := reconstructFullRow, standIns := [], harness := (true, "f678e56d338e891619ee98a8c885bb63fd676304e08d681751f3a41b16673748"), looks := false }, kinds := [], alts := [], laidByText := true, laidKinds := [.data, .pinned], laidTests := true, laidLooks := .later }
def ReconstructFullCardSaid : Prop := Claim7.holds Tryz.pinned (.plain (OpenSpec.ofChange reconstructFullSpec)) reconstructFullCard

/-- THE TIED CARD OF 'viatorlaw28.ReconstructOrderless'. -/
def reconstructOrderlessCard : Claim7 := { stood := { row := reconstructOrderlessRow, standIns := [], harness := (true, "f678e56d338e891619ee98a8c885bb63fd676304e08d681751f3a41b16673748"), looks := false }, kinds := [], alts := [], laidByText := true, laidKinds := [.data, .pinned], laidTests := true, laidLooks := .later }
def ReconstructOrderlessCardSaid : Prop := Claim7.holds Tryz.pinned (.plain (OpenSpec.ofChange reconstructOrderlessSpec)) reconstructOrderlessCard

/-- THE TIED CARD OF 'viatorlaw28.ReconstructObjects'. -/
def reconstructObjectsCard : Claim7 := { stood := { row := reconstructObjectsRow, standIns := [], harness := (true, "f678e56d338e891619ee98a8c885bb63fd676304e08d681751f3a41b16673748"), looks := false }, kinds := [], alts := [], laidByText := true, laidKinds := [.data, .pinned], laidTests := true, laidLooks := .later }
def ReconstructObjectsCardSaid : Prop := Claim7.holds Tryz.pinned (.plain (OpenSpec.ofChange reconstructObjectsSpec)) reconstructObjectsCard

/-- THE TIED CARD OF 'viatorlaw28.ReconstructGaps'. -/
def reconstructGapsCard : Claim7 := { stood := { row := reconstructGapsRow, standIns := [], harness := (true, "f678e56d338e891619ee98a8c885bb63fd676304e08d681751f3a41b16673748"), looks := false }, kinds := [], alts := [], laidByText := true, laidKinds := [.data, .pinned], laidTests := true, laidLooks := .later }
def ReconstructGapsCardSaid : Prop := Claim7.holds Tryz.pinned (.plain (OpenSpec.ofChange reconstructGapsSpec)) reconstructGapsCard

/-- THE TIED CARD OF 'viatorlaw28.ReconstructPasses'. -/
def reconstructPassesCard : Claim7 := { stood := { row := reconstructPassesRow, standIns := [], harness := (true, "f678e56d338e891619ee98a8c885bb63fd676304e08d681751f3a41b16673748"), looks := false }, kinds := [], alts := [], laidByText := true, laidKinds := [.data, .pinned], laidTests := true, laidLooks := .later }
def ReconstructPassesCardSaid : Prop := Claim7.holds Tryz.pinned (.plain (OpenSpec.ofChange reconstructPassesSpec)) reconstructPassesCard

/-- THE SECOND FORM's CARD OF 'viatorlaw28.ReconstructExplains'. -/
def reconstructExplainsUptoCard : Claim7 := { stood := { row := reconstructExplainsUptoRow, standIns := [], harness := (true, "f678e56d338e891619ee98a8c885bb63fd676304e08d681751f3a41b16673748"), looks := false }, kinds := [], alts := [], laidByText := true, laidKinds := [.data, .pinned], laidTests := true, laidLooks := .later }
def ReconstructExplainsUptoCardSaid : Prop := Claim7.holds Tryz.pinned (.plain (OpenSpec.upto reconstructExplainsSpec)) reconstructExplainsUptoCard

/-- THE SECOND FORM's CARD OF 'viatorlaw28.ReconstructLocal'. -/
def reconstructLocalUptoCard : Claim7 := { stood := { row := reconstructLocalUptoRow, standIns := [], harness := (true, "f678e56d338e891619ee98a8c885bb63fd676304e08d681751f3a41b16673748"), looks := false }, kinds := [], alts := [], laidByText := true, laidKinds := [.data, .pinned], laidTests := true, laidLooks := .later }
def ReconstructLocalUptoCardSaid : Prop := Claim7.holds Tryz.pinned (.plain (OpenSpec.upto reconstructLocalSpec)) reconstructLocalUptoCard

/-- THE SECOND FORM's CARD OF 'viatorlaw28.ReconstructFull'. -/
def reconstructFullUptoCard : Claim7 := { stood := { row := reconstructFullUptoRow, standIns := [], harness := (true, "f678e56d338e891619ee98a8c885bb63fd676304e08d681751f3a41b16673748"), looks := false }, kinds := [], alts := [], laidByText := true, laidKinds := [.data, .pinned], laidTests := true, laidLooks := .later }
def ReconstructFullUptoCardSaid : Prop := Claim7.holds Tryz.pinned (.plain (OpenSpec.upto reconstructFullSpec)) reconstructFullUptoCard

/-- THE SECOND FORM's CARD OF 'viatorlaw28.ReconstructOrderless'. -/
def reconstructOrderlessUptoCard : Claim7 := { stood := { row := reconstructOrderlessUptoRow, standIns := [], harness := (true, "f678e56d338e891619ee98a8c885bb63fd676304e08d681751f3a41b16673748"), looks := false }, kinds := [], alts := [], laidByText := true, laidKinds := [.data, .pinned], laidTests := true, laidLooks := .later }
def ReconstructOrderlessUptoCardSaid : Prop := Claim7.holds Tryz.pinned (.plain (OpenSpec.upto reconstructOrderlessSpec)) reconstructOrderlessUptoCard

/-- THE SECOND FORM's CARD OF 'viatorlaw28.ReconstructObjects'. -/
def reconstructObjectsUptoCard : Claim7 := { stood := { row := reconstructObjectsUptoRow, standIns := [], harness := (true, "f678e56d338e891619ee98a8c885bb63fd676304e08d681751f3a41b16673748"), looks := false }, kinds := [], alts := [], laidByText := true, laidKinds := [.data, .pinned], laidTests := true, laidLooks := .later }
def ReconstructObjectsUptoCardSaid : Prop := Claim7.holds Tryz.pinned (.plain (OpenSpec.upto reconstructObjectsSpec)) reconstructObjectsUptoCard

/-- THE SECOND FORM's CARD OF 'viatorlaw28.ReconstructGaps'. -/
def reconstructGapsUptoCard : Claim7 := { stood := { row := reconstructGapsUptoRow, standIns := [], harness := (true, "f678e56d338e891619ee98a8c885bb63fd676304e08d681751f3a41b16673748"), looks := false }, kinds := [], alts := [], laidByText := true, laidKinds := [.data, .pinned], laidTests := true, laidLooks := .later }
def ReconstructGapsUptoCardSaid : Prop := Claim7.holds Tryz.pinned (.plain (OpenSpec.upto reconstructGapsSpec)) reconstructGapsUptoCard

/-- THE SECOND FORM's CARD OF 'viatorlaw28.ReconstructPasses'. -/
def reconstructPassesUptoCard : Claim7 := { stood := { row := reconstructPassesUptoRow, standIns := [], harness := (true, "f678e56d338e891619ee98a8c885bb63fd676304e08d681751f3a41b16673748"), looks := false }, kinds := [], alts := [], laidByText := true, laidKinds := [.data, .pinned], laidTests := true, laidLooks := .later }
def ReconstructPassesUptoCardSaid : Prop := Claim7.holds Tryz.pinned (.plain (OpenSpec.upto reconstructPassesSpec)) reconstructPassesUptoCard
end Rows
end Go.Proofs.YtjicdlilgjdefaaGreatDoor
