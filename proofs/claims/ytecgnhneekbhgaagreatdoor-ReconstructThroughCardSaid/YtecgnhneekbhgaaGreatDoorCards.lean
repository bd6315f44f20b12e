/-
  DERIVED. GIVEN WITH THE SEED: THE CARDS: each row of YtecgnhneekbhgaaGreatDoorRows.lean that lists a variable, with what it lists TIED to the program's text (the seventh form; the later family's looks); each row that meets fmt, with fmt's text TOLD by the authors' own Lean function (tested against real Go, not proved from fmt's source: count such statements apart). THE CARD IS WHAT COUNTS. Prove the row's statement (the work); the ties are given (YtecgnhneekbhgaaGreatDoorTie.lean); close each card by the builder's one call (the guide's Derived/Test/ToyasCard.lean, 'card_holds'). Laid BY PROGRAM, IN A SANDBOX (cutbox-door.mjs). By AI agents, Wed Nov 11 2026. No macro, syntax, notation, axiom, sorry.
-/
import Derived.Test.YtecgnhneekbhgaaGreatDoorRows
import GoSem.ClaimSeven
namespace Go.Proofs.YtecgnhneekbhgaaGreatDoor
namespace Rows

/-- THE TIED CARD OF 'viatorlaw28.ReconstructCompatible'. -/
def reconstructCompatibleCard : Claim7 := { stood := { row := reconstructCompatibleRow, standIns := [], harness := (true, "7e4d6652558b8b1726b6265c6ff6df281cc1a08b29f7b50caa7ca8780d08ffc3"), looks := false }, kinds := [], alts := [], laidByText := true, laidKinds := [.data, .pinned], laidTests := true, laidLooks := .later }
def ReconstructCompatibleCardSaid : Prop := Claim7.holds Tryz.pinned (.plain (OpenSpec.ofChange reconstructCompatibleSpec)) reconstructCompatibleCard

/-- THE TIED CARD OF 'viatorlaw28.ReconstructChains'. -/
def reconstructChainsCard : Claim7 := { stood := { row := reconstructChainsRow, standIns := [], harness := (true, "7e4d6652558b8b1726b6265c6ff6df281cc1a08b29f7b50caa7ca8780d08ffc3"), looks := false }, kinds := [], alts := [], laidByText := true, laidKinds := [.data, .pinned], laidTests := true, laidLooks := .later }
def ReconstructChainsCardSaid : Prop := Claim7.holds Tryz.pinned (.plain (OpenSpec.ofChange reconstructChainsSpec)) reconstructChainsCard

/-- THE TIED CARD OF 'viatorlaw28.ReconstructSettings'. -/
def reconstructSettingsCard : Claim7 := { stood := { row := reconstructSettingsRow, standIns := [], harness := (true, "7e4d6652558b8b1726b6265c6ff6df281cc1a08b29f7b50caa7ca8780d08ffc3"), looks := false }, kinds := [], alts := [], laidByText := true, laidKinds := [.data, .pinned], laidTests := true, laidLooks := .later }
def ReconstructSettingsCardSaid : Prop := Claim7.holds Tryz.pinned (.plain (OpenSpec.ofChange reconstructSettingsSpec)) reconstructSettingsCard

/-- THE TIED CARD OF 'viatorlaw28.ReconstructThrough'. -/
def reconstructThroughCard : Claim7 := { stood := { row := reconstructThroughRow, standIns := [], harness := (true, "7e4d6652558b8b1726b6265c6ff6df281cc1a08b29f7b50caa7ca8780d08ffc3"), looks := false }, kinds := [], alts := [], laidByText := true, laidKinds := [.data, .pinned], laidTests := true, laidLooks := .later }
def ReconstructThroughCardSaid : Prop := Claim7.holds Tryz.pinned (.plain (OpenSpec.ofChange reconstructThroughSpec)) reconstructThroughCard

/-- THE SECOND FORM's CARD OF 'viatorlaw28.ReconstructCompatible'. -/
def reconstructCompatibleUptoCard : Claim7 := { stood := { row := reconstructCompatibleUptoRow, standIns := [], harness := (true, "7e4d6652558b8b1726b6265c6ff6df281cc1a08b29f7b50caa7ca8780d08ffc3"), looks := false }, kinds := [], alts := [], laidByText := true, laidKinds := [.data, .pinned], laidTests := true, laidLooks := .later }
def ReconstructCompatibleUptoCardSaid : Prop := Claim7.holds Tryz.pinned (.plain (OpenSpec.upto reconstructCompatibleSpec)) reconstructCompatibleUptoCard

/-- THE SECOND FORM's CARD OF 'viatorlaw28.ReconstructChains'. -/
def reconstructChainsUptoCard : Claim7 := { stood := { row := reconstructChainsUptoRow, standIns := [], harness := (true, "7e4d6652558b8b1726b6265c6ff6df281cc1a08b29f7b50caa7ca8780d08ffc3"), looks := false }, kinds := [], alts := [], laidByText := true, laidKinds := [.data, .pinned], laidTests := true, laidLooks := .later }
def ReconstructChainsUptoCardSaid : Prop := Claim7.holds Tryz.pinned (.plain (OpenSpec.upto reconstructChainsSpec)) reconstructChainsUptoCard

/-- THE SECOND FORM's CARD OF 'viatorlaw28.ReconstructSettings'. -/
def reconstructSettingsUptoCard : Claim7 := { stood := { row := reconstructSettingsUptoRow, standIns := [], harness := (true, "7e4d6652558b8b1726b6265c6ff6df281cc1a08b29f7b50caa7ca8780d08ffc3"), looks := false }, kinds := [], alts := [], laidByText := true, laidKinds := [.data, .pinned], laidTests := true, laidLooks := .later }
def ReconstructSettingsUptoCardSaid : Prop := Claim7.holds Tryz.pinned (.plain (OpenSpec.upto reconstructSettingsSpec)) reconstructSettingsUptoCard

/-- THE SECOND FORM's CARD OF 'viatorlaw28.ReconstructThrough'. -/
def reconstructThroughUptoCard : Claim7 := { stood := { row := reconstructThroughUptoRow, standIns := [], harness := (true, "7e4d6652558b8b1726b6265c6ff6df281cc1a08b29f7b50caa7ca8780d08ffc3"), looks := false }, kinds := [], alts := [], laidByText := true, laidKinds := [.data, .pinned], laidTests := true, laidLooks := .later }
def ReconstructThroughUptoCardSaid : Prop := Claim7.holds Tryz.pinned (.plain (OpenSpec.upto reconstructThroughSpec)) reconstructThroughUptoCard
end Rows
end Go.Proofs.YtecgnhneekbhgaaGreatDoor
