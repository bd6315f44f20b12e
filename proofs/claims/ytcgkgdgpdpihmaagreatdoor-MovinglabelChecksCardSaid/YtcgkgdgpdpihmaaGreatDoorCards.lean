/-
  DERIVED. GIVEN WITH THE SEED: THE CARDS: each row of YtcgkgdgpdpihmaaGreatDoorRows.lean that lists a variable, with what it lists TIED to the program's text (the seventh form; the later family's looks); each row that meets fmt, with fmt's text TOLD by the authors' own Lean function (tested against real Go, not proved from fmt's source: count such statements apart). THE CARD IS WHAT COUNTS. Prove the row's statement (the work); the ties are given (YtcgkgdgpdpihmaaGreatDoorTie.lean); close each card by the builder's one call (the guide's Derived/Test/ToyasCard.lean, 'card_holds'). Laid BY PROGRAM, IN A SANDBOX (cutbox-door.mjs). By AI agents, Wed Nov 11 2026. No macro, syntax, notation, axiom, sorry.
-/
import Derived.Test.YtcgkgdgpdpihmaaGreatDoorRows
import GoSem.ClaimSeven
namespace Go.Proofs.YtcgkgdgpdpihmaaGreatDoor
namespace Rows

/-- THE TIED CARD OF 'viatorlaw16.MovinglabelChecks'. -/
def movinglabelChecksCard : Claim7 := { stood := { row := movinglabelChecksRow, standIns := [], harness := (true, "94e7046f70a496380933f0a2a5cd1bdf00b4daed551d93c2ddce79251089ab76"), looks := false }, kinds := [], alts := [], laidByText := true, laidKinds := [.data, .data, .pinned], laidTests := true, laidLooks := .later }
def MovinglabelChecksCardSaid : Prop := Claim7.holds Tryz.pinned (.plain (OpenSpec.ofChange movinglabelChecksSpec)) movinglabelChecksCard

/-- THE TIED CARD OF 'viatorlaw16.MovinglabelNormal'. -/
def movinglabelNormalCard : Claim7 := { stood := { row := movinglabelNormalRow, standIns := [], harness := (true, "94e7046f70a496380933f0a2a5cd1bdf00b4daed551d93c2ddce79251089ab76"), looks := false }, kinds := [], alts := [], laidByText := true, laidKinds := [.data, .data, .pinned], laidTests := true, laidLooks := .later }
def MovinglabelNormalCardSaid : Prop := Claim7.holds Tryz.pinned (.plain (OpenSpec.ofChange movinglabelNormalSpec)) movinglabelNormalCard

/-- THE TIED CARD OF 'viatorlaw16.MovinglabelFollows'. -/
def movinglabelFollowsCard : Claim7 := { stood := { row := movinglabelFollowsRow, standIns := [], harness := (true, "94e7046f70a496380933f0a2a5cd1bdf00b4daed551d93c2ddce79251089ab76"), looks := false }, kinds := [], alts := [], laidByText := true, laidKinds := [.data, .data, .pinned], laidTests := true, laidLooks := .later }
def MovinglabelFollowsCardSaid : Prop := Claim7.holds Tryz.pinned (.plain (OpenSpec.ofChange movinglabelFollowsSpec)) movinglabelFollowsCard

/-- THE TIED CARD OF 'viatorlaw16.MovinglabelVisits'. -/
def movinglabelVisitsCard : Claim7 := { stood := { row := movinglabelVisitsRow, standIns := [], harness := (true, "94e7046f70a496380933f0a2a5cd1bdf00b4daed551d93c2ddce79251089ab76"), looks := false }, kinds := [], alts := [], laidByText := true, laidKinds := [.data, .data, .pinned], laidTests := true, laidLooks := .later }
def MovinglabelVisitsCardSaid : Prop := Claim7.holds Tryz.pinned (.plain (OpenSpec.ofChange movinglabelVisitsSpec)) movinglabelVisitsCard

/-- THE TIED CARD OF 'viatorlaw16.MovinglabelShifts'. -/
def movinglabelShiftsCard : Claim7 := { stood := { row := movinglabelShiftsRow, standIns := [], harness := (true, "94e7046f70a496380933f0a2a5cd1bdf00b4daed551d93c2ddce79251089ab76"), looks := false }, kinds := [], alts := [], laidByText := true, laidKinds := [.data, .data, .pinned], laidTests := true, laidLooks := .later }
def MovinglabelShiftsCardSaid : Prop := Claim7.holds Tryz.pinned (.plain (OpenSpec.ofChange movinglabelShiftsSpec)) movinglabelShiftsCard

/-- THE TIED CARD OF 'viatorlaw16.MovinglabelMakes'. -/
def movinglabelMakesCard : Claim7 := { stood := { row := movinglabelMakesRow, standIns := [], harness := (true, "94e7046f70a496380933f0a2a5cd1bdf00b4daed551d93c2ddce79251089ab76"), looks := false }, kinds := [], alts := [], laidByText := true, laidKinds := [.data, .data, .pinned], laidTests := true, laidLooks := .later }
def MovinglabelMakesCardSaid : Prop := Claim7.holds Tryz.pinned (.plain (OpenSpec.ofChange movinglabelMakesSpec)) movinglabelMakesCard

/-- THE TIED CARD OF 'viatorlaw16.MovinglabelCompares'. -/
def movinglabelComparesCard : Claim7 := { stood := { row := movinglabelComparesRow, standIns := [], harness := (true, "94e7046f70a496380933f0a2a5cd1bdf00b4daed551d93c2ddce79251089ab76"), looks := false }, kinds := [], alts := [], laidByText := true, laidKinds := [.data, .data, .pinned], laidTests := true, laidLooks := .later }
def MovinglabelComparesCardSaid : Prop := Claim7.holds Tryz.pinned (.plain (OpenSpec.ofChange movinglabelComparesSpec)) movinglabelComparesCard

/-- THE TIED CARD OF 'viatorlaw16.MovinglabelPatches'. -/
def movinglabelPatchesCard : Claim7 := { stood := { row := movinglabelPatchesRow, standIns := [], harness := (true, "94e7046f70a496380933f0a2a5cd1bdf00b4daed551d93c2ddce79251089ab76"), looks := false }, kinds := [], alts := [], laidByText := true, laidKinds := [.data, .data, .pinned], laidTests := true, laidLooks := .later }
def MovinglabelPatchesCardSaid : Prop := Claim7.holds Tryz.pinned (.plain (OpenSpec.ofChange movinglabelPatchesSpec)) movinglabelPatchesCard

/-- THE TIED CARD OF 'viatorlaw16.MovinglabelCombines'. -/
def movinglabelCombinesCard : Claim7 := { stood := { row := movinglabelCombinesRow, standIns := [], harness := (true, "94e7046f70a496380933f0a2a5cd1bdf00b4daed551d93c2ddce79251089ab76"), looks := false }, kinds := [], alts := [], laidByText := true, laidKinds := [.data, .data, .pinned], laidTests := true, laidLooks := .later }
def MovinglabelCombinesCardSaid : Prop := Claim7.holds Tryz.pinned (.plain (OpenSpec.ofChange movinglabelCombinesSpec)) movinglabelCombinesCard

/-- THE TIED CARD OF 'viatorlaw16.MovinglabelValues'. -/
def movinglabelValuesCard : Claim7 := { stood := { row := movinglabelValuesRow, standIns := [], harness := (true, "94e7046f70a496380933f0a2a5cd1bdf00b4daed551d93c2ddce79251089ab76"), looks := false }, kinds := [], alts := [], laidByText := true, laidKinds := [.data, .data, .pinned], laidTests := true, laidLooks := .later }
def MovinglabelValuesCardSaid : Prop := Claim7.holds Tryz.pinned (.plain (OpenSpec.ofChange movinglabelValuesSpec)) movinglabelValuesCard

/-- THE SECOND FORM's CARD OF 'viatorlaw16.MovinglabelChecks'. -/
def movinglabelChecksUptoCard : Claim7 := { stood := { row := movinglabelChecksUptoRow, standIns := [], harness := (true, "94e7046f70a496380933f0a2a5cd1bdf00b4daed551d93c2ddce79251089ab76"), looks := false }, kinds := [], alts := [], laidByText := true, laidKinds := [.data, .data, .pinned], laidTests := true, laidLooks := .later }
def MovinglabelChecksUptoCardSaid : Prop := Claim7.holds Tryz.pinned (.plain (OpenSpec.upto movinglabelChecksSpec)) movinglabelChecksUptoCard

/-- THE SECOND FORM's CARD OF 'viatorlaw16.MovinglabelNormal'. -/
def movinglabelNormalUptoCard : Claim7 := { stood := { row := movinglabelNormalUptoRow, standIns := [], harness := (true, "94e7046f70a496380933f0a2a5cd1bdf00b4daed551d93c2ddce79251089ab76"), looks := false }, kinds := [], alts := [], laidByText := true, laidKinds := [.data, .data, .pinned], laidTests := true, laidLooks := .later }
def MovinglabelNormalUptoCardSaid : Prop := Claim7.holds Tryz.pinned (.plain (OpenSpec.upto movinglabelNormalSpec)) movinglabelNormalUptoCard

/-- THE SECOND FORM's CARD OF 'viatorlaw16.MovinglabelFollows'. -/
def movinglabelFollowsUptoCard : Claim7 := { stood := { row := movinglabelFollowsUptoRow, standIns := [], harness := (true, "94e7046f70a496380933f0a2a5cd1bdf00b4daed551d93c2ddce79251089ab76"), looks := false }, kinds := [], alts := [], laidByText := true, laidKinds := [.data, .data, .pinned], laidTests := true, laidLooks := .later }
def MovinglabelFollowsUptoCardSaid : Prop := Claim7.holds Tryz.pinned (.plain (OpenSpec.upto movinglabelFollowsSpec)) movinglabelFollowsUptoCard

/-- THE SECOND FORM's CARD OF 'viatorlaw16.MovinglabelVisits'. -/
def movinglabelVisitsUptoCard : Claim7 := { stood := { row := movinglabelVisitsUptoRow, standIns := [], harness := (true, "94e7046f70a496380933f0a2a5cd1bdf00b4daed551d93c2ddce79251089ab76"), looks := false }, kinds := [], alts := [], laidByText := true, laidKinds := [.data, .data, .pinned], laidTests := true, laidLooks := .later }
def MovinglabelVisitsUptoCardSaid : Prop := Claim7.holds Tryz.pinned (.plain (OpenSpec.upto movinglabelVisitsSpec)) movinglabelVisitsUptoCard

/-- THE SECOND FORM's CARD OF 'viatorlaw16.MovinglabelShifts'. -/
def movinglabelShiftsUptoCard : Claim7 := { stood := { row := movinglabelShiftsUptoRow, standIns := [], harness := (true, "94e7046f70a496380933f0a2a5cd1bdf00b4daed551d93c2ddce79251089ab76"), looks := false }, kinds := [], alts := [], laidByText := true, laidKinds := [.data, .data, .pinned], laidTests := true, laidLooks := .later }
def MovinglabelShiftsUptoCardSaid : Prop := Claim7.holds Tryz.pinned (.plain (OpenSpec.upto movinglabelShiftsSpec)) movinglabelShiftsUptoCard

/-- THE SECOND FORM's CARD OF 'viatorlaw16.MovinglabelMakes'. -/
def movinglabelMakesUptoCard : Claim7 := { stood := { row := movinglabelMakesUptoRow, standIns := [], harness := (true, "94e7046f70a496380933f0a2a5cd1bdf00b4daed551d93c2ddce79251089ab76"), looks := false }, kinds := [], alts := [], laidByText := true, laidKinds := [.data, .data, .pinned], laidTests := true, laidLooks := .later }
def MovinglabelMakesUptoCardSaid : Prop := Claim7.holds Tryz.pinned (.plain (OpenSpec.upto movinglabelMakesSpec)) movinglabelMakesUptoCard

/-- THE SECOND FORM's CARD OF 'viatorlaw16.MovinglabelCompares'. -/
def movinglabelComparesUptoCard : Claim7 := { stood := { row := movinglabelComparesUptoRow, standIns := [], harness := (true, "94e7046f70a496380933f0a2a5cd1bdf00b4daed551d93c2ddce79251089ab76"), looks := false }, kinds := [], alts := [], laidByText := true, laidKinds := [.data, .data, .pinned], laidTests := true, laidLooks := .later }
def MovinglabelComparesUptoCardSaid : Prop := Claim7.holds Tryz.pinned (.plain (OpenSpec.upto movinglabelComparesSpec)) movinglabelComparesUptoCard

/-- THE SECOND FORM's CARD OF 'viatorlaw16.MovinglabelPatches'. -/
def movinglabelPatchesUptoCard : Claim7 := { stood := { row := movinglabelPatchesUptoRow, standIns := [], harness := (true, "94e7046f70a496380933f0a2a5cd1bdf00b4daed551d93c2ddce79251089ab76"), looks := false }, kinds := [], alts := [], laidByText := true, laidKinds := [.data, .data, .pinned], laidTests := true, laidLooks := .later }
def MovinglabelPatchesUptoCardSaid : Prop := Claim7.holds Tryz.pinned (.plain (OpenSpec.upto movinglabelPatchesSpec)) movinglabelPatchesUptoCard

/-- THE SECOND FORM's CARD OF 'viatorlaw16.MovinglabelCombines'. -/
def movinglabelCombinesUptoCard : Claim7 := { stood := { row := movinglabelCombinesUptoRow, standIns := [], harness := (true, "94e7046f70a496380933f0a2a5cd1bdf00b4daed551d93c2ddce79251089ab76"), looks := false }, kinds := [], alts := [], laidByText := true, laidKinds := [.data, .data, .pinned], laidTests := true, laidLooks := .later }
def MovinglabelCombinesUptoCardSaid : Prop := Claim7.holds Tryz.pinned (.plain (OpenSpec.upto movinglabelCombinesSpec)) movinglabelCombinesUptoCard

/-- THE SECOND FORM's CARD OF 'viatorlaw16.MovinglabelValues'. -/
def movinglabelValuesUptoCard : Claim7 := { stood := { row := movinglabelValuesUptoRow, standIns := [], harness := (true, "94e7046f70a496380933f0a2a5cd1bdf00b4daed551d93c2ddce79251089ab76"), looks := false }, kinds := [], alts := [], laidByText := true, laidKinds := [.data, .data, .pinned], laidTests := true, laidLooks := .later }
def MovinglabelValuesUptoCardSaid : Prop := Claim7.holds Tryz.pinned (.plain (OpenSpec.upto movinglabelValuesSpec)) movinglabelValuesUptoCard
end Rows
end Go.Proofs.YtcgkgdgpdpihmaaGreatDoor
