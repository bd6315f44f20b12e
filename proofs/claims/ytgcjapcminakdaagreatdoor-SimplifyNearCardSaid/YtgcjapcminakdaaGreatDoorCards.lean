/-
  DERIVED. GIVEN WITH THE SEED: THE CARDS: each row of YtgcjapcminakdaaGreatDoorRows.lean that lists a variable, with what it lists TIED to the program's text (the seventh form; the later family's looks); each row that meets fmt, with fmt's text TOLD by the authors' own Lean function (tested against real Go, not proved from fmt's source: count such statements apart). THE CARD IS WHAT COUNTS. Prove the row's statement (the work); the ties are given (YtgcjapcminakdaaGreatDoorTie.lean); close each card by the builder's one call (the guide's Derived/Test/ToyasCard.lean, 'card_holds'). Laid BY PROGRAM, IN A SANDBOX (cutbox-door.mjs). By AI agents, Wed Nov 11 2026. No macro, syntax, notation, axiom, sorry.
-/
import Derived.Test.YtgcjapcminakdaaGreatDoorRows
import GoSem.ClaimSeven
namespace Go.Proofs.YtgcjapcminakdaaGreatDoor
namespace Rows

/-- THE TIED CARD OF 'viatorlaw31.SimplifyDeviates'. -/
def simplifyDeviatesCard : Claim7 := { stood := { row := simplifyDeviatesRow, standIns := [], harness := (true, "85fe98d78acdb919ffee7234533bfdb17890c0e05fc61b1457bf9df4ddc015b0"), looks := false }, kinds := [], alts := [], laidByText := true, laidKinds := [.data, .pinned], laidTests := true, laidLooks := .later }
def SimplifyDeviatesCardSaid : Prop := Claim7.holds Tryz.pinned (.plain (OpenSpec.ofChange simplifyDeviatesSpec)) simplifyDeviatesCard

/-- THE TIED CARD OF 'viatorlaw31.SimplifyBuilds'. -/
def simplifyBuildsCard : Claim7 := { stood := { row := simplifyBuildsRow, standIns := [], harness := (true, "85fe98d78acdb919ffee7234533bfdb17890c0e05fc61b1457bf9df4ddc015b0"), looks := false }, kinds := [], alts := [], laidByText := true, laidKinds := [.data, .pinned], laidTests := true, laidLooks := .later }
def SimplifyBuildsCardSaid : Prop := Claim7.holds Tryz.pinned (.plain (OpenSpec.ofChange simplifyBuildsSpec)) simplifyBuildsCard

/-- THE TIED CARD OF 'viatorlaw31.SimplifyRefuses'. -/
def simplifyRefusesCard : Claim7 := { stood := { row := simplifyRefusesRow, standIns := [], harness := (true, "85fe98d78acdb919ffee7234533bfdb17890c0e05fc61b1457bf9df4ddc015b0"), looks := false }, kinds := [], alts := [], laidByText := true, laidKinds := [.data, .pinned], laidTests := true, laidLooks := .later }
def SimplifyRefusesCardSaid : Prop := Claim7.holds Tryz.pinned (.plain (OpenSpec.ofChange simplifyRefusesSpec)) simplifyRefusesCard

/-- THE TIED CARD OF 'viatorlaw31.SimplifyRuns'. -/
def simplifyRunsCard : Claim7 := { stood := { row := simplifyRunsRow, standIns := [], harness := (true, "85fe98d78acdb919ffee7234533bfdb17890c0e05fc61b1457bf9df4ddc015b0"), looks := false }, kinds := [], alts := [], laidByText := true, laidKinds := [.data, .pinned], laidTests := true, laidLooks := .later }
def SimplifyRunsCardSaid : Prop := Claim7.holds Tryz.pinned (.plain (OpenSpec.ofChange simplifyRunsSpec)) simplifyRunsCard

/-- THE TIED CARD OF 'viatorlaw31.SimplifySimplifies'. -/
def simplifySimplifiesCard : Claim7 := { stood := { row := simplifySimplifiesRow, standIns := [], harness := (true, "85fe98d78acdb919ffee7234533bfdb17890c0e05fc61b1457bf9df4ddc015b0"), looks := false }, kinds := [], alts := [], laidByText := true, laidKinds := [.data, .pinned], laidTests := true, laidLooks := .later }
def SimplifySimplifiesCardSaid : Prop := Claim7.holds Tryz.pinned (.plain (OpenSpec.ofChange simplifySimplifiesSpec)) simplifySimplifiesCard

/-- THE TIED CARD OF 'viatorlaw31.SimplifyNear'. -/
def simplifyNearCard : Claim7 := { stood := { row := simplifyNearRow, standIns := [], harness := (true, "85fe98d78acdb919ffee7234533bfdb17890c0e05fc61b1457bf9df4ddc015b0"), looks := false }, kinds := [], alts := [], laidByText := true, laidKinds := [.data, .pinned], laidTests := true, laidLooks := .later }
def SimplifyNearCardSaid : Prop := Claim7.holds Tryz.pinned (.plain (OpenSpec.ofChange simplifyNearSpec)) simplifyNearCard

/-- THE SECOND FORM's CARD OF 'viatorlaw31.SimplifyDeviates'. -/
def simplifyDeviatesUptoCard : Claim7 := { stood := { row := simplifyDeviatesUptoRow, standIns := [], harness := (true, "85fe98d78acdb919ffee7234533bfdb17890c0e05fc61b1457bf9df4ddc015b0"), looks := false }, kinds := [], alts := [], laidByText := true, laidKinds := [.data, .pinned], laidTests := true, laidLooks := .later }
def SimplifyDeviatesUptoCardSaid : Prop := Claim7.holds Tryz.pinned (.plain (OpenSpec.upto simplifyDeviatesSpec)) simplifyDeviatesUptoCard

/-- THE SECOND FORM's CARD OF 'viatorlaw31.SimplifyBuilds'. -/
def simplifyBuildsUptoCard : Claim7 := { stood := { row := simplifyBuildsUptoRow, standIns := [], harness := (true, "85fe98d78acdb919ffee7234533bfdb17890c0e05fc61b1457bf9df4ddc015b0"), looks := false }, kinds := [], alts := [], laidByText := true, laidKinds := [.data, .pinned], laidTests := true, laidLooks := .later }
def SimplifyBuildsUptoCardSaid : Prop := Claim7.holds Tryz.pinned (.plain (OpenSpec.upto simplifyBuildsSpec)) simplifyBuildsUptoCard

/-- THE SECOND FORM's CARD OF 'viatorlaw31.SimplifyRefuses'. -/
def simplifyRefusesUptoCard : Claim7 := { stood := { row := simplifyRefusesUptoRow, standIns := [], harness := (true, "85fe98d78acdb919ffee7234533bfdb17890c0e05fc61b1457bf9df4ddc015b0"), looks := false }, kinds := [], alts := [], laidByText := true, laidKinds := [.data, .pinned], laidTests := true, laidLooks := .later }
def SimplifyRefusesUptoCardSaid : Prop := Claim7.holds Tryz.pinned (.plain (OpenSpec.upto simplifyRefusesSpec)) simplifyRefusesUptoCard

/-- THE SECOND FORM's CARD OF 'viatorlaw31.SimplifyRuns'. -/
def simplifyRunsUptoCard : Claim7 := { stood := { row := simplifyRunsUptoRow, standIns := [], harness := (true, "85fe98d78acdb919ffee7234533bfdb17890c0e05fc61b1457bf9df4ddc015b0"), looks := false }, kinds := [], alts := [], laidByText := true, laidKinds := [.data, .pinned], laidTests := true, laidLooks := .later }
def SimplifyRunsUptoCardSaid : Prop := Claim7.holds Tryz.pinned (.plain (OpenSpec.upto simplifyRunsSpec)) simplifyRunsUptoCard

/-- THE SECOND FORM's CARD OF 'viatorlaw31.SimplifySimplifies'. -/
def simplifySimplifiesUptoCard : Claim7 := { stood := { row := simplifySimplifiesUptoRow, standIns := [], harness := (true, "85fe98d78acdb919ffee7234533bfdb17890c0e05fc61b1457bf9df4ddc015b0"), looks := false }, kinds := [], alts := [], laidByText := true, laidKinds := [.data, .pinned], laidTests := true, laidLooks := .later }
def SimplifySimplifiesUptoCardSaid : Prop := Claim7.holds Tryz.pinned (.plain (OpenSpec.upto simplifySimplifiesSpec)) simplifySimplifiesUptoCard

/-- THE SECOND FORM's CARD OF 'viatorlaw31.SimplifyNear'. -/
def simplifyNearUptoCard : Claim7 := { stood := { row := simplifyNearUptoRow, standIns := [], harness := (true, "85fe98d78acdb919ffee7234533bfdb17890c0e05fc61b1457bf9df4ddc015b0"), looks := false }, kinds := [], alts := [], laidByText := true, laidKinds := [.data, .pinned], laidTests := true, laidLooks := .later }
def SimplifyNearUptoCardSaid : Prop := Claim7.holds Tryz.pinned (.plain (OpenSpec.upto simplifyNearSpec)) simplifyNearUptoCard
end Rows
end Go.Proofs.YtgcjapcminakdaaGreatDoor
