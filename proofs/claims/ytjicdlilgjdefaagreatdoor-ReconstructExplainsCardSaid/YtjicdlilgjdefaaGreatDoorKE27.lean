/- Proof that reconstructed trajectories are explained by their reports (part 27 of 27.) Conditions: those that each statement names. -/
import Derived.Test.YtjicdlilgjdefaaGreatDoorKE26
/- The card of ReconstructExplains: the card. Conditions: none. -/
set_option linter.unusedSimpArgs false
set_option linter.unusedVariables false
set_option maxHeartbeats 2000000
namespace Go.Proofs.YtjicdlilgjdefaaGreatDoor
open Go.ChangeShapes Go.WideShapes Go.ChangeAt Go.RowKit Go.Deep
set_option maxRecDepth 100000
theorem xpl_plain (f : FuncId) (fn : Func) (hf : Tryz.pinned.checked.prog.funcNamed "viator/viatorlaw28.ReconstructExplains" = some f) (hfn : Tryz.pinned.checked.prog.funcs[f]? = some fn) :
  false = Tryz.pinned.checked.prog.looks [] ∧ ∀ (j : Nat) t, fn.params[j]? = some t → Tryz.pinned.checked.prog.wantsStandIn t = false := by
 obtain rfl : f = 3 := Option.some.inj ((show Tryz.prog.funcNamed "viator/viatorlaw28.ReconstructExplains" = some 3 by kernel_rfl).symm.trans hf) |>.symm
 obtain rfl : fn = Tryz.f3 := (Option.some.inj (Tryz.func3.symm.trans hfn)).symm
 refine ⟨by kernel_rfl, fun j t ht => ?_⟩
 rw [Tryz.params3] at ht
 have := Array.mem_of_getElem? ht
 simp at this
 rcases this with rfl | rfl
 ·exact (show Tryz.prog.wantsStandIn 24 = false by kernel_rfl)
 ·exact (show Tryz.prog.wantsStandIn 26 = false by kernel_rfl)
theorem xpl_wf : Rows.reconstructExplainsRow.wfByText (OpenSpec.ofChange Rows.reconstructExplainsSpec) = true := by kernel_rfl
theorem xpl_goes : false = Rows.reconstructExplainsRow.goesBy Tryz.prog := by kernel_rfl
/-- The card. -/
theorem reconstructExplains_card : Rows.ReconstructExplainsCardSaid :=
 Claim7.holds_tied_plain_at .later [] _ _ _ _ xpl_said (fun _ h => by cases h) xpl_wf (fun _ h => by cases h) reconstructExplains_row_tie rfl ⟨rfl, rfl⟩ (by kernel_rfl) rfl xpl_plain xpl_goes
end Go.Proofs.YtjicdlilgjdefaaGreatDoor
