/- that objects are reconstructed from their reports (part 29 of 29.) Conditions: those that each statement names. -/
import Derived.Test.YtjicdlilgjdefaaGreatDoorKJ28
set_option linter.unusedSimpArgs false
set_option linter.unusedVariables false
set_option maxHeartbeats 2000000
set_option maxRecDepth 100000
namespace Go.Proofs.YtjicdlilgjdefaaGreatDoor
open Go.ChangeShapes Go.WideShapes Go.ChangeAt Go.RowKit Go.Deep
theorem Zon (f : FuncId) (fn : Func) (hf : Tryz.pinned.checked.prog.funcNamed "viator/viatorlaw28.ReconstructObjects" = some f) (hfn : Tryz.pinned.checked.prog.funcs[f]? = some fn) :
  false = Tryz.pinned.checked.prog.looks [] ∧ ∀ (j : Nat) t, fn.params[j]? = some t → Tryz.pinned.checked.prog.wantsStandIn t = false := by
 obtain rfl : f = 7 := Option.some.inj ((show Tryz.prog.funcNamed "viator/viatorlaw28.ReconstructObjects" = some 7 by kernel_rfl).symm.trans hf) |>.symm
 obtain rfl : fn = Tryz.f7 := (Option.some.inj (Tryz.func7.symm.trans hfn)).symm
 refine ⟨by kernel_rfl, fun j t ht => ?_⟩
 rw [Tryz.params7] at ht
 have := Array.mem_of_getElem? ht
 simp at this
 rcases this with rfl | rfl
 ·exact (show Tryz.prog.wantsStandIn 24 = false by kernel_rfl)
 ·exact (show Tryz.prog.wantsStandIn 5 = false by kernel_rfl)
theorem ZuW : Rows.reconstructObjectsRow.wfByText (OpenSpec.ofChange Rows.reconstructObjectsSpec) = true := by kernel_rfl
theorem ZpO : false = Rows.reconstructObjectsRow.goesBy Tryz.prog := by kernel_rfl
/-- The card. -/
theorem reconstructObjects_card : Rows.ReconstructObjectsCardSaid :=
 Claim7.holds_tied_plain_at .later [] _ _ _ _ Zqq (fun _ h => by cases h) ZuW (fun _ h => by cases h) reconstructObjects_row_tie rfl ⟨rfl, rfl⟩ (by kernel_rfl) rfl Zon ZpO
end Go.Proofs.YtjicdlilgjdefaaGreatDoor
