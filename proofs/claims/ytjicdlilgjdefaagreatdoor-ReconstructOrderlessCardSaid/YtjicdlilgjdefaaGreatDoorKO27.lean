/- that the order in which batches arrive does not matter (part 27 of 27.) Conditions: those that each statement names. -/
import Derived.Test.YtjicdlilgjdefaaGreatDoorKO26
/- The card of ReconstructOrderless: the card. Conditions: none. -/
set_option linter.unusedSimpArgs false
set_option linter.unusedVariables false
set_option maxHeartbeats 2000000
namespace Go.Proofs.YtjicdlilgjdefaaGreatDoor
open Go.ChangeShapes Go.WideShapes Go.ChangeAt Go.RowKit Go.Deep
set_option maxRecDepth 100000
theorem Zn8 (f : FuncId) (fn : Func) (hf : Tryz.pinned.checked.prog.funcNamed "viator/viatorlaw28.ReconstructOrderless" = some f) (hfn : Tryz.pinned.checked.prog.funcs[f]? = some fn) :
  false = Tryz.pinned.checked.prog.looks [] ∧ ∀ (j : Nat) t, fn.params[j]? = some t → Tryz.pinned.checked.prog.wantsStandIn t = false := by
 obtain rfl : f = 6 := Option.some.inj ((show Tryz.prog.funcNamed "viator/viatorlaw28.ReconstructOrderless" = some 6 by kernel_rfl).symm.trans hf) |>.symm
 obtain rfl : fn = Tryz.f6 := (Option.some.inj (Tryz.func6.symm.trans hfn)).symm
 refine ⟨by kernel_rfl, fun j t ht => ?_⟩
 rw [Tryz.params6] at ht
 have := Array.mem_of_getElem? ht
 simp at this
 rcases this with rfl | rfl
 ·exact (show Tryz.prog.wantsStandIn 24 = false by kernel_rfl)
 ·exact (show Tryz.prog.wantsStandIn 5 = false by kernel_rfl)
theorem ZsG : Rows.reconstructOrderlessRow.wfByText (OpenSpec.ofChange Rows.reconstructOrderlessSpec) = true := by kernel_rfl
theorem ZpL : false = Rows.reconstructOrderlessRow.goesBy Tryz.prog := by kernel_rfl
/-- The card. -/
theorem reconstructOrderless_card : Rows.ReconstructOrderlessCardSaid :=
 Claim7.holds_tied_plain_at .later [] _ _ _ _ ZpM (fun _ h => by cases h) ZsG (fun _ h => by cases h) reconstructOrderless_row_tie rfl ⟨rfl, rfl⟩ (by kernel_rfl) rfl Zn8 ZpL
end Go.Proofs.YtjicdlilgjdefaaGreatDoor
