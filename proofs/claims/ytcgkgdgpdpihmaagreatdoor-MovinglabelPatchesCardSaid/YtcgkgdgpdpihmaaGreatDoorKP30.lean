/- For any two moving labels and any period, Restrict returns the part during the period, and Patch the second one in place of the first one; patching by a part of itself changes nothing. Conditions: none. (part 30 of 30.) Conditions: those that each statement names. -/
import Derived.Test.YtcgkgdgpdpihmaaGreatDoorKP29
set_option linter.unusedSimpArgs false
set_option linter.unusedVariables false
set_option maxHeartbeats 2000000
set_option maxRecDepth 100000
namespace Go.Proofs.YtcgkgdgpdpihmaaGreatDoor
open Go.ChangeShapes Go.WideShapes Go.ChangeAt Go.RowKit Go.Deep
theorem Zn6 (f:FuncId)(fn:Func)(hf:Tryz.pinned.checked.prog.funcNamed "viator/viatorlaw16.MovinglabelPatches" =some f)(hfn:Tryz.pinned.checked.prog.funcs[f]? =some fn):
  false=Tryz.pinned.checked.prog.looks []/\∀(j:Nat) t,fn.params[j]? =some t->Tryz.pinned.checked.prog.wantsStandIn t=false:=by
 obtain rfl:f=10:=Option.some.inj ((show Tryz.prog.funcNamed "viator/viatorlaw16.MovinglabelPatches" =some 10 by kernel_rfl).symm.trans hf) |>.symm
 obtain rfl:fn=Tryz.f10:=(Option.some.inj (Tryz.func10.symm.trans hfn)).symm
 refine⟨by kernel_rfl,fun j t ht=>?_⟩
 rw[Tryz.params10] at ht
 have:=Array.mem_of_getElem? ht
 simp at this
 rcases this with rfl|rfl
 ·exact(show Tryz.prog.wantsStandIn 23=false by kernel_rfl)
 ·exact(show Tryz.prog.wantsStandIn 75=false by kernel_rfl)
theorem ZsP :Rows.movinglabelPatchesRow.wfByText (OpenSpec.ofChange Rows.movinglabelPatchesSpec)=true:=by kernel_rfl
theorem ZoO :false=Rows.movinglabelPatchesRow.goesBy Tryz.prog:=by kernel_rfl
/-- The card. -/
theorem movinglabelPatches_card :Rows.MovinglabelPatchesCardSaid:=
 Claim7.holds_tied_plain_at .later [] _ _ _ _ ZoQ (fun _ h=>by cases h) ZsP (fun _ h=>by cases h) movinglabelPatches_row_tie rfl ⟨rfl,rfl⟩ (by kernel_rfl) rfl Zn6 ZoO
end Go.Proofs.YtcgkgdgpdpihmaaGreatDoor
