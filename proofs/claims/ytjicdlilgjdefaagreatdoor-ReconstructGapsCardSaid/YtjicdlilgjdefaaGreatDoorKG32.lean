/- that the gaps between reports are those of the chain (part 32 of 32.) Conditions: those that each statement names. -/
import Derived.Test.YtjicdlilgjdefaaGreatDoorKG31
set_option linter.unusedSimpArgs false
set_option linter.unusedVariables false
set_option maxHeartbeats 2000000
set_option maxRecDepth 100000
namespace Go.Proofs.YtjicdlilgjdefaaGreatDoor
open Go.ChangeShapes Go.WideShapes Go.ChangeAt Go.RowKit Go.Deep
theorem Zqt (f:FuncId)(fn:Func)(hf:Tryz.pinned.checked.prog.funcNamed "viator/viatorlaw28.ReconstructGaps" =some f)(hfn:Tryz.pinned.checked.prog.funcs[f]? =some fn):
  false=Tryz.pinned.checked.prog.looks []/\∀(j:Nat) t,fn.params[j]? =some t->Tryz.pinned.checked.prog.wantsStandIn t=false:=by
 obtain rfl:f=8:=Option.some.inj ((show Tryz.prog.funcNamed "viator/viatorlaw28.ReconstructGaps" =some 8 by kernel_rfl).symm.trans hf) |>.symm
 obtain rfl:fn=Tryz.f8:=(Option.some.inj (Tryz.func8.symm.trans hfn)).symm
 refine⟨by kernel_rfl,fun j t ht=>?_⟩
 rw[Tryz.params8] at ht
 have:=Array.mem_of_getElem? ht
 simp at this
 rcases this with rfl|rfl
 ·exact(show Tryz.prog.wantsStandIn 24=false by kernel_rfl)
 ·exact(show Tryz.prog.wantsStandIn 5=false by kernel_rfl)
theorem ZwV :Rows.reconstructGapsRow.wfByText (OpenSpec.ofChange Rows.reconstructGapsSpec)=true:=by kernel_rfl
theorem ZrX :false=Rows.reconstructGapsRow.goesBy Tryz.prog:=by kernel_rfl
/-- The card. -/
theorem reconstructGaps_card :Rows.ReconstructGapsCardSaid:=
 Claim7.holds_tied_plain_at .later [] _ _ _ _ Zsc (fun _ h=>by cases h) ZwV (fun _ h=>by cases h) reconstructGaps_row_tie rfl ⟨rfl,rfl⟩ (by kernel_rfl) rfl Zqt ZrX
end Go.Proofs.YtjicdlilgjdefaaGreatDoor
