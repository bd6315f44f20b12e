/- For any moving label and any length, Visits returns the labels of the units without repetitions, and Longer the units that last at least so long. Conditions: none. (part 27 of 27.) Conditions: those that each statement names. -/
import Derived.Test.YtcgkgdgpdpihmaaGreatDoorKV26
set_option linter.unusedSimpArgs false
set_option linter.unusedVariables false
set_option maxHeartbeats 2000000
set_option maxRecDepth 100000
namespace Go.Proofs.YtcgkgdgpdpihmaaGreatDoor
open Go.ChangeShapes Go.WideShapes Go.ChangeAt Go.RowKit Go.Deep
theorem ZlH (f:FuncId)(fn:Func)(hf:Tryz.pinned.checked.prog.funcNamed "viator/viatorlaw16.MovinglabelVisits" =some f)(hfn:Tryz.pinned.checked.prog.funcs[f]? =some fn):
  false=Tryz.pinned.checked.prog.looks []/\∀(j:Nat) t,fn.params[j]? =some t->Tryz.pinned.checked.prog.wantsStandIn t=false:=by
 obtain rfl:f=6:=Option.some.inj ((show Tryz.prog.funcNamed "viator/viatorlaw16.MovinglabelVisits" =some 6 by kernel_rfl).symm.trans hf) |>.symm
 obtain rfl:fn=Tryz.f6:=(Option.some.inj (Tryz.func6.symm.trans hfn)).symm
 refine⟨by kernel_rfl,fun j t ht=>?_⟩
 rw[Tryz.params6] at ht
 have:=Array.mem_of_getElem? ht
 simp at this
 rcases this with rfl|rfl
 ·exact(show Tryz.prog.wantsStandIn 23=false by kernel_rfl)
 ·exact(show Tryz.prog.wantsStandIn 63=false by kernel_rfl)
theorem Zo9 :Rows.movinglabelVisitsRow.wfByText (OpenSpec.ofChange Rows.movinglabelVisitsSpec)=true:=by kernel_rfl
theorem ZmC :false=Rows.movinglabelVisitsRow.goesBy Tryz.prog:=by kernel_rfl
/-- The card. -/
theorem movinglabelVisits_card :Rows.MovinglabelVisitsCardSaid:=
 Claim7.holds_tied_plain_at .later [] _ _ _ _ Zmm (fun _ h=>by cases h) Zo9 (fun _ h=>by cases h) movinglabelVisits_row_tie rfl ⟨rfl,rfl⟩ (by kernel_rfl) rfl ZlH ZmC
end Go.Proofs.YtcgkgdgpdpihmaaGreatDoor
