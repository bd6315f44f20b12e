/- For any moving label, any fraction and any instant, Shift moves the labels in time, and back by the opposite fraction. Conditions: none. (part 28 of 28.) Conditions: those that each statement names. -/
import Derived.Test.YtcgkgdgpdpihmaaGreatDoorKS27
set_option linter.unusedSimpArgs false
set_option linter.unusedVariables false
set_option maxHeartbeats 2000000
set_option maxRecDepth 100000
namespace Go.Proofs.YtcgkgdgpdpihmaaGreatDoor
open Go.ChangeShapes Go.WideShapes Go.ChangeAt Go.RowKit Go.Deep
theorem Zk8 (f:FuncId)(fn:Func)(hf:Tryz.pinned.checked.prog.funcNamed "viator/viatorlaw16.MovinglabelShifts" =some f)(hfn:Tryz.pinned.checked.prog.funcs[f]? =some fn):
  false=Tryz.pinned.checked.prog.looks []/\∀(j:Nat) t,fn.params[j]? =some t->Tryz.pinned.checked.prog.wantsStandIn t=false:=by
 obtain rfl:f=7:=Option.some.inj ((show Tryz.prog.funcNamed "viator/viatorlaw16.MovinglabelShifts" =some 7 by kernel_rfl).symm.trans hf) |>.symm
 obtain rfl:fn=Tryz.f7:=(Option.some.inj (Tryz.func7.symm.trans hfn)).symm
 refine⟨by kernel_rfl,fun j t ht=>?_⟩
 rw[Tryz.params7] at ht
 have:=Array.mem_of_getElem? ht
 simp at this
 rcases this with rfl|rfl|rfl
 ·exact(show Tryz.prog.wantsStandIn 23=false by kernel_rfl)
 ·exact(show Tryz.prog.wantsStandIn 63=false by kernel_rfl)
 ·exact(show Tryz.prog.wantsStandIn 40=false by kernel_rfl)
theorem Zr2 :Rows.movinglabelShiftsRow.wfByText (OpenSpec.ofChange Rows.movinglabelShiftsSpec)=true:=by kernel_rfl
theorem Zot :false=Rows.movinglabelShiftsRow.goesBy Tryz.prog:=by kernel_rfl
/-- The card. -/
theorem movinglabelShifts_card :Rows.MovinglabelShiftsCardSaid:=
 Claim7.holds_tied_plain_at .later [] _ _ _ _ Zn1 (fun _ h=>by cases h) Zr2 (fun _ h=>by cases h) movinglabelShifts_row_tie rfl ⟨rfl,rfl⟩ (by kernel_rfl) rfl Zk8 Zot
end Go.Proofs.YtcgkgdgpdpihmaaGreatDoor
