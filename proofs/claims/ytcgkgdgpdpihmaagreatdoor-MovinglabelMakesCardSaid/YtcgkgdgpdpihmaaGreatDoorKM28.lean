/- For any moving Boolean, any period and any two labels, Constant and FromBool have their labels, and Is gives the moving Boolean back, if both labels differ. Conditions: none. (part 28 of 28.) Conditions: those that each statement names. -/
import Derived.Test.YtcgkgdgpdpihmaaGreatDoorKM27
set_option linter.unusedSimpArgs false
set_option linter.unusedVariables false
set_option maxHeartbeats 2000000
set_option maxRecDepth 100000
namespace Go.Proofs.YtcgkgdgpdpihmaaGreatDoor
open Go.ChangeShapes Go.WideShapes Go.ChangeAt Go.RowKit Go.Deep
theorem Zlv (f:FuncId)(fn:Func)(hf:Tryz.pinned.checked.prog.funcNamed "viator/viatorlaw16.MovinglabelMakes" =some f)(hfn:Tryz.pinned.checked.prog.funcs[f]? =some fn):
  false=Tryz.pinned.checked.prog.looks []/\∀(j:Nat) t,fn.params[j]? =some t->Tryz.pinned.checked.prog.wantsStandIn t=false:=by
 obtain rfl:f=8:=Option.some.inj ((show Tryz.prog.funcNamed "viator/viatorlaw16.MovinglabelMakes" =some 8 by kernel_rfl).symm.trans hf) |>.symm
 obtain rfl:fn=Tryz.f8:=(Option.some.inj (Tryz.func8.symm.trans hfn)).symm
 refine⟨by kernel_rfl,fun j t ht=>?_⟩
 rw[Tryz.params8] at ht
 have:=Array.mem_of_getElem? ht
 simp at this
 rcases this with rfl|rfl|rfl
 ·exact(show Tryz.prog.wantsStandIn 77=false by kernel_rfl)
 ·exact(show Tryz.prog.wantsStandIn 75=false by kernel_rfl)
 ·exact(show Tryz.prog.wantsStandIn 78=false by kernel_rfl)
theorem ZrC :Rows.movinglabelMakesRow.wfByText (OpenSpec.ofChange Rows.movinglabelMakesSpec)=true:=by kernel_rfl
theorem Zna :false=Rows.movinglabelMakesRow.goesBy Tryz.prog:=by kernel_rfl
/-- The card. -/
theorem movinglabelMakes_card :Rows.MovinglabelMakesCardSaid:=
 Claim7.holds_tied_plain_at .later [] _ _ _ _ Znc (fun _ h=>by cases h) ZrC (fun _ h=>by cases h) movinglabelMakes_row_tie rfl ⟨rfl,rfl⟩ (by kernel_rfl) rfl Zlv Zna
end Go.Proofs.YtcgkgdgpdpihmaaGreatDoor
