/- For any up to 8 stretches, Normal returns the normal form of their units in any order, if no two have an instant in common, and ErrOverlap otherwise. Conditions: none. (part 28 of 28.) Conditions: those that each statement names. -/
import Derived.Test.YtcgkgdgpdpihmaaGreatDoorKZ27
set_option linter.unusedSimpArgs false
set_option linter.unusedVariables false
set_option maxHeartbeats 2000000
set_option maxRecDepth 100000
namespace Go.Proofs.YtcgkgdgpdpihmaaGreatDoor
open Go.ChangeShapes Go.WideShapes Go.ChangeAt Go.RowKit Go.Deep
theorem Zla (f:FuncId)(fn:Func)(hf:Tryz.pinned.checked.prog.funcNamed "viator/viatorlaw16.MovinglabelNormal" =some f)(hfn:Tryz.pinned.checked.prog.funcs[f]? =some fn):
  false=Tryz.pinned.checked.prog.looks []/\∀(j:Nat) t,fn.params[j]? =some t->Tryz.pinned.checked.prog.wantsStandIn t=false:=by
 obtain rfl:f=4:=Option.some.inj ((show Tryz.prog.funcNamed "viator/viatorlaw16.MovinglabelNormal" =some 4 by kernel_rfl).symm.trans hf) |>.symm
 obtain rfl:fn=Tryz.f4:=(Option.some.inj (Tryz.func4.symm.trans hfn)).symm
 refine⟨by kernel_rfl,fun j t ht=>?_⟩
 rw[Tryz.params4] at ht
 have:=Array.mem_of_getElem? ht
 simp at this
 subst this
 exact(show Tryz.prog.wantsStandIn 23=false by kernel_rfl)
theorem ZrD :Rows.movinglabelNormalRow.wfByText (OpenSpec.ofChange Rows.movinglabelNormalSpec)=true:=by kernel_rfl
theorem Zok :false=Rows.movinglabelNormalRow.goesBy Tryz.prog:=by kernel_rfl
/-- The card. -/
theorem movinglabelNormal_card :Rows.MovinglabelNormalCardSaid:=
 Claim7.holds_tied_plain_at .later [] _ _ _ _ Zor (fun _ h=>by cases h) ZrD (fun _ h=>by cases h) movinglabelNormal_row_tie rfl ⟨rfl,rfl⟩ (by kernel_rfl) rfl Zla Zok
end Go.Proofs.YtcgkgdgpdpihmaaGreatDoor
