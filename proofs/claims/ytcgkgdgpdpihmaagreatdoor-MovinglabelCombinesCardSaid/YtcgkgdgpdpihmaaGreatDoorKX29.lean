/- For any two moving labels, Map and Combine apply functions to their labels; Combine with equality agrees with Same. Conditions: none. (part 29 of 29.) Conditions: those that each statement names. -/
import Derived.Test.YtcgkgdgpdpihmaaGreatDoorKX28
set_option linter.unusedSimpArgs false
set_option linter.unusedVariables false
set_option maxHeartbeats 2000000
set_option maxRecDepth 100000
namespace Go.Proofs.YtcgkgdgpdpihmaaGreatDoor
open Go.ChangeShapes Go.WideShapes Go.ChangeAt Go.RowKit Go.Deep
theorem ZmJ (f:FuncId)(fn:Func)(hf:Tryz.pinned.checked.prog.funcNamed "viator/viatorlaw16.MovinglabelCombines" =some f)(hfn:Tryz.pinned.checked.prog.funcs[f]? =some fn):
  false=Tryz.pinned.checked.prog.looks []/\∀(j:Nat) t,fn.params[j]? =some t->Tryz.pinned.checked.prog.wantsStandIn t=false:=by
 obtain rfl:f=11:=Option.some.inj ((show Tryz.prog.funcNamed "viator/viatorlaw16.MovinglabelCombines" =some 11 by kernel_rfl).symm.trans hf) |>.symm
 obtain rfl:fn=Tryz.f11:=(Option.some.inj (Tryz.func11.symm.trans hfn)).symm
 refine⟨by kernel_rfl,fun j t ht=>?_⟩
 rw[Tryz.params11] at ht
 have:=Array.mem_of_getElem? ht
 simp at this
 subst this
 exact(show Tryz.prog.wantsStandIn 23=false by kernel_rfl)
theorem ZrL :Rows.movinglabelCombinesRow.wfByText (OpenSpec.ofChange Rows.movinglabelCombinesSpec)=true:=by kernel_rfl
theorem Zo0 :false=Rows.movinglabelCombinesRow.goesBy Tryz.prog:=by kernel_rfl
/-- The card. -/
theorem movinglabelCombines_card :Rows.MovinglabelCombinesCardSaid:=
 Claim7.holds_tied_plain_at .later [] _ _ _ _ Zpg (fun _ h=>by cases h) ZrL (fun _ h=>by cases h) movinglabelCombines_row_tie rfl ⟨rfl,rfl⟩ (by kernel_rfl) rfl ZmJ Zo0
end Go.Proofs.YtcgkgdgpdpihmaaGreatDoor
