/- For any two moving labels and any label, Is, Same and Less are the lifted comparisons. Conditions: none. (part 29 of 29.) Conditions: those that each statement names. -/
import Derived.Test.YtcgkgdgpdpihmaaGreatDoorKY28
set_option linter.unusedSimpArgs false
set_option linter.unusedVariables false
set_option maxHeartbeats 2000000
set_option maxRecDepth 100000
namespace Go.Proofs.YtcgkgdgpdpihmaaGreatDoor
open Go.ChangeShapes Go.WideShapes Go.ChangeAt Go.RowKit Go.Deep
theorem Zm0 (f:FuncId)(fn:Func)(hf:Tryz.pinned.checked.prog.funcNamed "viator/viatorlaw16.MovinglabelCompares" =some f)(hfn:Tryz.pinned.checked.prog.funcs[f]? =some fn):
  false=Tryz.pinned.checked.prog.looks []/\∀(j:Nat) t,fn.params[j]? =some t->Tryz.pinned.checked.prog.wantsStandIn t=false:=by
 obtain rfl:f=9:=Option.some.inj ((show Tryz.prog.funcNamed "viator/viatorlaw16.MovinglabelCompares" =some 9 by kernel_rfl).symm.trans hf) |>.symm
 obtain rfl:fn=Tryz.f9:=(Option.some.inj (Tryz.func9.symm.trans hfn)).symm
 refine⟨by kernel_rfl,fun j t ht=>?_⟩
 rw[Tryz.params9] at ht
 have:=Array.mem_of_getElem? ht
 simp at this
 rcases this with rfl|rfl
 ·exact(show Tryz.prog.wantsStandIn 23=false by kernel_rfl)
 ·exact(show Tryz.prog.wantsStandIn 5=false by kernel_rfl)
theorem Zsh :Rows.movinglabelComparesRow.wfByText (OpenSpec.ofChange Rows.movinglabelComparesSpec)=true:=by kernel_rfl
theorem ZnE :false=Rows.movinglabelComparesRow.goesBy Tryz.prog:=by kernel_rfl
/-- The card. -/
theorem movinglabelCompares_card :Rows.MovinglabelComparesCardSaid:=
 Claim7.holds_tied_plain_at .later [] _ _ _ _ Zo4 (fun _ h=>by cases h) Zsh (fun _ h=>by cases h) movinglabelCompares_row_tie rfl ⟨rfl,rfl⟩ (by kernel_rfl) rfl Zm0 ZnE
end Go.Proofs.YtcgkgdgpdpihmaaGreatDoor
