/- that a label follows another one where the units say so (part 25 of 25.) Conditions: those that each statement names. -/
import Derived.Test.YtcgkgdgpdpihmaaGreatDoorKF24
set_option linter.unusedSimpArgs false
set_option linter.unusedVariables false
set_option maxHeartbeats 2000000
set_option maxRecDepth 100000
namespace Go.Proofs.YtcgkgdgpdpihmaaGreatDoor
open Go.ChangeShapes Go.WideShapes Go.ChangeAt Go.RowKit Go.Deep
theorem ZjX (f:FuncId)(fn:Func)(hf:Tryz.pinned.checked.prog.funcNamed "viator/viatorlaw16.MovinglabelFollows" =some f)(hfn:Tryz.pinned.checked.prog.funcs[f]? =some fn):
  false=Tryz.pinned.checked.prog.looks []/\∀(j:Nat) t,fn.params[j]? =some t->Tryz.pinned.checked.prog.wantsStandIn t=false:=by
 obtain rfl:f=5:=Option.some.inj ((show Tryz.prog.funcNamed "viator/viatorlaw16.MovinglabelFollows" =some 5 by kernel_rfl).symm.trans hf) |>.symm
 obtain rfl:fn=Tryz.f5:=(Option.some.inj (Tryz.func5.symm.trans hfn)).symm
 refine⟨by kernel_rfl,fun j t ht=>?_⟩
 rw[Tryz.params5] at ht
 have:=Array.mem_of_getElem? ht
 simp at this
 rcases this with rfl|rfl
 ·exact(show Tryz.prog.wantsStandIn 23=false by kernel_rfl)
 ·exact(show Tryz.prog.wantsStandIn 58=false by kernel_rfl)
theorem Zoe :Rows.movinglabelFollowsRow.wfByText (OpenSpec.ofChange Rows.movinglabelFollowsSpec)=true:=by kernel_rfl
theorem ZlL :false=Rows.movinglabelFollowsRow.goesBy Tryz.prog:=by kernel_rfl
/-- The card. -/
theorem movinglabelFollows_card :Rows.MovinglabelFollowsCardSaid:=
 Claim7.holds_tied_plain_at .later [] _ _ _ _ Zmo (fun _ h=>by cases h) Zoe (fun _ h=>by cases h) movinglabelFollows_row_tie rfl ⟨rfl,rfl⟩ (by kernel_rfl) rfl ZjX ZlL
end Go.Proofs.YtcgkgdgpdpihmaaGreatDoor
