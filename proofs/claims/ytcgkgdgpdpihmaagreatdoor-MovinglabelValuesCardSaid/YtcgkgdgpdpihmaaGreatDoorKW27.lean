/- For any moving label, any instant and any label, At, Domain and When return its values; Labels returns all labels, whose periods are disjoint and together the domain. Conditions: none. (part 27 of 27.) Conditions: those that each statement names. -/
import Derived.Test.YtcgkgdgpdpihmaaGreatDoorKW26
set_option linter.unusedSimpArgs false
set_option linter.unusedVariables false
set_option maxHeartbeats 2000000
set_option maxRecDepth 100000
namespace Go.Proofs.YtcgkgdgpdpihmaaGreatDoor
open Go.ChangeShapes Go.WideShapes Go.ChangeAt Go.RowKit Go.Deep
theorem Zl5 (f:FuncId)(fn:Func)(hf:Tryz.pinned.checked.prog.funcNamed "viator/viatorlaw16.MovinglabelValues" =some f)(hfn:Tryz.pinned.checked.prog.funcs[f]? =some fn):
  false=Tryz.pinned.checked.prog.looks []/\∀(j:Nat) t,fn.params[j]? =some t->Tryz.pinned.checked.prog.wantsStandIn t=false:=by
 obtain rfl:f=12:=Option.some.inj ((show Tryz.prog.funcNamed "viator/viatorlaw16.MovinglabelValues" =some 12 by kernel_rfl).symm.trans hf) |>.symm
 obtain rfl:fn=Tryz.f12:=(Option.some.inj (Tryz.func12.symm.trans hfn)).symm
 refine⟨by kernel_rfl,fun j t ht=>?_⟩
 rw[Tryz.params12] at ht
 have:=Array.mem_of_getElem? ht
 simp at this
 rcases this with rfl|rfl|rfl
 ·exact(show Tryz.prog.wantsStandIn 23=false by kernel_rfl)
 ·exact(show Tryz.prog.wantsStandIn 40=false by kernel_rfl)
 ·exact(show Tryz.prog.wantsStandIn 3=false by kernel_rfl)
theorem Zqc :Rows.movinglabelValuesRow.wfByText (OpenSpec.ofChange Rows.movinglabelValuesSpec)=true:=by kernel_rfl
theorem ZnD :false=Rows.movinglabelValuesRow.goesBy Tryz.prog:=by kernel_rfl
/-- The card. -/
theorem movinglabelValues_card :Rows.MovinglabelValuesCardSaid:=
 Claim7.holds_tied_plain_at .later [] _ _ _ _ Zm6 (fun _ h=>by cases h) Zqc (fun _ h=>by cases h) movinglabelValues_row_tie rfl ⟨rfl,rfl⟩ (by kernel_rfl) rfl Zl5 ZnD
end Go.Proofs.YtcgkgdgpdpihmaaGreatDoor
