/- For any up to 12 units whose ends have up to 20 bytes, and for any decoded moving label (up to 8 stretches), Check returns OK or the first error. Conditions: none. (part 28 of 28.) Conditions: those that each statement names. -/
import Derived.Test.YtcgkgdgpdpihmaaGreatDoorKC27
set_option linter.unusedSimpArgs false
set_option linter.unusedVariables false
set_option maxHeartbeats 2000000
set_option maxRecDepth 100000
namespace Go.Proofs.YtcgkgdgpdpihmaaGreatDoor
open Go.ChangeShapes Go.WideShapes Go.ChangeAt Go.RowKit Go.Deep
theorem Zm4 (f:FuncId)(fn:Func)(hf:Tryz.pinned.checked.prog.funcNamed "viator/viatorlaw16.MovinglabelChecks" =some f)(hfn:Tryz.pinned.checked.prog.funcs[f]? =some fn):
  false=Tryz.pinned.checked.prog.looks []/\∀(j:Nat) t,fn.params[j]? =some t->Tryz.pinned.checked.prog.wantsStandIn t=false:=by
 obtain rfl:f=3:=Option.some.inj ((show Tryz.prog.funcNamed "viator/viatorlaw16.MovinglabelChecks" =some 3 by kernel_rfl).symm.trans hf) |>.symm
 obtain rfl:fn=Tryz.f3:=(Option.some.inj (Tryz.func3.symm.trans hfn)).symm
 refine⟨by kernel_rfl,fun j t ht=>?_⟩
 rw[Tryz.params3] at ht
 have:=Array.mem_of_getElem? ht
 simp at this
 rcases this with rfl|rfl
 ·exact(show Tryz.prog.wantsStandIn 22=false by kernel_rfl)
 ·exact(show Tryz.prog.wantsStandIn 23=false by kernel_rfl)
theorem ZsS :Rows.movinglabelChecksRow.wfByText (OpenSpec.ofChange Rows.movinglabelChecksSpec)=true:=by kernel_rfl
theorem Zo8 :false=Rows.movinglabelChecksRow.goesBy Tryz.prog:=by kernel_rfl
/-- The card. -/
theorem movinglabelChecks_card :Rows.MovinglabelChecksCardSaid:=
 Claim7.holds_tied_plain_at .later [] _ _ _ _ ZnQ (fun _ h=>by cases h) ZsS (fun _ h=>by cases h) movinglabelChecks_row_tie rfl ⟨rfl,rfl⟩ (by kernel_rfl) rfl Zm4 Zo8
end Go.Proofs.YtcgkgdgpdpihmaaGreatDoor
