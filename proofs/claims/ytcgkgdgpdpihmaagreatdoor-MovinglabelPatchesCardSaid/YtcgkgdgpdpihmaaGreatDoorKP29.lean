/- For any two moving labels and any period, Restrict returns the part during the period, and Patch the second one in place of the first one; patching by a part of itself changes nothing. Conditions: none. (part 29 of 30.) Conditions: those that each statement names. -/
import Derived.Test.YtcgkgdgpdpihmaaGreatDoorKP28
set_option linter.unusedSimpArgs false
set_option linter.unusedVariables false
set_option maxHeartbeats 2000000
set_option maxRecDepth 100000
namespace Go.Proofs.YtcgkgdgpdpihmaaGreatDoor
open Go.ChangeShapes Go.WideShapes Go.ChangeAt Go.RowKit Go.Deep
theorem Ztp :(Rows.movinglabelPatchesRow.wf (OpenSpec.ofChange Rows.movinglabelPatchesSpec)&&laidOutB Tryz.prog&&mapsRowed Tryz.prog)=true:=by kernel_rfl
theorem Zta :(Tryz.f10.params.all (Tryz.prog.readableRec ·))=true:=by kernel_rfl
theorem ZtA :(namedTie Tryz.prog Rows.movinglabelPatchesRow.named Rows.movinglabelPatchesSpec.vars)=true:=by kernel_rfl
theorem ZsN :((Rows.movinglabelPatchesRow.stops==[])&&(Tryz.prog.stops==[])&&(Rows.movinglabelPatchesRow.knobs==[])&&(Tryz.prog.stopKnobs==[]))=true:=by kernel_rfl
theorem Ztc :(Rows.movinglabelPatchesRow.inPlace==Tryz.prog.inPlace 10)=true:=by kernel_rfl
theorem ZtY :(Rows.movinglabelPatchesRow.unfollowed==Tryz.prog.unfollowed 10)=true:=by kernel_rfl
theorem Ztz :(Rows.movinglabelPatchesRow.recurses==Tryz.prog.recurses 10)=true:=by kernel_rfl
theorem ZtJ :(Rows.movinglabelPatchesRow.named==Tryz.prog.varsNamed 10)=true:=by kernel_rfl
theorem Zup :((Rows.movinglabelPatchesRow.maps==(Tryz.f10.params.toList++Rows.movinglabelPatchesSpec.plain.varTypes Tryz.prog).any (Tryz.prog.mapsRec ·))&&(Rows.movinglabelPatchesRow.ifaces==(Tryz.f10.params.toList++Rows.movinglabelPatchesSpec.plain.varTypes Tryz.prog).any (Tryz.prog.ifacesRec ·))&&(Rows.movinglabelPatchesRow.mapsOut==Tryz.prog.mapsAmong Tryz.f10.resultTypes.toList)&&(Rows.movinglabelPatchesRow.loops==(Tryz.f10.params.toList++Rows.movinglabelPatchesSpec.plain.varTypes Tryz.prog).any (Tryz.prog.loopsFrom ·))&&(Rows.movinglabelPatchesRow.wideKeys==(Tryz.f10.params.toList++Rows.movinglabelPatchesSpec.plain.varTypes Tryz.prog++Tryz.f10.resultTypes.toList).any (Tryz.prog.wideKeysFrom ·)))=true:=by kernel_rfl
theorem ZtZ :(Rows.movinglabelPatchesSpec.vars.all (Tryz.prog.varReadable ·)&&Tryz.f10.resultTypes.all (fun t=>Tryz.prog.readableRec t&&decide (t<Tryz.prog.types.size))&&(Rows.movinglabelPatchesRow.ifacesOut==Tryz.f10.resultTypes.toList.any (Tryz.prog.ifacesRec ·))&&(Rows.movinglabelPatchesRow.loopsOut==Tryz.f10.resultTypes.toList.any (Tryz.prog.loopsFrom ·))&&(Rows.movinglabelPatchesRow.plainKeys==Tryz.prog.plainKeys)&&Rows.movinglabelPatchesRow.shortTexts.isNone&&Tryz.prog.stopsHeard&&Tryz.prog.mayEnter&&(Rows.movinglabelPatchesRow.lifted==Tryz.prog.liftsFinal)&&(Tryz.prog.make==some Rows.movinglabelPatchesRow.make))=true:=by kernel_rfl
theorem Ztk :((Rows.movinglabelPatchesRow.kinds==(if Rows.movinglabelPatchesRow.domain.isEmpty then [] else Tryz.f10.params.toList.map fun t=>match Tryz.prog.underlying t with|some (.int k)=>some k|_=>none))&&(Rows.movinglabelPatchesRow.pinned==Rows.movinglabelPatchesRow.pinnedBy))=true:=by kernel_rfl
theorem ZsU :((Rows.movinglabelPatchesRow.veiled==(Tryz.f10.params.toList++Rows.movinglabelPatchesSpec.plain.varTypes Tryz.prog++Tryz.f10.resultTypes.toList).any (Tryz.prog.veiledRec ·))&&Rows.movinglabelPatchesRow.veiledFits Tryz.prog Tryz.f10.params.toList (Tryz.f10.params.toList++Rows.movinglabelPatchesSpec.plain.varTypes Tryz.prog++Tryz.f10.resultTypes.toList))=true:=by kernel_rfl
theorem Zln :joinedFacts Tryz.prog 10 Tryz.f10 Rows.movinglabelPatchesSpec Rows.movinglabelPatchesRow=true:=by
 have ha:=Ztp
 have hb:=Zta
 have hc:=ZtA
 have hd:=ZsN
 have he:=Ztc
 have hf:=ZtY
 have hg:=Ztz
 have hh:=ZtJ
 have hi:=Zup
 have hj:=ZtZ
 have hk:=Ztk
 have hl:=ZsU
 simp only[Bool.and_eq_true] at ha hd hi hj hk hl
 simp only[joinedFacts,Bool.and_eq_true]
 exact⟨⟨⟨⟨⟨⟨⟨⟨⟨⟨⟨⟨⟨⟨⟨⟨⟨⟨⟨⟨⟨⟨⟨⟨⟨⟨⟨⟨⟨⟨⟨ha.1.1,ha.1.2⟩,ha.2⟩,hb⟩,hc⟩,hd.1.1.1⟩,hd.1.1.2⟩,hd.1.2⟩,hd.2⟩,he⟩,hf⟩,hg⟩,hh⟩,hi.1.1.1.1⟩,hi.1.1.1.2⟩,hi.1.1.2⟩,hi.1.2⟩,hi.2⟩,hj.1.1.1.1.1.1.1.1.1⟩,hj.1.1.1.1.1.1.1.1.2⟩,hj.1.1.1.1.1.1.1.2⟩,hj.1.1.1.1.1.1.2⟩,hj.1.1.1.1.1.2⟩,hj.1.1.1.1.2⟩,hj.1.1.1.2⟩,hj.1.1.2⟩,hj.1.2⟩,hj.2⟩,hk.1⟩,hk.2⟩,hl.1⟩,hl.2⟩
theorem Zt2 :Tryz.prog.funcNamed Rows.movinglabelPatchesRow.func=some 10:=by kernel_rfl
theorem ZoJ :Tryz.f10.isInstance Tryz.prog Rows.movinglabelPatchesRow.origin Rows.movinglabelPatchesRow.targs:=of_decide_eq_true (by kernel_rfl)
theorem Zpp :Tryz.f10.isWrapper Tryz.prog Rows.movinglabelPatchesRow.wrapper Rows.movinglabelPatchesRow.mainSum:=by unfold Func.isWrapper;first|(rw[if_pos (by decide+kernel)];kernel_rfl)|(rw[if_neg (by decide+kernel)];exact⟨rfl,rfl⟩)
theorem ZoQ :Rows.MovinglabelPatchesSaid:=
 OpenClaim.holds_of_cond 10 Tryz.f10 rfl rfl rfl rfl rfl rfl rfl ⟨rfl,rfl,rfl,rfl,rfl⟩ rfl rfl rfl rfl rfl Zt2 Tryz.func10 Zln ZoJ Zpp
  (fun os started H enc _ F=>by rw[OpenClaim.pre_eq_preRow];exact pat_lifted os started H enc F)
end Go.Proofs.YtcgkgdgpdpihmaaGreatDoor
