/- that a label follows another one where the units say so (part 24 of 25.) Conditions: those that each statement names. -/
import Derived.Test.YtcgkgdgpdpihmaaGreatDoorKF23
set_option linter.unusedSimpArgs false
set_option linter.unusedVariables false
set_option maxHeartbeats 2000000
set_option maxRecDepth 100000
namespace Go.Proofs.YtcgkgdgpdpihmaaGreatDoor
open Go.ChangeShapes Go.WideShapes Go.ChangeAt Go.RowKit Go.Deep
theorem Zo6 :(Rows.movinglabelFollowsRow.wf (OpenSpec.ofChange Rows.movinglabelFollowsSpec)&&laidOutB Tryz.prog&&mapsRowed Tryz.prog)=true:=by kernel_rfl
theorem Zol :(Tryz.f5.params.all (Tryz.prog.readableRec ·))=true:=by kernel_rfl
theorem Zpf :(namedTie Tryz.prog Rows.movinglabelFollowsRow.named Rows.movinglabelFollowsSpec.vars)=true:=by kernel_rfl
theorem Zoh :((Rows.movinglabelFollowsRow.stops==[])&&(Tryz.prog.stops==[])&&(Rows.movinglabelFollowsRow.knobs==[])&&(Tryz.prog.stopKnobs==[]))=true:=by kernel_rfl
theorem Zoj :(Rows.movinglabelFollowsRow.inPlace==Tryz.prog.inPlace 5)=true:=by kernel_rfl
theorem Zpb :(Rows.movinglabelFollowsRow.unfollowed==Tryz.prog.unfollowed 5)=true:=by kernel_rfl
theorem Zpn :(Rows.movinglabelFollowsRow.recurses==Tryz.prog.recurses 5)=true:=by kernel_rfl
theorem Zo0 :(Rows.movinglabelFollowsRow.named==Tryz.prog.varsNamed 5)=true:=by kernel_rfl
theorem ZoQ :((Rows.movinglabelFollowsRow.maps==(Tryz.f5.params.toList++Rows.movinglabelFollowsSpec.plain.varTypes Tryz.prog).any (Tryz.prog.mapsRec ·))&&(Rows.movinglabelFollowsRow.ifaces==(Tryz.f5.params.toList++Rows.movinglabelFollowsSpec.plain.varTypes Tryz.prog).any (Tryz.prog.ifacesRec ·))&&(Rows.movinglabelFollowsRow.mapsOut==Tryz.prog.mapsAmong Tryz.f5.resultTypes.toList)&&(Rows.movinglabelFollowsRow.loops==(Tryz.f5.params.toList++Rows.movinglabelFollowsSpec.plain.varTypes Tryz.prog).any (Tryz.prog.loopsFrom ·))&&(Rows.movinglabelFollowsRow.wideKeys==(Tryz.f5.params.toList++Rows.movinglabelFollowsSpec.plain.varTypes Tryz.prog++Tryz.f5.resultTypes.toList).any (Tryz.prog.wideKeysFrom ·)))=true:=by kernel_rfl
theorem Zo2 :(Rows.movinglabelFollowsSpec.vars.all (Tryz.prog.varReadable ·)&&Tryz.f5.resultTypes.all (fun t=>Tryz.prog.readableRec t&&decide (t<Tryz.prog.types.size))&&(Rows.movinglabelFollowsRow.ifacesOut==Tryz.f5.resultTypes.toList.any (Tryz.prog.ifacesRec ·))&&(Rows.movinglabelFollowsRow.loopsOut==Tryz.f5.resultTypes.toList.any (Tryz.prog.loopsFrom ·))&&(Rows.movinglabelFollowsRow.plainKeys==Tryz.prog.plainKeys)&&Rows.movinglabelFollowsRow.shortTexts.isNone&&Tryz.prog.stopsHeard&&Tryz.prog.mayEnter&&(Rows.movinglabelFollowsRow.lifted==Tryz.prog.liftsFinal)&&(Tryz.prog.make==some Rows.movinglabelFollowsRow.make))=true:=by kernel_rfl
theorem Zo1 :((Rows.movinglabelFollowsRow.kinds==(if Rows.movinglabelFollowsRow.domain.isEmpty then [] else Tryz.f5.params.toList.map fun t=>match Tryz.prog.underlying t with|some (.int k)=>some k|_=>none))&&(Rows.movinglabelFollowsRow.pinned==Rows.movinglabelFollowsRow.pinnedBy))=true:=by kernel_rfl
theorem Zof :((Rows.movinglabelFollowsRow.veiled==(Tryz.f5.params.toList++Rows.movinglabelFollowsSpec.plain.varTypes Tryz.prog++Tryz.f5.resultTypes.toList).any (Tryz.prog.veiledRec ·))&&Rows.movinglabelFollowsRow.veiledFits Tryz.prog Tryz.f5.params.toList (Tryz.f5.params.toList++Rows.movinglabelFollowsSpec.plain.varTypes Tryz.prog++Tryz.f5.resultTypes.toList))=true:=by kernel_rfl
theorem ZiP :joinedFacts Tryz.prog 5 Tryz.f5 Rows.movinglabelFollowsSpec Rows.movinglabelFollowsRow=true:=by
 have ha:=Zo6
 have hb:=Zol
 have hc:=Zpf
 have hd:=Zoh
 have he:=Zoj
 have hf:=Zpb
 have hg:=Zpn
 have hh:=Zo0
 have hi:=ZoQ
 have hj:=Zo2
 have hk:=Zo1
 have hl:=Zof
 simp only[Bool.and_eq_true] at ha hd hi hj hk hl
 simp only[joinedFacts,Bool.and_eq_true]
 exact⟨⟨⟨⟨⟨⟨⟨⟨⟨⟨⟨⟨⟨⟨⟨⟨⟨⟨⟨⟨⟨⟨⟨⟨⟨⟨⟨⟨⟨⟨⟨ha.1.1,ha.1.2⟩,ha.2⟩,hb⟩,hc⟩,hd.1.1.1⟩,hd.1.1.2⟩,hd.1.2⟩,hd.2⟩,he⟩,hf⟩,hg⟩,hh⟩,hi.1.1.1.1⟩,hi.1.1.1.2⟩,hi.1.1.2⟩,hi.1.2⟩,hi.2⟩,hj.1.1.1.1.1.1.1.1.1⟩,hj.1.1.1.1.1.1.1.1.2⟩,hj.1.1.1.1.1.1.1.2⟩,hj.1.1.1.1.1.1.2⟩,hj.1.1.1.1.1.2⟩,hj.1.1.1.1.2⟩,hj.1.1.1.2⟩,hj.1.1.2⟩,hj.1.2⟩,hj.2⟩,hk.1⟩,hk.2⟩,hl.1⟩,hl.2⟩
theorem Zoy :Tryz.prog.funcNamed Rows.movinglabelFollowsRow.func=some 5:=by kernel_rfl
theorem Zma :Tryz.f5.isInstance Tryz.prog Rows.movinglabelFollowsRow.origin Rows.movinglabelFollowsRow.targs:=of_decide_eq_true (by kernel_rfl)
theorem Zl2 :Tryz.f5.isWrapper Tryz.prog Rows.movinglabelFollowsRow.wrapper Rows.movinglabelFollowsRow.mainSum:=by unfold Func.isWrapper;first|(rw[if_pos (by decide+kernel)];kernel_rfl)|(rw[if_neg (by decide+kernel)];exact⟨rfl,rfl⟩)
theorem Zmo :Rows.MovinglabelFollowsSaid:=
 OpenClaim.holds_of_cond 5 Tryz.f5 rfl rfl rfl rfl rfl rfl rfl ⟨rfl,rfl,rfl,rfl,rfl⟩ rfl rfl rfl rfl rfl Zoy Tryz.func5 ZiP Zma Zl2
  (fun os started H enc _ F=>by rw[OpenClaim.pre_eq_preRow];exact fol_lifted os started H enc F)
end Go.Proofs.YtcgkgdgpdpihmaaGreatDoor
