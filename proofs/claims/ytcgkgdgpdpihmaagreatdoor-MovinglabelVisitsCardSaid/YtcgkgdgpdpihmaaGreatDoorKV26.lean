/- For any moving label and any length, Visits returns the labels of the units without repetitions, and Longer the units that last at least so long. Conditions: none. (part 26 of 27.) Conditions: those that each statement names. -/
import Derived.Test.YtcgkgdgpdpihmaaGreatDoorKV25
set_option linter.unusedSimpArgs false
set_option linter.unusedVariables false
set_option maxHeartbeats 2000000
set_option maxRecDepth 100000
namespace Go.Proofs.YtcgkgdgpdpihmaaGreatDoor
open Go.ChangeShapes Go.WideShapes Go.ChangeAt Go.RowKit Go.Deep
theorem Zqi :(Rows.movinglabelVisitsRow.wf (OpenSpec.ofChange Rows.movinglabelVisitsSpec)&&laidOutB Tryz.prog&&mapsRowed Tryz.prog)=true:=by kernel_rfl
theorem ZpQ :(Tryz.f6.params.all (Tryz.prog.readableRec ·))=true:=by kernel_rfl
theorem ZpJ :(namedTie Tryz.prog Rows.movinglabelVisitsRow.named Rows.movinglabelVisitsSpec.vars)=true:=by kernel_rfl
theorem Zqm :((Rows.movinglabelVisitsRow.stops==[])&&(Tryz.prog.stops==[])&&(Rows.movinglabelVisitsRow.knobs==[])&&(Tryz.prog.stopKnobs==[]))=true:=by kernel_rfl
theorem Zo8 :(Rows.movinglabelVisitsRow.inPlace==Tryz.prog.inPlace 6)=true:=by kernel_rfl
theorem Zqw :(Rows.movinglabelVisitsRow.unfollowed==Tryz.prog.unfollowed 6)=true:=by kernel_rfl
theorem Zps :(Rows.movinglabelVisitsRow.recurses==Tryz.prog.recurses 6)=true:=by kernel_rfl
theorem Zpk :(Rows.movinglabelVisitsRow.named==Tryz.prog.varsNamed 6)=true:=by kernel_rfl
theorem Zpm :((Rows.movinglabelVisitsRow.maps==(Tryz.f6.params.toList++Rows.movinglabelVisitsSpec.plain.varTypes Tryz.prog).any (Tryz.prog.mapsRec ·))&&(Rows.movinglabelVisitsRow.ifaces==(Tryz.f6.params.toList++Rows.movinglabelVisitsSpec.plain.varTypes Tryz.prog).any (Tryz.prog.ifacesRec ·))&&(Rows.movinglabelVisitsRow.mapsOut==Tryz.prog.mapsAmong Tryz.f6.resultTypes.toList)&&(Rows.movinglabelVisitsRow.loops==(Tryz.f6.params.toList++Rows.movinglabelVisitsSpec.plain.varTypes Tryz.prog).any (Tryz.prog.loopsFrom ·))&&(Rows.movinglabelVisitsRow.wideKeys==(Tryz.f6.params.toList++Rows.movinglabelVisitsSpec.plain.varTypes Tryz.prog++Tryz.f6.resultTypes.toList).any (Tryz.prog.wideKeysFrom ·)))=true:=by kernel_rfl
theorem Zpa :(Rows.movinglabelVisitsSpec.vars.all (Tryz.prog.varReadable ·)&&Tryz.f6.resultTypes.all (fun t=>Tryz.prog.readableRec t&&decide (t<Tryz.prog.types.size))&&(Rows.movinglabelVisitsRow.ifacesOut==Tryz.f6.resultTypes.toList.any (Tryz.prog.ifacesRec ·))&&(Rows.movinglabelVisitsRow.loopsOut==Tryz.f6.resultTypes.toList.any (Tryz.prog.loopsFrom ·))&&(Rows.movinglabelVisitsRow.plainKeys==Tryz.prog.plainKeys)&&Rows.movinglabelVisitsRow.shortTexts.isNone&&Tryz.prog.stopsHeard&&Tryz.prog.mayEnter&&(Rows.movinglabelVisitsRow.lifted==Tryz.prog.liftsFinal)&&(Tryz.prog.make==some Rows.movinglabelVisitsRow.make))=true:=by kernel_rfl
theorem Zo7 :((Rows.movinglabelVisitsRow.kinds==(if Rows.movinglabelVisitsRow.domain.isEmpty then [] else Tryz.f6.params.toList.map fun t=>match Tryz.prog.underlying t with|some (.int k)=>some k|_=>none))&&(Rows.movinglabelVisitsRow.pinned==Rows.movinglabelVisitsRow.pinnedBy))=true:=by kernel_rfl
theorem Zqa :((Rows.movinglabelVisitsRow.veiled==(Tryz.f6.params.toList++Rows.movinglabelVisitsSpec.plain.varTypes Tryz.prog++Tryz.f6.resultTypes.toList).any (Tryz.prog.veiledRec ·))&&Rows.movinglabelVisitsRow.veiledFits Tryz.prog Tryz.f6.params.toList (Tryz.f6.params.toList++Rows.movinglabelVisitsSpec.plain.varTypes Tryz.prog++Tryz.f6.resultTypes.toList))=true:=by kernel_rfl
theorem Zjd :joinedFacts Tryz.prog 6 Tryz.f6 Rows.movinglabelVisitsSpec Rows.movinglabelVisitsRow=true:=by
 have ha:=Zqi
 have hb:=ZpQ
 have hc:=ZpJ
 have hd:=Zqm
 have he:=Zo8
 have hf:=Zqw
 have hg:=Zps
 have hh:=Zpk
 have hi:=Zpm
 have hj:=Zpa
 have hk:=Zo7
 have hl:=Zqa
 simp only[Bool.and_eq_true] at ha hd hi hj hk hl
 simp only[joinedFacts,Bool.and_eq_true]
 exact⟨⟨⟨⟨⟨⟨⟨⟨⟨⟨⟨⟨⟨⟨⟨⟨⟨⟨⟨⟨⟨⟨⟨⟨⟨⟨⟨⟨⟨⟨⟨ha.1.1,ha.1.2⟩,ha.2⟩,hb⟩,hc⟩,hd.1.1.1⟩,hd.1.1.2⟩,hd.1.2⟩,hd.2⟩,he⟩,hf⟩,hg⟩,hh⟩,hi.1.1.1.1⟩,hi.1.1.1.2⟩,hi.1.1.2⟩,hi.1.2⟩,hi.2⟩,hj.1.1.1.1.1.1.1.1.1⟩,hj.1.1.1.1.1.1.1.1.2⟩,hj.1.1.1.1.1.1.1.2⟩,hj.1.1.1.1.1.1.2⟩,hj.1.1.1.1.1.2⟩,hj.1.1.1.1.2⟩,hj.1.1.1.2⟩,hj.1.1.2⟩,hj.1.2⟩,hj.2⟩,hk.1⟩,hk.2⟩,hl.1⟩,hl.2⟩
theorem Zpg :Tryz.prog.funcNamed Rows.movinglabelVisitsRow.func=some 6:=by kernel_rfl
theorem ZmM :Tryz.f6.isInstance Tryz.prog Rows.movinglabelVisitsRow.origin Rows.movinglabelVisitsRow.targs:=of_decide_eq_true (by kernel_rfl)
theorem ZlT :Tryz.f6.isWrapper Tryz.prog Rows.movinglabelVisitsRow.wrapper Rows.movinglabelVisitsRow.mainSum:=by unfold Func.isWrapper;first|(rw[if_pos (by decide+kernel)];kernel_rfl)|(rw[if_neg (by decide+kernel)];exact⟨rfl,rfl⟩)
theorem Zmm :Rows.MovinglabelVisitsSaid:=
 OpenClaim.holds_of_cond 6 Tryz.f6 rfl rfl rfl rfl rfl rfl rfl ⟨rfl,rfl,rfl,rfl,rfl⟩ rfl rfl rfl rfl rfl Zpg Tryz.func6 Zjd ZmM ZlT
  (fun os started H enc _ F=>by rw[OpenClaim.pre_eq_preRow];exact vis_lifted os started H enc F)
end Go.Proofs.YtcgkgdgpdpihmaaGreatDoor
