/- For any moving label, any fraction and any instant, Shift moves the labels in time, and back by the opposite fraction. Conditions: none. (part 27 of 28.) Conditions: those that each statement names. -/
import Derived.Test.YtcgkgdgpdpihmaaGreatDoorKS26
set_option linter.unusedSimpArgs false
set_option linter.unusedVariables false
set_option maxHeartbeats 2000000
set_option maxRecDepth 100000
namespace Go.Proofs.YtcgkgdgpdpihmaaGreatDoor
open Go.ChangeShapes Go.WideShapes Go.ChangeAt Go.RowKit Go.Deep
theorem ZqZ :(Rows.movinglabelShiftsRow.wf (OpenSpec.ofChange Rows.movinglabelShiftsSpec)&&laidOutB Tryz.prog&&mapsRowed Tryz.prog)=true:=by kernel_rfl
theorem ZqS :(Tryz.f7.params.all (Tryz.prog.readableRec ·))=true:=by kernel_rfl
theorem ZrK :(namedTie Tryz.prog Rows.movinglabelShiftsRow.named Rows.movinglabelShiftsSpec.vars)=true:=by kernel_rfl
theorem ZrW :((Rows.movinglabelShiftsRow.stops==[])&&(Tryz.prog.stops==[])&&(Rows.movinglabelShiftsRow.knobs==[])&&(Tryz.prog.stopKnobs==[]))=true:=by kernel_rfl
theorem Zr1 :(Rows.movinglabelShiftsRow.inPlace==Tryz.prog.inPlace 7)=true:=by kernel_rfl
theorem Zrl :(Rows.movinglabelShiftsRow.unfollowed==Tryz.prog.unfollowed 7)=true:=by kernel_rfl
theorem ZqI :(Rows.movinglabelShiftsRow.recurses==Tryz.prog.recurses 7)=true:=by kernel_rfl
theorem Zrw :(Rows.movinglabelShiftsRow.named==Tryz.prog.varsNamed 7)=true:=by kernel_rfl
theorem Zr5 :((Rows.movinglabelShiftsRow.maps==(Tryz.f7.params.toList++Rows.movinglabelShiftsSpec.plain.varTypes Tryz.prog).any (Tryz.prog.mapsRec ·))&&(Rows.movinglabelShiftsRow.ifaces==(Tryz.f7.params.toList++Rows.movinglabelShiftsSpec.plain.varTypes Tryz.prog).any (Tryz.prog.ifacesRec ·))&&(Rows.movinglabelShiftsRow.mapsOut==Tryz.prog.mapsAmong Tryz.f7.resultTypes.toList)&&(Rows.movinglabelShiftsRow.loops==(Tryz.f7.params.toList++Rows.movinglabelShiftsSpec.plain.varTypes Tryz.prog).any (Tryz.prog.loopsFrom ·))&&(Rows.movinglabelShiftsRow.wideKeys==(Tryz.f7.params.toList++Rows.movinglabelShiftsSpec.plain.varTypes Tryz.prog++Tryz.f7.resultTypes.toList).any (Tryz.prog.wideKeysFrom ·)))=true:=by kernel_rfl
theorem ZqD :(Rows.movinglabelShiftsSpec.vars.all (Tryz.prog.varReadable ·)&&Tryz.f7.resultTypes.all (fun t=>Tryz.prog.readableRec t&&decide (t<Tryz.prog.types.size))&&(Rows.movinglabelShiftsRow.ifacesOut==Tryz.f7.resultTypes.toList.any (Tryz.prog.ifacesRec ·))&&(Rows.movinglabelShiftsRow.loopsOut==Tryz.f7.resultTypes.toList.any (Tryz.prog.loopsFrom ·))&&(Rows.movinglabelShiftsRow.plainKeys==Tryz.prog.plainKeys)&&Rows.movinglabelShiftsRow.shortTexts.isNone&&Tryz.prog.stopsHeard&&Tryz.prog.mayEnter&&(Rows.movinglabelShiftsRow.lifted==Tryz.prog.liftsFinal)&&(Tryz.prog.make==some Rows.movinglabelShiftsRow.make))=true:=by kernel_rfl
theorem Zry :((Rows.movinglabelShiftsRow.kinds==(if Rows.movinglabelShiftsRow.domain.isEmpty then [] else Tryz.f7.params.toList.map fun t=>match Tryz.prog.underlying t with|some (.int k)=>some k|_=>none))&&(Rows.movinglabelShiftsRow.pinned==Rows.movinglabelShiftsRow.pinnedBy))=true:=by kernel_rfl
theorem ZrD :((Rows.movinglabelShiftsRow.veiled==(Tryz.f7.params.toList++Rows.movinglabelShiftsSpec.plain.varTypes Tryz.prog++Tryz.f7.resultTypes.toList).any (Tryz.prog.veiledRec ·))&&Rows.movinglabelShiftsRow.veiledFits Tryz.prog Tryz.f7.params.toList (Tryz.f7.params.toList++Rows.movinglabelShiftsSpec.plain.varTypes Tryz.prog++Tryz.f7.resultTypes.toList))=true:=by kernel_rfl
theorem Zky :joinedFacts Tryz.prog 7 Tryz.f7 Rows.movinglabelShiftsSpec Rows.movinglabelShiftsRow=true:=by
 have ha:=ZqZ
 have hb:=ZqS
 have hc:=ZrK
 have hd:=ZrW
 have he:=Zr1
 have hf:=Zrl
 have hg:=ZqI
 have hh:=Zrw
 have hi:=Zr5
 have hj:=ZqD
 have hk:=Zry
 have hl:=ZrD
 simp only[Bool.and_eq_true] at ha hd hi hj hk hl
 simp only[joinedFacts,Bool.and_eq_true]
 exact⟨⟨⟨⟨⟨⟨⟨⟨⟨⟨⟨⟨⟨⟨⟨⟨⟨⟨⟨⟨⟨⟨⟨⟨⟨⟨⟨⟨⟨⟨⟨ha.1.1,ha.1.2⟩,ha.2⟩,hb⟩,hc⟩,hd.1.1.1⟩,hd.1.1.2⟩,hd.1.2⟩,hd.2⟩,he⟩,hf⟩,hg⟩,hh⟩,hi.1.1.1.1⟩,hi.1.1.1.2⟩,hi.1.1.2⟩,hi.1.2⟩,hi.2⟩,hj.1.1.1.1.1.1.1.1.1⟩,hj.1.1.1.1.1.1.1.1.2⟩,hj.1.1.1.1.1.1.1.2⟩,hj.1.1.1.1.1.1.2⟩,hj.1.1.1.1.1.2⟩,hj.1.1.1.1.2⟩,hj.1.1.1.2⟩,hj.1.1.2⟩,hj.1.2⟩,hj.2⟩,hk.1⟩,hk.2⟩,hl.1⟩,hl.2⟩
theorem Zrj :Tryz.prog.funcNamed Rows.movinglabelShiftsRow.func=some 7:=by kernel_rfl
theorem Zn6 :Tryz.f7.isInstance Tryz.prog Rows.movinglabelShiftsRow.origin Rows.movinglabelShiftsRow.targs:=of_decide_eq_true (by kernel_rfl)
theorem Zm3 :Tryz.f7.isWrapper Tryz.prog Rows.movinglabelShiftsRow.wrapper Rows.movinglabelShiftsRow.mainSum:=by unfold Func.isWrapper;first|(rw[if_pos (by decide+kernel)];kernel_rfl)|(rw[if_neg (by decide+kernel)];exact⟨rfl,rfl⟩)
theorem Zn1 :Rows.MovinglabelShiftsSaid:=
 OpenClaim.holds_of_cond 7 Tryz.f7 rfl rfl rfl rfl rfl rfl rfl ⟨rfl,rfl,rfl,rfl,rfl⟩ rfl rfl rfl rfl rfl Zrj Tryz.func7 Zky Zn6 Zm3
  (fun os started H enc _ F=>by rw[OpenClaim.pre_eq_preRow];exact shi_lifted os started H enc F)
end Go.Proofs.YtcgkgdgpdpihmaaGreatDoor
