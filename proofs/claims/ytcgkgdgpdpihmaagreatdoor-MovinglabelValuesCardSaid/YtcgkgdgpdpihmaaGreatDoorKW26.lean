/- For any moving label, any instant and any label, At, Domain and When return its values; Labels returns all labels, whose periods are disjoint and together the domain. Conditions: none. (part 26 of 27.) Conditions: those that each statement names. -/
import Derived.Test.YtcgkgdgpdpihmaaGreatDoorKW25
set_option linter.unusedSimpArgs false
set_option linter.unusedVariables false
set_option maxHeartbeats 2000000
set_option maxRecDepth 100000
namespace Go.Proofs.YtcgkgdgpdpihmaaGreatDoor
open Go.ChangeShapes Go.WideShapes Go.ChangeAt Go.RowKit Go.Deep
theorem Zrk :(Rows.movinglabelValuesRow.wf (OpenSpec.ofChange Rows.movinglabelValuesSpec)&&laidOutB Tryz.prog&&mapsRowed Tryz.prog)=true:=by kernel_rfl
theorem Zrb :(Tryz.f12.params.all (Tryz.prog.readableRec ·))=true:=by kernel_rfl
theorem ZqC :(namedTie Tryz.prog Rows.movinglabelValuesRow.named Rows.movinglabelValuesSpec.vars)=true:=by kernel_rfl
theorem ZqX :((Rows.movinglabelValuesRow.stops==[])&&(Tryz.prog.stops==[])&&(Rows.movinglabelValuesRow.knobs==[])&&(Tryz.prog.stopKnobs==[]))=true:=by kernel_rfl
theorem ZqD :(Rows.movinglabelValuesRow.inPlace==Tryz.prog.inPlace 12)=true:=by kernel_rfl
theorem Zrn :(Rows.movinglabelValuesRow.unfollowed==Tryz.prog.unfollowed 12)=true:=by kernel_rfl
theorem Zqd :(Rows.movinglabelValuesRow.recurses==Tryz.prog.recurses 12)=true:=by kernel_rfl
theorem Zre :(Rows.movinglabelValuesRow.named==Tryz.prog.varsNamed 12)=true:=by kernel_rfl
theorem Zqv :((Rows.movinglabelValuesRow.maps==(Tryz.f12.params.toList++Rows.movinglabelValuesSpec.plain.varTypes Tryz.prog).any (Tryz.prog.mapsRec ·))&&(Rows.movinglabelValuesRow.ifaces==(Tryz.f12.params.toList++Rows.movinglabelValuesSpec.plain.varTypes Tryz.prog).any (Tryz.prog.ifacesRec ·))&&(Rows.movinglabelValuesRow.mapsOut==Tryz.prog.mapsAmong Tryz.f12.resultTypes.toList)&&(Rows.movinglabelValuesRow.loops==(Tryz.f12.params.toList++Rows.movinglabelValuesSpec.plain.varTypes Tryz.prog).any (Tryz.prog.loopsFrom ·))&&(Rows.movinglabelValuesRow.wideKeys==(Tryz.f12.params.toList++Rows.movinglabelValuesSpec.plain.varTypes Tryz.prog++Tryz.f12.resultTypes.toList).any (Tryz.prog.wideKeysFrom ·)))=true:=by kernel_rfl
theorem Zrl :(Rows.movinglabelValuesSpec.vars.all (Tryz.prog.varReadable ·)&&Tryz.f12.resultTypes.all (fun t=>Tryz.prog.readableRec t&&decide (t<Tryz.prog.types.size))&&(Rows.movinglabelValuesRow.ifacesOut==Tryz.f12.resultTypes.toList.any (Tryz.prog.ifacesRec ·))&&(Rows.movinglabelValuesRow.loopsOut==Tryz.f12.resultTypes.toList.any (Tryz.prog.loopsFrom ·))&&(Rows.movinglabelValuesRow.plainKeys==Tryz.prog.plainKeys)&&Rows.movinglabelValuesRow.shortTexts.isNone&&Tryz.prog.stopsHeard&&Tryz.prog.mayEnter&&(Rows.movinglabelValuesRow.lifted==Tryz.prog.liftsFinal)&&(Tryz.prog.make==some Rows.movinglabelValuesRow.make))=true:=by kernel_rfl
theorem Zqt :((Rows.movinglabelValuesRow.kinds==(if Rows.movinglabelValuesRow.domain.isEmpty then [] else Tryz.f12.params.toList.map fun t=>match Tryz.prog.underlying t with|some (.int k)=>some k|_=>none))&&(Rows.movinglabelValuesRow.pinned==Rows.movinglabelValuesRow.pinnedBy))=true:=by kernel_rfl
theorem ZqH :((Rows.movinglabelValuesRow.veiled==(Tryz.f12.params.toList++Rows.movinglabelValuesSpec.plain.varTypes Tryz.prog++Tryz.f12.resultTypes.toList).any (Tryz.prog.veiledRec ·))&&Rows.movinglabelValuesRow.veiledFits Tryz.prog Tryz.f12.params.toList (Tryz.f12.params.toList++Rows.movinglabelValuesSpec.plain.varTypes Tryz.prog++Tryz.f12.resultTypes.toList))=true:=by kernel_rfl
theorem Zkw :joinedFacts Tryz.prog 12 Tryz.f12 Rows.movinglabelValuesSpec Rows.movinglabelValuesRow=true:=by
 have ha:=Zrk
 have hb:=Zrb
 have hc:=ZqC
 have hd:=ZqX
 have he:=ZqD
 have hf:=Zrn
 have hg:=Zqd
 have hh:=Zre
 have hi:=Zqv
 have hj:=Zrl
 have hk:=Zqt
 have hl:=ZqH
 simp only[Bool.and_eq_true] at ha hd hi hj hk hl
 simp only[joinedFacts,Bool.and_eq_true]
 exact⟨⟨⟨⟨⟨⟨⟨⟨⟨⟨⟨⟨⟨⟨⟨⟨⟨⟨⟨⟨⟨⟨⟨⟨⟨⟨⟨⟨⟨⟨⟨ha.1.1,ha.1.2⟩,ha.2⟩,hb⟩,hc⟩,hd.1.1.1⟩,hd.1.1.2⟩,hd.1.2⟩,hd.2⟩,he⟩,hf⟩,hg⟩,hh⟩,hi.1.1.1.1⟩,hi.1.1.1.2⟩,hi.1.1.2⟩,hi.1.2⟩,hi.2⟩,hj.1.1.1.1.1.1.1.1.1⟩,hj.1.1.1.1.1.1.1.1.2⟩,hj.1.1.1.1.1.1.1.2⟩,hj.1.1.1.1.1.1.2⟩,hj.1.1.1.1.1.2⟩,hj.1.1.1.1.2⟩,hj.1.1.1.2⟩,hj.1.1.2⟩,hj.1.2⟩,hj.2⟩,hk.1⟩,hk.2⟩,hl.1⟩,hl.2⟩
theorem Zrg :Tryz.prog.funcNamed Rows.movinglabelValuesRow.func=some 12:=by kernel_rfl
theorem Zmr :Tryz.f12.isInstance Tryz.prog Rows.movinglabelValuesRow.origin Rows.movinglabelValuesRow.targs:=of_decide_eq_true (by kernel_rfl)
theorem Znq :Tryz.f12.isWrapper Tryz.prog Rows.movinglabelValuesRow.wrapper Rows.movinglabelValuesRow.mainSum:=by unfold Func.isWrapper;first|(rw[if_pos (by decide+kernel)];kernel_rfl)|(rw[if_neg (by decide+kernel)];exact⟨rfl,rfl⟩)
theorem Zm6 :Rows.MovinglabelValuesSaid:=
 OpenClaim.holds_of_cond 12 Tryz.f12 rfl rfl rfl rfl rfl rfl rfl ⟨rfl,rfl,rfl,rfl,rfl⟩ rfl rfl rfl rfl rfl Zrg Tryz.func12 Zkw Zmr Znq
  (fun os started H enc _ F=>by rw[OpenClaim.pre_eq_preRow];exact val_lifted os started H enc F)
end Go.Proofs.YtcgkgdgpdpihmaaGreatDoor
