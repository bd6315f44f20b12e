/- For any moving Boolean, any period and any two labels, Constant and FromBool have their labels, and Is gives the moving Boolean back, if both labels differ. Conditions: none. (part 27 of 28.) Conditions: those that each statement names. -/
import Derived.Test.YtcgkgdgpdpihmaaGreatDoorKM26
set_option linter.unusedSimpArgs false
set_option linter.unusedVariables false
set_option maxHeartbeats 2000000
set_option maxRecDepth 100000
namespace Go.Proofs.YtcgkgdgpdpihmaaGreatDoor
open Go.ChangeShapes Go.WideShapes Go.ChangeAt Go.RowKit Go.Deep
theorem Zrj :(Rows.movinglabelMakesRow.wf (OpenSpec.ofChange Rows.movinglabelMakesSpec)&&laidOutB Tryz.prog&&mapsRowed Tryz.prog)=true:=by kernel_rfl
theorem Zq1 :(Tryz.f8.params.all (Tryz.prog.readableRec ·))=true:=by kernel_rfl
theorem ZqU :(namedTie Tryz.prog Rows.movinglabelMakesRow.named Rows.movinglabelMakesSpec.vars)=true:=by kernel_rfl
theorem Zr8 :((Rows.movinglabelMakesRow.stops==[])&&(Tryz.prog.stops==[])&&(Rows.movinglabelMakesRow.knobs==[])&&(Tryz.prog.stopKnobs==[]))=true:=by kernel_rfl
theorem ZrU :(Rows.movinglabelMakesRow.inPlace==Tryz.prog.inPlace 8)=true:=by kernel_rfl
theorem Zsg :(Rows.movinglabelMakesRow.unfollowed==Tryz.prog.unfollowed 8)=true:=by kernel_rfl
theorem ZrF :(Rows.movinglabelMakesRow.recurses==Tryz.prog.recurses 8)=true:=by kernel_rfl
theorem Zrs :(Rows.movinglabelMakesRow.named==Tryz.prog.varsNamed 8)=true:=by kernel_rfl
theorem Zsb :((Rows.movinglabelMakesRow.maps==(Tryz.f8.params.toList++Rows.movinglabelMakesSpec.plain.varTypes Tryz.prog).any (Tryz.prog.mapsRec ·))&&(Rows.movinglabelMakesRow.ifaces==(Tryz.f8.params.toList++Rows.movinglabelMakesSpec.plain.varTypes Tryz.prog).any (Tryz.prog.ifacesRec ·))&&(Rows.movinglabelMakesRow.mapsOut==Tryz.prog.mapsAmong Tryz.f8.resultTypes.toList)&&(Rows.movinglabelMakesRow.loops==(Tryz.f8.params.toList++Rows.movinglabelMakesSpec.plain.varTypes Tryz.prog).any (Tryz.prog.loopsFrom ·))&&(Rows.movinglabelMakesRow.wideKeys==(Tryz.f8.params.toList++Rows.movinglabelMakesSpec.plain.varTypes Tryz.prog++Tryz.f8.resultTypes.toList).any (Tryz.prog.wideKeysFrom ·)))=true:=by kernel_rfl
theorem Zrc :(Rows.movinglabelMakesSpec.vars.all (Tryz.prog.varReadable ·)&&Tryz.f8.resultTypes.all (fun t=>Tryz.prog.readableRec t&&decide (t<Tryz.prog.types.size))&&(Rows.movinglabelMakesRow.ifacesOut==Tryz.f8.resultTypes.toList.any (Tryz.prog.ifacesRec ·))&&(Rows.movinglabelMakesRow.loopsOut==Tryz.f8.resultTypes.toList.any (Tryz.prog.loopsFrom ·))&&(Rows.movinglabelMakesRow.plainKeys==Tryz.prog.plainKeys)&&Rows.movinglabelMakesRow.shortTexts.isNone&&Tryz.prog.stopsHeard&&Tryz.prog.mayEnter&&(Rows.movinglabelMakesRow.lifted==Tryz.prog.liftsFinal)&&(Tryz.prog.make==some Rows.movinglabelMakesRow.make))=true:=by kernel_rfl
theorem ZrZ :((Rows.movinglabelMakesRow.kinds==(if Rows.movinglabelMakesRow.domain.isEmpty then [] else Tryz.f8.params.toList.map fun t=>match Tryz.prog.underlying t with|some (.int k)=>some k|_=>none))&&(Rows.movinglabelMakesRow.pinned==Rows.movinglabelMakesRow.pinnedBy))=true:=by kernel_rfl
theorem Zro :((Rows.movinglabelMakesRow.veiled==(Tryz.f8.params.toList++Rows.movinglabelMakesSpec.plain.varTypes Tryz.prog++Tryz.f8.resultTypes.toList).any (Tryz.prog.veiledRec ·))&&Rows.movinglabelMakesRow.veiledFits Tryz.prog Tryz.f8.params.toList (Tryz.f8.params.toList++Rows.movinglabelMakesSpec.plain.varTypes Tryz.prog++Tryz.f8.resultTypes.toList))=true:=by kernel_rfl
theorem Zj6 :joinedFacts Tryz.prog 8 Tryz.f8 Rows.movinglabelMakesSpec Rows.movinglabelMakesRow=true:=by
 have ha:=Zrj
 have hb:=Zq1
 have hc:=ZqU
 have hd:=Zr8
 have he:=ZrU
 have hf:=Zsg
 have hg:=ZrF
 have hh:=Zrs
 have hi:=Zsb
 have hj:=Zrc
 have hk:=ZrZ
 have hl:=Zro
 simp only[Bool.and_eq_true] at ha hd hi hj hk hl
 simp only[joinedFacts,Bool.and_eq_true]
 exact⟨⟨⟨⟨⟨⟨⟨⟨⟨⟨⟨⟨⟨⟨⟨⟨⟨⟨⟨⟨⟨⟨⟨⟨⟨⟨⟨⟨⟨⟨⟨ha.1.1,ha.1.2⟩,ha.2⟩,hb⟩,hc⟩,hd.1.1.1⟩,hd.1.1.2⟩,hd.1.2⟩,hd.2⟩,he⟩,hf⟩,hg⟩,hh⟩,hi.1.1.1.1⟩,hi.1.1.1.2⟩,hi.1.1.2⟩,hi.1.2⟩,hi.2⟩,hj.1.1.1.1.1.1.1.1.1⟩,hj.1.1.1.1.1.1.1.1.2⟩,hj.1.1.1.1.1.1.1.2⟩,hj.1.1.1.1.1.1.2⟩,hj.1.1.1.1.1.2⟩,hj.1.1.1.1.2⟩,hj.1.1.1.2⟩,hj.1.1.2⟩,hj.1.2⟩,hj.2⟩,hk.1⟩,hk.2⟩,hl.1⟩,hl.2⟩
theorem Zq2 :Tryz.prog.funcNamed Rows.movinglabelMakesRow.func=some 8:=by kernel_rfl
theorem Znw :Tryz.f8.isInstance Tryz.prog Rows.movinglabelMakesRow.origin Rows.movinglabelMakesRow.targs:=of_decide_eq_true (by kernel_rfl)
theorem Zm7 :Tryz.f8.isWrapper Tryz.prog Rows.movinglabelMakesRow.wrapper Rows.movinglabelMakesRow.mainSum:=by unfold Func.isWrapper;first|(rw[if_pos (by decide+kernel)];kernel_rfl)|(rw[if_neg (by decide+kernel)];exact⟨rfl,rfl⟩)
theorem Znc :Rows.MovinglabelMakesSaid:=
 OpenClaim.holds_of_cond 8 Tryz.f8 rfl rfl rfl rfl rfl rfl rfl ⟨rfl,rfl,rfl,rfl,rfl⟩ rfl rfl rfl rfl rfl Zq2 Tryz.func8 Zj6 Znw Zm7
  (fun os started H enc _ F=>by rw[OpenClaim.pre_eq_preRow];exact mak_lifted os started H enc F)
end Go.Proofs.YtcgkgdgpdpihmaaGreatDoor
