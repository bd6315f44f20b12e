/- For any up to 8 stretches, Normal returns the normal form of their units in any order, if no two have an instant in common, and ErrOverlap otherwise. Conditions: none. (part 27 of 28.) Conditions: those that each statement names. -/
import Derived.Test.YtcgkgdgpdpihmaaGreatDoorKZ26
set_option linter.unusedSimpArgs false
set_option linter.unusedVariables false
set_option maxHeartbeats 2000000
set_option maxRecDepth 100000
namespace Go.Proofs.YtcgkgdgpdpihmaaGreatDoor
open Go.ChangeShapes Go.WideShapes Go.ChangeAt Go.RowKit Go.Deep
theorem Zsa :(Rows.movinglabelNormalRow.wf (OpenSpec.ofChange Rows.movinglabelNormalSpec)&&laidOutB Tryz.prog&&mapsRowed Tryz.prog)=true:=by kernel_rfl
theorem Zq7 :(Tryz.f4.params.all (Tryz.prog.readableRec ·))=true:=by kernel_rfl
theorem Zr8 :(namedTie Tryz.prog Rows.movinglabelNormalRow.named Rows.movinglabelNormalSpec.vars)=true:=by kernel_rfl
theorem Zrl :((Rows.movinglabelNormalRow.stops==[])&&(Tryz.prog.stops==[])&&(Rows.movinglabelNormalRow.knobs==[])&&(Tryz.prog.stopKnobs==[]))=true:=by kernel_rfl
theorem Zrs :(Rows.movinglabelNormalRow.inPlace==Tryz.prog.inPlace 4)=true:=by kernel_rfl
theorem ZrH :(Rows.movinglabelNormalRow.unfollowed==Tryz.prog.unfollowed 4)=true:=by kernel_rfl
theorem ZrA :(Rows.movinglabelNormalRow.recurses==Tryz.prog.recurses 4)=true:=by kernel_rfl
theorem Zrb :(Rows.movinglabelNormalRow.named==Tryz.prog.varsNamed 4)=true:=by kernel_rfl
theorem Zq5 :((Rows.movinglabelNormalRow.maps==(Tryz.f4.params.toList++Rows.movinglabelNormalSpec.plain.varTypes Tryz.prog).any (Tryz.prog.mapsRec ·))&&(Rows.movinglabelNormalRow.ifaces==(Tryz.f4.params.toList++Rows.movinglabelNormalSpec.plain.varTypes Tryz.prog).any (Tryz.prog.ifacesRec ·))&&(Rows.movinglabelNormalRow.mapsOut==Tryz.prog.mapsAmong Tryz.f4.resultTypes.toList)&&(Rows.movinglabelNormalRow.loops==(Tryz.f4.params.toList++Rows.movinglabelNormalSpec.plain.varTypes Tryz.prog).any (Tryz.prog.loopsFrom ·))&&(Rows.movinglabelNormalRow.wideKeys==(Tryz.f4.params.toList++Rows.movinglabelNormalSpec.plain.varTypes Tryz.prog++Tryz.f4.resultTypes.toList).any (Tryz.prog.wideKeysFrom ·)))=true:=by kernel_rfl
theorem Zr6 :(Rows.movinglabelNormalSpec.vars.all (Tryz.prog.varReadable ·)&&Tryz.f4.resultTypes.all (fun t=>Tryz.prog.readableRec t&&decide (t<Tryz.prog.types.size))&&(Rows.movinglabelNormalRow.ifacesOut==Tryz.f4.resultTypes.toList.any (Tryz.prog.ifacesRec ·))&&(Rows.movinglabelNormalRow.loopsOut==Tryz.f4.resultTypes.toList.any (Tryz.prog.loopsFrom ·))&&(Rows.movinglabelNormalRow.plainKeys==Tryz.prog.plainKeys)&&Rows.movinglabelNormalRow.shortTexts.isNone&&Tryz.prog.stopsHeard&&Tryz.prog.mayEnter&&(Rows.movinglabelNormalRow.lifted==Tryz.prog.liftsFinal)&&(Tryz.prog.make==some Rows.movinglabelNormalRow.make))=true:=by kernel_rfl
theorem ZqJ :((Rows.movinglabelNormalRow.kinds==(if Rows.movinglabelNormalRow.domain.isEmpty then [] else Tryz.f4.params.toList.map fun t=>match Tryz.prog.underlying t with|some (.int k)=>some k|_=>none))&&(Rows.movinglabelNormalRow.pinned==Rows.movinglabelNormalRow.pinnedBy))=true:=by kernel_rfl
theorem Zre :((Rows.movinglabelNormalRow.veiled==(Tryz.f4.params.toList++Rows.movinglabelNormalSpec.plain.varTypes Tryz.prog++Tryz.f4.resultTypes.toList).any (Tryz.prog.veiledRec ·))&&Rows.movinglabelNormalRow.veiledFits Tryz.prog Tryz.f4.params.toList (Tryz.f4.params.toList++Rows.movinglabelNormalSpec.plain.varTypes Tryz.prog++Tryz.f4.resultTypes.toList))=true:=by kernel_rfl
theorem Zkm :joinedFacts Tryz.prog 4 Tryz.f4 Rows.movinglabelNormalSpec Rows.movinglabelNormalRow=true:=by
 have ha:=Zsa
 have hb:=Zq7
 have hc:=Zr8
 have hd:=Zrl
 have he:=Zrs
 have hf:=ZrH
 have hg:=ZrA
 have hh:=Zrb
 have hi:=Zq5
 have hj:=Zr6
 have hk:=ZqJ
 have hl:=Zre
 simp only[Bool.and_eq_true] at ha hd hi hj hk hl
 simp only[joinedFacts,Bool.and_eq_true]
 exact⟨⟨⟨⟨⟨⟨⟨⟨⟨⟨⟨⟨⟨⟨⟨⟨⟨⟨⟨⟨⟨⟨⟨⟨⟨⟨⟨⟨⟨⟨⟨ha.1.1,ha.1.2⟩,ha.2⟩,hb⟩,hc⟩,hd.1.1.1⟩,hd.1.1.2⟩,hd.1.2⟩,hd.2⟩,he⟩,hf⟩,hg⟩,hh⟩,hi.1.1.1.1⟩,hi.1.1.1.2⟩,hi.1.1.2⟩,hi.1.2⟩,hi.2⟩,hj.1.1.1.1.1.1.1.1.1⟩,hj.1.1.1.1.1.1.1.1.2⟩,hj.1.1.1.1.1.1.1.2⟩,hj.1.1.1.1.1.1.2⟩,hj.1.1.1.1.1.2⟩,hj.1.1.1.1.2⟩,hj.1.1.1.2⟩,hj.1.1.2⟩,hj.1.2⟩,hj.2⟩,hk.1⟩,hk.2⟩,hl.1⟩,hl.2⟩
theorem Zrt :Tryz.prog.funcNamed Rows.movinglabelNormalRow.func=some 4:=by kernel_rfl
theorem Zoi :Tryz.f4.isInstance Tryz.prog Rows.movinglabelNormalRow.origin Rows.movinglabelNormalRow.targs:=of_decide_eq_true (by kernel_rfl)
theorem Znc :Tryz.f4.isWrapper Tryz.prog Rows.movinglabelNormalRow.wrapper Rows.movinglabelNormalRow.mainSum:=by unfold Func.isWrapper;first|(rw[if_pos (by decide+kernel)];kernel_rfl)|(rw[if_neg (by decide+kernel)];exact⟨rfl,rfl⟩)
theorem Zor :Rows.MovinglabelNormalSaid:=
 OpenClaim.holds_of_cond 4 Tryz.f4 rfl rfl rfl rfl rfl rfl rfl ⟨rfl,rfl,rfl,rfl,rfl⟩ rfl rfl rfl rfl rfl Zrt Tryz.func4 Zkm Zoi Znc
  (fun os started H enc _ F=>by rw[OpenClaim.pre_eq_preRow];exact nor_lifted os started H enc F)
end Go.Proofs.YtcgkgdgpdpihmaaGreatDoor
