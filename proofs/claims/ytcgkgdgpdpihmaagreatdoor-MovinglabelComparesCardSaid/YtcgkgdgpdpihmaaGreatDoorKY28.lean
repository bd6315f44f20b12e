/- For any two moving labels and any label, Is, Same and Less are the lifted comparisons. Conditions: none. (part 28 of 29.) Conditions: those that each statement names. -/
import Derived.Test.YtcgkgdgpdpihmaaGreatDoorKY27
set_option linter.unusedSimpArgs false
set_option linter.unusedVariables false
set_option maxHeartbeats 2000000
set_option maxRecDepth 100000
namespace Go.Proofs.YtcgkgdgpdpihmaaGreatDoor
open Go.ChangeShapes Go.WideShapes Go.ChangeAt Go.RowKit Go.Deep
theorem Zru :(Rows.movinglabelComparesRow.wf (OpenSpec.ofChange Rows.movinglabelComparesSpec)&&laidOutB Tryz.prog&&mapsRowed Tryz.prog)=true:=by kernel_rfl
theorem ZsF :(Tryz.f9.params.all (Tryz.prog.readableRec ·))=true:=by kernel_rfl
theorem Zs4 :(namedTie Tryz.prog Rows.movinglabelComparesRow.named Rows.movinglabelComparesSpec.vars)=true:=by kernel_rfl
theorem Zss :((Rows.movinglabelComparesRow.stops==[])&&(Tryz.prog.stops==[])&&(Rows.movinglabelComparesRow.knobs==[])&&(Tryz.prog.stopKnobs==[]))=true:=by kernel_rfl
theorem ZsR :(Rows.movinglabelComparesRow.inPlace==Tryz.prog.inPlace 9)=true:=by kernel_rfl
theorem ZsL :(Rows.movinglabelComparesRow.unfollowed==Tryz.prog.unfollowed 9)=true:=by kernel_rfl
theorem ZsM :(Rows.movinglabelComparesRow.recurses==Tryz.prog.recurses 9)=true:=by kernel_rfl
theorem Zsx :(Rows.movinglabelComparesRow.named==Tryz.prog.varsNamed 9)=true:=by kernel_rfl
theorem ZrI :((Rows.movinglabelComparesRow.maps==(Tryz.f9.params.toList++Rows.movinglabelComparesSpec.plain.varTypes Tryz.prog).any (Tryz.prog.mapsRec ·))&&(Rows.movinglabelComparesRow.ifaces==(Tryz.f9.params.toList++Rows.movinglabelComparesSpec.plain.varTypes Tryz.prog).any (Tryz.prog.ifacesRec ·))&&(Rows.movinglabelComparesRow.mapsOut==Tryz.prog.mapsAmong Tryz.f9.resultTypes.toList)&&(Rows.movinglabelComparesRow.loops==(Tryz.f9.params.toList++Rows.movinglabelComparesSpec.plain.varTypes Tryz.prog).any (Tryz.prog.loopsFrom ·))&&(Rows.movinglabelComparesRow.wideKeys==(Tryz.f9.params.toList++Rows.movinglabelComparesSpec.plain.varTypes Tryz.prog++Tryz.f9.resultTypes.toList).any (Tryz.prog.wideKeysFrom ·)))=true:=by kernel_rfl
theorem Zr0 :(Rows.movinglabelComparesSpec.vars.all (Tryz.prog.varReadable ·)&&Tryz.f9.resultTypes.all (fun t=>Tryz.prog.readableRec t&&decide (t<Tryz.prog.types.size))&&(Rows.movinglabelComparesRow.ifacesOut==Tryz.f9.resultTypes.toList.any (Tryz.prog.ifacesRec ·))&&(Rows.movinglabelComparesRow.loopsOut==Tryz.f9.resultTypes.toList.any (Tryz.prog.loopsFrom ·))&&(Rows.movinglabelComparesRow.plainKeys==Tryz.prog.plainKeys)&&Rows.movinglabelComparesRow.shortTexts.isNone&&Tryz.prog.stopsHeard&&Tryz.prog.mayEnter&&(Rows.movinglabelComparesRow.lifted==Tryz.prog.liftsFinal)&&(Tryz.prog.make==some Rows.movinglabelComparesRow.make))=true:=by kernel_rfl
theorem Zrz :((Rows.movinglabelComparesRow.kinds==(if Rows.movinglabelComparesRow.domain.isEmpty then [] else Tryz.f9.params.toList.map fun t=>match Tryz.prog.underlying t with|some (.int k)=>some k|_=>none))&&(Rows.movinglabelComparesRow.pinned==Rows.movinglabelComparesRow.pinnedBy))=true:=by kernel_rfl
theorem ZrU :((Rows.movinglabelComparesRow.veiled==(Tryz.f9.params.toList++Rows.movinglabelComparesSpec.plain.varTypes Tryz.prog++Tryz.f9.resultTypes.toList).any (Tryz.prog.veiledRec ·))&&Rows.movinglabelComparesRow.veiledFits Tryz.prog Tryz.f9.params.toList (Tryz.f9.params.toList++Rows.movinglabelComparesSpec.plain.varTypes Tryz.prog++Tryz.f9.resultTypes.toList))=true:=by kernel_rfl
theorem ZkZ :joinedFacts Tryz.prog 9 Tryz.f9 Rows.movinglabelComparesSpec Rows.movinglabelComparesRow=true:=by
 have ha:=Zru
 have hb:=ZsF
 have hc:=Zs4
 have hd:=Zss
 have he:=ZsR
 have hf:=ZsL
 have hg:=ZsM
 have hh:=Zsx
 have hi:=ZrI
 have hj:=Zr0
 have hk:=Zrz
 have hl:=ZrU
 simp only[Bool.and_eq_true] at ha hd hi hj hk hl
 simp only[joinedFacts,Bool.and_eq_true]
 exact⟨⟨⟨⟨⟨⟨⟨⟨⟨⟨⟨⟨⟨⟨⟨⟨⟨⟨⟨⟨⟨⟨⟨⟨⟨⟨⟨⟨⟨⟨⟨ha.1.1,ha.1.2⟩,ha.2⟩,hb⟩,hc⟩,hd.1.1.1⟩,hd.1.1.2⟩,hd.1.2⟩,hd.2⟩,he⟩,hf⟩,hg⟩,hh⟩,hi.1.1.1.1⟩,hi.1.1.1.2⟩,hi.1.1.2⟩,hi.1.2⟩,hi.2⟩,hj.1.1.1.1.1.1.1.1.1⟩,hj.1.1.1.1.1.1.1.1.2⟩,hj.1.1.1.1.1.1.1.2⟩,hj.1.1.1.1.1.1.2⟩,hj.1.1.1.1.1.2⟩,hj.1.1.1.1.2⟩,hj.1.1.1.2⟩,hj.1.1.2⟩,hj.1.2⟩,hj.2⟩,hk.1⟩,hk.2⟩,hl.1⟩,hl.2⟩
theorem Zs8 :Tryz.prog.funcNamed Rows.movinglabelComparesRow.func=some 9:=by kernel_rfl
theorem Zn4 :Tryz.f9.isInstance Tryz.prog Rows.movinglabelComparesRow.origin Rows.movinglabelComparesRow.targs:=of_decide_eq_true (by kernel_rfl)
theorem Zo7 :Tryz.f9.isWrapper Tryz.prog Rows.movinglabelComparesRow.wrapper Rows.movinglabelComparesRow.mainSum:=by unfold Func.isWrapper;first|(rw[if_pos (by decide+kernel)];kernel_rfl)|(rw[if_neg (by decide+kernel)];exact⟨rfl,rfl⟩)
theorem Zo4 :Rows.MovinglabelComparesSaid:=
 OpenClaim.holds_of_cond 9 Tryz.f9 rfl rfl rfl rfl rfl rfl rfl ⟨rfl,rfl,rfl,rfl,rfl⟩ rfl rfl rfl rfl rfl Zs8 Tryz.func9 ZkZ Zn4 Zo7
  (fun os started H enc _ F=>by rw[OpenClaim.pre_eq_preRow];exact cps_lifted os started H enc F)
end Go.Proofs.YtcgkgdgpdpihmaaGreatDoor
