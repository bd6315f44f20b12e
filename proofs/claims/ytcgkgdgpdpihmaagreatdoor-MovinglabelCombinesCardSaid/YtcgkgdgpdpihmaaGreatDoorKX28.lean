/- For any two moving labels, Map and Combine apply functions to their labels; Combine with equality agrees with Same. Conditions: none. (part 28 of 29.) Conditions: those that each statement names. -/
import Derived.Test.YtcgkgdgpdpihmaaGreatDoorKX27
set_option linter.unusedSimpArgs false
set_option linter.unusedVariables false
set_option maxHeartbeats 2000000
set_option maxRecDepth 100000
namespace Go.Proofs.YtcgkgdgpdpihmaaGreatDoor
open Go.ChangeShapes Go.WideShapes Go.ChangeAt Go.RowKit Go.Deep
theorem Zsd :(Rows.movinglabelCombinesRow.wf (OpenSpec.ofChange Rows.movinglabelCombinesSpec)&&laidOutB Tryz.prog&&mapsRowed Tryz.prog)=true:=by kernel_rfl
theorem Zsp :(Tryz.f11.params.all (Tryz.prog.readableRec ·))=true:=by kernel_rfl
theorem Zs9 :(namedTie Tryz.prog Rows.movinglabelCombinesRow.named Rows.movinglabelCombinesSpec.vars)=true:=by kernel_rfl
theorem Zso :((Rows.movinglabelCombinesRow.stops==[])&&(Tryz.prog.stops==[])&&(Rows.movinglabelCombinesRow.knobs==[])&&(Tryz.prog.stopKnobs==[]))=true:=by kernel_rfl
theorem Zs3 :(Rows.movinglabelCombinesRow.inPlace==Tryz.prog.inPlace 11)=true:=by kernel_rfl
theorem Zsn :(Rows.movinglabelCombinesRow.unfollowed==Tryz.prog.unfollowed 11)=true:=by kernel_rfl
theorem Zsa :(Rows.movinglabelCombinesRow.recurses==Tryz.prog.recurses 11)=true:=by kernel_rfl
theorem ZrS :(Rows.movinglabelCombinesRow.named==Tryz.prog.varsNamed 11)=true:=by kernel_rfl
theorem ZrU :((Rows.movinglabelCombinesRow.maps==(Tryz.f11.params.toList++Rows.movinglabelCombinesSpec.plain.varTypes Tryz.prog).any (Tryz.prog.mapsRec ·))&&(Rows.movinglabelCombinesRow.ifaces==(Tryz.f11.params.toList++Rows.movinglabelCombinesSpec.plain.varTypes Tryz.prog).any (Tryz.prog.ifacesRec ·))&&(Rows.movinglabelCombinesRow.mapsOut==Tryz.prog.mapsAmong Tryz.f11.resultTypes.toList)&&(Rows.movinglabelCombinesRow.loops==(Tryz.f11.params.toList++Rows.movinglabelCombinesSpec.plain.varTypes Tryz.prog).any (Tryz.prog.loopsFrom ·))&&(Rows.movinglabelCombinesRow.wideKeys==(Tryz.f11.params.toList++Rows.movinglabelCombinesSpec.plain.varTypes Tryz.prog++Tryz.f11.resultTypes.toList).any (Tryz.prog.wideKeysFrom ·)))=true:=by kernel_rfl
theorem Zrr :(Rows.movinglabelCombinesSpec.vars.all (Tryz.prog.varReadable ·)&&Tryz.f11.resultTypes.all (fun t=>Tryz.prog.readableRec t&&decide (t<Tryz.prog.types.size))&&(Rows.movinglabelCombinesRow.ifacesOut==Tryz.f11.resultTypes.toList.any (Tryz.prog.ifacesRec ·))&&(Rows.movinglabelCombinesRow.loopsOut==Tryz.f11.resultTypes.toList.any (Tryz.prog.loopsFrom ·))&&(Rows.movinglabelCombinesRow.plainKeys==Tryz.prog.plainKeys)&&Rows.movinglabelCombinesRow.shortTexts.isNone&&Tryz.prog.stopsHeard&&Tryz.prog.mayEnter&&(Rows.movinglabelCombinesRow.lifted==Tryz.prog.liftsFinal)&&(Tryz.prog.make==some Rows.movinglabelCombinesRow.make))=true:=by kernel_rfl
theorem ZrC :((Rows.movinglabelCombinesRow.kinds==(if Rows.movinglabelCombinesRow.domain.isEmpty then [] else Tryz.f11.params.toList.map fun t=>match Tryz.prog.underlying t with|some (.int k)=>some k|_=>none))&&(Rows.movinglabelCombinesRow.pinned==Rows.movinglabelCombinesRow.pinnedBy))=true:=by kernel_rfl
theorem Zsq :((Rows.movinglabelCombinesRow.veiled==(Tryz.f11.params.toList++Rows.movinglabelCombinesSpec.plain.varTypes Tryz.prog++Tryz.f11.resultTypes.toList).any (Tryz.prog.veiledRec ·))&&Rows.movinglabelCombinesRow.veiledFits Tryz.prog Tryz.f11.params.toList (Tryz.f11.params.toList++Rows.movinglabelCombinesSpec.plain.varTypes Tryz.prog++Tryz.f11.resultTypes.toList))=true:=by kernel_rfl
theorem Zlz :joinedFacts Tryz.prog 11 Tryz.f11 Rows.movinglabelCombinesSpec Rows.movinglabelCombinesRow=true:=by
 have ha:=Zsd
 have hb:=Zsp
 have hc:=Zs9
 have hd:=Zso
 have he:=Zs3
 have hf:=Zsn
 have hg:=Zsa
 have hh:=ZrS
 have hi:=ZrU
 have hj:=Zrr
 have hk:=ZrC
 have hl:=Zsq
 simp only[Bool.and_eq_true] at ha hd hi hj hk hl
 simp only[joinedFacts,Bool.and_eq_true]
 exact⟨⟨⟨⟨⟨⟨⟨⟨⟨⟨⟨⟨⟨⟨⟨⟨⟨⟨⟨⟨⟨⟨⟨⟨⟨⟨⟨⟨⟨⟨⟨ha.1.1,ha.1.2⟩,ha.2⟩,hb⟩,hc⟩,hd.1.1.1⟩,hd.1.1.2⟩,hd.1.2⟩,hd.2⟩,he⟩,hf⟩,hg⟩,hh⟩,hi.1.1.1.1⟩,hi.1.1.1.2⟩,hi.1.1.2⟩,hi.1.2⟩,hi.2⟩,hj.1.1.1.1.1.1.1.1.1⟩,hj.1.1.1.1.1.1.1.1.2⟩,hj.1.1.1.1.1.1.1.2⟩,hj.1.1.1.1.1.1.2⟩,hj.1.1.1.1.1.2⟩,hj.1.1.1.1.2⟩,hj.1.1.1.2⟩,hj.1.1.2⟩,hj.1.2⟩,hj.2⟩,hk.1⟩,hk.2⟩,hl.1⟩,hl.2⟩
theorem Zsj :Tryz.prog.funcNamed Rows.movinglabelCombinesRow.func=some 11:=by kernel_rfl
theorem Zoe :Tryz.f11.isInstance Tryz.prog Rows.movinglabelCombinesRow.origin Rows.movinglabelCombinesRow.targs:=of_decide_eq_true (by kernel_rfl)
theorem ZnJ :Tryz.f11.isWrapper Tryz.prog Rows.movinglabelCombinesRow.wrapper Rows.movinglabelCombinesRow.mainSum:=by unfold Func.isWrapper;first|(rw[if_pos (by decide+kernel)];kernel_rfl)|(rw[if_neg (by decide+kernel)];exact⟨rfl,rfl⟩)
theorem Zpg :Rows.MovinglabelCombinesSaid:=
 OpenClaim.holds_of_cond 11 Tryz.f11 rfl rfl rfl rfl rfl rfl rfl ⟨rfl,rfl,rfl,rfl,rfl⟩ rfl rfl rfl rfl rfl Zsj Tryz.func11 Zlz Zoe ZnJ
  (fun os started H enc _ F=>by rw[OpenClaim.pre_eq_preRow];exact com_lifted os started H enc F)
end Go.Proofs.YtcgkgdgpdpihmaaGreatDoor
