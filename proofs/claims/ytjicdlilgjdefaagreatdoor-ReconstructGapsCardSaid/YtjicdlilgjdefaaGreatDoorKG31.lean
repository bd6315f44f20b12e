/- that the gaps between reports are those of the chain (part 31 of 32.) Conditions: those that each statement names. -/
import Derived.Test.YtjicdlilgjdefaaGreatDoorKG30
set_option linter.unusedSimpArgs false
set_option linter.unusedVariables false
set_option maxHeartbeats 2000000
set_option maxRecDepth 100000
namespace Go.Proofs.YtjicdlilgjdefaaGreatDoor
open Go.ChangeShapes Go.WideShapes Go.ChangeAt Go.RowKit Go.Deep
theorem ZwZ :(Rows.reconstructGapsRow.wf (OpenSpec.ofChange Rows.reconstructGapsSpec)&&laidOutB Tryz.prog&&mapsRowed Tryz.prog)=true:=by kernel_rfl
theorem Zu4 :(Tryz.f8.params.all (Tryz.prog.readableRec ·))=true:=by kernel_rfl
theorem Zu8 :(namedTie Tryz.prog Rows.reconstructGapsRow.named Rows.reconstructGapsSpec.vars)=true:=by kernel_rfl
theorem Zw1 :((Rows.reconstructGapsRow.stops==[])&&(Tryz.prog.stops==[])&&(Rows.reconstructGapsRow.knobs==[])&&(Tryz.prog.stopKnobs==[]))=true:=by kernel_rfl
theorem Zvk :(Rows.reconstructGapsRow.inPlace==Tryz.prog.inPlace 8)=true:=by kernel_rfl
theorem Zwq :(Rows.reconstructGapsRow.unfollowed==Tryz.prog.unfollowed 8)=true:=by kernel_rfl
theorem ZwP :(Rows.reconstructGapsRow.recurses==Tryz.prog.recurses 8)=true:=by kernel_rfl
theorem ZwN :(Rows.reconstructGapsRow.named==Tryz.prog.varsNamed 8)=true:=by kernel_rfl
theorem Zve :((Rows.reconstructGapsRow.maps==(Tryz.f8.params.toList++Rows.reconstructGapsSpec.plain.varTypes Tryz.prog).any (Tryz.prog.mapsRec ·))&&(Rows.reconstructGapsRow.ifaces==(Tryz.f8.params.toList++Rows.reconstructGapsSpec.plain.varTypes Tryz.prog).any (Tryz.prog.ifacesRec ·))&&(Rows.reconstructGapsRow.mapsOut==Tryz.prog.mapsAmong Tryz.f8.resultTypes.toList)&&(Rows.reconstructGapsRow.loops==(Tryz.f8.params.toList++Rows.reconstructGapsSpec.plain.varTypes Tryz.prog).any (Tryz.prog.loopsFrom ·))&&(Rows.reconstructGapsRow.wideKeys==(Tryz.f8.params.toList++Rows.reconstructGapsSpec.plain.varTypes Tryz.prog++Tryz.f8.resultTypes.toList).any (Tryz.prog.wideKeysFrom ·)))=true:=by kernel_rfl
theorem ZvG :(Rows.reconstructGapsSpec.vars.all (Tryz.prog.varReadable ·)&&Tryz.f8.resultTypes.all (fun t=>Tryz.prog.readableRec t&&decide (t<Tryz.prog.types.size))&&(Rows.reconstructGapsRow.ifacesOut==Tryz.f8.resultTypes.toList.any (Tryz.prog.ifacesRec ·))&&(Rows.reconstructGapsRow.loopsOut==Tryz.f8.resultTypes.toList.any (Tryz.prog.loopsFrom ·))&&(Rows.reconstructGapsRow.plainKeys==Tryz.prog.plainKeys)&&Rows.reconstructGapsRow.shortTexts.isNone&&Tryz.prog.stopsHeard&&Tryz.prog.mayEnter&&(Rows.reconstructGapsRow.lifted==Tryz.prog.liftsFinal)&&(Tryz.prog.make==some Rows.reconstructGapsRow.make))=true:=by kernel_rfl
theorem Zvy :((Rows.reconstructGapsRow.kinds==(if Rows.reconstructGapsRow.domain.isEmpty then [] else Tryz.f8.params.toList.map fun t=>match Tryz.prog.underlying t with|some (.int k)=>some k|_=>none))&&(Rows.reconstructGapsRow.pinned==Rows.reconstructGapsRow.pinnedBy))=true:=by kernel_rfl
theorem Zww :((Rows.reconstructGapsRow.veiled==(Tryz.f8.params.toList++Rows.reconstructGapsSpec.plain.varTypes Tryz.prog++Tryz.f8.resultTypes.toList).any (Tryz.prog.veiledRec ·))&&Rows.reconstructGapsRow.veiledFits Tryz.prog Tryz.f8.params.toList (Tryz.f8.params.toList++Rows.reconstructGapsSpec.plain.varTypes Tryz.prog++Tryz.f8.resultTypes.toList))=true:=by kernel_rfl
theorem Zow :joinedFacts Tryz.prog 8 Tryz.f8 Rows.reconstructGapsSpec Rows.reconstructGapsRow=true:=by
 have ha:=ZwZ
 have hb:=Zu4
 have hc:=Zu8
 have hd:=Zw1
 have he:=Zvk
 have hf:=Zwq
 have hg:=ZwP
 have hh:=ZwN
 have hi:=Zve
 have hj:=ZvG
 have hk:=Zvy
 have hl:=Zww
 simp only[Bool.and_eq_true] at ha hd hi hj hk hl
 simp only[joinedFacts,Bool.and_eq_true]
 exact⟨⟨⟨⟨⟨⟨⟨⟨⟨⟨⟨⟨⟨⟨⟨⟨⟨⟨⟨⟨⟨⟨⟨⟨⟨⟨⟨⟨⟨⟨⟨ha.1.1,ha.1.2⟩,ha.2⟩,hb⟩,hc⟩,hd.1.1.1⟩,hd.1.1.2⟩,hd.1.2⟩,hd.2⟩,he⟩,hf⟩,hg⟩,hh⟩,hi.1.1.1.1⟩,hi.1.1.1.2⟩,hi.1.1.2⟩,hi.1.2⟩,hi.2⟩,hj.1.1.1.1.1.1.1.1.1⟩,hj.1.1.1.1.1.1.1.1.2⟩,hj.1.1.1.1.1.1.1.2⟩,hj.1.1.1.1.1.1.2⟩,hj.1.1.1.1.1.2⟩,hj.1.1.1.1.2⟩,hj.1.1.1.2⟩,hj.1.1.2⟩,hj.1.2⟩,hj.2⟩,hk.1⟩,hk.2⟩,hl.1⟩,hl.2⟩
theorem Zvf :Tryz.prog.funcNamed Rows.reconstructGapsRow.func=some 8:=by kernel_rfl
theorem Zsv :Tryz.f8.isInstance Tryz.prog Rows.reconstructGapsRow.origin Rows.reconstructGapsRow.targs:=of_decide_eq_true (by kernel_rfl)
theorem ZsF :Tryz.f8.isWrapper Tryz.prog Rows.reconstructGapsRow.wrapper Rows.reconstructGapsRow.mainSum:=by unfold Func.isWrapper;first|(rw[if_pos (by decide+kernel)];kernel_rfl)|(rw[if_neg (by decide+kernel)];exact⟨rfl,rfl⟩)
theorem Zsc :Rows.ReconstructGapsSaid:=
 OpenClaim.holds_of_cond 8 Tryz.f8 rfl rfl rfl rfl rfl rfl rfl ⟨rfl,rfl,rfl,rfl,rfl⟩ rfl rfl rfl rfl rfl Zvf Tryz.func8 Zow Zsv ZsF
  (fun os started H enc _ F=>by rw[OpenClaim.pre_eq_preRow];exact gap_lifted os started H enc F)
end Go.Proofs.YtjicdlilgjdefaaGreatDoor
