/- For any up to 12 units whose ends have up to 20 bytes, and for any decoded moving label (up to 8 stretches), Check returns OK or the first error. Conditions: none. (part 27 of 28.) Conditions: those that each statement names. -/
import Derived.Test.YtcgkgdgpdpihmaaGreatDoorKC26
set_option linter.unusedSimpArgs false
set_option linter.unusedVariables false
set_option maxHeartbeats 2000000
set_option maxRecDepth 100000
namespace Go.Proofs.YtcgkgdgpdpihmaaGreatDoor
open Go.ChangeShapes Go.WideShapes Go.ChangeAt Go.RowKit Go.Deep
theorem ZsN :(Rows.movinglabelChecksRow.wf (OpenSpec.ofChange Rows.movinglabelChecksSpec)&&laidOutB Tryz.prog&&mapsRowed Tryz.prog)=true:=by kernel_rfl
theorem Zrp :(Tryz.f3.params.all (Tryz.prog.readableRec ·))=true:=by kernel_rfl
theorem Zr3 :(namedTie Tryz.prog Rows.movinglabelChecksRow.named Rows.movinglabelChecksSpec.vars)=true:=by kernel_rfl
theorem ZsR :((Rows.movinglabelChecksRow.stops==[])&&(Tryz.prog.stops==[])&&(Rows.movinglabelChecksRow.knobs==[])&&(Tryz.prog.stopKnobs==[]))=true:=by kernel_rfl
theorem Zrs :(Rows.movinglabelChecksRow.inPlace==Tryz.prog.inPlace 3)=true:=by kernel_rfl
theorem ZsB :(Rows.movinglabelChecksRow.unfollowed==Tryz.prog.unfollowed 3)=true:=by kernel_rfl
theorem ZsO :(Rows.movinglabelChecksRow.recurses==Tryz.prog.recurses 3)=true:=by kernel_rfl
theorem ZsQ :(Rows.movinglabelChecksRow.named==Tryz.prog.varsNamed 3)=true:=by kernel_rfl
theorem ZrS :((Rows.movinglabelChecksRow.maps==(Tryz.f3.params.toList++Rows.movinglabelChecksSpec.plain.varTypes Tryz.prog).any (Tryz.prog.mapsRec ·))&&(Rows.movinglabelChecksRow.ifaces==(Tryz.f3.params.toList++Rows.movinglabelChecksSpec.plain.varTypes Tryz.prog).any (Tryz.prog.ifacesRec ·))&&(Rows.movinglabelChecksRow.mapsOut==Tryz.prog.mapsAmong Tryz.f3.resultTypes.toList)&&(Rows.movinglabelChecksRow.loops==(Tryz.f3.params.toList++Rows.movinglabelChecksSpec.plain.varTypes Tryz.prog).any (Tryz.prog.loopsFrom ·))&&(Rows.movinglabelChecksRow.wideKeys==(Tryz.f3.params.toList++Rows.movinglabelChecksSpec.plain.varTypes Tryz.prog++Tryz.f3.resultTypes.toList).any (Tryz.prog.wideKeysFrom ·)))=true:=by kernel_rfl
theorem ZrD :(Rows.movinglabelChecksSpec.vars.all (Tryz.prog.varReadable ·)&&Tryz.f3.resultTypes.all (fun t=>Tryz.prog.readableRec t&&decide (t<Tryz.prog.types.size))&&(Rows.movinglabelChecksRow.ifacesOut==Tryz.f3.resultTypes.toList.any (Tryz.prog.ifacesRec ·))&&(Rows.movinglabelChecksRow.loopsOut==Tryz.f3.resultTypes.toList.any (Tryz.prog.loopsFrom ·))&&(Rows.movinglabelChecksRow.plainKeys==Tryz.prog.plainKeys)&&Rows.movinglabelChecksRow.shortTexts.isNone&&Tryz.prog.stopsHeard&&Tryz.prog.mayEnter&&(Rows.movinglabelChecksRow.lifted==Tryz.prog.liftsFinal)&&(Tryz.prog.make==some Rows.movinglabelChecksRow.make))=true:=by kernel_rfl
theorem ZsP :((Rows.movinglabelChecksRow.kinds==(if Rows.movinglabelChecksRow.domain.isEmpty then [] else Tryz.f3.params.toList.map fun t=>match Tryz.prog.underlying t with|some (.int k)=>some k|_=>none))&&(Rows.movinglabelChecksRow.pinned==Rows.movinglabelChecksRow.pinnedBy))=true:=by kernel_rfl
theorem ZrA :((Rows.movinglabelChecksRow.veiled==(Tryz.f3.params.toList++Rows.movinglabelChecksSpec.plain.varTypes Tryz.prog++Tryz.f3.resultTypes.toList).any (Tryz.prog.veiledRec ·))&&Rows.movinglabelChecksRow.veiledFits Tryz.prog Tryz.f3.params.toList (Tryz.f3.params.toList++Rows.movinglabelChecksSpec.plain.varTypes Tryz.prog++Tryz.f3.resultTypes.toList))=true:=by kernel_rfl
theorem Zlf :joinedFacts Tryz.prog 3 Tryz.f3 Rows.movinglabelChecksSpec Rows.movinglabelChecksRow=true:=by
 have ha:=ZsN
 have hb:=Zrp
 have hc:=Zr3
 have hd:=ZsR
 have he:=Zrs
 have hf:=ZsB
 have hg:=ZsO
 have hh:=ZsQ
 have hi:=ZrS
 have hj:=ZrD
 have hk:=ZsP
 have hl:=ZrA
 simp only[Bool.and_eq_true] at ha hd hi hj hk hl
 simp only[joinedFacts,Bool.and_eq_true]
 exact⟨⟨⟨⟨⟨⟨⟨⟨⟨⟨⟨⟨⟨⟨⟨⟨⟨⟨⟨⟨⟨⟨⟨⟨⟨⟨⟨⟨⟨⟨⟨ha.1.1,ha.1.2⟩,ha.2⟩,hb⟩,hc⟩,hd.1.1.1⟩,hd.1.1.2⟩,hd.1.2⟩,hd.2⟩,he⟩,hf⟩,hg⟩,hh⟩,hi.1.1.1.1⟩,hi.1.1.1.2⟩,hi.1.1.2⟩,hi.1.2⟩,hi.2⟩,hj.1.1.1.1.1.1.1.1.1⟩,hj.1.1.1.1.1.1.1.1.2⟩,hj.1.1.1.1.1.1.1.2⟩,hj.1.1.1.1.1.1.2⟩,hj.1.1.1.1.1.2⟩,hj.1.1.1.1.2⟩,hj.1.1.1.2⟩,hj.1.1.2⟩,hj.1.2⟩,hj.2⟩,hk.1⟩,hk.2⟩,hl.1⟩,hl.2⟩
theorem Zsx :Tryz.prog.funcNamed Rows.movinglabelChecksRow.func=some 3:=by kernel_rfl
theorem Zny :Tryz.f3.isInstance Tryz.prog Rows.movinglabelChecksRow.origin Rows.movinglabelChecksRow.targs:=of_decide_eq_true (by kernel_rfl)
theorem Zoc :Tryz.f3.isWrapper Tryz.prog Rows.movinglabelChecksRow.wrapper Rows.movinglabelChecksRow.mainSum:=by unfold Func.isWrapper;first|(rw[if_pos (by decide+kernel)];kernel_rfl)|(rw[if_neg (by decide+kernel)];exact⟨rfl,rfl⟩)
theorem ZnQ :Rows.MovinglabelChecksSaid:=
 OpenClaim.holds_of_cond 3 Tryz.f3 rfl rfl rfl rfl rfl rfl rfl ⟨rfl,rfl,rfl,rfl,rfl⟩ rfl rfl rfl rfl rfl Zsx Tryz.func3 Zlf Zny Zoc
  (fun os started H enc _ F=>by rw[OpenClaim.pre_eq_preRow];exact chs_lifted os started H enc F)
end Go.Proofs.YtcgkgdgpdpihmaaGreatDoor
