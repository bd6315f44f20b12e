/- Proof that reconstructed trajectories are explained by their reports (part 26 of 27.) Conditions: those that each statement names. -/
import Derived.Test.YtjicdlilgjdefaaGreatDoorKE25
/- The card of ReconstructExplains: what is said. Conditions: none. -/
set_option linter.unusedSimpArgs false
set_option linter.unusedVariables false
set_option maxHeartbeats 2000000
namespace Go.Proofs.YtjicdlilgjdefaaGreatDoor
open Go.ChangeShapes Go.WideShapes Go.ChangeAt Go.RowKit Go.Deep
set_option maxRecDepth 100000
theorem xpl_sa : (Rows.reconstructExplainsRow.wf (OpenSpec.ofChange Rows.reconstructExplainsSpec) && laidOutB Tryz.prog && mapsRowed Tryz.prog) = true := by kernel_rfl
theorem xpl_sb : (Tryz.f3.params.all (Tryz.prog.readableRec ·)) = true := by kernel_rfl
theorem xpl_sc : (namedTie Tryz.prog Rows.reconstructExplainsRow.named Rows.reconstructExplainsSpec.vars) = true := by kernel_rfl
theorem xpl_sd : ((Rows.reconstructExplainsRow.stops == []) && (Tryz.prog.stops == []) && (Rows.reconstructExplainsRow.knobs == []) && (Tryz.prog.stopKnobs == [])) = true := by kernel_rfl
theorem xpl_se : (Rows.reconstructExplainsRow.inPlace == Tryz.prog.inPlace 3) = true := by kernel_rfl
theorem xpl_sf : (Rows.reconstructExplainsRow.unfollowed == Tryz.prog.unfollowed 3) = true := by kernel_rfl
theorem xpl_sg : (Rows.reconstructExplainsRow.recurses == Tryz.prog.recurses 3) = true := by kernel_rfl
theorem xpl_sh : (Rows.reconstructExplainsRow.named == Tryz.prog.varsNamed 3) = true := by kernel_rfl
theorem xpl_si : ((Rows.reconstructExplainsRow.maps == (Tryz.f3.params.toList ++ Rows.reconstructExplainsSpec.plain.varTypes Tryz.prog).any (Tryz.prog.mapsRec ·)) && (Rows.reconstructExplainsRow.ifaces == (Tryz.f3.params.toList ++ Rows.reconstructExplainsSpec.plain.varTypes Tryz.prog).any (Tryz.prog.ifacesRec ·)) && (Rows.reconstructExplainsRow.mapsOut == Tryz.prog.mapsAmong Tryz.f3.resultTypes.toList) && (Rows.reconstructExplainsRow.loops == (Tryz.f3.params.toList ++ Rows.reconstructExplainsSpec.plain.varTypes Tryz.prog).any (Tryz.prog.loopsFrom ·)) && (Rows.reconstructExplainsRow.wideKeys == (Tryz.f3.params.toList ++ Rows.reconstructExplainsSpec.plain.varTypes Tryz.prog ++ Tryz.f3.resultTypes.toList).any (Tryz.prog.wideKeysFrom ·))) = true := by kernel_rfl
theorem xpl_sj : (Rows.reconstructExplainsSpec.vars.all (Tryz.prog.varReadable ·) && Tryz.f3.resultTypes.all (fun t => Tryz.prog.readableRec t && decide (t < Tryz.prog.types.size)) && (Rows.reconstructExplainsRow.ifacesOut == Tryz.f3.resultTypes.toList.any (Tryz.prog.ifacesRec ·)) && (Rows.reconstructExplainsRow.loopsOut == Tryz.f3.resultTypes.toList.any (Tryz.prog.loopsFrom ·)) && (Rows.reconstructExplainsRow.plainKeys == Tryz.prog.plainKeys) && Rows.reconstructExplainsRow.shortTexts.isNone && Tryz.prog.stopsHeard && Tryz.prog.mayEnter && (Rows.reconstructExplainsRow.lifted == Tryz.prog.liftsFinal) && (Tryz.prog.make == some Rows.reconstructExplainsRow.make)) = true := by kernel_rfl
theorem xpl_sk : ((Rows.reconstructExplainsRow.kinds == (if Rows.reconstructExplainsRow.domain.isEmpty then [] else Tryz.f3.params.toList.map fun t => match Tryz.prog.underlying t with | some (.int k) => some k | _ => none)) && (Rows.reconstructExplainsRow.pinned == Rows.reconstructExplainsRow.pinnedBy)) = true := by kernel_rfl
theorem xpl_sl : ((Rows.reconstructExplainsRow.veiled == (Tryz.f3.params.toList ++ Rows.reconstructExplainsSpec.plain.varTypes Tryz.prog ++ Tryz.f3.resultTypes.toList).any (Tryz.prog.veiledRec ·)) && Rows.reconstructExplainsRow.veiledFits Tryz.prog Tryz.f3.params.toList (Tryz.f3.params.toList ++ Rows.reconstructExplainsSpec.plain.varTypes Tryz.prog ++ Tryz.f3.resultTypes.toList)) = true := by kernel_rfl
theorem xpl_closed : joinedFacts Tryz.prog 3 Tryz.f3 Rows.reconstructExplainsSpec Rows.reconstructExplainsRow = true := by
 have ha := xpl_sa
 have hb := xpl_sb
 have hc := xpl_sc
 have hd := xpl_sd
 have he := xpl_se
 have hf := xpl_sf
 have hg := xpl_sg
 have hh := xpl_sh
 have hi := xpl_si
 have hj := xpl_sj
 have hk := xpl_sk
 have hl := xpl_sl
 simp only [Bool.and_eq_true] at ha hd hi hj hk hl
 simp only [joinedFacts, Bool.and_eq_true]
 exact ⟨⟨⟨⟨⟨⟨⟨⟨⟨⟨⟨⟨⟨⟨⟨⟨⟨⟨⟨⟨⟨⟨⟨⟨⟨⟨⟨⟨⟨⟨⟨ha.1.1, ha.1.2⟩, ha.2⟩, hb⟩, hc⟩, hd.1.1.1⟩, hd.1.1.2⟩, hd.1.2⟩, hd.2⟩, he⟩, hf⟩, hg⟩, hh⟩, hi.1.1.1.1⟩, hi.1.1.1.2⟩, hi.1.1.2⟩, hi.1.2⟩, hi.2⟩, hj.1.1.1.1.1.1.1.1.1⟩, hj.1.1.1.1.1.1.1.1.2⟩, hj.1.1.1.1.1.1.1.2⟩, hj.1.1.1.1.1.1.2⟩, hj.1.1.1.1.1.2⟩, hj.1.1.1.1.2⟩, hj.1.1.1.2⟩, hj.1.1.2⟩, hj.1.2⟩, hj.2⟩, hk.1⟩, hk.2⟩, hl.1⟩, hl.2⟩
theorem xpl_fn : Tryz.prog.funcNamed Rows.reconstructExplainsRow.func = some 3 := by kernel_rfl
theorem xpl_inst : Tryz.f3.isInstance Tryz.prog Rows.reconstructExplainsRow.origin Rows.reconstructExplainsRow.targs := of_decide_eq_true (by kernel_rfl)
theorem xpl_wrap : Tryz.f3.isWrapper Tryz.prog Rows.reconstructExplainsRow.wrapper Rows.reconstructExplainsRow.mainSum := by unfold Func.isWrapper; first | (rw [if_pos (by decide +kernel)]; kernel_rfl) | (rw [if_neg (by decide +kernel)]; exact ⟨rfl, rfl⟩)
theorem xpl_said : Rows.ReconstructExplainsSaid :=
 OpenClaim.holds_of_cond 3 Tryz.f3 rfl rfl rfl rfl rfl rfl rfl ⟨rfl, rfl, rfl, rfl, rfl⟩ rfl rfl rfl rfl rfl xpl_fn Tryz.func3 xpl_closed xpl_inst xpl_wrap
  (fun os started H enc _ F => by rw [OpenClaim.pre_eq_preRow]; exact xpl_lifted os started H enc F)
end Go.Proofs.YtjicdlilgjdefaaGreatDoor
