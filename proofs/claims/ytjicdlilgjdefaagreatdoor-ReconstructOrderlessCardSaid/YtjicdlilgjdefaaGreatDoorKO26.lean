/- that the order in which batches arrive does not matter (part 26 of 27.) Conditions: those that each statement names. -/
import Derived.Test.YtjicdlilgjdefaaGreatDoorKO25
/- The card of ReconstructOrderless: what is said. Conditions: none. -/
set_option linter.unusedSimpArgs false
set_option linter.unusedVariables false
set_option maxHeartbeats 2000000
namespace Go.Proofs.YtjicdlilgjdefaaGreatDoor
open Go.ChangeShapes Go.WideShapes Go.ChangeAt Go.RowKit Go.Deep
set_option maxRecDepth 100000
theorem ZsN : (Rows.reconstructOrderlessRow.wf (OpenSpec.ofChange Rows.reconstructOrderlessSpec) && laidOutB Tryz.prog && mapsRowed Tryz.prog) = true := by kernel_rfl
theorem ZsJ : (Tryz.f6.params.all (Tryz.prog.readableRec ·)) = true := by kernel_rfl
theorem ZtU : (namedTie Tryz.prog Rows.reconstructOrderlessRow.named Rows.reconstructOrderlessSpec.vars) = true := by kernel_rfl
theorem ZsT : ((Rows.reconstructOrderlessRow.stops == []) && (Tryz.prog.stops == []) && (Rows.reconstructOrderlessRow.knobs == []) && (Tryz.prog.stopKnobs == [])) = true := by kernel_rfl
theorem Zs6 : (Rows.reconstructOrderlessRow.inPlace == Tryz.prog.inPlace 6) = true := by kernel_rfl
theorem Zto : (Rows.reconstructOrderlessRow.unfollowed == Tryz.prog.unfollowed 6) = true := by kernel_rfl
theorem ZsU : (Rows.reconstructOrderlessRow.recurses == Tryz.prog.recurses 6) = true := by kernel_rfl
theorem Ztd : (Rows.reconstructOrderlessRow.named == Tryz.prog.varsNamed 6) = true := by kernel_rfl
theorem Ztr : ((Rows.reconstructOrderlessRow.maps == (Tryz.f6.params.toList ++ Rows.reconstructOrderlessSpec.plain.varTypes Tryz.prog).any (Tryz.prog.mapsRec ·)) && (Rows.reconstructOrderlessRow.ifaces == (Tryz.f6.params.toList ++ Rows.reconstructOrderlessSpec.plain.varTypes Tryz.prog).any (Tryz.prog.ifacesRec ·)) && (Rows.reconstructOrderlessRow.mapsOut == Tryz.prog.mapsAmong Tryz.f6.resultTypes.toList) && (Rows.reconstructOrderlessRow.loops == (Tryz.f6.params.toList ++ Rows.reconstructOrderlessSpec.plain.varTypes Tryz.prog).any (Tryz.prog.loopsFrom ·)) && (Rows.reconstructOrderlessRow.wideKeys == (Tryz.f6.params.toList ++ Rows.reconstructOrderlessSpec.plain.varTypes Tryz.prog ++ Tryz.f6.resultTypes.toList).any (Tryz.prog.wideKeysFrom ·))) = true := by kernel_rfl
theorem ZtY : (Rows.reconstructOrderlessSpec.vars.all (Tryz.prog.varReadable ·) && Tryz.f6.resultTypes.all (fun t => Tryz.prog.readableRec t && decide (t < Tryz.prog.types.size)) && (Rows.reconstructOrderlessRow.ifacesOut == Tryz.f6.resultTypes.toList.any (Tryz.prog.ifacesRec ·)) && (Rows.reconstructOrderlessRow.loopsOut == Tryz.f6.resultTypes.toList.any (Tryz.prog.loopsFrom ·)) && (Rows.reconstructOrderlessRow.plainKeys == Tryz.prog.plainKeys) && Rows.reconstructOrderlessRow.shortTexts.isNone && Tryz.prog.stopsHeard && Tryz.prog.mayEnter && (Rows.reconstructOrderlessRow.lifted == Tryz.prog.liftsFinal) && (Tryz.prog.make == some Rows.reconstructOrderlessRow.make)) = true := by kernel_rfl
theorem Zt4 : ((Rows.reconstructOrderlessRow.kinds == (if Rows.reconstructOrderlessRow.domain.isEmpty then [] else Tryz.f6.params.toList.map fun t => match Tryz.prog.underlying t with | some (.int k) => some k | _ => none)) && (Rows.reconstructOrderlessRow.pinned == Rows.reconstructOrderlessRow.pinnedBy)) = true := by kernel_rfl
theorem Zt5 : ((Rows.reconstructOrderlessRow.veiled == (Tryz.f6.params.toList ++ Rows.reconstructOrderlessSpec.plain.varTypes Tryz.prog ++ Tryz.f6.resultTypes.toList).any (Tryz.prog.veiledRec ·)) && Rows.reconstructOrderlessRow.veiledFits Tryz.prog Tryz.f6.params.toList (Tryz.f6.params.toList ++ Rows.reconstructOrderlessSpec.plain.varTypes Tryz.prog ++ Tryz.f6.resultTypes.toList)) = true := by kernel_rfl
theorem Zl8 : joinedFacts Tryz.prog 6 Tryz.f6 Rows.reconstructOrderlessSpec Rows.reconstructOrderlessRow = true := by
 have ha := ZsN
 have hb := ZsJ
 have hc := ZtU
 have hd := ZsT
 have he := Zs6
 have hf := Zto
 have hg := ZsU
 have hh := Ztd
 have hi := Ztr
 have hj := ZtY
 have hk := Zt4
 have hl := Zt5
 simp only [Bool.and_eq_true] at ha hd hi hj hk hl
 simp only [joinedFacts, Bool.and_eq_true]
 exact ⟨⟨⟨⟨⟨⟨⟨⟨⟨⟨⟨⟨⟨⟨⟨⟨⟨⟨⟨⟨⟨⟨⟨⟨⟨⟨⟨⟨⟨⟨⟨ha.1.1, ha.1.2⟩, ha.2⟩, hb⟩, hc⟩, hd.1.1.1⟩, hd.1.1.2⟩, hd.1.2⟩, hd.2⟩, he⟩, hf⟩, hg⟩, hh⟩, hi.1.1.1.1⟩, hi.1.1.1.2⟩, hi.1.1.2⟩, hi.1.2⟩, hi.2⟩, hj.1.1.1.1.1.1.1.1.1⟩, hj.1.1.1.1.1.1.1.1.2⟩, hj.1.1.1.1.1.1.1.2⟩, hj.1.1.1.1.1.1.2⟩, hj.1.1.1.1.1.2⟩, hj.1.1.1.1.2⟩, hj.1.1.1.2⟩, hj.1.1.2⟩, hj.1.2⟩, hj.2⟩, hk.1⟩, hk.2⟩, hl.1⟩, hl.2⟩
theorem Zt7 : Tryz.prog.funcNamed Rows.reconstructOrderlessRow.func = some 6 := by kernel_rfl
theorem ZpA : Tryz.f6.isInstance Tryz.prog Rows.reconstructOrderlessRow.origin Rows.reconstructOrderlessRow.targs := of_decide_eq_true (by kernel_rfl)
theorem Zpx : Tryz.f6.isWrapper Tryz.prog Rows.reconstructOrderlessRow.wrapper Rows.reconstructOrderlessRow.mainSum := by unfold Func.isWrapper; first | (rw [if_pos (by decide +kernel)]; kernel_rfl) | (rw [if_neg (by decide +kernel)]; exact ⟨rfl, rfl⟩)
theorem ZpM : Rows.ReconstructOrderlessSaid :=
 OpenClaim.holds_of_cond 6 Tryz.f6 rfl rfl rfl rfl rfl rfl rfl ⟨rfl, rfl, rfl, rfl, rfl⟩ rfl rfl rfl rfl rfl Zt7 Tryz.func6 Zl8 ZpA Zpx
  (fun os started H enc _ F => by rw [OpenClaim.pre_eq_preRow]; exact ord_lifted os started H enc F)
end Go.Proofs.YtjicdlilgjdefaaGreatDoor
