/- that objects are reconstructed from their reports (part 28 of 29.) Conditions: those that each statement names. -/
import Derived.Test.YtjicdlilgjdefaaGreatDoorKJ27
set_option linter.unusedSimpArgs false
set_option linter.unusedVariables false
set_option maxHeartbeats 2000000
set_option maxRecDepth 100000
namespace Go.Proofs.YtjicdlilgjdefaaGreatDoor
open Go.ChangeShapes Go.WideShapes Go.ChangeAt Go.RowKit Go.Deep
theorem ZuK : (Rows.reconstructObjectsRow.wf (OpenSpec.ofChange Rows.reconstructObjectsSpec) && laidOutB Tryz.prog && mapsRowed Tryz.prog) = true := by kernel_rfl
theorem Zt2 : (Tryz.f7.params.all (Tryz.prog.readableRec ·)) = true := by kernel_rfl
theorem ZtD : (namedTie Tryz.prog Rows.reconstructObjectsRow.named Rows.reconstructObjectsSpec.vars) = true := by kernel_rfl
theorem ZuM : ((Rows.reconstructObjectsRow.stops == []) && (Tryz.prog.stops == []) && (Rows.reconstructObjectsRow.knobs == []) && (Tryz.prog.stopKnobs == [])) = true := by kernel_rfl
theorem Zty : (Rows.reconstructObjectsRow.inPlace == Tryz.prog.inPlace 7) = true := by kernel_rfl
theorem ZuY : (Rows.reconstructObjectsRow.unfollowed == Tryz.prog.unfollowed 7) = true := by kernel_rfl
theorem ZtS : (Rows.reconstructObjectsRow.recurses == Tryz.prog.recurses 7) = true := by kernel_rfl
theorem ZuU : (Rows.reconstructObjectsRow.named == Tryz.prog.varsNamed 7) = true := by kernel_rfl
theorem Zt1 : ((Rows.reconstructObjectsRow.maps == (Tryz.f7.params.toList ++ Rows.reconstructObjectsSpec.plain.varTypes Tryz.prog).any (Tryz.prog.mapsRec ·)) && (Rows.reconstructObjectsRow.ifaces == (Tryz.f7.params.toList ++ Rows.reconstructObjectsSpec.plain.varTypes Tryz.prog).any (Tryz.prog.ifacesRec ·)) && (Rows.reconstructObjectsRow.mapsOut == Tryz.prog.mapsAmong Tryz.f7.resultTypes.toList) && (Rows.reconstructObjectsRow.loops == (Tryz.f7.params.toList ++ Rows.reconstructObjectsSpec.plain.varTypes Tryz.prog).any (Tryz.prog.loopsFrom ·)) && (Rows.reconstructObjectsRow.wideKeys == (Tryz.f7.params.toList ++ Rows.reconstructObjectsSpec.plain.varTypes Tryz.prog ++ Tryz.f7.resultTypes.toList).any (Tryz.prog.wideKeysFrom ·))) = true := by kernel_rfl
theorem Zt7 : (Rows.reconstructObjectsSpec.vars.all (Tryz.prog.varReadable ·) && Tryz.f7.resultTypes.all (fun t => Tryz.prog.readableRec t && decide (t < Tryz.prog.types.size)) && (Rows.reconstructObjectsRow.ifacesOut == Tryz.f7.resultTypes.toList.any (Tryz.prog.ifacesRec ·)) && (Rows.reconstructObjectsRow.loopsOut == Tryz.f7.resultTypes.toList.any (Tryz.prog.loopsFrom ·)) && (Rows.reconstructObjectsRow.plainKeys == Tryz.prog.plainKeys) && Rows.reconstructObjectsRow.shortTexts.isNone && Tryz.prog.stopsHeard && Tryz.prog.mayEnter && (Rows.reconstructObjectsRow.lifted == Tryz.prog.liftsFinal) && (Tryz.prog.make == some Rows.reconstructObjectsRow.make)) = true := by kernel_rfl
theorem ZuB : ((Rows.reconstructObjectsRow.kinds == (if Rows.reconstructObjectsRow.domain.isEmpty then [] else Tryz.f7.params.toList.map fun t => match Tryz.prog.underlying t with | some (.int k) => some k | _ => none)) && (Rows.reconstructObjectsRow.pinned == Rows.reconstructObjectsRow.pinnedBy)) = true := by kernel_rfl
theorem Zub : ((Rows.reconstructObjectsRow.veiled == (Tryz.f7.params.toList ++ Rows.reconstructObjectsSpec.plain.varTypes Tryz.prog ++ Tryz.f7.resultTypes.toList).any (Tryz.prog.veiledRec ·)) && Rows.reconstructObjectsRow.veiledFits Tryz.prog Tryz.f7.params.toList (Tryz.f7.params.toList ++ Rows.reconstructObjectsSpec.plain.varTypes Tryz.prog ++ Tryz.f7.resultTypes.toList)) = true := by kernel_rfl
theorem Zm2 : joinedFacts Tryz.prog 7 Tryz.f7 Rows.reconstructObjectsSpec Rows.reconstructObjectsRow = true := by
 have ha := ZuK
 have hb := Zt2
 have hc := ZtD
 have hd := ZuM
 have he := Zty
 have hf := ZuY
 have hg := ZtS
 have hh := ZuU
 have hi := Zt1
 have hj := Zt7
 have hk := ZuB
 have hl := Zub
 simp only [Bool.and_eq_true] at ha hd hi hj hk hl
 simp only [joinedFacts, Bool.and_eq_true]
 exact ⟨⟨⟨⟨⟨⟨⟨⟨⟨⟨⟨⟨⟨⟨⟨⟨⟨⟨⟨⟨⟨⟨⟨⟨⟨⟨⟨⟨⟨⟨⟨ha.1.1, ha.1.2⟩, ha.2⟩, hb⟩, hc⟩, hd.1.1.1⟩, hd.1.1.2⟩, hd.1.2⟩, hd.2⟩, he⟩, hf⟩, hg⟩, hh⟩, hi.1.1.1.1⟩, hi.1.1.1.2⟩, hi.1.1.2⟩, hi.1.2⟩, hi.2⟩, hj.1.1.1.1.1.1.1.1.1⟩, hj.1.1.1.1.1.1.1.1.2⟩, hj.1.1.1.1.1.1.1.2⟩, hj.1.1.1.1.1.1.2⟩, hj.1.1.1.1.1.2⟩, hj.1.1.1.1.2⟩, hj.1.1.1.2⟩, hj.1.1.2⟩, hj.1.2⟩, hj.2⟩, hk.1⟩, hk.2⟩, hl.1⟩, hl.2⟩
theorem ZtW : Tryz.prog.funcNamed Rows.reconstructObjectsRow.func = some 7 := by kernel_rfl
theorem ZpK : Tryz.f7.isInstance Tryz.prog Rows.reconstructObjectsRow.origin Rows.reconstructObjectsRow.targs := of_decide_eq_true (by kernel_rfl)
theorem ZpF : Tryz.f7.isWrapper Tryz.prog Rows.reconstructObjectsRow.wrapper Rows.reconstructObjectsRow.mainSum := by unfold Func.isWrapper; first | (rw [if_pos (by decide +kernel)]; kernel_rfl) | (rw [if_neg (by decide +kernel)]; exact ⟨rfl, rfl⟩)
theorem Zqq : Rows.ReconstructObjectsSaid :=
 OpenClaim.holds_of_cond 7 Tryz.f7 rfl rfl rfl rfl rfl rfl rfl ⟨rfl, rfl, rfl, rfl, rfl⟩ rfl rfl rfl rfl rfl ZtW Tryz.func7 Zm2 ZpK ZpF
  (fun os started H enc _ F => by rw [OpenClaim.pre_eq_preRow]; exact obj_lifted os started H enc F)
end Go.Proofs.YtjicdlilgjdefaaGreatDoor
