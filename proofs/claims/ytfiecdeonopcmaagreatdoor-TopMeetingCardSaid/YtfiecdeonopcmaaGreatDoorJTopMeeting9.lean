/-
  Closed facts on the program and the law 'TopMeeting'. No conditions.
-/
import Derived.Test.YtfiecdeonopcmaaGreatDoorJTopMeeting0
namespace Go.Proofs.YtfiecdeonopcmaaGreatDoor.topMeeting
open Go Go.RowKit Go.ChangeShapes Go.WideShapes Go.ChangeAt
set_option maxRecDepth 100000
theorem j0 : (Rows.topMeetingRow.wf (OpenSpec.ofChange Rows.topMeetingSpec)) = true := by kernel_rfl
theorem j3 : (Tryz.f3.params.all (Tryz.checked.prog.readableRec ·)) = true := by kernel_rfl
theorem j4 : (namedTie Tryz.checked.prog Rows.topMeetingRow.named Rows.topMeetingSpec.vars) = true := by kernel_rfl
theorem j5 : ((Rows.topMeetingRow.stops == [])) = true := by kernel_rfl
theorem j6 : ((Tryz.checked.prog.stops == [])) = true := by kernel_rfl
theorem j7 : ((Rows.topMeetingRow.knobs == [])) = true := by kernel_rfl
theorem j8 : ((Tryz.checked.prog.stopKnobs == [])) = true := by kernel_rfl
theorem j13 : ((Rows.topMeetingRow.maps == (Tryz.f3.params.toList ++ Rows.topMeetingSpec.plain.varTypes Tryz.checked.prog).any (Tryz.checked.prog.mapsRec ·))) = true := by kernel_rfl
theorem j14 : ((Rows.topMeetingRow.ifaces == (Tryz.f3.params.toList ++ Rows.topMeetingSpec.plain.varTypes Tryz.checked.prog).any (Tryz.checked.prog.ifacesRec ·))) = true := by kernel_rfl
theorem j15 : ((Rows.topMeetingRow.mapsOut == Tryz.checked.prog.mapsAmong Tryz.f3.resultTypes.toList)) = true := by kernel_rfl
theorem j16 : ((Rows.topMeetingRow.loops == (Tryz.f3.params.toList ++ Rows.topMeetingSpec.plain.varTypes Tryz.checked.prog).any (Tryz.checked.prog.loopsFrom ·))) = true := by kernel_rfl
theorem j17 : ((Rows.topMeetingRow.wideKeys == (Tryz.f3.params.toList ++ Rows.topMeetingSpec.plain.varTypes Tryz.checked.prog ++ Tryz.f3.resultTypes.toList).any (Tryz.checked.prog.wideKeysFrom ·))) = true := by kernel_rfl
theorem j18 : (Rows.topMeetingSpec.vars.all (Tryz.checked.prog.varReadable ·)) = true := by kernel_rfl
theorem j19 : (Tryz.f3.resultTypes.all (fun t => Tryz.checked.prog.readableRec t && decide (t < Tryz.checked.prog.types.size))) = true := by kernel_rfl
theorem j20 : ((Rows.topMeetingRow.ifacesOut == Tryz.f3.resultTypes.toList.any (Tryz.checked.prog.ifacesRec ·))) = true := by kernel_rfl
theorem j21 : ((Rows.topMeetingRow.loopsOut == Tryz.f3.resultTypes.toList.any (Tryz.checked.prog.loopsFrom ·))) = true := by kernel_rfl
theorem j23 : (Rows.topMeetingRow.shortTexts.isNone) = true := by kernel_rfl
theorem j25 : (Tryz.checked.prog.mayEnter) = true := by kernel_rfl
theorem j27 : ((Tryz.checked.prog.make == some Rows.topMeetingRow.make)) = true := by kernel_rfl
theorem j28 : ((Rows.topMeetingRow.kinds == (if Rows.topMeetingRow.domain.isEmpty then [] else Tryz.f3.params.toList.map fun t => match Tryz.checked.prog.underlying t with | some (.int k) => some k | _ => none))) = true := by kernel_rfl
theorem j29 : ((Rows.topMeetingRow.pinned == Rows.topMeetingRow.pinnedBy)) = true := by kernel_rfl
theorem j30 : ((Rows.topMeetingRow.veiled == (Tryz.f3.params.toList ++ Rows.topMeetingSpec.plain.varTypes Tryz.checked.prog ++ Tryz.f3.resultTypes.toList).any (Tryz.checked.prog.veiledRec ·))) = true := by kernel_rfl
theorem j31 : (Rows.topMeetingRow.veiledFits Tryz.checked.prog Tryz.f3.params.toList (Tryz.f3.params.toList ++ Rows.topMeetingSpec.plain.varTypes Tryz.checked.prog ++ Tryz.f3.resultTypes.toList)) = true := by kernel_rfl
end Go.Proofs.YtfiecdeonopcmaaGreatDoor.topMeeting
