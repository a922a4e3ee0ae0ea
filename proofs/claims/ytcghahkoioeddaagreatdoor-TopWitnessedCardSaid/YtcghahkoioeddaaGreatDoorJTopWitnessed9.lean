/-
  Closed facts on the program and the law 'TopWitnessed'. No conditions.
-/
import Derived.Test.YtcghahkoioeddaaGreatDoorRows
import Derived.LaidMore
import Derived.ProofKit
import Derived.LaidOnce
import Derived.SevenTiedAt
import Derived.WalkKit
set_option linter.all false
namespace Go.Proofs.YtcghahkoioeddaaGreatDoor.topWitnessed
open Go Go.RowKit Go.ChangeShapes Go.WideShapes Go.ChangeAt
set_option maxRecDepth 100000
theorem j0 : (Rows.topWitnessedRow.wf (OpenSpec.ofChange Rows.topWitnessedSpec)) = true := by kernel_rfl
theorem j3 : (Tryz.f5.params.all (Tryz.checked.prog.readableRec ·)) = true := by kernel_rfl
theorem j4 : (namedTie Tryz.checked.prog Rows.topWitnessedRow.named Rows.topWitnessedSpec.vars) = true := by kernel_rfl
theorem j5 : ((Rows.topWitnessedRow.stops == [])) = true := by kernel_rfl
theorem j6 : ((Tryz.checked.prog.stops == [])) = true := by kernel_rfl
theorem j7 : ((Rows.topWitnessedRow.knobs == [])) = true := by kernel_rfl
theorem j8 : ((Tryz.checked.prog.stopKnobs == [])) = true := by kernel_rfl
theorem j13 : ((Rows.topWitnessedRow.maps == (Tryz.f5.params.toList ++ Rows.topWitnessedSpec.plain.varTypes Tryz.checked.prog).any (Tryz.checked.prog.mapsRec ·))) = true := by kernel_rfl
theorem j14 : ((Rows.topWitnessedRow.ifaces == (Tryz.f5.params.toList ++ Rows.topWitnessedSpec.plain.varTypes Tryz.checked.prog).any (Tryz.checked.prog.ifacesRec ·))) = true := by kernel_rfl
theorem j15 : ((Rows.topWitnessedRow.mapsOut == Tryz.checked.prog.mapsAmong Tryz.f5.resultTypes.toList)) = true := by kernel_rfl
theorem j16 : ((Rows.topWitnessedRow.loops == (Tryz.f5.params.toList ++ Rows.topWitnessedSpec.plain.varTypes Tryz.checked.prog).any (Tryz.checked.prog.loopsFrom ·))) = true := by kernel_rfl
theorem j17 : ((Rows.topWitnessedRow.wideKeys == (Tryz.f5.params.toList ++ Rows.topWitnessedSpec.plain.varTypes Tryz.checked.prog ++ Tryz.f5.resultTypes.toList).any (Tryz.checked.prog.wideKeysFrom ·))) = true := by kernel_rfl
theorem j18 : (Rows.topWitnessedSpec.vars.all (Tryz.checked.prog.varReadable ·)) = true := by kernel_rfl
theorem j19 : (Tryz.f5.resultTypes.all (fun t => Tryz.checked.prog.readableRec t && decide (t < Tryz.checked.prog.types.size))) = true := by kernel_rfl
theorem j20 : ((Rows.topWitnessedRow.ifacesOut == Tryz.f5.resultTypes.toList.any (Tryz.checked.prog.ifacesRec ·))) = true := by kernel_rfl
theorem j21 : ((Rows.topWitnessedRow.loopsOut == Tryz.f5.resultTypes.toList.any (Tryz.checked.prog.loopsFrom ·))) = true := by kernel_rfl
theorem j23 : (Rows.topWitnessedRow.shortTexts.isNone) = true := by kernel_rfl
theorem j25 : (Tryz.checked.prog.mayEnter) = true := by kernel_rfl
theorem j27 : ((Tryz.checked.prog.make == some Rows.topWitnessedRow.make)) = true := by kernel_rfl
theorem j28 : ((Rows.topWitnessedRow.kinds == (if Rows.topWitnessedRow.domain.isEmpty then [] else Tryz.f5.params.toList.map fun t => match Tryz.checked.prog.underlying t with | some (.int k) => some k | _ => none))) = true := by kernel_rfl
theorem j29 : ((Rows.topWitnessedRow.pinned == Rows.topWitnessedRow.pinnedBy)) = true := by kernel_rfl
theorem j30 : ((Rows.topWitnessedRow.veiled == (Tryz.f5.params.toList ++ Rows.topWitnessedSpec.plain.varTypes Tryz.checked.prog ++ Tryz.f5.resultTypes.toList).any (Tryz.checked.prog.veiledRec ·))) = true := by kernel_rfl
theorem j31 : (Rows.topWitnessedRow.veiledFits Tryz.checked.prog Tryz.f5.params.toList (Tryz.f5.params.toList ++ Rows.topWitnessedSpec.plain.varTypes Tryz.checked.prog ++ Tryz.f5.resultTypes.toList)) = true := by kernel_rfl
end Go.Proofs.YtcghahkoioeddaaGreatDoor.topWitnessed
