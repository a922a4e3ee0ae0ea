/-
  Closed facts on the program and the law 'TopRoads'. No conditions.
-/
import Derived.Test.YtcghahkoioeddaaGreatDoorRows
import Derived.LaidMore
import Derived.ProofKit
import Derived.LaidOnce
import Derived.SevenTiedAt
import Derived.WalkKit
set_option linter.all false
namespace Go.Proofs.YtcghahkoioeddaaGreatDoor.topRoads
open Go Go.RowKit Go.ChangeShapes Go.WideShapes Go.ChangeAt
set_option maxRecDepth 100000
theorem j0 : (Rows.topRoadsRow.wf (OpenSpec.ofChange Rows.topRoadsSpec)) = true := by kernel_rfl
theorem j3 : (Tryz.f4.params.all (Tryz.checked.prog.readableRec ·)) = true := by kernel_rfl
theorem j4 : (namedTie Tryz.checked.prog Rows.topRoadsRow.named Rows.topRoadsSpec.vars) = true := by kernel_rfl
theorem j5 : ((Rows.topRoadsRow.stops == [])) = true := by kernel_rfl
theorem j6 : ((Tryz.checked.prog.stops == [])) = true := by kernel_rfl
theorem j7 : ((Rows.topRoadsRow.knobs == [])) = true := by kernel_rfl
theorem j8 : ((Tryz.checked.prog.stopKnobs == [])) = true := by kernel_rfl
theorem j13 : ((Rows.topRoadsRow.maps == (Tryz.f4.params.toList ++ Rows.topRoadsSpec.plain.varTypes Tryz.checked.prog).any (Tryz.checked.prog.mapsRec ·))) = true := by kernel_rfl
theorem j14 : ((Rows.topRoadsRow.ifaces == (Tryz.f4.params.toList ++ Rows.topRoadsSpec.plain.varTypes Tryz.checked.prog).any (Tryz.checked.prog.ifacesRec ·))) = true := by kernel_rfl
theorem j15 : ((Rows.topRoadsRow.mapsOut == Tryz.checked.prog.mapsAmong Tryz.f4.resultTypes.toList)) = true := by kernel_rfl
theorem j16 : ((Rows.topRoadsRow.loops == (Tryz.f4.params.toList ++ Rows.topRoadsSpec.plain.varTypes Tryz.checked.prog).any (Tryz.checked.prog.loopsFrom ·))) = true := by kernel_rfl
theorem j17 : ((Rows.topRoadsRow.wideKeys == (Tryz.f4.params.toList ++ Rows.topRoadsSpec.plain.varTypes Tryz.checked.prog ++ Tryz.f4.resultTypes.toList).any (Tryz.checked.prog.wideKeysFrom ·))) = true := by kernel_rfl
theorem j18 : (Rows.topRoadsSpec.vars.all (Tryz.checked.prog.varReadable ·)) = true := by kernel_rfl
theorem j19 : (Tryz.f4.resultTypes.all (fun t => Tryz.checked.prog.readableRec t && decide (t < Tryz.checked.prog.types.size))) = true := by kernel_rfl
theorem j20 : ((Rows.topRoadsRow.ifacesOut == Tryz.f4.resultTypes.toList.any (Tryz.checked.prog.ifacesRec ·))) = true := by kernel_rfl
theorem j21 : ((Rows.topRoadsRow.loopsOut == Tryz.f4.resultTypes.toList.any (Tryz.checked.prog.loopsFrom ·))) = true := by kernel_rfl
theorem j23 : (Rows.topRoadsRow.shortTexts.isNone) = true := by kernel_rfl
theorem j25 : (Tryz.checked.prog.mayEnter) = true := by kernel_rfl
theorem j27 : ((Tryz.checked.prog.make == some Rows.topRoadsRow.make)) = true := by kernel_rfl
theorem j28 : ((Rows.topRoadsRow.kinds == (if Rows.topRoadsRow.domain.isEmpty then [] else Tryz.f4.params.toList.map fun t => match Tryz.checked.prog.underlying t with | some (.int k) => some k | _ => none))) = true := by kernel_rfl
theorem j29 : ((Rows.topRoadsRow.pinned == Rows.topRoadsRow.pinnedBy)) = true := by kernel_rfl
theorem j30 : ((Rows.topRoadsRow.veiled == (Tryz.f4.params.toList ++ Rows.topRoadsSpec.plain.varTypes Tryz.checked.prog ++ Tryz.f4.resultTypes.toList).any (Tryz.checked.prog.veiledRec ·))) = true := by kernel_rfl
theorem j31 : (Rows.topRoadsRow.veiledFits Tryz.checked.prog Tryz.f4.params.toList (Tryz.f4.params.toList ++ Rows.topRoadsSpec.plain.varTypes Tryz.checked.prog ++ Tryz.f4.resultTypes.toList)) = true := by kernel_rfl
end Go.Proofs.YtcghahkoioeddaaGreatDoor.topRoads
