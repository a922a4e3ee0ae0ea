/-
  Closed facts on the program and the law 'TopAccounts'. No conditions.
-/
import Derived.Test.YtcghahkoioeddaaGreatDoorRows
import Derived.LaidMore
import Derived.ProofKit
import Derived.LaidOnce
import Derived.SevenTiedAt
import Derived.WalkKit
namespace Go.Proofs.YtcghahkoioeddaaGreatDoor.topAccounts
open Go Go.RowKit Go.ChangeShapes Go.WideShapes Go.ChangeAt
set_option maxRecDepth 100000
theorem j0 : (Rows.topAccountsRow.wf (OpenSpec.ofChange Rows.topAccountsSpec)) = true := by kernel_rfl
theorem j3 : (Tryz.f6.params.all (Tryz.checked.prog.readableRec ·)) = true := by kernel_rfl
theorem j4 : (namedTie Tryz.checked.prog Rows.topAccountsRow.named Rows.topAccountsSpec.vars) = true := by kernel_rfl
theorem j5 : ((Rows.topAccountsRow.stops == [])) = true := by kernel_rfl
theorem j6 : ((Tryz.checked.prog.stops == [])) = true := by kernel_rfl
theorem j7 : ((Rows.topAccountsRow.knobs == [])) = true := by kernel_rfl
theorem j8 : ((Tryz.checked.prog.stopKnobs == [])) = true := by kernel_rfl
theorem j13 : ((Rows.topAccountsRow.maps == (Tryz.f6.params.toList ++ Rows.topAccountsSpec.plain.varTypes Tryz.checked.prog).any (Tryz.checked.prog.mapsRec ·))) = true := by kernel_rfl
theorem j14 : ((Rows.topAccountsRow.ifaces == (Tryz.f6.params.toList ++ Rows.topAccountsSpec.plain.varTypes Tryz.checked.prog).any (Tryz.checked.prog.ifacesRec ·))) = true := by kernel_rfl
theorem j15 : ((Rows.topAccountsRow.mapsOut == Tryz.checked.prog.mapsAmong Tryz.f6.resultTypes.toList)) = true := by kernel_rfl
theorem j16 : ((Rows.topAccountsRow.loops == (Tryz.f6.params.toList ++ Rows.topAccountsSpec.plain.varTypes Tryz.checked.prog).any (Tryz.checked.prog.loopsFrom ·))) = true := by kernel_rfl
theorem j17 : ((Rows.topAccountsRow.wideKeys == (Tryz.f6.params.toList ++ Rows.topAccountsSpec.plain.varTypes Tryz.checked.prog ++ Tryz.f6.resultTypes.toList).any (Tryz.checked.prog.wideKeysFrom ·))) = true := by kernel_rfl
theorem j18 : (Rows.topAccountsSpec.vars.all (Tryz.checked.prog.varReadable ·)) = true := by kernel_rfl
theorem j19 : (Tryz.f6.resultTypes.all (fun t => Tryz.checked.prog.readableRec t && decide (t < Tryz.checked.prog.types.size))) = true := by kernel_rfl
theorem j20 : ((Rows.topAccountsRow.ifacesOut == Tryz.f6.resultTypes.toList.any (Tryz.checked.prog.ifacesRec ·))) = true := by kernel_rfl
theorem j21 : ((Rows.topAccountsRow.loopsOut == Tryz.f6.resultTypes.toList.any (Tryz.checked.prog.loopsFrom ·))) = true := by kernel_rfl
theorem j23 : (Rows.topAccountsRow.shortTexts.isNone) = true := by kernel_rfl
theorem j25 : (Tryz.checked.prog.mayEnter) = true := by kernel_rfl
theorem j27 : ((Tryz.checked.prog.make == some Rows.topAccountsRow.make)) = true := by kernel_rfl
theorem j28 : ((Rows.topAccountsRow.kinds == (if Rows.topAccountsRow.domain.isEmpty then [] else Tryz.f6.params.toList.map fun t => match Tryz.checked.prog.underlying t with | some (.int k) => some k | _ => none))) = true := by kernel_rfl
theorem j29 : ((Rows.topAccountsRow.pinned == Rows.topAccountsRow.pinnedBy)) = true := by kernel_rfl
theorem j30 : ((Rows.topAccountsRow.veiled == (Tryz.f6.params.toList ++ Rows.topAccountsSpec.plain.varTypes Tryz.checked.prog ++ Tryz.f6.resultTypes.toList).any (Tryz.checked.prog.veiledRec ·))) = true := by kernel_rfl
theorem j31 : (Rows.topAccountsRow.veiledFits Tryz.checked.prog Tryz.f6.params.toList (Tryz.f6.params.toList ++ Rows.topAccountsSpec.plain.varTypes Tryz.checked.prog ++ Tryz.f6.resultTypes.toList)) = true := by kernel_rfl
end Go.Proofs.YtcghahkoioeddaaGreatDoor.topAccounts
