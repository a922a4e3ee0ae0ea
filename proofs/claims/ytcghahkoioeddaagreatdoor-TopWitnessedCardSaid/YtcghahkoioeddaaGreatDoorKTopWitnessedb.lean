/-
  A closed fact for the card of the law 'TopWitnessed'. No conditions.
-/
import Derived.Test.YtcghahkoioeddaaGreatDoorRows
import Derived.SevenTiedAt
import Derived.KernelRfl
set_option linter.all false
namespace Go.Proofs.YtcghahkoioeddaaGreatDoor.topWitnessed
open Go
set_option maxRecDepth 100000
theorem wft : Rows.topWitnessedRow.wfByText (OpenSpec.ofChange Rows.topWitnessedSpec) = true := by kernel_rfl
end Go.Proofs.YtcghahkoioeddaaGreatDoor.topWitnessed
