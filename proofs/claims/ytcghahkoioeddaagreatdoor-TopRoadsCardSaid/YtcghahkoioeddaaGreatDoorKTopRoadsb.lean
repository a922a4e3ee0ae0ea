/-
  A closed fact for the card of the law 'TopRoads'. No conditions.
-/
import Derived.Test.YtcghahkoioeddaaGreatDoorRows
import Derived.SevenTiedAt
import Derived.KernelRfl
set_option linter.all false
namespace Go.Proofs.YtcghahkoioeddaaGreatDoor.topRoads
open Go
set_option maxRecDepth 100000
theorem wft : Rows.topRoadsRow.wfByText (OpenSpec.ofChange Rows.topRoadsSpec) = true := by kernel_rfl
end Go.Proofs.YtcghahkoioeddaaGreatDoor.topRoads
