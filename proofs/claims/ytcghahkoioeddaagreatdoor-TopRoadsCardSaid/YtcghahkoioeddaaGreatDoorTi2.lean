/-
  The tie of the listed variables: what the door stores. A closed fact; no conditions.
-/
import Derived.Test.YtcghahkoioeddaaGreatDoorTi1
set_option linter.all false
namespace Go.Proofs.YtcghahkoioeddaaGreatDoor
open Go
set_option maxRecDepth 100000
theorem tn : varsNamedLaterB Tryz.prog (varsId Tryz.prog) laidL = true := by kernel_rfl
end Go.Proofs.YtcghahkoioeddaaGreatDoor
