/-
  Closed facts on the program and the law 'TopRoads'. No conditions.
-/
import Derived.Test.YtcghahkoioeddaaGreatDoorRows
import Derived.LaidMore
import Derived.ProofKit
import Derived.LaidOnce
import Derived.SevenTiedAt
import Derived.WalkKit
set_option linter.all false
namespace Go.Proofs.YtcghahkoioeddaaGreatDoor.topRoads
open Go Go.RowKit Go.ChangeShapes Go.WideShapes Go.ChangeAt
set_option maxRecDepth 100000
theorem j26 : ((Rows.topRoadsRow.lifted == Tryz.checked.prog.liftsFinal)) = true := by kernel_rfl
end Go.Proofs.YtcghahkoioeddaaGreatDoor.topRoads
