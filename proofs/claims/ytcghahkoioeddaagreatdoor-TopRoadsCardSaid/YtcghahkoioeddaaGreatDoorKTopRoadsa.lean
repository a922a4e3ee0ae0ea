/-
  Closed facts for the card of the law 'TopRoads'. No conditions.
-/
import Derived.Test.YtcghahkoioeddaaGreatDoorRows
import Derived.SevenTiedAt
import Derived.KernelRfl
set_option linter.all false
namespace Go.Proofs.YtcghahkoioeddaaGreatDoor.topRoads
open Go
set_option maxRecDepth 100000
theorem name : Tryz.prog.funcNamed "moidore/moidoretop.TopRoads" = some 4 := by kernel_rfl
theorem want : ([26, 27] : List TypeId).all (fun u => !Tryz.prog.wantsStandIn u) = true := by kernel_rfl
theorem main : Tryz.pinned.checked.prog.mainIs = some (true, "aed5d670dfa375c09ad1fd5f1fb8d57b5d1cad048271077ed72742d250974e37".toList) := by kernel_rfl
end Go.Proofs.YtcghahkoioeddaaGreatDoor.topRoads
