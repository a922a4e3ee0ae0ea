/-
  Closed facts for the card of the law 'TopMeeting'. No conditions.
-/
import Derived.Test.YtfiecdeonopcmaaGreatDoorRows
import Derived.SevenTiedAt
import Derived.KernelRfl
namespace Go.Proofs.YtfiecdeonopcmaaGreatDoor.topMeeting
open Go
set_option maxRecDepth 100000
theorem name : Tryz.prog.funcNamed "moidore/moidoretop.TopMeeting" = some 3 := by kernel_rfl
theorem want : ([26, 27, 28] : List TypeId).all (fun u => !Tryz.prog.wantsStandIn u) = true := by kernel_rfl
theorem main : Tryz.pinned.checked.prog.mainIs = some (true, "dbc523857c2c894a9c919637d942162caae6be00d3cb67bc2bd1d74ea20d46ca".toList) := by kernel_rfl
end Go.Proofs.YtfiecdeonopcmaaGreatDoor.topMeeting
