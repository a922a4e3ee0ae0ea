/-
  Closed facts on the program and the law 'TopMeeting'. No conditions.
-/
import Derived.Test.YtfiecdeonopcmaaGreatDoorJTopMeeting0
namespace Go.Proofs.YtfiecdeonopcmaaGreatDoor.topMeeting
open Go Go.RowKit Go.ChangeShapes Go.WideShapes Go.ChangeAt
set_option maxRecDepth 100000
theorem j2 : (mapsRowed Tryz.checked.prog) = true := by kernel_rfl
end Go.Proofs.YtfiecdeonopcmaaGreatDoor.topMeeting
