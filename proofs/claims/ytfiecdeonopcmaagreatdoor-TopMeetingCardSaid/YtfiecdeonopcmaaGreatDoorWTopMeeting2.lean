/-
  A closed fact on the start of the law 'TopMeeting': its witness. No conditions.
-/
import Derived.Test.YtfiecdeonopcmaaGreatDoorJTopMeeting0
namespace Go.Proofs.YtfiecdeonopcmaaGreatDoor.topMeeting
open Go Go.RowKit Go.ChangeShapes Go.WideShapes Go.ChangeAt
set_option maxRecDepth 100000
theorem w2 (os : Os) : Input.okWideB Tryz.checked.prog (gW os) 3 ⟨#[], gA, []⟩ = true := by kernel_rfl
end Go.Proofs.YtfiecdeonopcmaaGreatDoor.topMeeting
