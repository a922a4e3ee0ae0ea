/-
  A closed fact on the start of the law 'TopMeeting': its witness. No conditions.
-/
import Derived.Test.YtfiecdeonopcmaaGreatDoorJTopMeeting0
namespace Go.Proofs.YtfiecdeonopcmaaGreatDoor.topMeeting
open Go Go.RowKit Go.ChangeShapes Go.WideShapes Go.ChangeAt
set_option maxRecDepth 100000
theorem w3 (os : Os) (H : Type) (enc : TypeId × Value → H) : Rows.topMeetingSpec.preB enc Tryz.checked.prog Tryz.f3 [] false (gW os).memory gA 8 = true := by kernel_rfl
end Go.Proofs.YtfiecdeonopcmaaGreatDoor.topMeeting
