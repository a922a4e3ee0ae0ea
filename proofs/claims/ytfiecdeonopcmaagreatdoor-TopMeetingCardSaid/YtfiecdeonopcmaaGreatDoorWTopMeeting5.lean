/-
  A closed fact on the start of the law 'TopMeeting': its witness. No conditions.
-/
import Derived.Test.YtfiecdeonopcmaaGreatDoorJTopMeeting0
namespace Go.Proofs.YtfiecdeonopcmaaGreatDoor.topMeeting
open Go Go.RowKit Go.ChangeShapes Go.WideShapes Go.ChangeAt
set_option maxRecDepth 100000
theorem w5 (os : Os) : laidMetH Tryz.prog Rows.topMeetingRow.laid (gW os).memory := laidMetH_of_parts3 (fuel := 8) (laidMet_of_run' 8 (by kernel_rfl) (by kernel_rfl)) (by kernel_rfl) (by kernel_rfl)
end Go.Proofs.YtfiecdeonopcmaaGreatDoor.topMeeting
