/-
  A closed fact for the card of the law 'TopMeeting'. No conditions.
-/
import Derived.Test.YtfiecdeonopcmaaGreatDoorRows
import Derived.SevenTiedAt
import Derived.KernelRfl
namespace Go.Proofs.YtfiecdeonopcmaaGreatDoor.topMeeting
open Go
set_option maxRecDepth 100000
theorem wft : Rows.topMeetingRow.wfByText (OpenSpec.ofChange Rows.topMeetingSpec) = true := by kernel_rfl
end Go.Proofs.YtfiecdeonopcmaaGreatDoor.topMeeting
