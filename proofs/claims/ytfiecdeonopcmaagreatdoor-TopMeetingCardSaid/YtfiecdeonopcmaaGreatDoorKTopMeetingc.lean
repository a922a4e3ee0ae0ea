/-
  A closed fact for the card of the law 'TopMeeting'. No conditions.
-/
import Derived.Test.YtfiecdeonopcmaaGreatDoorRows
import Derived.SevenTiedAt
import Derived.KernelRfl
namespace Go.Proofs.YtfiecdeonopcmaaGreatDoor.topMeeting
open Go
set_option maxRecDepth 100000
theorem looks : true = Tryz.pinned.checked.prog.looks [] := by kernel_rfl
end Go.Proofs.YtfiecdeonopcmaaGreatDoor.topMeeting
