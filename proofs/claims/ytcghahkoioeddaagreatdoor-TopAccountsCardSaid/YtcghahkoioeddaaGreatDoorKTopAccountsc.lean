/-
  A closed fact for the card of the law 'TopAccounts'. No conditions.
-/
import Derived.Test.YtcghahkoioeddaaGreatDoorRows
import Derived.SevenTiedAt
import Derived.KernelRfl
namespace Go.Proofs.YtcghahkoioeddaaGreatDoor.topAccounts
open Go
set_option maxRecDepth 100000
theorem looks : true = Tryz.pinned.checked.prog.looks [] := by kernel_rfl
end Go.Proofs.YtcghahkoioeddaaGreatDoor.topAccounts
