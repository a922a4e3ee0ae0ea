/-
  Closed facts on the program and the law 'TopAccounts'. No conditions.
-/
import Derived.Test.YtcghahkoioeddaaGreatDoorRows
import Derived.LaidMore
import Derived.ProofKit
import Derived.LaidOnce
import Derived.SevenTiedAt
import Derived.WalkKit
namespace Go.Proofs.YtcghahkoioeddaaGreatDoor.topAccounts
open Go Go.RowKit Go.ChangeShapes Go.WideShapes Go.ChangeAt
set_option maxRecDepth 100000
theorem j11 : ((Rows.topAccountsRow.recurses == Tryz.checked.prog.recurses 6)) = true := by kernel_rfl
end Go.Proofs.YtcghahkoioeddaaGreatDoor.topAccounts
