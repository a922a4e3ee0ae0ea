/-
  The program is laid out. A closed fact; no conditions.
-/
import Derived.Test.YtcghahkoioeddaaGreatDoorRows
import Derived.ProofKit
import Derived.KernelRfl
set_option linter.all false
namespace Go.Proofs.YtcghahkoioeddaaGreatDoor
open Go
set_option maxRecDepth 100000
theorem laid : laidOutB Tryz.prog = true := by kernel_rfl
end Go.Proofs.YtcghahkoioeddaaGreatDoor
