/-
  The tie of the listed variables: one run of the door. A closed fact; no conditions.
-/
import Derived.Test.YtcghahkoioeddaaGreatDoorTi1
set_option linter.all false
namespace Go.Proofs.YtcghahkoioeddaaGreatDoor
open Go
set_option maxRecDepth 100000
theorem trun (os : Os) (tape : Tape) : doorLeaves Tryz.prog 400 8 64 laidL os tape = some (laidL.filter fun x => x.2.handleName?.isNone, (funcsListed laidL).map (·.2.funcsOut)) := by kernel_rfl
end Go.Proofs.YtcghahkoioeddaaGreatDoor
