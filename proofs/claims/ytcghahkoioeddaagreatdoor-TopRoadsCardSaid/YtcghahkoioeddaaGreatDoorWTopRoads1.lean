/-
  A closed fact on the start of the law 'TopRoads': its witness. No conditions.
-/
import Derived.Test.YtcghahkoioeddaaGreatDoorRows
import Derived.LaidMore
import Derived.ProofKit
import Derived.LaidOnce
import Derived.SevenTiedAt
import Derived.WalkKit
set_option linter.all false
namespace Go.Proofs.YtcghahkoioeddaaGreatDoor.topRoads
open Go Go.RowKit Go.ChangeShapes Go.WideShapes Go.ChangeAt
set_option maxRecDepth 100000
theorem w1 (os : Os) : ((World.doorLaid Tryz.prog 400 os).forCall (fun _ _ => 0) ⟨#[], #[.agg #[.int .i64 0, .int .i64 0, .int .i64 0, .int .i64 0, .int .i64 0, .int .u64 0, .int .i64 0, .int .i64 0, .int .u64 0], .slice none 0 0], []⟩).Shaped Tryz.checked.prog := World.shaped_of_RefB (by kernel_rfl) (by kernel_rfl)
end Go.Proofs.YtcghahkoioeddaaGreatDoor.topRoads
