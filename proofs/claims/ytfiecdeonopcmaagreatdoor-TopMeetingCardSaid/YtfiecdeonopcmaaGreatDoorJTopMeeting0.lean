/-
  The start of the law 'TopMeeting'.
-/
import Derived.Test.YtfiecdeonopcmaaGreatDoorRows
import Derived.LaidMore
import Derived.ProofKit
import Derived.LaidOnce
import Derived.SevenTiedAt
import Derived.WalkKit
namespace Go.Proofs.YtfiecdeonopcmaaGreatDoor.topMeeting
open Go Go.RowKit Go.ChangeShapes Go.WideShapes Go.ChangeAt
set_option maxRecDepth 100000
noncomputable abbrev gA : Array Value := #[.agg #[.int .i64 0, .int .i64 0, .int .i64 0, .int .i64 0, .int .i64 0, .int .u64 0, .int .i64 0, .int .i64 0, .int .u64 0], .slice none 0 0, .slice none 0 0]
noncomputable abbrev gW (os : Os) := ((World.doorLaid Tryz.prog 400 os).forCall (fun _ _ => 0) ⟨#[], gA, []⟩)
end Go.Proofs.YtfiecdeonopcmaaGreatDoor.topMeeting
