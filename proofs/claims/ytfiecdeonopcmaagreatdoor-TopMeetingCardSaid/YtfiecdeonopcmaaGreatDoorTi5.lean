/-
  The program is laid out. A closed fact; no conditions.
-/
import Derived.Test.YtfiecdeonopcmaaGreatDoorRows
import Derived.ProofKit
import Derived.KernelRfl
namespace Go.Proofs.YtfiecdeonopcmaaGreatDoor
open Go
set_option maxRecDepth 100000
theorem laid : laidOutB Tryz.prog = true := by kernel_rfl
end Go.Proofs.YtfiecdeonopcmaaGreatDoor
