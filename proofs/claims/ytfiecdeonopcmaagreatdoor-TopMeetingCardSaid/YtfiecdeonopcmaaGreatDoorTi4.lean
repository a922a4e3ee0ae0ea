/-
  The tie of the listed variables to the text of the program, and that no part of the program is its own road to unsafe. No conditions.
-/
import Derived.Test.YtfiecdeonopcmaaGreatDoorTi2
import Derived.Test.YtfiecdeonopcmaaGreatDoorTi3
import Derived.SevenTiedAt
namespace Go.Proofs.YtfiecdeonopcmaaGreatDoor
open Go
theorem tieL : Tryz.prog.laidByTextLater laidL [.data, .data, .data, .sentinel, .sentinel, .data] true :=
  Program.laidByTextLater_by_one 400 8 64 tw1 tw2 tw3 tw4 tw5 tn trun
theorem noUnsafe : Tryz.pinned.checked.prog.headLifts.contains "ownunsafe" = false := by kernel_rfl
end Go.Proofs.YtfiecdeonopcmaaGreatDoor
