/-
  The tie of the listed variables to the text of the program. No conditions.
-/
import Derived.Test.YtcghahkoioeddaaGreatDoorTi2
import Derived.Test.YtcghahkoioeddaaGreatDoorTi3
import Derived.SevenTiedAt
set_option linter.all false
namespace Go.Proofs.YtcghahkoioeddaaGreatDoor
open Go
theorem tieL : Tryz.prog.laidByTextLater laidL [.data, .data, .data, .sentinel, .sentinel, .data] true :=
  Program.laidByTextLater_by_one 400 8 64 tw1 tw2 tw3 tw4 tw5 tn trun
end Go.Proofs.YtcghahkoioeddaaGreatDoor
