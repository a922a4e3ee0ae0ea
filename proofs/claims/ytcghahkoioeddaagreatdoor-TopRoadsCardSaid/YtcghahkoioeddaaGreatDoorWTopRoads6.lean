/-
  The closed facts on the program and the law 'TopRoads' together. No conditions.
-/
import Derived.Test.YtcghahkoioeddaaGreatDoorTi5
import Derived.Test.YtcghahkoioeddaaGreatDoorJTopRoads1
import Derived.Test.YtcghahkoioeddaaGreatDoorJTopRoads2
import Derived.Test.YtcghahkoioeddaaGreatDoorJTopRoads3
import Derived.Test.YtcghahkoioeddaaGreatDoorJTopRoads4
import Derived.Test.YtcghahkoioeddaaGreatDoorJTopRoads5
import Derived.Test.YtcghahkoioeddaaGreatDoorJTopRoads6
import Derived.Test.YtcghahkoioeddaaGreatDoorJTopRoads7
import Derived.Test.YtcghahkoioeddaaGreatDoorJTopRoads8
import Derived.Test.YtcghahkoioeddaaGreatDoorJTopRoads9
import Derived.Test.YtcghahkoioeddaaGreatDoorRows
import Derived.LaidMore
import Derived.ProofKit
import Derived.LaidOnce
import Derived.SevenTiedAt
import Derived.WalkKit
set_option linter.all false
namespace Go.Proofs.YtcghahkoioeddaaGreatDoor.topRoads
open Go Go.RowKit Go.ChangeShapes Go.WideShapes Go.ChangeAt
set_option maxRecDepth 100000
theorem ja {a b : Bool} (h : a = true) (g : b = true) : (a && b) = true := by rw [h, g]; rfl
theorem w6 : joinedFacts Tryz.checked.prog 4 Tryz.f4 Rows.topRoadsSpec Rows.topRoadsRow = true := (ja (ja (ja (ja (ja (ja (ja (ja (ja (ja (ja (ja (ja (ja (ja (ja (ja (ja (ja (ja (ja (ja (ja (ja (ja (ja (ja (ja (ja (ja (ja j0 laid) j2) j3) j4) j5) j6) j7) j8) j9) j10) j11) j12) j13) j14) j15) j16) j17) j18) j19) j20) j21) j22) j23) j24) j25) j26) j27) j28) j29) j30) j31)
end Go.Proofs.YtcghahkoioeddaaGreatDoor.topRoads
