/-
  The closed facts on the program and the law 'TopMeeting' together. No conditions.
-/
import Derived.Test.YtfiecdeonopcmaaGreatDoorTi5
import Derived.Test.YtfiecdeonopcmaaGreatDoorJTopMeeting1
import Derived.Test.YtfiecdeonopcmaaGreatDoorJTopMeeting2
import Derived.Test.YtfiecdeonopcmaaGreatDoorJTopMeeting3
import Derived.Test.YtfiecdeonopcmaaGreatDoorJTopMeeting4
import Derived.Test.YtfiecdeonopcmaaGreatDoorJTopMeeting5
import Derived.Test.YtfiecdeonopcmaaGreatDoorJTopMeeting6
import Derived.Test.YtfiecdeonopcmaaGreatDoorJTopMeeting7
import Derived.Test.YtfiecdeonopcmaaGreatDoorJTopMeeting8
import Derived.Test.YtfiecdeonopcmaaGreatDoorJTopMeeting9
import Derived.Test.YtfiecdeonopcmaaGreatDoorJTopMeeting0
namespace Go.Proofs.YtfiecdeonopcmaaGreatDoor.topMeeting
open Go Go.RowKit Go.ChangeShapes Go.WideShapes Go.ChangeAt
set_option maxRecDepth 100000
theorem ja {a b : Bool} (h : a = true) (g : b = true) : (a && b) = true := by rw [h, g]; rfl
theorem w6 : joinedFacts Tryz.checked.prog 3 Tryz.f3 Rows.topMeetingSpec Rows.topMeetingRow = true := (ja (ja (ja (ja (ja (ja (ja (ja (ja (ja (ja (ja (ja (ja (ja (ja (ja (ja (ja (ja (ja (ja (ja (ja (ja (ja (ja (ja (ja (ja (ja j0 laid) j2) j3) j4) j5) j6) j7) j8) j9) j10) j11) j12) j13) j14) j15) j16) j17) j18) j19) j20) j21) j22) j23) j24) j25) j26) j27) j28) j29) j30) j31)
end Go.Proofs.YtfiecdeonopcmaaGreatDoor.topMeeting
