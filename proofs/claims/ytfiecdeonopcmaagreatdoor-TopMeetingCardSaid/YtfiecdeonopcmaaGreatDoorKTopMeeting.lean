/-
  The card of the law 'TopMeeting': the row, tied to the text of the program. No conditions.
-/
import Derived.Test.YtfiecdeonopcmaaGreatDoorRTopMeeting
import Derived.Test.YtfiecdeonopcmaaGreatDoorTi4
import Derived.Test.YtfiecdeonopcmaaGreatDoorCards
import Derived.Test.YtfiecdeonopcmaaGreatDoorKTopMeetinga
import Derived.Test.YtfiecdeonopcmaaGreatDoorKTopMeetingb
import Derived.Test.YtfiecdeonopcmaaGreatDoorKTopMeetingc
import Derived.Test.YtfiecdeonopcmaaGreatDoorKTopMeetingd
namespace Go.Proofs.YtfiecdeonopcmaaGreatDoor.topMeeting
open Go
set_option maxRecDepth 100000
theorem rowTie : Rows.topMeetingRow.laidByTextAt .later Tryz.pinned [.data, .data, .data, .sentinel, .sentinel, .data] true := OpenClaim.laidByTextAt_later rfl rfl tieL noUnsafe
theorem card : Rows.TopMeetingCardSaid :=
  Claim7.holds_tied_plain_at .later [] [.data, .data, .data, .sentinel, .sentinel, .data] true (true, "dbc523857c2c894a9c919637d942162caae6be00d3cb67bc2bd1d74ea20d46ca") true
    proved (fun _ h => by cases h) wft (fun _ h => by cases h) rowTie rfl ⟨rfl, rfl⟩ main rfl
    (fun f fn hf hfn => by
      obtain rfl : f = 3 := Option.some.inj (name.symm.trans hf) |>.symm
      obtain rfl : fn = Tryz.f3 := (Option.some.inj (Tryz.func3.symm.trans hfn)).symm
      exact ⟨looks, fun j t ht => by
        rw [Tryz.params3] at ht
        have hm : t ∈ ([26, 27, 28] : List TypeId) := by simpa using Array.mem_of_getElem? ht
        exact (show Tryz.prog.wantsStandIn t = false by simpa using List.all_eq_true.1 want t hm)⟩)
    goes
end Go.Proofs.YtfiecdeonopcmaaGreatDoor.topMeeting
