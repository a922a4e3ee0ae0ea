/-
  The card of the law 'TopRoads': the row, tied to the text of the program. No conditions.
-/
import Derived.Test.YtcghahkoioeddaaGreatDoorRTopRoads
import Derived.Test.YtcghahkoioeddaaGreatDoorTi4
import Derived.Test.YtcghahkoioeddaaGreatDoorCards
import Derived.Test.YtcghahkoioeddaaGreatDoorKTopRoadsa
import Derived.Test.YtcghahkoioeddaaGreatDoorKTopRoadsb
import Derived.Test.YtcghahkoioeddaaGreatDoorKTopRoadsc
import Derived.Test.YtcghahkoioeddaaGreatDoorKTopRoadsd
set_option linter.all false
namespace Go.Proofs.YtcghahkoioeddaaGreatDoor.topRoads
open Go
set_option maxRecDepth 100000
theorem rowTie : Rows.topRoadsRow.laidByTextAt .later Tryz.pinned [.data, .data, .data, .sentinel, .sentinel, .data] true := OpenClaim.laidByTextAt_later rfl rfl tieL (by kernel_rfl)
theorem card : Rows.TopRoadsCardSaid :=
  Claim7.holds_tied_plain_at .later [] [.data, .data, .data, .sentinel, .sentinel, .data] true (true, "aed5d670dfa375c09ad1fd5f1fb8d57b5d1cad048271077ed72742d250974e37") true
    proved (fun _ h => by cases h) wft (fun _ h => by cases h) rowTie rfl ⟨rfl, rfl⟩ main rfl
    (fun f fn hf hfn => by
      obtain rfl : f = 4 := Option.some.inj (name.symm.trans hf) |>.symm
      obtain rfl : fn = Tryz.f4 := (Option.some.inj (Tryz.func4.symm.trans hfn)).symm
      exact ⟨looks, fun j t ht => by
        rw [Tryz.params4] at ht
        have hm : t ∈ ([26, 27] : List TypeId) := by simpa using Array.mem_of_getElem? ht
        exact (show Tryz.prog.wantsStandIn t = false by simpa using List.all_eq_true.1 want t hm)⟩)
    goes
end Go.Proofs.YtcghahkoioeddaaGreatDoor.topRoads
