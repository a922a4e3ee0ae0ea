/-
  The card of the law 'TopWitnessed': the row, tied to the text of the program. No conditions.
-/
import Derived.Test.YtcghahkoioeddaaGreatDoorRTopWitnessed
import Derived.Test.YtcghahkoioeddaaGreatDoorTi4
import Derived.Test.YtcghahkoioeddaaGreatDoorCards
import Derived.Test.YtcghahkoioeddaaGreatDoorKTopWitnesseda
import Derived.Test.YtcghahkoioeddaaGreatDoorKTopWitnessedb
import Derived.Test.YtcghahkoioeddaaGreatDoorKTopWitnessedc
import Derived.Test.YtcghahkoioeddaaGreatDoorKTopWitnessedd
set_option linter.all false
namespace Go.Proofs.YtcghahkoioeddaaGreatDoor.topWitnessed
open Go
set_option maxRecDepth 100000
theorem rowTie : Rows.topWitnessedRow.laidByTextAt .later Tryz.pinned [.data, .data, .data, .sentinel, .sentinel, .data] true := OpenClaim.laidByTextAt_later rfl rfl tieL (by kernel_rfl)
theorem card : Rows.TopWitnessedCardSaid :=
  Claim7.holds_tied_plain_at .later [] [.data, .data, .data, .sentinel, .sentinel, .data] true (true, "aed5d670dfa375c09ad1fd5f1fb8d57b5d1cad048271077ed72742d250974e37") true
    proved (fun _ h => by cases h) wft (fun _ h => by cases h) rowTie rfl ⟨rfl, rfl⟩ main rfl
    (fun f fn hf hfn => by
      obtain rfl : f = 5 := Option.some.inj (name.symm.trans hf) |>.symm
      obtain rfl : fn = Tryz.f5 := (Option.some.inj (Tryz.func5.symm.trans hfn)).symm
      exact ⟨looks, fun j t ht => by
        rw [Tryz.params5] at ht
        have hm : t ∈ ([83] : List TypeId) := by simpa using Array.mem_of_getElem? ht
        exact (show Tryz.prog.wantsStandIn t = false by simpa using List.all_eq_true.1 want t hm)⟩)
    goes
end Go.Proofs.YtcghahkoioeddaaGreatDoor.topWitnessed
