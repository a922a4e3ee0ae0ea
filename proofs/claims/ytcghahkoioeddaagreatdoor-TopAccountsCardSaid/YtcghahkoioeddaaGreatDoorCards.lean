/-
  DERIVED. GIVEN WITH THE SEED: THE CARDS: each row of YtcghahkoioeddaaGreatDoorRows.lean that lists a variable, with what it lists TIED to the program's text (the seventh form; the later family's looks); each row that meets fmt, with fmt's text TOLD by the authors' own Lean function (tested against real Go, not proved from fmt's source: count such statements apart). THE CARD IS WHAT COUNTS. Prove the row's statement (the work); the ties are given (YtcghahkoioeddaaGreatDoorTie.lean); close each card by the builder's one call (the guide's Derived/Test/ToyasCard.lean, 'card_holds'). Laid BY PROGRAM, IN A SANDBOX (cutbox-door.mjs). By AI agents, Wed Nov 11 2026. No macro, syntax, notation, axiom, sorry.
-/
import Derived.Test.YtcghahkoioeddaaGreatDoorRows
import GoSem.ClaimSeven
namespace Go.Proofs.YtcghahkoioeddaaGreatDoor
namespace Rows

/-- THE TIED CARD OF 'moidoretop.TopMeeting'. -/
def topMeetingCard : Claim7 := { stood := { row := topMeetingRow, standIns := [], harness := (true, "aed5d670dfa375c09ad1fd5f1fb8d57b5d1cad048271077ed72742d250974e37"), looks := true }, kinds := [], alts := [], laidByText := true, laidKinds := [.data, .data, .data, .sentinel, .sentinel, .data], laidTests := true, laidLooks := .later }
def TopMeetingCardSaid : Prop := Claim7.holds Tryz.pinned (.plain (OpenSpec.ofChange topMeetingSpec)) topMeetingCard

/-- THE TIED CARD OF 'moidoretop.TopRoads'. -/
def topRoadsCard : Claim7 := { stood := { row := topRoadsRow, standIns := [], harness := (true, "aed5d670dfa375c09ad1fd5f1fb8d57b5d1cad048271077ed72742d250974e37"), looks := true }, kinds := [], alts := [], laidByText := true, laidKinds := [.data, .data, .data, .sentinel, .sentinel, .data], laidTests := true, laidLooks := .later }
def TopRoadsCardSaid : Prop := Claim7.holds Tryz.pinned (.plain (OpenSpec.ofChange topRoadsSpec)) topRoadsCard

/-- THE TIED CARD OF 'moidoretop.TopWitnessed'. -/
def topWitnessedCard : Claim7 := { stood := { row := topWitnessedRow, standIns := [], harness := (true, "aed5d670dfa375c09ad1fd5f1fb8d57b5d1cad048271077ed72742d250974e37"), looks := true }, kinds := [], alts := [], laidByText := true, laidKinds := [.data, .data, .data, .sentinel, .sentinel, .data], laidTests := true, laidLooks := .later }
def TopWitnessedCardSaid : Prop := Claim7.holds Tryz.pinned (.plain (OpenSpec.ofChange topWitnessedSpec)) topWitnessedCard

/-- THE TIED CARD OF 'moidoretop.TopAccounts'. -/
def topAccountsCard : Claim7 := { stood := { row := topAccountsRow, standIns := [], harness := (true, "aed5d670dfa375c09ad1fd5f1fb8d57b5d1cad048271077ed72742d250974e37"), looks := true }, kinds := [], alts := [], laidByText := true, laidKinds := [.data, .data, .data, .sentinel, .sentinel, .data], laidTests := true, laidLooks := .later }
def TopAccountsCardSaid : Prop := Claim7.holds Tryz.pinned (.plain (OpenSpec.ofChange topAccountsSpec)) topAccountsCard

/-- THE SECOND FORM's CARD OF 'moidoretop.TopMeeting'. -/
def topMeetingUptoCard : Claim7 := { stood := { row := topMeetingUptoRow, standIns := [], harness := (true, "aed5d670dfa375c09ad1fd5f1fb8d57b5d1cad048271077ed72742d250974e37"), looks := true }, kinds := [], alts := [], laidByText := true, laidKinds := [.data, .data, .data, .sentinel, .sentinel, .data], laidTests := true, laidLooks := .later }
def TopMeetingUptoCardSaid : Prop := Claim7.holds Tryz.pinned (.plain (OpenSpec.upto topMeetingSpec)) topMeetingUptoCard

/-- THE SECOND FORM's CARD OF 'moidoretop.TopRoads'. -/
def topRoadsUptoCard : Claim7 := { stood := { row := topRoadsUptoRow, standIns := [], harness := (true, "aed5d670dfa375c09ad1fd5f1fb8d57b5d1cad048271077ed72742d250974e37"), looks := true }, kinds := [], alts := [], laidByText := true, laidKinds := [.data, .data, .data, .sentinel, .sentinel, .data], laidTests := true, laidLooks := .later }
def TopRoadsUptoCardSaid : Prop := Claim7.holds Tryz.pinned (.plain (OpenSpec.upto topRoadsSpec)) topRoadsUptoCard

/-- THE SECOND FORM's CARD OF 'moidoretop.TopWitnessed'. -/
def topWitnessedUptoCard : Claim7 := { stood := { row := topWitnessedUptoRow, standIns := [], harness := (true, "aed5d670dfa375c09ad1fd5f1fb8d57b5d1cad048271077ed72742d250974e37"), looks := true }, kinds := [], alts := [], laidByText := true, laidKinds := [.data, .data, .data, .sentinel, .sentinel, .data], laidTests := true, laidLooks := .later }
def TopWitnessedUptoCardSaid : Prop := Claim7.holds Tryz.pinned (.plain (OpenSpec.upto topWitnessedSpec)) topWitnessedUptoCard

/-- THE SECOND FORM's CARD OF 'moidoretop.TopAccounts'. -/
def topAccountsUptoCard : Claim7 := { stood := { row := topAccountsUptoRow, standIns := [], harness := (true, "aed5d670dfa375c09ad1fd5f1fb8d57b5d1cad048271077ed72742d250974e37"), looks := true }, kinds := [], alts := [], laidByText := true, laidKinds := [.data, .data, .data, .sentinel, .sentinel, .data], laidTests := true, laidLooks := .later }
def TopAccountsUptoCardSaid : Prop := Claim7.holds Tryz.pinned (.plain (OpenSpec.upto topAccountsSpec)) topAccountsUptoCard
end Rows
end Go.Proofs.YtcghahkoioeddaaGreatDoor
