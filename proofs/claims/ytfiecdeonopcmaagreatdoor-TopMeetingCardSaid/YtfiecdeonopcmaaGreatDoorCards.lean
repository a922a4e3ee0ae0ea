/-
  DERIVED. GIVEN WITH THE SEED: THE CARDS: each row of YtfiecdeonopcmaaGreatDoorRows.lean that lists a variable, with what it lists TIED to the program's text (the seventh form; the later family's looks); each row that meets fmt, with fmt's text TOLD by the authors' own Lean function (tested against real Go, not proved from fmt's source: count such statements apart). THE CARD IS WHAT COUNTS. Prove the row's statement (the work); the ties are given (YtfiecdeonopcmaaGreatDoorTie.lean); close each card by the builder's one call (the guide's Derived/Test/ToyasCard.lean, 'card_holds'). Laid BY PROGRAM, IN A SANDBOX (cutbox-door.mjs). By AI agents, Wed Nov 11 2026. No macro, syntax, notation, axiom, sorry.
-/
import Derived.Test.YtfiecdeonopcmaaGreatDoorRows
import GoSem.ClaimSeven
namespace Go.Proofs.YtfiecdeonopcmaaGreatDoor
namespace Rows

/-- THE TIED CARD OF 'moidoretop.TopMeeting'. -/
def topMeetingCard : Claim7 := { stood := { row := topMeetingRow, standIns := [], harness := (true, "dbc523857c2c894a9c919637d942162caae6be00d3cb67bc2bd1d74ea20d46ca"), looks := true }, kinds := [], alts := [], laidByText := true, laidKinds := [.data, .data, .data, .sentinel, .sentinel, .data], laidTests := true, laidLooks := .later }
def TopMeetingCardSaid : Prop := Claim7.holds Tryz.pinned (.plain (OpenSpec.ofChange topMeetingSpec)) topMeetingCard

/-- THE SECOND FORM's CARD OF 'moidoretop.TopMeeting'. -/
def topMeetingUptoCard : Claim7 := { stood := { row := topMeetingUptoRow, standIns := [], harness := (true, "dbc523857c2c894a9c919637d942162caae6be00d3cb67bc2bd1d74ea20d46ca"), looks := true }, kinds := [], alts := [], laidByText := true, laidKinds := [.data, .data, .data, .sentinel, .sentinel, .data], laidTests := true, laidLooks := .later }
def TopMeetingUptoCardSaid : Prop := Claim7.holds Tryz.pinned (.plain (OpenSpec.upto topMeetingSpec)) topMeetingUptoCard
end Rows
end Go.Proofs.YtfiecdeonopcmaaGreatDoor
