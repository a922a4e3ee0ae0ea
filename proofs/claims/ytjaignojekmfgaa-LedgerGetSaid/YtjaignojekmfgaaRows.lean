/-
  No cell of these rows narrows 'for every input' (looked for: loops, veiled, ifaces, maps, wideKeys, modest, calm, conditions, laid).
  DERIVED. THE GIVEN ROWS OF THIS SEAT. 6 by the template 'for every input the law returns true; each argument reads behind the call as it read before'; 0 by the template 'total and deterministic' (their statements: YtjaignojekmfgaaTotals.lean).
  GIVEN WITH THE SEED: the statements are not yours to turn. If you find one false, say at which input.
  Laid BY PROGRAM, IN A SANDBOX (cutbox-rows.mjs): the forced cells as the released guide's own fill.sh prints them over the translation 73833ec7bb4965e0… (all of the seat's roots in one cut). By AI agents, Wed Nov 11 2026. No macro, syntax, notation, axiom, sorry.
-/
import Derived.Test.YtjaignojekmfgaaChecked
import GoSem.Claim
import GoSem.ClaimJoined
import GoSem.ClaimMapViews
import Derived.JoinedTies
import Derived.KernelRfl
namespace Go.Proofs.Ytjaignojekmfgaa
/- THE CELL 'sum', in the pinned program and in every row, IS THE sha256 OF THE DUMP (.gsa) THAT YtjaignojekmfgaaProg.lean LOADS. Nothing in Lean hashes anything: it is a label: what it is worth is what the hold of that sum in a sandbox is worth. -/
noncomputable def Try.pinned : Pinned := { name := "ytjaignojekmfgaa", sum := "73833ec7bb4965e0c241a594e45407d4d383c439a576b3f86579ba6d58aad04c", checked := Try.checked }
namespace Rows
def none {H : Type} : Left H := { results := [], args := [] }

/-- 'moidorelaw44.LedgerCredit': WHATEVER THE INPUT: true; the input reads as it did. -/
def ledgerCreditSpec : ChangeSpec := { name := "ledgerCredit", fn := fun _ => fun
  | [d] => { results := [.lit (.bool true)], args := [d] }
  | _ => none }
def ledgerCreditRow : OpenClaim := { program := "ytjaignojekmfgaa", sum := "73833ec7bb4965e0c241a594e45407d4d383c439a576b3f86579ba6d58aad04c", func := "moidore/moidorelaw44.LedgerCredit", spec := "ledgerCredit", unfollowed := true, recurses := true, apart := false }
def LedgerCreditSaid : Prop := ledgerCreditRow.holds Try.pinned (OpenSpec.ofChange ledgerCreditSpec)

/-- ITS FALSE NEIGHBOUR: 'it returns false'. Refute it at one input. -/
def ledgerCreditWrong : ChangeSpec := { name := "ledgerCredit", fn := fun _ => fun
  | [d] => { results := [.lit (.bool false)], args := [d] }
  | _ => none }
def LedgerCreditWrongFalsely : Prop := ledgerCreditRow.holds Try.pinned (OpenSpec.ofChange ledgerCreditWrong)

/-- 'moidorelaw44.LedgerDebit': WHATEVER THE INPUT: true; the input reads as it did. -/
def ledgerDebitSpec : ChangeSpec := { name := "ledgerDebit", fn := fun _ => fun
  | [d] => { results := [.lit (.bool true)], args := [d] }
  | _ => none }
def ledgerDebitRow : OpenClaim := { program := "ytjaignojekmfgaa", sum := "73833ec7bb4965e0c241a594e45407d4d383c439a576b3f86579ba6d58aad04c", func := "moidore/moidorelaw44.LedgerDebit", spec := "ledgerDebit", unfollowed := true, recurses := true, apart := false }
def LedgerDebitSaid : Prop := ledgerDebitRow.holds Try.pinned (OpenSpec.ofChange ledgerDebitSpec)

/-- ITS FALSE NEIGHBOUR: 'it returns false'. Refute it at one input. -/
def ledgerDebitWrong : ChangeSpec := { name := "ledgerDebit", fn := fun _ => fun
  | [d] => { results := [.lit (.bool false)], args := [d] }
  | _ => none }
def LedgerDebitWrongFalsely : Prop := ledgerDebitRow.holds Try.pinned (OpenSpec.ofChange ledgerDebitWrong)

/-- 'moidorelaw44.LedgerUndo': WHATEVER THE INPUT: true; the input reads as it did. -/
def ledgerUndoSpec : ChangeSpec := { name := "ledgerUndo", fn := fun _ => fun
  | [d] => { results := [.lit (.bool true)], args := [d] }
  | _ => none }
def ledgerUndoRow : OpenClaim := { program := "ytjaignojekmfgaa", sum := "73833ec7bb4965e0c241a594e45407d4d383c439a576b3f86579ba6d58aad04c", func := "moidore/moidorelaw44.LedgerUndo", spec := "ledgerUndo", unfollowed := true, recurses := true, apart := false }
def LedgerUndoSaid : Prop := ledgerUndoRow.holds Try.pinned (OpenSpec.ofChange ledgerUndoSpec)

/-- ITS FALSE NEIGHBOUR: 'it returns false'. Refute it at one input. -/
def ledgerUndoWrong : ChangeSpec := { name := "ledgerUndo", fn := fun _ => fun
  | [d] => { results := [.lit (.bool false)], args := [d] }
  | _ => none }
def LedgerUndoWrongFalsely : Prop := ledgerUndoRow.holds Try.pinned (OpenSpec.ofChange ledgerUndoWrong)

/-- 'moidorelaw44.LedgerValid': WHATEVER THE INPUT: true; the input reads as it did. -/
def ledgerValidSpec : ChangeSpec := { name := "ledgerValid", fn := fun _ => fun
  | [d] => { results := [.lit (.bool true)], args := [d] }
  | _ => none }
def ledgerValidRow : OpenClaim := { program := "ytjaignojekmfgaa", sum := "73833ec7bb4965e0c241a594e45407d4d383c439a576b3f86579ba6d58aad04c", func := "moidore/moidorelaw44.LedgerValid", spec := "ledgerValid", unfollowed := true, recurses := true, apart := false }
def LedgerValidSaid : Prop := ledgerValidRow.holds Try.pinned (OpenSpec.ofChange ledgerValidSpec)

/-- ITS FALSE NEIGHBOUR: 'it returns false'. Refute it at one input. -/
def ledgerValidWrong : ChangeSpec := { name := "ledgerValid", fn := fun _ => fun
  | [d] => { results := [.lit (.bool false)], args := [d] }
  | _ => none }
def LedgerValidWrongFalsely : Prop := ledgerValidRow.holds Try.pinned (OpenSpec.ofChange ledgerValidWrong)

/-- 'moidorelaw44.LedgerMatchesModel': WHATEVER THE INPUT: true; the input reads as it did. -/
def ledgerMatchesModelSpec : ChangeSpec := { name := "ledgerMatchesModel", fn := fun _ => fun
  | [d] => { results := [.lit (.bool true)], args := [d] }
  | _ => none }
def ledgerMatchesModelRow : OpenClaim := { program := "ytjaignojekmfgaa", sum := "73833ec7bb4965e0c241a594e45407d4d383c439a576b3f86579ba6d58aad04c", func := "moidore/moidorelaw44.LedgerMatchesModel", spec := "ledgerMatchesModel", unfollowed := true, recurses := true, apart := false }
def LedgerMatchesModelSaid : Prop := ledgerMatchesModelRow.holds Try.pinned (OpenSpec.ofChange ledgerMatchesModelSpec)

/-- ITS FALSE NEIGHBOUR: 'it returns false'. Refute it at one input. -/
def ledgerMatchesModelWrong : ChangeSpec := { name := "ledgerMatchesModel", fn := fun _ => fun
  | [d] => { results := [.lit (.bool false)], args := [d] }
  | _ => none }
def LedgerMatchesModelWrongFalsely : Prop := ledgerMatchesModelRow.holds Try.pinned (OpenSpec.ofChange ledgerMatchesModelWrong)

/-- 'moidorelaw44.LedgerGet': WHATEVER THE INPUT: true; the input reads as it did. -/
def ledgerGetSpec : ChangeSpec := { name := "ledgerGet", fn := fun _ => fun
  | [d] => { results := [.lit (.bool true)], args := [d] }
  | _ => none }
def ledgerGetRow : OpenClaim := { program := "ytjaignojekmfgaa", sum := "73833ec7bb4965e0c241a594e45407d4d383c439a576b3f86579ba6d58aad04c", func := "moidore/moidorelaw44.LedgerGet", spec := "ledgerGet", inPlace := ["math/bits.Add64"], unfollowed := true, recurses := true, apart := false }
def LedgerGetSaid : Prop := ledgerGetRow.holds Try.pinned (OpenSpec.ofChange ledgerGetSpec)

/-- ITS FALSE NEIGHBOUR: 'it returns false'. Refute it at one input. -/
def ledgerGetWrong : ChangeSpec := { name := "ledgerGet", fn := fun _ => fun
  | [d] => { results := [.lit (.bool false)], args := [d] }
  | _ => none }
def LedgerGetWrongFalsely : Prop := ledgerGetRow.holds Try.pinned (OpenSpec.ofChange ledgerGetWrong)

/- THE SECOND FORM. 'bulk': how many values and letters a reading holds, each counted each time it is reached (what is shared counts as often as it is met; a slice's spare places count too). A statement '..UptoSaid' is the law's where the arguments, and the package variables that the reading takes, are together of bulk at most 1048576: NARROWER than '..Said'. Prove '..Said' where nothing that the law and all that it calls make is longer than what came in: it says more and counts as full. Else prove '..UptoSaid'. A law counts once. -/
mutual
def uptoBulk {H : Type} : DataW H → Nat
  | .lit (.string bytes) => bytes.length + 1
  | .lit _ => 1
  | .nil => 1
  | .ptr d => uptoBulk d + 1
  | .slice elems spare => uptoBulkAll elems + uptoBulkAll spare + 1
  | .agg parts => uptoBulkAll parts + 1
  | .iface _ d => uptoBulk d + 1
  | .map entries => uptoBulkEntries entries + 1
  | .held _ => 1
def uptoBulkAll {H : Type} : List (DataW H) → Nat
  | [] => 0
  | d :: r => uptoBulk d + uptoBulkAll r
def uptoBulkEntries {H : Type} : List (Lit × DataW H) → Nat
  | [] => 0
  | x :: r => uptoBulkEntry x + uptoBulkEntries r
def uptoBulkEntry {H : Type} : Lit × DataW H → Nat
  | (.string bytes, d) => bytes.length + uptoBulk d + 1
  | (_, d) => uptoBulk d + 1
 end
def uptoSmall : (H : Type) → List (DataW H) → Bool := fun _ ds => decide (uptoBulkAll ds ≤ 1048576)
def OpenSpec.upto (s : _root_.Go.ChangeSpec) : _root_.Go.OpenSpec := { _root_.Go.OpenSpec.ofChange s with cond := some uptoSmall }

/-- 'moidorelaw44.LedgerCredit', WHERE WHAT IT READS IS OF BULK AT MOST 1048576: true; the input reads as it did. -/
def ledgerCreditUptoRow : OpenClaim := { program := "ytjaignojekmfgaa", sum := "73833ec7bb4965e0c241a594e45407d4d383c439a576b3f86579ba6d58aad04c", func := "moidore/moidorelaw44.LedgerCredit", spec := "ledgerCredit", unfollowed := true, recurses := true, apart := false, narrowed := true }
def LedgerCreditUptoSaid : Prop := ledgerCreditUptoRow.holds Try.pinned (OpenSpec.upto ledgerCreditSpec)

/-- 'moidorelaw44.LedgerDebit', WHERE WHAT IT READS IS OF BULK AT MOST 1048576: true; the input reads as it did. -/
def ledgerDebitUptoRow : OpenClaim := { program := "ytjaignojekmfgaa", sum := "73833ec7bb4965e0c241a594e45407d4d383c439a576b3f86579ba6d58aad04c", func := "moidore/moidorelaw44.LedgerDebit", spec := "ledgerDebit", unfollowed := true, recurses := true, apart := false, narrowed := true }
def LedgerDebitUptoSaid : Prop := ledgerDebitUptoRow.holds Try.pinned (OpenSpec.upto ledgerDebitSpec)

/-- 'moidorelaw44.LedgerUndo', WHERE WHAT IT READS IS OF BULK AT MOST 1048576: true; the input reads as it did. -/
def ledgerUndoUptoRow : OpenClaim := { program := "ytjaignojekmfgaa", sum := "73833ec7bb4965e0c241a594e45407d4d383c439a576b3f86579ba6d58aad04c", func := "moidore/moidorelaw44.LedgerUndo", spec := "ledgerUndo", unfollowed := true, recurses := true, apart := false, narrowed := true }
def LedgerUndoUptoSaid : Prop := ledgerUndoUptoRow.holds Try.pinned (OpenSpec.upto ledgerUndoSpec)

/-- 'moidorelaw44.LedgerValid', WHERE WHAT IT READS IS OF BULK AT MOST 1048576: true; the input reads as it did. -/
def ledgerValidUptoRow : OpenClaim := { program := "ytjaignojekmfgaa", sum := "73833ec7bb4965e0c241a594e45407d4d383c439a576b3f86579ba6d58aad04c", func := "moidore/moidorelaw44.LedgerValid", spec := "ledgerValid", unfollowed := true, recurses := true, apart := false, narrowed := true }
def LedgerValidUptoSaid : Prop := ledgerValidUptoRow.holds Try.pinned (OpenSpec.upto ledgerValidSpec)

/-- 'moidorelaw44.LedgerMatchesModel', WHERE WHAT IT READS IS OF BULK AT MOST 1048576: true; the input reads as it did. -/
def ledgerMatchesModelUptoRow : OpenClaim := { program := "ytjaignojekmfgaa", sum := "73833ec7bb4965e0c241a594e45407d4d383c439a576b3f86579ba6d58aad04c", func := "moidore/moidorelaw44.LedgerMatchesModel", spec := "ledgerMatchesModel", unfollowed := true, recurses := true, apart := false, narrowed := true }
def LedgerMatchesModelUptoSaid : Prop := ledgerMatchesModelUptoRow.holds Try.pinned (OpenSpec.upto ledgerMatchesModelSpec)

/-- 'moidorelaw44.LedgerGet', WHERE WHAT IT READS IS OF BULK AT MOST 1048576: true; the input reads as it did. -/
def ledgerGetUptoRow : OpenClaim := { program := "ytjaignojekmfgaa", sum := "73833ec7bb4965e0c241a594e45407d4d383c439a576b3f86579ba6d58aad04c", func := "moidore/moidorelaw44.LedgerGet", spec := "ledgerGet", inPlace := ["math/bits.Add64"], unfollowed := true, recurses := true, apart := false, narrowed := true }
def LedgerGetUptoSaid : Prop := ledgerGetUptoRow.holds Try.pinned (OpenSpec.upto ledgerGetSpec)

end Rows
end Go.Proofs.Ytjaignojekmfgaa
