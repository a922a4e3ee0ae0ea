/-
  No cell of these rows narrows 'for every input' (looked for: loops, veiled, ifaces, maps, wideKeys, modest, calm, conditions, laid).
  DERIVED. THE GIVEN ROWS OF THIS SEAT. 7 by the template 'for every input the law returns true; each argument reads behind the call as it read before'; 0 by the template 'total and deterministic' (their statements: YtpllcoldaiineaaGreatTotals.lean).
  GIVEN WITH THE SEED: the statements are not yours to turn. If you find one false, say at which input.
  Laid BY PROGRAM, IN A SANDBOX (cutbox-rows.mjs): the forced cells as the released guide's own fill.sh prints them over the translation 4b428ab18f15d02a… (all of the seat's roots in one cut). By AI agents, Wed Nov 11 2026. No macro, syntax, notation, axiom, sorry.
-/
import Derived.Test.YtpllcoldaiineaaGreatChecked
import GoSem.Claim
import GoSem.ClaimJoined
import GoSem.ClaimMapViews
import Derived.JoinedTies
import Derived.KernelRfl
namespace Go.Proofs.YtpllcoldaiineaaGreat
/- THE CELL 'sum', in the pinned program and in every row, IS THE sha256 OF THE DUMP (.gsa) THAT YtpllcoldaiineaaGreatProg.lean LOADS. Nothing in Lean hashes anything: it is a label: what it is worth is what the hold of that sum in a sandbox is worth. -/
noncomputable def Tryz.pinned : Pinned := { name := "ytpllcoldaiineaagreat", sum := "4b428ab18f15d02aac6e20e879416fb9510ce5b516074d4b8c28ae24ca51a274", checked := Tryz.checked }
namespace Rows
def none {H : Type} : Left H := { results := [], args := [] }

/-- 'moidorelaw46.MempoolBetter': WHATEVER THE INPUT: true; the input reads as it did. -/
def mempoolBetterSpec : ChangeSpec := { name := "mempoolBetter", fn := fun _ => fun
  | [d1, d2, d3] => { results := [.lit (.bool true)], args := [d1, d2, d3] }
  | _ => none }
def mempoolBetterRow : OpenClaim := { program := "ytpllcoldaiineaagreat", sum := "4b428ab18f15d02aac6e20e879416fb9510ce5b516074d4b8c28ae24ca51a274", func := "moidore/moidorelaw46.MempoolBetter", spec := "mempoolBetter", inPlace := ["math/bits.Add64"], unfollowed := true, recurses := true, named := ["math/bits.divideError", "math/bits.overflowError"], apart := false }
def MempoolBetterSaid : Prop := mempoolBetterRow.holds Tryz.pinned (OpenSpec.ofChange mempoolBetterSpec)

/-- ITS FALSE NEIGHBOUR: 'it returns false'. Refute it at one input. -/
def mempoolBetterWrong : ChangeSpec := { name := "mempoolBetter", fn := fun _ => fun
  | [d1, d2, d3] => { results := [.lit (.bool false)], args := [d1, d2, d3] }
  | _ => none }
def MempoolBetterWrongFalsely : Prop := mempoolBetterRow.holds Tryz.pinned (OpenSpec.ofChange mempoolBetterWrong)

/-- 'moidorelaw46.MempoolOrder': WHATEVER THE INPUT: true; the input reads as it did. -/
def mempoolOrderSpec : ChangeSpec := { name := "mempoolOrder", fn := fun _ => fun
  | [d1, d2] => { results := [.lit (.bool true)], args := [d1, d2] }
  | _ => none }
def mempoolOrderRow : OpenClaim := { program := "ytpllcoldaiineaagreat", sum := "4b428ab18f15d02aac6e20e879416fb9510ce5b516074d4b8c28ae24ca51a274", func := "moidore/moidorelaw46.MempoolOrder", spec := "mempoolOrder", inPlace := ["math/bits.Add64"], unfollowed := true, recurses := true, named := ["math/bits.divideError", "math/bits.overflowError"], apart := false }
def MempoolOrderSaid : Prop := mempoolOrderRow.holds Tryz.pinned (OpenSpec.ofChange mempoolOrderSpec)

/-- ITS FALSE NEIGHBOUR: 'it returns false'. Refute it at one input. -/
def mempoolOrderWrong : ChangeSpec := { name := "mempoolOrder", fn := fun _ => fun
  | [d1, d2] => { results := [.lit (.bool false)], args := [d1, d2] }
  | _ => none }
def MempoolOrderWrongFalsely : Prop := mempoolOrderRow.holds Tryz.pinned (OpenSpec.ofChange mempoolOrderWrong)

/-- 'moidorelaw46.MempoolMatchesModel': WHATEVER THE INPUT: true; the input reads as it did. -/
def mempoolMatchesModelSpec : ChangeSpec := { name := "mempoolMatchesModel", fn := fun _ => fun
  | [d1, d2] => { results := [.lit (.bool true)], args := [d1, d2] }
  | _ => none }
def mempoolMatchesModelRow : OpenClaim := { program := "ytpllcoldaiineaagreat", sum := "4b428ab18f15d02aac6e20e879416fb9510ce5b516074d4b8c28ae24ca51a274", func := "moidore/moidorelaw46.MempoolMatchesModel", spec := "mempoolMatchesModel", inPlace := ["math/bits.Add64"], unfollowed := true, recurses := true, named := ["math/bits.divideError", "math/bits.overflowError"], apart := false }
def MempoolMatchesModelSaid : Prop := mempoolMatchesModelRow.holds Tryz.pinned (OpenSpec.ofChange mempoolMatchesModelSpec)

/-- ITS FALSE NEIGHBOUR: 'it returns false'. Refute it at one input. -/
def mempoolMatchesModelWrong : ChangeSpec := { name := "mempoolMatchesModel", fn := fun _ => fun
  | [d1, d2] => { results := [.lit (.bool false)], args := [d1, d2] }
  | _ => none }
def MempoolMatchesModelWrongFalsely : Prop := mempoolMatchesModelRow.holds Tryz.pinned (OpenSpec.ofChange mempoolMatchesModelWrong)

/-- 'moidorelaw46.MempoolConflicts': WHATEVER THE INPUT: true; the input reads as it did. -/
def mempoolConflictsSpec : ChangeSpec := { name := "mempoolConflicts", fn := fun _ => fun
  | [d1, d2, d3] => { results := [.lit (.bool true)], args := [d1, d2, d3] }
  | _ => none }
def mempoolConflictsRow : OpenClaim := { program := "ytpllcoldaiineaagreat", sum := "4b428ab18f15d02aac6e20e879416fb9510ce5b516074d4b8c28ae24ca51a274", func := "moidore/moidorelaw46.MempoolConflicts", spec := "mempoolConflicts", inPlace := ["math/bits.Add64"], unfollowed := true, recurses := true, named := ["math/bits.divideError", "math/bits.overflowError"], apart := false }
def MempoolConflictsSaid : Prop := mempoolConflictsRow.holds Tryz.pinned (OpenSpec.ofChange mempoolConflictsSpec)

/-- ITS FALSE NEIGHBOUR: 'it returns false'. Refute it at one input. -/
def mempoolConflictsWrong : ChangeSpec := { name := "mempoolConflicts", fn := fun _ => fun
  | [d1, d2, d3] => { results := [.lit (.bool false)], args := [d1, d2, d3] }
  | _ => none }
def MempoolConflictsWrongFalsely : Prop := mempoolConflictsRow.holds Tryz.pinned (OpenSpec.ofChange mempoolConflictsWrong)

/-- 'moidorelaw46.MempoolSound': WHATEVER THE INPUT: true; the input reads as it did. -/
def mempoolSoundSpec : ChangeSpec := { name := "mempoolSound", fn := fun _ => fun
  | [d1, d2] => { results := [.lit (.bool true)], args := [d1, d2] }
  | _ => none }
def mempoolSoundRow : OpenClaim := { program := "ytpllcoldaiineaagreat", sum := "4b428ab18f15d02aac6e20e879416fb9510ce5b516074d4b8c28ae24ca51a274", func := "moidore/moidorelaw46.MempoolSound", spec := "mempoolSound", inPlace := ["math/bits.Add64"], unfollowed := true, recurses := true, named := ["math/bits.divideError", "math/bits.overflowError"], apart := false }
def MempoolSoundSaid : Prop := mempoolSoundRow.holds Tryz.pinned (OpenSpec.ofChange mempoolSoundSpec)

/-- ITS FALSE NEIGHBOUR: 'it returns false'. Refute it at one input. -/
def mempoolSoundWrong : ChangeSpec := { name := "mempoolSound", fn := fun _ => fun
  | [d1, d2] => { results := [.lit (.bool false)], args := [d1, d2] }
  | _ => none }
def MempoolSoundWrongFalsely : Prop := mempoolSoundRow.holds Tryz.pinned (OpenSpec.ofChange mempoolSoundWrong)

/-- 'moidorelaw46.MempoolDisplaces': WHATEVER THE INPUT: true; the input reads as it did. -/
def mempoolDisplacesSpec : ChangeSpec := { name := "mempoolDisplaces", fn := fun _ => fun
  | [d1, d2, d3] => { results := [.lit (.bool true)], args := [d1, d2, d3] }
  | _ => none }
def mempoolDisplacesRow : OpenClaim := { program := "ytpllcoldaiineaagreat", sum := "4b428ab18f15d02aac6e20e879416fb9510ce5b516074d4b8c28ae24ca51a274", func := "moidore/moidorelaw46.MempoolDisplaces", spec := "mempoolDisplaces", inPlace := ["math/bits.Add64"], unfollowed := true, recurses := true, named := ["math/bits.divideError", "math/bits.overflowError"], apart := false }
def MempoolDisplacesSaid : Prop := mempoolDisplacesRow.holds Tryz.pinned (OpenSpec.ofChange mempoolDisplacesSpec)

/-- ITS FALSE NEIGHBOUR: 'it returns false'. Refute it at one input. -/
def mempoolDisplacesWrong : ChangeSpec := { name := "mempoolDisplaces", fn := fun _ => fun
  | [d1, d2, d3] => { results := [.lit (.bool false)], args := [d1, d2, d3] }
  | _ => none }
def MempoolDisplacesWrongFalsely : Prop := mempoolDisplacesRow.holds Tryz.pinned (OpenSpec.ofChange mempoolDisplacesWrong)

/-- 'moidorelaw46.MempoolIsolated': WHATEVER THE INPUT: true; the input reads as it did. -/
def mempoolIsolatedSpec : ChangeSpec := { name := "mempoolIsolated", fn := fun _ => fun
  | [d1, d2, d3] => { results := [.lit (.bool true)], args := [d1, d2, d3] }
  | _ => none }
def mempoolIsolatedRow : OpenClaim := { program := "ytpllcoldaiineaagreat", sum := "4b428ab18f15d02aac6e20e879416fb9510ce5b516074d4b8c28ae24ca51a274", func := "moidore/moidorelaw46.MempoolIsolated", spec := "mempoolIsolated", inPlace := ["math/bits.Add64"], unfollowed := true, recurses := true, named := ["math/bits.divideError", "math/bits.overflowError"], apart := false }
def MempoolIsolatedSaid : Prop := mempoolIsolatedRow.holds Tryz.pinned (OpenSpec.ofChange mempoolIsolatedSpec)

/-- ITS FALSE NEIGHBOUR: 'it returns false'. Refute it at one input. -/
def mempoolIsolatedWrong : ChangeSpec := { name := "mempoolIsolated", fn := fun _ => fun
  | [d1, d2, d3] => { results := [.lit (.bool false)], args := [d1, d2, d3] }
  | _ => none }
def MempoolIsolatedWrongFalsely : Prop := mempoolIsolatedRow.holds Tryz.pinned (OpenSpec.ofChange mempoolIsolatedWrong)

/- THE SECOND FORM. 'bulk': how many values and letters a reading holds, each counted each time it is reached (what is shared counts as often as it is met; a slice's spare places count too). A statement '..UptoSaid' is the law's where the arguments, and the package variables that the reading takes, are together of bulk at most 1048576: NARROWER than '..Said'. Prove '..Said' where nothing that the law and all that it calls make is longer than what came in: it says more and counts as full. Else prove '..UptoSaid'. A law counts once. -/
mutual
def uptoBulk {H : Type} : DataW H → Nat
  | .lit (.string bytes) => bytes.length + 1
  | .lit _ => 1
  | .nil => 1
  | .ptr d => uptoBulk d + 1
  | .slice elems spare => uptoBulkAll elems + uptoBulkAll spare + 1
  | .agg parts => uptoBulkAll parts + 1
  | .iface _ d => uptoBulk d + 1
  | .map entries => uptoBulkEntries entries + 1
  | .held _ => 1
def uptoBulkAll {H : Type} : List (DataW H) → Nat
  | [] => 0
  | d :: r => uptoBulk d + uptoBulkAll r
def uptoBulkEntries {H : Type} : List (Lit × DataW H) → Nat
  | [] => 0
  | x :: r => uptoBulkEntry x + uptoBulkEntries r
def uptoBulkEntry {H : Type} : Lit × DataW H → Nat
  | (.string bytes, d) => bytes.length + uptoBulk d + 1
  | (_, d) => uptoBulk d + 1
 end
def uptoSmall : (H : Type) → List (DataW H) → Bool := fun _ ds => decide (uptoBulkAll ds ≤ 1048576)
def OpenSpec.upto (s : _root_.Go.ChangeSpec) : _root_.Go.OpenSpec := { _root_.Go.OpenSpec.ofChange s with cond := some uptoSmall }

/-- 'moidorelaw46.MempoolBetter', WHERE WHAT IT READS IS OF BULK AT MOST 1048576: true; the input reads as it did. -/
def mempoolBetterUptoRow : OpenClaim := { program := "ytpllcoldaiineaagreat", sum := "4b428ab18f15d02aac6e20e879416fb9510ce5b516074d4b8c28ae24ca51a274", func := "moidore/moidorelaw46.MempoolBetter", spec := "mempoolBetter", inPlace := ["math/bits.Add64"], unfollowed := true, recurses := true, named := ["math/bits.divideError", "math/bits.overflowError"], apart := false, narrowed := true }
def MempoolBetterUptoSaid : Prop := mempoolBetterUptoRow.holds Tryz.pinned (OpenSpec.upto mempoolBetterSpec)

/-- 'moidorelaw46.MempoolOrder', WHERE WHAT IT READS IS OF BULK AT MOST 1048576: true; the input reads as it did. -/
def mempoolOrderUptoRow : OpenClaim := { program := "ytpllcoldaiineaagreat", sum := "4b428ab18f15d02aac6e20e879416fb9510ce5b516074d4b8c28ae24ca51a274", func := "moidore/moidorelaw46.MempoolOrder", spec := "mempoolOrder", inPlace := ["math/bits.Add64"], unfollowed := true, recurses := true, named := ["math/bits.divideError", "math/bits.overflowError"], apart := false, narrowed := true }
def MempoolOrderUptoSaid : Prop := mempoolOrderUptoRow.holds Tryz.pinned (OpenSpec.upto mempoolOrderSpec)

/-- 'moidorelaw46.MempoolMatchesModel', WHERE WHAT IT READS IS OF BULK AT MOST 1048576: true; the input reads as it did. -/
def mempoolMatchesModelUptoRow : OpenClaim := { program := "ytpllcoldaiineaagreat", sum := "4b428ab18f15d02aac6e20e879416fb9510ce5b516074d4b8c28ae24ca51a274", func := "moidore/moidorelaw46.MempoolMatchesModel", spec := "mempoolMatchesModel", inPlace := ["math/bits.Add64"], unfollowed := true, recurses := true, named := ["math/bits.divideError", "math/bits.overflowError"], apart := false, narrowed := true }
def MempoolMatchesModelUptoSaid : Prop := mempoolMatchesModelUptoRow.holds Tryz.pinned (OpenSpec.upto mempoolMatchesModelSpec)

/-- 'moidorelaw46.MempoolConflicts', WHERE WHAT IT READS IS OF BULK AT MOST 1048576: true; the input reads as it did. -/
def mempoolConflictsUptoRow : OpenClaim := { program := "ytpllcoldaiineaagreat", sum := "4b428ab18f15d02aac6e20e879416fb9510ce5b516074d4b8c28ae24ca51a274", func := "moidore/moidorelaw46.MempoolConflicts", spec := "mempoolConflicts", inPlace := ["math/bits.Add64"], unfollowed := true, recurses := true, named := ["math/bits.divideError", "math/bits.overflowError"], apart := false, narrowed := true }
def MempoolConflictsUptoSaid : Prop := mempoolConflictsUptoRow.holds Tryz.pinned (OpenSpec.upto mempoolConflictsSpec)

/-- 'moidorelaw46.MempoolSound', WHERE WHAT IT READS IS OF BULK AT MOST 1048576: true; the input reads as it did. -/
def mempoolSoundUptoRow : OpenClaim := { program := "ytpllcoldaiineaagreat", sum := "4b428ab18f15d02aac6e20e879416fb9510ce5b516074d4b8c28ae24ca51a274", func := "moidore/moidorelaw46.MempoolSound", spec := "mempoolSound", inPlace := ["math/bits.Add64"], unfollowed := true, recurses := true, named := ["math/bits.divideError", "math/bits.overflowError"], apart := false, narrowed := true }
def MempoolSoundUptoSaid : Prop := mempoolSoundUptoRow.holds Tryz.pinned (OpenSpec.upto mempoolSoundSpec)

/-- 'moidorelaw46.MempoolDisplaces', WHERE WHAT IT READS IS OF BULK AT MOST 1048576: true; the input reads as it did. -/
def mempoolDisplacesUptoRow : OpenClaim := { program := "ytpllcoldaiineaagreat", sum := "4b428ab18f15d02aac6e20e879416fb9510ce5b516074d4b8c28ae24ca51a274", func := "moidore/moidorelaw46.MempoolDisplaces", spec := "mempoolDisplaces", inPlace := ["math/bits.Add64"], unfollowed := true, recurses := true, named := ["math/bits.divideError", "math/bits.overflowError"], apart := false, narrowed := true }
def MempoolDisplacesUptoSaid : Prop := mempoolDisplacesUptoRow.holds Tryz.pinned (OpenSpec.upto mempoolDisplacesSpec)

/-- 'moidorelaw46.MempoolIsolated', WHERE WHAT IT READS IS OF BULK AT MOST 1048576: true; the input reads as it did. -/
def mempoolIsolatedUptoRow : OpenClaim := { program := "ytpllcoldaiineaagreat", sum := "4b428ab18f15d02aac6e20e879416fb9510ce5b516074d4b8c28ae24ca51a274", func := "moidore/moidorelaw46.MempoolIsolated", spec := "mempoolIsolated", inPlace := ["math/bits.Add64"], unfollowed := true, recurses := true, named := ["math/bits.divideError", "math/bits.overflowError"], apart := false, narrowed := true }
def MempoolIsolatedUptoSaid : Prop := mempoolIsolatedUptoRow.holds Tryz.pinned (OpenSpec.upto mempoolIsolatedSpec)

end Rows
end Go.Proofs.YtpllcoldaiineaaGreat
