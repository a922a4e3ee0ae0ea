/-
  No cell of these rows narrows 'for every input' (looked for: loops, veiled, ifaces, maps, wideKeys, modest, calm, conditions, laid).
  DERIVED. THE GIVEN ROWS OF THIS SEAT. 8 by the template 'for every input the law returns true; each argument reads behind the call as it read before'; 0 by the template 'total and deterministic' (their statements: YtlfcebhnjkcmnaaGreatTotals.lean).
  GIVEN WITH THE SEED: the statements are not yours to turn. If you find one false, say at which input.
  Laid BY PROGRAM, IN A SANDBOX (cutbox-rows.mjs): the forced cells as the released guide's own fill.sh prints them over the translation 2d0daa7315908723… (all of the seat's roots in one cut). By AI agents, Wed Nov 11 2026. No macro, syntax, notation, axiom, sorry.
-/
import Derived.Test.YtlfcebhnjkcmnaaGreatChecked
import GoSem.Claim
import GoSem.ClaimJoined
import GoSem.ClaimMapViews
import Derived.JoinedTies
import Derived.KernelRfl
namespace Go.Proofs.YtlfcebhnjkcmnaaGreat
/- THE CELL 'sum', in the pinned program and in every row, IS THE sha256 OF THE DUMP (.gsa) THAT YtlfcebhnjkcmnaaGreatProg.lean LOADS. Nothing in Lean hashes anything: it is a label: what it is worth is what the hold of that sum in a sandbox is worth. -/
noncomputable def Tryz.pinned : Pinned := { name := "ytlfcebhnjkcmnaagreat", sum := "2d0daa7315908723485ffc20970606dee0bf9f84c55a3b728b662aafc466fa6a", checked := Tryz.checked }
namespace Rows
def none {H : Type} : Left H := { results := [], args := [] }

/-- 'moidorelaw45.PoolSupply': WHATEVER THE INPUT: true; the input reads as it did. -/
def poolSupplySpec : ChangeSpec := { name := "poolSupply", fn := fun _ => fun
  | [d1, d2] => { results := [.lit (.bool true)], args := [d1, d2] }
  | _ => none }
def poolSupplyRow : OpenClaim := { program := "ytlfcebhnjkcmnaagreat", sum := "2d0daa7315908723485ffc20970606dee0bf9f84c55a3b728b662aafc466fa6a", func := "moidore/moidorelaw45.PoolSupply", spec := "poolSupply", inPlace := ["math/bits.Add64"], unfollowed := true, recurses := true, named := ["math/bits.divideError", "math/bits.overflowError"], apart := false }
def PoolSupplySaid : Prop := poolSupplyRow.holds Tryz.pinned (OpenSpec.ofChange poolSupplySpec)

/-- ITS FALSE NEIGHBOUR: 'it returns false'. Refute it at one input. -/
def poolSupplyWrong : ChangeSpec := { name := "poolSupply", fn := fun _ => fun
  | [d1, d2] => { results := [.lit (.bool false)], args := [d1, d2] }
  | _ => none }
def PoolSupplyWrongFalsely : Prop := poolSupplyRow.holds Tryz.pinned (OpenSpec.ofChange poolSupplyWrong)

/-- 'moidorelaw45.PoolMarks': WHATEVER THE INPUT: true; the input reads as it did. -/
def poolMarksSpec : ChangeSpec := { name := "poolMarks", fn := fun _ => fun
  | [d1, d2, d3] => { results := [.lit (.bool true)], args := [d1, d2, d3] }
  | _ => none }
def poolMarksRow : OpenClaim := { program := "ytlfcebhnjkcmnaagreat", sum := "2d0daa7315908723485ffc20970606dee0bf9f84c55a3b728b662aafc466fa6a", func := "moidore/moidorelaw45.PoolMarks", spec := "poolMarks", inPlace := ["math/bits.Add64"], unfollowed := true, recurses := true, named := ["math/bits.divideError", "math/bits.overflowError"], apart := false }
def PoolMarksSaid : Prop := poolMarksRow.holds Tryz.pinned (OpenSpec.ofChange poolMarksSpec)

/-- ITS FALSE NEIGHBOUR: 'it returns false'. Refute it at one input. -/
def poolMarksWrong : ChangeSpec := { name := "poolMarks", fn := fun _ => fun
  | [d1, d2, d3] => { results := [.lit (.bool false)], args := [d1, d2, d3] }
  | _ => none }
def PoolMarksWrongFalsely : Prop := poolMarksRow.holds Tryz.pinned (OpenSpec.ofChange poolMarksWrong)

/-- 'moidorelaw45.PoolMatchesModel': WHATEVER THE INPUT: true; the input reads as it did. -/
def poolMatchesModelSpec : ChangeSpec := { name := "poolMatchesModel", fn := fun _ => fun
  | [d1, d2] => { results := [.lit (.bool true)], args := [d1, d2] }
  | _ => none }
def poolMatchesModelRow : OpenClaim := { program := "ytlfcebhnjkcmnaagreat", sum := "2d0daa7315908723485ffc20970606dee0bf9f84c55a3b728b662aafc466fa6a", func := "moidore/moidorelaw45.PoolMatchesModel", spec := "poolMatchesModel", inPlace := ["math/bits.Add64"], unfollowed := true, recurses := true, named := ["math/bits.divideError", "math/bits.overflowError"], apart := false }
def PoolMatchesModelSaid : Prop := poolMatchesModelRow.holds Tryz.pinned (OpenSpec.ofChange poolMatchesModelSpec)

/-- ITS FALSE NEIGHBOUR: 'it returns false'. Refute it at one input. -/
def poolMatchesModelWrong : ChangeSpec := { name := "poolMatchesModel", fn := fun _ => fun
  | [d1, d2] => { results := [.lit (.bool false)], args := [d1, d2] }
  | _ => none }
def PoolMatchesModelWrongFalsely : Prop := poolMatchesModelRow.holds Tryz.pinned (OpenSpec.ofChange poolMatchesModelWrong)

/-- 'moidorelaw45.PoolCheck': WHATEVER THE INPUT: true; the input reads as it did. -/
def poolCheckSpec : ChangeSpec := { name := "poolCheck", fn := fun _ => fun
  | [d1, d2, d3] => { results := [.lit (.bool true)], args := [d1, d2, d3] }
  | _ => none }
def poolCheckRow : OpenClaim := { program := "ytlfcebhnjkcmnaagreat", sum := "2d0daa7315908723485ffc20970606dee0bf9f84c55a3b728b662aafc466fa6a", func := "moidore/moidorelaw45.PoolCheck", spec := "poolCheck", inPlace := ["math/bits.Add64"], unfollowed := true, recurses := true, named := ["math/bits.divideError", "math/bits.overflowError"], apart := false }
def PoolCheckSaid : Prop := poolCheckRow.holds Tryz.pinned (OpenSpec.ofChange poolCheckSpec)

/-- ITS FALSE NEIGHBOUR: 'it returns false'. Refute it at one input. -/
def poolCheckWrong : ChangeSpec := { name := "poolCheck", fn := fun _ => fun
  | [d1, d2, d3] => { results := [.lit (.bool false)], args := [d1, d2, d3] }
  | _ => none }
def PoolCheckWrongFalsely : Prop := poolCheckRow.holds Tryz.pinned (OpenSpec.ofChange poolCheckWrong)

/-- 'moidorelaw45.PoolNew': WHATEVER THE INPUT: true; the input reads as it did. -/
def poolNewSpec : ChangeSpec := { name := "poolNew", fn := fun _ => fun
  | [d] => { results := [.lit (.bool true)], args := [d] }
  | _ => none }
def poolNewRow : OpenClaim := { program := "ytlfcebhnjkcmnaagreat", sum := "2d0daa7315908723485ffc20970606dee0bf9f84c55a3b728b662aafc466fa6a", func := "moidore/moidorelaw45.PoolNew", spec := "poolNew", inPlace := ["math/bits.Add64"], unfollowed := true, recurses := true, named := ["math/bits.divideError", "math/bits.overflowError"], apart := false }
def PoolNewSaid : Prop := poolNewRow.holds Tryz.pinned (OpenSpec.ofChange poolNewSpec)

/-- ITS FALSE NEIGHBOUR: 'it returns false'. Refute it at one input. -/
def poolNewWrong : ChangeSpec := { name := "poolNew", fn := fun _ => fun
  | [d] => { results := [.lit (.bool false)], args := [d] }
  | _ => none }
def PoolNewWrongFalsely : Prop := poolNewRow.holds Tryz.pinned (OpenSpec.ofChange poolNewWrong)

/-- 'moidorelaw45.PoolUndoAll': WHATEVER THE INPUT: true; the input reads as it did. -/
def poolUndoAllSpec : ChangeSpec := { name := "poolUndoAll", fn := fun _ => fun
  | [d1, d2] => { results := [.lit (.bool true)], args := [d1, d2] }
  | _ => none }
def poolUndoAllRow : OpenClaim := { program := "ytlfcebhnjkcmnaagreat", sum := "2d0daa7315908723485ffc20970606dee0bf9f84c55a3b728b662aafc466fa6a", func := "moidore/moidorelaw45.PoolUndoAll", spec := "poolUndoAll", inPlace := ["math/bits.Add64"], unfollowed := true, recurses := true, named := ["math/bits.divideError", "math/bits.overflowError"], apart := false }
def PoolUndoAllSaid : Prop := poolUndoAllRow.holds Tryz.pinned (OpenSpec.ofChange poolUndoAllSpec)

/-- ITS FALSE NEIGHBOUR: 'it returns false'. Refute it at one input. -/
def poolUndoAllWrong : ChangeSpec := { name := "poolUndoAll", fn := fun _ => fun
  | [d1, d2] => { results := [.lit (.bool false)], args := [d1, d2] }
  | _ => none }
def PoolUndoAllWrongFalsely : Prop := poolUndoAllRow.holds Tryz.pinned (OpenSpec.ofChange poolUndoAllWrong)

/-- 'moidorelaw45.PoolEncode': WHATEVER THE INPUT: true; the input reads as it did. -/
def poolEncodeSpec : ChangeSpec := { name := "poolEncode", fn := fun _ => fun
  | [d1, d2] => { results := [.lit (.bool true)], args := [d1, d2] }
  | _ => none }
def poolEncodeRow : OpenClaim := { program := "ytlfcebhnjkcmnaagreat", sum := "2d0daa7315908723485ffc20970606dee0bf9f84c55a3b728b662aafc466fa6a", func := "moidore/moidorelaw45.PoolEncode", spec := "poolEncode", inPlace := ["math/bits.Add64"], unfollowed := true, recurses := true, named := ["math/bits.divideError", "math/bits.overflowError"], apart := false }
def PoolEncodeSaid : Prop := poolEncodeRow.holds Tryz.pinned (OpenSpec.ofChange poolEncodeSpec)

/-- ITS FALSE NEIGHBOUR: 'it returns false'. Refute it at one input. -/
def poolEncodeWrong : ChangeSpec := { name := "poolEncode", fn := fun _ => fun
  | [d1, d2] => { results := [.lit (.bool false)], args := [d1, d2] }
  | _ => none }
def PoolEncodeWrongFalsely : Prop := poolEncodeRow.holds Tryz.pinned (OpenSpec.ofChange poolEncodeWrong)

/-- 'moidorelaw45.PoolUndo': WHATEVER THE INPUT: true; the input reads as it did. -/
def poolUndoSpec : ChangeSpec := { name := "poolUndo", fn := fun _ => fun
  | [d1, d2, d3] => { results := [.lit (.bool true)], args := [d1, d2, d3] }
  | _ => none }
def poolUndoRow : OpenClaim := { program := "ytlfcebhnjkcmnaagreat", sum := "2d0daa7315908723485ffc20970606dee0bf9f84c55a3b728b662aafc466fa6a", func := "moidore/moidorelaw45.PoolUndo", spec := "poolUndo", inPlace := ["math/bits.Add64"], unfollowed := true, recurses := true, named := ["math/bits.divideError", "math/bits.overflowError"], apart := false }
def PoolUndoSaid : Prop := poolUndoRow.holds Tryz.pinned (OpenSpec.ofChange poolUndoSpec)

/-- ITS FALSE NEIGHBOUR: 'it returns false'. Refute it at one input. -/
def poolUndoWrong : ChangeSpec := { name := "poolUndo", fn := fun _ => fun
  | [d1, d2, d3] => { results := [.lit (.bool false)], args := [d1, d2, d3] }
  | _ => none }
def PoolUndoWrongFalsely : Prop := poolUndoRow.holds Tryz.pinned (OpenSpec.ofChange poolUndoWrong)

/- THE SECOND FORM. 'bulk': how many values and letters a reading holds, each counted each time it is reached (what is shared counts as often as it is met; a slice's spare places count too). A statement '..UptoSaid' is the law's where the arguments, and the package variables that the reading takes, are together of bulk at most 1048576: NARROWER than '..Said'. Prove '..Said' where nothing that the law and all that it calls make is longer than what came in: it says more and counts as full. Else prove '..UptoSaid'. A law counts once. -/
mutual
def uptoBulk {H : Type} : DataW H → Nat
  | .lit (.string bytes) => bytes.length + 1
  | .lit _ => 1
  | .nil => 1
  | .ptr d => uptoBulk d + 1
  | .slice elems spare => uptoBulkAll elems + uptoBulkAll spare + 1
  | .agg parts => uptoBulkAll parts + 1
  | .iface _ d => uptoBulk d + 1
  | .map entries => uptoBulkEntries entries + 1
  | .held _ => 1
def uptoBulkAll {H : Type} : List (DataW H) → Nat
  | [] => 0
  | d :: r => uptoBulk d + uptoBulkAll r
def uptoBulkEntries {H : Type} : List (Lit × DataW H) → Nat
  | [] => 0
  | x :: r => uptoBulkEntry x + uptoBulkEntries r
def uptoBulkEntry {H : Type} : Lit × DataW H → Nat
  | (.string bytes, d) => bytes.length + uptoBulk d + 1
  | (_, d) => uptoBulk d + 1
 end
def uptoSmall : (H : Type) → List (DataW H) → Bool := fun _ ds => decide (uptoBulkAll ds ≤ 1048576)
def OpenSpec.upto (s : _root_.Go.ChangeSpec) : _root_.Go.OpenSpec := { _root_.Go.OpenSpec.ofChange s with cond := some uptoSmall }

/-- 'moidorelaw45.PoolSupply', WHERE WHAT IT READS IS OF BULK AT MOST 1048576: true; the input reads as it did. -/
def poolSupplyUptoRow : OpenClaim := { program := "ytlfcebhnjkcmnaagreat", sum := "2d0daa7315908723485ffc20970606dee0bf9f84c55a3b728b662aafc466fa6a", func := "moidore/moidorelaw45.PoolSupply", spec := "poolSupply", inPlace := ["math/bits.Add64"], unfollowed := true, recurses := true, named := ["math/bits.divideError", "math/bits.overflowError"], apart := false, narrowed := true }
def PoolSupplyUptoSaid : Prop := poolSupplyUptoRow.holds Tryz.pinned (OpenSpec.upto poolSupplySpec)

/-- 'moidorelaw45.PoolMarks', WHERE WHAT IT READS IS OF BULK AT MOST 1048576: true; the input reads as it did. -/
def poolMarksUptoRow : OpenClaim := { program := "ytlfcebhnjkcmnaagreat", sum := "2d0daa7315908723485ffc20970606dee0bf9f84c55a3b728b662aafc466fa6a", func := "moidore/moidorelaw45.PoolMarks", spec := "poolMarks", inPlace := ["math/bits.Add64"], unfollowed := true, recurses := true, named := ["math/bits.divideError", "math/bits.overflowError"], apart := false, narrowed := true }
def PoolMarksUptoSaid : Prop := poolMarksUptoRow.holds Tryz.pinned (OpenSpec.upto poolMarksSpec)

/-- 'moidorelaw45.PoolMatchesModel', WHERE WHAT IT READS IS OF BULK AT MOST 1048576: true; the input reads as it did. -/
def poolMatchesModelUptoRow : OpenClaim := { program := "ytlfcebhnjkcmnaagreat", sum := "2d0daa7315908723485ffc20970606dee0bf9f84c55a3b728b662aafc466fa6a", func := "moidore/moidorelaw45.PoolMatchesModel", spec := "poolMatchesModel", inPlace := ["math/bits.Add64"], unfollowed := true, recurses := true, named := ["math/bits.divideError", "math/bits.overflowError"], apart := false, narrowed := true }
def PoolMatchesModelUptoSaid : Prop := poolMatchesModelUptoRow.holds Tryz.pinned (OpenSpec.upto poolMatchesModelSpec)

/-- 'moidorelaw45.PoolCheck', WHERE WHAT IT READS IS OF BULK AT MOST 1048576: true; the input reads as it did. -/
def poolCheckUptoRow : OpenClaim := { program := "ytlfcebhnjkcmnaagreat", sum := "2d0daa7315908723485ffc20970606dee0bf9f84c55a3b728b662aafc466fa6a", func := "moidore/moidorelaw45.PoolCheck", spec := "poolCheck", inPlace := ["math/bits.Add64"], unfollowed := true, recurses := true, named := ["math/bits.divideError", "math/bits.overflowError"], apart := false, narrowed := true }
def PoolCheckUptoSaid : Prop := poolCheckUptoRow.holds Tryz.pinned (OpenSpec.upto poolCheckSpec)

/-- 'moidorelaw45.PoolNew', WHERE WHAT IT READS IS OF BULK AT MOST 1048576: true; the input reads as it did. -/
def poolNewUptoRow : OpenClaim := { program := "ytlfcebhnjkcmnaagreat", sum := "2d0daa7315908723485ffc20970606dee0bf9f84c55a3b728b662aafc466fa6a", func := "moidore/moidorelaw45.PoolNew", spec := "poolNew", inPlace := ["math/bits.Add64"], unfollowed := true, recurses := true, named := ["math/bits.divideError", "math/bits.overflowError"], apart := false, narrowed := true }
def PoolNewUptoSaid : Prop := poolNewUptoRow.holds Tryz.pinned (OpenSpec.upto poolNewSpec)

/-- 'moidorelaw45.PoolUndoAll', WHERE WHAT IT READS IS OF BULK AT MOST 1048576: true; the input reads as it did. -/
def poolUndoAllUptoRow : OpenClaim := { program := "ytlfcebhnjkcmnaagreat", sum := "2d0daa7315908723485ffc20970606dee0bf9f84c55a3b728b662aafc466fa6a", func := "moidore/moidorelaw45.PoolUndoAll", spec := "poolUndoAll", inPlace := ["math/bits.Add64"], unfollowed := true, recurses := true, named := ["math/bits.divideError", "math/bits.overflowError"], apart := false, narrowed := true }
def PoolUndoAllUptoSaid : Prop := poolUndoAllUptoRow.holds Tryz.pinned (OpenSpec.upto poolUndoAllSpec)

/-- 'moidorelaw45.PoolEncode', WHERE WHAT IT READS IS OF BULK AT MOST 1048576: true; the input reads as it did. -/
def poolEncodeUptoRow : OpenClaim := { program := "ytlfcebhnjkcmnaagreat", sum := "2d0daa7315908723485ffc20970606dee0bf9f84c55a3b728b662aafc466fa6a", func := "moidore/moidorelaw45.PoolEncode", spec := "poolEncode", inPlace := ["math/bits.Add64"], unfollowed := true, recurses := true, named := ["math/bits.divideError", "math/bits.overflowError"], apart := false, narrowed := true }
def PoolEncodeUptoSaid : Prop := poolEncodeUptoRow.holds Tryz.pinned (OpenSpec.upto poolEncodeSpec)

/-- 'moidorelaw45.PoolUndo', WHERE WHAT IT READS IS OF BULK AT MOST 1048576: true; the input reads as it did. -/
def poolUndoUptoRow : OpenClaim := { program := "ytlfcebhnjkcmnaagreat", sum := "2d0daa7315908723485ffc20970606dee0bf9f84c55a3b728b662aafc466fa6a", func := "moidore/moidorelaw45.PoolUndo", spec := "poolUndo", inPlace := ["math/bits.Add64"], unfollowed := true, recurses := true, named := ["math/bits.divideError", "math/bits.overflowError"], apart := false, narrowed := true }
def PoolUndoUptoSaid : Prop := poolUndoUptoRow.holds Tryz.pinned (OpenSpec.upto poolUndoSpec)

end Rows
end Go.Proofs.YtlfcebhnjkcmnaaGreat
