/-
  No cell of these rows narrows 'for every input' (looked for: loops, veiled, ifaces, maps, wideKeys, modest, calm, conditions, laid).
  DERIVED. THE GIVEN ROWS OF THIS SEAT. 7 by the template 'for every input the law returns true; each argument reads behind the call as it read before'; 0 by the template 'total and deterministic' (their statements: YtnmakgfmimagmaaTotals.lean).
  GIVEN WITH THE SEED: the statements are not yours to turn. If you find one false, say at which input.
  Laid BY PROGRAM, IN A SANDBOX (cutbox-rows.mjs): the forced cells as the released guide's own fill.sh prints them over the translation 2c5a5ac71a2cc319… (all of the seat's roots in one cut). By AI agents, Wed Nov 11 2026. No macro, syntax, notation, axiom, sorry.
-/
import Derived.Test.YtnmakgfmimagmaaChecked
import GoSem.Claim
import GoSem.ClaimJoined
import GoSem.ClaimMapViews
import Derived.JoinedTies
import Derived.KernelRfl
namespace Go.Proofs.Ytnmakgfmimagmaa
/- THE CELL 'sum', in the pinned program and in every row, IS THE sha256 OF THE DUMP (.gsa) THAT YtnmakgfmimagmaaProg.lean LOADS. Nothing in Lean hashes anything: it is a label: what it is worth is what the hold of that sum in a sandbox is worth. -/
noncomputable def Try.pinned : Pinned := { name := "ytnmakgfmimagmaa", sum := "2c5a5ac71a2cc319e8b212883ac21dbf898d21c5f5bd2ea05be38deff9ab03fb", checked := Try.checked }
namespace Rows
def none {H : Type} : Left H := { results := [], args := [] }

/-- 'moidorelaw47.BlockValid': WHATEVER THE INPUT: true; the input reads as it did. -/
def blockValidSpec : ChangeSpec := { name := "blockValid", fn := fun _ => fun
  | [d] => { results := [.lit (.bool true)], args := [d] }
  | _ => none }
def blockValidRow : OpenClaim := { program := "ytnmakgfmimagmaa", sum := "2c5a5ac71a2cc319e8b212883ac21dbf898d21c5f5bd2ea05be38deff9ab03fb", func := "moidore/moidorelaw47.BlockValid", spec := "blockValid", inPlace := ["math/bits.Add64"], named := ["math/bits.divideError", "math/bits.overflowError"], apart := false }
def BlockValidSaid : Prop := blockValidRow.holds Try.pinned (OpenSpec.ofChange blockValidSpec)

/-- ITS FALSE NEIGHBOUR: 'it returns false'. Refute it at one input. -/
def blockValidWrong : ChangeSpec := { name := "blockValid", fn := fun _ => fun
  | [d] => { results := [.lit (.bool false)], args := [d] }
  | _ => none }
def BlockValidWrongFalsely : Prop := blockValidRow.holds Try.pinned (OpenSpec.ofChange blockValidWrong)

/-- 'moidorelaw47.BlockHeavy': WHATEVER THE INPUT: true; the input reads as it did. -/
def blockHeavySpec : ChangeSpec := { name := "blockHeavy", fn := fun _ => fun
  | [d1, d2, d3] => { results := [.lit (.bool true)], args := [d1, d2, d3] }
  | _ => none }
def blockHeavyRow : OpenClaim := { program := "ytnmakgfmimagmaa", sum := "2c5a5ac71a2cc319e8b212883ac21dbf898d21c5f5bd2ea05be38deff9ab03fb", func := "moidore/moidorelaw47.BlockHeavy", spec := "blockHeavy", inPlace := ["math/bits.Add64"], named := ["math/bits.divideError", "math/bits.overflowError"], apart := false }
def BlockHeavySaid : Prop := blockHeavyRow.holds Try.pinned (OpenSpec.ofChange blockHeavySpec)

/-- ITS FALSE NEIGHBOUR: 'it returns false'. Refute it at one input. -/
def blockHeavyWrong : ChangeSpec := { name := "blockHeavy", fn := fun _ => fun
  | [d1, d2, d3] => { results := [.lit (.bool false)], args := [d1, d2, d3] }
  | _ => none }
def BlockHeavyWrongFalsely : Prop := blockHeavyRow.holds Try.pinned (OpenSpec.ofChange blockHeavyWrong)

/-- 'moidorelaw47.BlockID': WHATEVER THE INPUT: true; the input reads as it did. -/
def blockIDSpec : ChangeSpec := { name := "blockID", fn := fun _ => fun
  | [d] => { results := [.lit (.bool true)], args := [d] }
  | _ => none }
def blockIDRow : OpenClaim := { program := "ytnmakgfmimagmaa", sum := "2c5a5ac71a2cc319e8b212883ac21dbf898d21c5f5bd2ea05be38deff9ab03fb", func := "moidore/moidorelaw47.BlockID", spec := "blockID", inPlace := ["math/bits.Add64"], named := ["math/bits.divideError", "math/bits.overflowError"], apart := false }
def BlockIDSaid : Prop := blockIDRow.holds Try.pinned (OpenSpec.ofChange blockIDSpec)

/-- ITS FALSE NEIGHBOUR: 'it returns false'. Refute it at one input. -/
def blockIDWrong : ChangeSpec := { name := "blockID", fn := fun _ => fun
  | [d] => { results := [.lit (.bool false)], args := [d] }
  | _ => none }
def BlockIDWrongFalsely : Prop := blockIDRow.holds Try.pinned (OpenSpec.ofChange blockIDWrong)

/-- 'moidorelaw47.BlockBinds': WHATEVER THE INPUT: true; the input reads as it did. -/
def blockBindsSpec : ChangeSpec := { name := "blockBinds", fn := fun _ => fun
  | [d1, d2] => { results := [.lit (.bool true)], args := [d1, d2] }
  | _ => none }
def blockBindsRow : OpenClaim := { program := "ytnmakgfmimagmaa", sum := "2c5a5ac71a2cc319e8b212883ac21dbf898d21c5f5bd2ea05be38deff9ab03fb", func := "moidore/moidorelaw47.BlockBinds", spec := "blockBinds", inPlace := ["math/bits.Add64"], named := ["math/bits.divideError", "math/bits.overflowError"], apart := false }
def BlockBindsSaid : Prop := blockBindsRow.holds Try.pinned (OpenSpec.ofChange blockBindsSpec)

/-- ITS FALSE NEIGHBOUR: 'it returns false'. Refute it at one input. -/
def blockBindsWrong : ChangeSpec := { name := "blockBinds", fn := fun _ => fun
  | [d1, d2] => { results := [.lit (.bool false)], args := [d1, d2] }
  | _ => none }
def BlockBindsWrongFalsely : Prop := blockBindsRow.holds Try.pinned (OpenSpec.ofChange blockBindsWrong)

/-- 'moidorelaw47.BlockMine': WHATEVER THE INPUT: true; the input reads as it did. -/
def blockMineSpec : ChangeSpec := { name := "blockMine", fn := fun _ => fun
  | [d1, d2] => { results := [.lit (.bool true)], args := [d1, d2] }
  | _ => none }
def blockMineRow : OpenClaim := { program := "ytnmakgfmimagmaa", sum := "2c5a5ac71a2cc319e8b212883ac21dbf898d21c5f5bd2ea05be38deff9ab03fb", func := "moidore/moidorelaw47.BlockMine", spec := "blockMine", inPlace := ["math/bits.Add64"], named := ["math/bits.divideError", "math/bits.overflowError"], apart := false }
def BlockMineSaid : Prop := blockMineRow.holds Try.pinned (OpenSpec.ofChange blockMineSpec)

/-- ITS FALSE NEIGHBOUR: 'it returns false'. Refute it at one input. -/
def blockMineWrong : ChangeSpec := { name := "blockMine", fn := fun _ => fun
  | [d1, d2] => { results := [.lit (.bool false)], args := [d1, d2] }
  | _ => none }
def BlockMineWrongFalsely : Prop := blockMineRow.holds Try.pinned (OpenSpec.ofChange blockMineWrong)

/-- 'moidorelaw47.BlockEncode': WHATEVER THE INPUT: true; the input reads as it did. -/
def blockEncodeSpec : ChangeSpec := { name := "blockEncode", fn := fun _ => fun
  | [d] => { results := [.lit (.bool true)], args := [d] }
  | _ => none }
def blockEncodeRow : OpenClaim := { program := "ytnmakgfmimagmaa", sum := "2c5a5ac71a2cc319e8b212883ac21dbf898d21c5f5bd2ea05be38deff9ab03fb", func := "moidore/moidorelaw47.BlockEncode", spec := "blockEncode", inPlace := ["math/bits.Add64"], named := ["math/bits.divideError", "math/bits.overflowError"], apart := false }
def BlockEncodeSaid : Prop := blockEncodeRow.holds Try.pinned (OpenSpec.ofChange blockEncodeSpec)

/-- ITS FALSE NEIGHBOUR: 'it returns false'. Refute it at one input. -/
def blockEncodeWrong : ChangeSpec := { name := "blockEncode", fn := fun _ => fun
  | [d] => { results := [.lit (.bool false)], args := [d] }
  | _ => none }
def BlockEncodeWrongFalsely : Prop := blockEncodeRow.holds Try.pinned (OpenSpec.ofChange blockEncodeWrong)

/-- 'moidorelaw47.BlockDecode': WHATEVER THE INPUT: true; the input reads as it did. -/
def blockDecodeSpec : ChangeSpec := { name := "blockDecode", fn := fun _ => fun
  | [d] => { results := [.lit (.bool true)], args := [d] }
  | _ => none }
def blockDecodeRow : OpenClaim := { program := "ytnmakgfmimagmaa", sum := "2c5a5ac71a2cc319e8b212883ac21dbf898d21c5f5bd2ea05be38deff9ab03fb", func := "moidore/moidorelaw47.BlockDecode", spec := "blockDecode", inPlace := ["math/bits.Add64"], named := ["math/bits.divideError", "math/bits.overflowError"], apart := false }
def BlockDecodeSaid : Prop := blockDecodeRow.holds Try.pinned (OpenSpec.ofChange blockDecodeSpec)

/-- ITS FALSE NEIGHBOUR: 'it returns false'. Refute it at one input. -/
def blockDecodeWrong : ChangeSpec := { name := "blockDecode", fn := fun _ => fun
  | [d] => { results := [.lit (.bool false)], args := [d] }
  | _ => none }
def BlockDecodeWrongFalsely : Prop := blockDecodeRow.holds Try.pinned (OpenSpec.ofChange blockDecodeWrong)

/- THE SECOND FORM. 'bulk': how many values and letters a reading holds, each counted each time it is reached (what is shared counts as often as it is met; a slice's spare places count too). A statement '..UptoSaid' is the law's where the arguments, and the package variables that the reading takes, are together of bulk at most 1048576: NARROWER than '..Said'. Prove '..Said' where nothing that the law and all that it calls make is longer than what came in: it says more and counts as full. Else prove '..UptoSaid'. A law counts once. -/
mutual
def uptoBulk {H : Type} : DataW H → Nat
  | .lit (.string bytes) => bytes.length + 1
  | .lit _ => 1
  | .nil => 1
  | .ptr d => uptoBulk d + 1
  | .slice elems spare => uptoBulkAll elems + uptoBulkAll spare + 1
  | .agg parts => uptoBulkAll parts + 1
  | .iface _ d => uptoBulk d + 1
  | .map entries => uptoBulkEntries entries + 1
  | .held _ => 1
def uptoBulkAll {H : Type} : List (DataW H) → Nat
  | [] => 0
  | d :: r => uptoBulk d + uptoBulkAll r
def uptoBulkEntries {H : Type} : List (Lit × DataW H) → Nat
  | [] => 0
  | x :: r => uptoBulkEntry x + uptoBulkEntries r
def uptoBulkEntry {H : Type} : Lit × DataW H → Nat
  | (.string bytes, d) => bytes.length + uptoBulk d + 1
  | (_, d) => uptoBulk d + 1
 end
def uptoSmall : (H : Type) → List (DataW H) → Bool := fun _ ds => decide (uptoBulkAll ds ≤ 1048576)
def OpenSpec.upto (s : _root_.Go.ChangeSpec) : _root_.Go.OpenSpec := { _root_.Go.OpenSpec.ofChange s with cond := some uptoSmall }

/-- 'moidorelaw47.BlockValid', WHERE WHAT IT READS IS OF BULK AT MOST 1048576: true; the input reads as it did. -/
def blockValidUptoRow : OpenClaim := { program := "ytnmakgfmimagmaa", sum := "2c5a5ac71a2cc319e8b212883ac21dbf898d21c5f5bd2ea05be38deff9ab03fb", func := "moidore/moidorelaw47.BlockValid", spec := "blockValid", inPlace := ["math/bits.Add64"], named := ["math/bits.divideError", "math/bits.overflowError"], apart := false, narrowed := true }
def BlockValidUptoSaid : Prop := blockValidUptoRow.holds Try.pinned (OpenSpec.upto blockValidSpec)

/-- 'moidorelaw47.BlockHeavy', WHERE WHAT IT READS IS OF BULK AT MOST 1048576: true; the input reads as it did. -/
def blockHeavyUptoRow : OpenClaim := { program := "ytnmakgfmimagmaa", sum := "2c5a5ac71a2cc319e8b212883ac21dbf898d21c5f5bd2ea05be38deff9ab03fb", func := "moidore/moidorelaw47.BlockHeavy", spec := "blockHeavy", inPlace := ["math/bits.Add64"], named := ["math/bits.divideError", "math/bits.overflowError"], apart := false, narrowed := true }
def BlockHeavyUptoSaid : Prop := blockHeavyUptoRow.holds Try.pinned (OpenSpec.upto blockHeavySpec)

/-- 'moidorelaw47.BlockID', WHERE WHAT IT READS IS OF BULK AT MOST 1048576: true; the input reads as it did. -/
def blockIDUptoRow : OpenClaim := { program := "ytnmakgfmimagmaa", sum := "2c5a5ac71a2cc319e8b212883ac21dbf898d21c5f5bd2ea05be38deff9ab03fb", func := "moidore/moidorelaw47.BlockID", spec := "blockID", inPlace := ["math/bits.Add64"], named := ["math/bits.divideError", "math/bits.overflowError"], apart := false, narrowed := true }
def BlockIDUptoSaid : Prop := blockIDUptoRow.holds Try.pinned (OpenSpec.upto blockIDSpec)

/-- 'moidorelaw47.BlockBinds', WHERE WHAT IT READS IS OF BULK AT MOST 1048576: true; the input reads as it did. -/
def blockBindsUptoRow : OpenClaim := { program := "ytnmakgfmimagmaa", sum := "2c5a5ac71a2cc319e8b212883ac21dbf898d21c5f5bd2ea05be38deff9ab03fb", func := "moidore/moidorelaw47.BlockBinds", spec := "blockBinds", inPlace := ["math/bits.Add64"], named := ["math/bits.divideError", "math/bits.overflowError"], apart := false, narrowed := true }
def BlockBindsUptoSaid : Prop := blockBindsUptoRow.holds Try.pinned (OpenSpec.upto blockBindsSpec)

/-- 'moidorelaw47.BlockMine', WHERE WHAT IT READS IS OF BULK AT MOST 1048576: true; the input reads as it did. -/
def blockMineUptoRow : OpenClaim := { program := "ytnmakgfmimagmaa", sum := "2c5a5ac71a2cc319e8b212883ac21dbf898d21c5f5bd2ea05be38deff9ab03fb", func := "moidore/moidorelaw47.BlockMine", spec := "blockMine", inPlace := ["math/bits.Add64"], named := ["math/bits.divideError", "math/bits.overflowError"], apart := false, narrowed := true }
def BlockMineUptoSaid : Prop := blockMineUptoRow.holds Try.pinned (OpenSpec.upto blockMineSpec)

/-- 'moidorelaw47.BlockEncode', WHERE WHAT IT READS IS OF BULK AT MOST 1048576: true; the input reads as it did. -/
def blockEncodeUptoRow : OpenClaim := { program := "ytnmakgfmimagmaa", sum := "2c5a5ac71a2cc319e8b212883ac21dbf898d21c5f5bd2ea05be38deff9ab03fb", func := "moidore/moidorelaw47.BlockEncode", spec := "blockEncode", inPlace := ["math/bits.Add64"], named := ["math/bits.divideError", "math/bits.overflowError"], apart := false, narrowed := true }
def BlockEncodeUptoSaid : Prop := blockEncodeUptoRow.holds Try.pinned (OpenSpec.upto blockEncodeSpec)

/-- 'moidorelaw47.BlockDecode', WHERE WHAT IT READS IS OF BULK AT MOST 1048576: true; the input reads as it did. -/
def blockDecodeUptoRow : OpenClaim := { program := "ytnmakgfmimagmaa", sum := "2c5a5ac71a2cc319e8b212883ac21dbf898d21c5f5bd2ea05be38deff9ab03fb", func := "moidore/moidorelaw47.BlockDecode", spec := "blockDecode", inPlace := ["math/bits.Add64"], named := ["math/bits.divideError", "math/bits.overflowError"], apart := false, narrowed := true }
def BlockDecodeUptoSaid : Prop := blockDecodeUptoRow.holds Try.pinned (OpenSpec.upto blockDecodeSpec)

end Rows
end Go.Proofs.Ytnmakgfmimagmaa
