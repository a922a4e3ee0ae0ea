/-
  No cell of these rows narrows 'for every input' (looked for: loops, veiled, ifaces, maps, wideKeys, modest, calm, conditions, laid).
  DERIVED. THE GIVEN ROWS OF THIS SEAT. 7 by the template 'for every input the law returns true; each argument reads behind the call as it read before'; 0 by the template 'total and deterministic' (their statements: YtdbnagpoknmoiaaTotals.lean).
  GIVEN WITH THE SEED: the statements are not yours to turn. If you find one false, say at which input.
  Laid BY PROGRAM, IN A SANDBOX (cutbox-rows.mjs): the forced cells as the released guide's own fill.sh prints them over the translation 3903085e21b7ff38… (all of the seat's roots in one cut). By AI agents, Wed Nov 11 2026. No macro, syntax, notation, axiom, sorry.
-/
import Derived.Test.YtdbnagpoknmoiaaChecked
import GoSem.Claim
import GoSem.ClaimJoined
import GoSem.ClaimMapViews
import Derived.JoinedTies
import Derived.KernelRfl
namespace Go.Proofs.Ytdbnagpoknmoiaa
/- THE CELL 'sum', in the pinned program and in every row, IS THE sha256 OF THE DUMP (.gsa) THAT YtdbnagpoknmoiaaProg.lean LOADS. Nothing in Lean hashes anything: it is a label: what it is worth is what the hold of that sum in a sandbox is worth. -/
noncomputable def Try.pinned : Pinned := { name := "ytdbnagpoknmoiaa", sum := "3903085e21b7ff386a9e0e319f89816f734580b963a203e95bab2faee3107a7f", checked := Try.checked }
namespace Rows
def none {H : Type} : Left H := { results := [], args := [] }

/-- 'moidorelaw41.TxValid': WHATEVER THE INPUT: true; the input reads as it did. -/
def txValidSpec : ChangeSpec := { name := "txValid", fn := fun _ => fun
  | [d] => { results := [.lit (.bool true)], args := [d] }
  | _ => none }
def txValidRow : OpenClaim := { program := "ytdbnagpoknmoiaa", sum := "3903085e21b7ff386a9e0e319f89816f734580b963a203e95bab2faee3107a7f", func := "moidore/moidorelaw41.TxValid", spec := "txValid", inPlace := ["math/bits.Add64"], named := ["math/bits.divideError", "math/bits.overflowError"], apart := false }
def TxValidSaid : Prop := txValidRow.holds Try.pinned (OpenSpec.ofChange txValidSpec)

/-- ITS FALSE NEIGHBOUR: 'it returns false'. Refute it at one input. -/
def txValidWrong : ChangeSpec := { name := "txValid", fn := fun _ => fun
  | [d] => { results := [.lit (.bool false)], args := [d] }
  | _ => none }
def TxValidWrongFalsely : Prop := txValidRow.holds Try.pinned (OpenSpec.ofChange txValidWrong)

/-- 'moidorelaw41.TxEncode': WHATEVER THE INPUT: true; the input reads as it did. -/
def txEncodeSpec : ChangeSpec := { name := "txEncode", fn := fun _ => fun
  | [d] => { results := [.lit (.bool true)], args := [d] }
  | _ => none }
def txEncodeRow : OpenClaim := { program := "ytdbnagpoknmoiaa", sum := "3903085e21b7ff386a9e0e319f89816f734580b963a203e95bab2faee3107a7f", func := "moidore/moidorelaw41.TxEncode", spec := "txEncode", inPlace := ["math/bits.Add64"], named := ["math/bits.divideError", "math/bits.overflowError"], apart := false }
def TxEncodeSaid : Prop := txEncodeRow.holds Try.pinned (OpenSpec.ofChange txEncodeSpec)

/-- ITS FALSE NEIGHBOUR: 'it returns false'. Refute it at one input. -/
def txEncodeWrong : ChangeSpec := { name := "txEncode", fn := fun _ => fun
  | [d] => { results := [.lit (.bool false)], args := [d] }
  | _ => none }
def TxEncodeWrongFalsely : Prop := txEncodeRow.holds Try.pinned (OpenSpec.ofChange txEncodeWrong)

/-- 'moidorelaw41.TxLongProof': WHATEVER THE INPUT: true; the input reads as it did. -/
def txLongProofSpec : ChangeSpec := { name := "txLongProof", fn := fun _ => fun
  | [d1, d2] => { results := [.lit (.bool true)], args := [d1, d2] }
  | _ => none }
def txLongProofRow : OpenClaim := { program := "ytdbnagpoknmoiaa", sum := "3903085e21b7ff386a9e0e319f89816f734580b963a203e95bab2faee3107a7f", func := "moidore/moidorelaw41.TxLongProof", spec := "txLongProof", inPlace := ["math/bits.Add64"], named := ["math/bits.divideError", "math/bits.overflowError"], apart := false }
def TxLongProofSaid : Prop := txLongProofRow.holds Try.pinned (OpenSpec.ofChange txLongProofSpec)

/-- ITS FALSE NEIGHBOUR: 'it returns false'. Refute it at one input. -/
def txLongProofWrong : ChangeSpec := { name := "txLongProof", fn := fun _ => fun
  | [d1, d2] => { results := [.lit (.bool false)], args := [d1, d2] }
  | _ => none }
def TxLongProofWrongFalsely : Prop := txLongProofRow.holds Try.pinned (OpenSpec.ofChange txLongProofWrong)

/-- 'moidorelaw41.TxWeightOfShape': WHATEVER THE INPUT: true; the input reads as it did. -/
def txWeightOfShapeSpec : ChangeSpec := { name := "txWeightOfShape", fn := fun _ => fun
  | [d1, d2] => { results := [.lit (.bool true)], args := [d1, d2] }
  | _ => none }
def txWeightOfShapeRow : OpenClaim := { program := "ytdbnagpoknmoiaa", sum := "3903085e21b7ff386a9e0e319f89816f734580b963a203e95bab2faee3107a7f", func := "moidore/moidorelaw41.TxWeightOfShape", spec := "txWeightOfShape", inPlace := ["math/bits.Add64"], named := ["math/bits.divideError", "math/bits.overflowError"], apart := false }
def TxWeightOfShapeSaid : Prop := txWeightOfShapeRow.holds Try.pinned (OpenSpec.ofChange txWeightOfShapeSpec)

/-- ITS FALSE NEIGHBOUR: 'it returns false'. Refute it at one input. -/
def txWeightOfShapeWrong : ChangeSpec := { name := "txWeightOfShape", fn := fun _ => fun
  | [d1, d2] => { results := [.lit (.bool false)], args := [d1, d2] }
  | _ => none }
def TxWeightOfShapeWrongFalsely : Prop := txWeightOfShapeRow.holds Try.pinned (OpenSpec.ofChange txWeightOfShapeWrong)

/-- 'moidorelaw41.TxBindIgnoresProof': WHATEVER THE INPUT: true; the input reads as it did. -/
def txBindIgnoresProofSpec : ChangeSpec := { name := "txBindIgnoresProof", fn := fun _ => fun
  | [d1, d2] => { results := [.lit (.bool true)], args := [d1, d2] }
  | _ => none }
def txBindIgnoresProofRow : OpenClaim := { program := "ytdbnagpoknmoiaa", sum := "3903085e21b7ff386a9e0e319f89816f734580b963a203e95bab2faee3107a7f", func := "moidore/moidorelaw41.TxBindIgnoresProof", spec := "txBindIgnoresProof", inPlace := ["math/bits.Add64"], named := ["math/bits.divideError", "math/bits.overflowError"], apart := false }
def TxBindIgnoresProofSaid : Prop := txBindIgnoresProofRow.holds Try.pinned (OpenSpec.ofChange txBindIgnoresProofSpec)

/-- ITS FALSE NEIGHBOUR: 'it returns false'. Refute it at one input. -/
def txBindIgnoresProofWrong : ChangeSpec := { name := "txBindIgnoresProof", fn := fun _ => fun
  | [d1, d2] => { results := [.lit (.bool false)], args := [d1, d2] }
  | _ => none }
def TxBindIgnoresProofWrongFalsely : Prop := txBindIgnoresProofRow.holds Try.pinned (OpenSpec.ofChange txBindIgnoresProofWrong)

/-- 'moidorelaw41.TxDecode': WHATEVER THE INPUT: true; the input reads as it did. -/
def txDecodeSpec : ChangeSpec := { name := "txDecode", fn := fun _ => fun
  | [d] => { results := [.lit (.bool true)], args := [d] }
  | _ => none }
def txDecodeRow : OpenClaim := { program := "ytdbnagpoknmoiaa", sum := "3903085e21b7ff386a9e0e319f89816f734580b963a203e95bab2faee3107a7f", func := "moidore/moidorelaw41.TxDecode", spec := "txDecode", inPlace := ["math/bits.Add64"], named := ["math/bits.divideError", "math/bits.overflowError"], apart := false }
def TxDecodeSaid : Prop := txDecodeRow.holds Try.pinned (OpenSpec.ofChange txDecodeSpec)

/-- ITS FALSE NEIGHBOUR: 'it returns false'. Refute it at one input. -/
def txDecodeWrong : ChangeSpec := { name := "txDecode", fn := fun _ => fun
  | [d] => { results := [.lit (.bool false)], args := [d] }
  | _ => none }
def TxDecodeWrongFalsely : Prop := txDecodeRow.holds Try.pinned (OpenSpec.ofChange txDecodeWrong)

/-- 'moidorelaw41.TxRoundTrip': WHATEVER THE INPUT: true; the input reads as it did. -/
def txRoundTripSpec : ChangeSpec := { name := "txRoundTrip", fn := fun _ => fun
  | [d] => { results := [.lit (.bool true)], args := [d] }
  | _ => none }
def txRoundTripRow : OpenClaim := { program := "ytdbnagpoknmoiaa", sum := "3903085e21b7ff386a9e0e319f89816f734580b963a203e95bab2faee3107a7f", func := "moidore/moidorelaw41.TxRoundTrip", spec := "txRoundTrip", inPlace := ["math/bits.Add64"], named := ["math/bits.divideError", "math/bits.overflowError"], apart := false }
def TxRoundTripSaid : Prop := txRoundTripRow.holds Try.pinned (OpenSpec.ofChange txRoundTripSpec)

/-- ITS FALSE NEIGHBOUR: 'it returns false'. Refute it at one input. -/
def txRoundTripWrong : ChangeSpec := { name := "txRoundTrip", fn := fun _ => fun
  | [d] => { results := [.lit (.bool false)], args := [d] }
  | _ => none }
def TxRoundTripWrongFalsely : Prop := txRoundTripRow.holds Try.pinned (OpenSpec.ofChange txRoundTripWrong)

/- THE SECOND FORM. 'bulk': how many values and letters a reading holds, each counted each time it is reached (what is shared counts as often as it is met; a slice's spare places count too). A statement '..UptoSaid' is the law's where the arguments, and the package variables that the reading takes, are together of bulk at most 1048576: NARROWER than '..Said'. Prove '..Said' where nothing that the law and all that it calls make is longer than what came in: it says more and counts as full. Else prove '..UptoSaid'. A law counts once. -/
mutual
def uptoBulk {H : Type} : DataW H → Nat
  | .lit (.string bytes) => bytes.length + 1
  | .lit _ => 1
  | .nil => 1
  | .ptr d => uptoBulk d + 1
  | .slice elems spare => uptoBulkAll elems + uptoBulkAll spare + 1
  | .agg parts => uptoBulkAll parts + 1
  | .iface _ d => uptoBulk d + 1
  | .map entries => uptoBulkEntries entries + 1
  | .held _ => 1
def uptoBulkAll {H : Type} : List (DataW H) → Nat
  | [] => 0
  | d :: r => uptoBulk d + uptoBulkAll r
def uptoBulkEntries {H : Type} : List (Lit × DataW H) → Nat
  | [] => 0
  | x :: r => uptoBulkEntry x + uptoBulkEntries r
def uptoBulkEntry {H : Type} : Lit × DataW H → Nat
  | (.string bytes, d) => bytes.length + uptoBulk d + 1
  | (_, d) => uptoBulk d + 1
 end
def uptoSmall : (H : Type) → List (DataW H) → Bool := fun _ ds => decide (uptoBulkAll ds ≤ 1048576)
def OpenSpec.upto (s : _root_.Go.ChangeSpec) : _root_.Go.OpenSpec := { _root_.Go.OpenSpec.ofChange s with cond := some uptoSmall }

/-- 'moidorelaw41.TxValid', WHERE WHAT IT READS IS OF BULK AT MOST 1048576: true; the input reads as it did. -/
def txValidUptoRow : OpenClaim := { program := "ytdbnagpoknmoiaa", sum := "3903085e21b7ff386a9e0e319f89816f734580b963a203e95bab2faee3107a7f", func := "moidore/moidorelaw41.TxValid", spec := "txValid", inPlace := ["math/bits.Add64"], named := ["math/bits.divideError", "math/bits.overflowError"], apart := false, narrowed := true }
def TxValidUptoSaid : Prop := txValidUptoRow.holds Try.pinned (OpenSpec.upto txValidSpec)

/-- 'moidorelaw41.TxEncode', WHERE WHAT IT READS IS OF BULK AT MOST 1048576: true; the input reads as it did. -/
def txEncodeUptoRow : OpenClaim := { program := "ytdbnagpoknmoiaa", sum := "3903085e21b7ff386a9e0e319f89816f734580b963a203e95bab2faee3107a7f", func := "moidore/moidorelaw41.TxEncode", spec := "txEncode", inPlace := ["math/bits.Add64"], named := ["math/bits.divideError", "math/bits.overflowError"], apart := false, narrowed := true }
def TxEncodeUptoSaid : Prop := txEncodeUptoRow.holds Try.pinned (OpenSpec.upto txEncodeSpec)

/-- 'moidorelaw41.TxLongProof', WHERE WHAT IT READS IS OF BULK AT MOST 1048576: true; the input reads as it did. -/
def txLongProofUptoRow : OpenClaim := { program := "ytdbnagpoknmoiaa", sum := "3903085e21b7ff386a9e0e319f89816f734580b963a203e95bab2faee3107a7f", func := "moidore/moidorelaw41.TxLongProof", spec := "txLongProof", inPlace := ["math/bits.Add64"], named := ["math/bits.divideError", "math/bits.overflowError"], apart := false, narrowed := true }
def TxLongProofUptoSaid : Prop := txLongProofUptoRow.holds Try.pinned (OpenSpec.upto txLongProofSpec)

/-- 'moidorelaw41.TxWeightOfShape', WHERE WHAT IT READS IS OF BULK AT MOST 1048576: true; the input reads as it did. -/
def txWeightOfShapeUptoRow : OpenClaim := { program := "ytdbnagpoknmoiaa", sum := "3903085e21b7ff386a9e0e319f89816f734580b963a203e95bab2faee3107a7f", func := "moidore/moidorelaw41.TxWeightOfShape", spec := "txWeightOfShape", inPlace := ["math/bits.Add64"], named := ["math/bits.divideError", "math/bits.overflowError"], apart := false, narrowed := true }
def TxWeightOfShapeUptoSaid : Prop := txWeightOfShapeUptoRow.holds Try.pinned (OpenSpec.upto txWeightOfShapeSpec)

/-- 'moidorelaw41.TxBindIgnoresProof', WHERE WHAT IT READS IS OF BULK AT MOST 1048576: true; the input reads as it did. -/
def txBindIgnoresProofUptoRow : OpenClaim := { program := "ytdbnagpoknmoiaa", sum := "3903085e21b7ff386a9e0e319f89816f734580b963a203e95bab2faee3107a7f", func := "moidore/moidorelaw41.TxBindIgnoresProof", spec := "txBindIgnoresProof", inPlace := ["math/bits.Add64"], named := ["math/bits.divideError", "math/bits.overflowError"], apart := false, narrowed := true }
def TxBindIgnoresProofUptoSaid : Prop := txBindIgnoresProofUptoRow.holds Try.pinned (OpenSpec.upto txBindIgnoresProofSpec)

/-- 'moidorelaw41.TxDecode', WHERE WHAT IT READS IS OF BULK AT MOST 1048576: true; the input reads as it did. -/
def txDecodeUptoRow : OpenClaim := { program := "ytdbnagpoknmoiaa", sum := "3903085e21b7ff386a9e0e319f89816f734580b963a203e95bab2faee3107a7f", func := "moidore/moidorelaw41.TxDecode", spec := "txDecode", inPlace := ["math/bits.Add64"], named := ["math/bits.divideError", "math/bits.overflowError"], apart := false, narrowed := true }
def TxDecodeUptoSaid : Prop := txDecodeUptoRow.holds Try.pinned (OpenSpec.upto txDecodeSpec)

/-- 'moidorelaw41.TxRoundTrip', WHERE WHAT IT READS IS OF BULK AT MOST 1048576: true; the input reads as it did. -/
def txRoundTripUptoRow : OpenClaim := { program := "ytdbnagpoknmoiaa", sum := "3903085e21b7ff386a9e0e319f89816f734580b963a203e95bab2faee3107a7f", func := "moidore/moidorelaw41.TxRoundTrip", spec := "txRoundTrip", inPlace := ["math/bits.Add64"], named := ["math/bits.divideError", "math/bits.overflowError"], apart := false, narrowed := true }
def TxRoundTripUptoSaid : Prop := txRoundTripUptoRow.holds Try.pinned (OpenSpec.upto txRoundTripSpec)

end Rows
end Go.Proofs.Ytdbnagpoknmoiaa
