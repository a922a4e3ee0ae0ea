/-
  No cell of these rows narrows 'for every input' (looked for: loops, veiled, ifaces, maps, wideKeys, modest, calm, conditions, laid).
  DERIVED. THE GIVEN ROWS OF THIS SEAT. 5 by the template 'for every input the law returns true; each argument reads behind the call as it read before'; 0 by the template 'total and deterministic' (their statements: YtpffhgljgpjenaaTotals.lean).
  GIVEN WITH THE SEED: the statements are not yours to turn. If you find one false, say at which input.
  Laid BY PROGRAM, IN A SANDBOX (cutbox-rows.mjs): the forced cells as the released guide's own fill.sh prints them over the translation 2ddcfd2b077d05aa… (all of the seat's roots in one cut). By AI agents, Wed Nov 11 2026. No macro, syntax, notation, axiom, sorry.
-/
import Derived.Test.YtpffhgljgpjenaaChecked
import GoSem.Claim
import GoSem.ClaimJoined
import GoSem.ClaimMapViews
import Derived.JoinedTies
import Derived.KernelRfl
namespace Go.Proofs.Ytpffhgljgpjenaa
/- THE CELL 'sum', in the pinned program and in every row, IS THE sha256 OF THE DUMP (.gsa) THAT YtpffhgljgpjenaaProg.lean LOADS. Nothing in Lean hashes anything: it is a label: what it is worth is what the hold of that sum in a sandbox is worth. -/
noncomputable def Try.pinned : Pinned := { name := "ytpffhgljgpjenaa", sum := "2ddcfd2b077d05aa1b4fadb28ed0e9538fa4910e334062f345d376a1b590102d", checked := Try.checked }
namespace Rows
def none {H : Type} : Left H := { results := [], args := [] }

/-- 'moidorelaw39.RelationSums': WHATEVER THE INPUT: true; the input reads as it did. -/
def relationSumsSpec : ChangeSpec := { name := "relationSums", fn := fun _ => fun
  | [d] => { results := [.lit (.bool true)], args := [d] }
  | _ => none }
def relationSumsRow : OpenClaim := { program := "ytpffhgljgpjenaa", sum := "2ddcfd2b077d05aa1b4fadb28ed0e9538fa4910e334062f345d376a1b590102d", func := "moidore/moidorelaw39.RelationSums", spec := "relationSums", inPlace := ["math/bits.Add64"], named := ["math/bits.divideError", "math/bits.overflowError"], apart := false }
def RelationSumsSaid : Prop := relationSumsRow.holds Try.pinned (OpenSpec.ofChange relationSumsSpec)

/-- ITS FALSE NEIGHBOUR: 'it returns false'. Refute it at one input. -/
def relationSumsWrong : ChangeSpec := { name := "relationSums", fn := fun _ => fun
  | [d] => { results := [.lit (.bool false)], args := [d] }
  | _ => none }
def RelationSumsWrongFalsely : Prop := relationSumsRow.holds Try.pinned (OpenSpec.ofChange relationSumsWrong)

/-- 'moidorelaw39.RelationBalance': WHATEVER THE INPUT: true; the input reads as it did. -/
def relationBalanceSpec : ChangeSpec := { name := "relationBalance", fn := fun _ => fun
  | [d1, d2, d3] => { results := [.lit (.bool true)], args := [d1, d2, d3] }
  | _ => none }
def relationBalanceRow : OpenClaim := { program := "ytpffhgljgpjenaa", sum := "2ddcfd2b077d05aa1b4fadb28ed0e9538fa4910e334062f345d376a1b590102d", func := "moidore/moidorelaw39.RelationBalance", spec := "relationBalance", inPlace := ["math/bits.Add64"], named := ["math/bits.divideError", "math/bits.overflowError"], apart := false }
def RelationBalanceSaid : Prop := relationBalanceRow.holds Try.pinned (OpenSpec.ofChange relationBalanceSpec)

/-- ITS FALSE NEIGHBOUR: 'it returns false'. Refute it at one input. -/
def relationBalanceWrong : ChangeSpec := { name := "relationBalance", fn := fun _ => fun
  | [d1, d2, d3] => { results := [.lit (.bool false)], args := [d1, d2, d3] }
  | _ => none }
def RelationBalanceWrongFalsely : Prop := relationBalanceRow.holds Try.pinned (OpenSpec.ofChange relationBalanceWrong)

/-- 'moidorelaw39.RelationIdeal': WHATEVER THE INPUT: true; the input reads as it did. -/
def relationIdealSpec : ChangeSpec := { name := "relationIdeal", fn := fun _ => fun
  | [d1, d2, d3] => { results := [.lit (.bool true)], args := [d1, d2, d3] }
  | _ => none }
def relationIdealRow : OpenClaim := { program := "ytpffhgljgpjenaa", sum := "2ddcfd2b077d05aa1b4fadb28ed0e9538fa4910e334062f345d376a1b590102d", func := "moidore/moidorelaw39.RelationIdeal", spec := "relationIdeal", inPlace := ["math/bits.Add64"], named := ["math/bits.divideError", "math/bits.overflowError"], apart := false }
def RelationIdealSaid : Prop := relationIdealRow.holds Try.pinned (OpenSpec.ofChange relationIdealSpec)

/-- ITS FALSE NEIGHBOUR: 'it returns false'. Refute it at one input. -/
def relationIdealWrong : ChangeSpec := { name := "relationIdeal", fn := fun _ => fun
  | [d1, d2, d3] => { results := [.lit (.bool false)], args := [d1, d2, d3] }
  | _ => none }
def RelationIdealWrongFalsely : Prop := relationIdealRow.holds Try.pinned (OpenSpec.ofChange relationIdealWrong)

/-- 'moidorelaw39.RelationEncode': WHATEVER THE INPUT: true; the input reads as it did. -/
def relationEncodeSpec : ChangeSpec := { name := "relationEncode", fn := fun _ => fun
  | [d] => { results := [.lit (.bool true)], args := [d] }
  | _ => none }
def relationEncodeRow : OpenClaim := { program := "ytpffhgljgpjenaa", sum := "2ddcfd2b077d05aa1b4fadb28ed0e9538fa4910e334062f345d376a1b590102d", func := "moidore/moidorelaw39.RelationEncode", spec := "relationEncode", inPlace := ["math/bits.Add64"], named := ["math/bits.divideError", "math/bits.overflowError"], apart := false }
def RelationEncodeSaid : Prop := relationEncodeRow.holds Try.pinned (OpenSpec.ofChange relationEncodeSpec)

/-- ITS FALSE NEIGHBOUR: 'it returns false'. Refute it at one input. -/
def relationEncodeWrong : ChangeSpec := { name := "relationEncode", fn := fun _ => fun
  | [d] => { results := [.lit (.bool false)], args := [d] }
  | _ => none }
def RelationEncodeWrongFalsely : Prop := relationEncodeRow.holds Try.pinned (OpenSpec.ofChange relationEncodeWrong)

/-- 'moidorelaw39.RelationDecode': WHATEVER THE INPUT: true; the input reads as it did. -/
def relationDecodeSpec : ChangeSpec := { name := "relationDecode", fn := fun _ => fun
  | [d] => { results := [.lit (.bool true)], args := [d] }
  | _ => none }
def relationDecodeRow : OpenClaim := { program := "ytpffhgljgpjenaa", sum := "2ddcfd2b077d05aa1b4fadb28ed0e9538fa4910e334062f345d376a1b590102d", func := "moidore/moidorelaw39.RelationDecode", spec := "relationDecode", inPlace := ["math/bits.Add64"], named := ["math/bits.divideError", "math/bits.overflowError"], apart := false }
def RelationDecodeSaid : Prop := relationDecodeRow.holds Try.pinned (OpenSpec.ofChange relationDecodeSpec)

/-- ITS FALSE NEIGHBOUR: 'it returns false'. Refute it at one input. -/
def relationDecodeWrong : ChangeSpec := { name := "relationDecode", fn := fun _ => fun
  | [d] => { results := [.lit (.bool false)], args := [d] }
  | _ => none }
def RelationDecodeWrongFalsely : Prop := relationDecodeRow.holds Try.pinned (OpenSpec.ofChange relationDecodeWrong)

/- THE SECOND FORM. 'bulk': how many values and letters a reading holds, each counted each time it is reached (what is shared counts as often as it is met; a slice's spare places count too). A statement '..UptoSaid' is the law's where the arguments, and the package variables that the reading takes, are together of bulk at most 1048576: NARROWER than '..Said'. Prove '..Said' where nothing that the law and all that it calls make is longer than what came in: it says more and counts as full. Else prove '..UptoSaid'. A law counts once. -/
mutual
def uptoBulk {H : Type} : DataW H → Nat
  | .lit (.string bytes) => bytes.length + 1
  | .lit _ => 1
  | .nil => 1
  | .ptr d => uptoBulk d + 1
  | .slice elems spare => uptoBulkAll elems + uptoBulkAll spare + 1
  | .agg parts => uptoBulkAll parts + 1
  | .iface _ d => uptoBulk d + 1
  | .map entries => uptoBulkEntries entries + 1
  | .held _ => 1
def uptoBulkAll {H : Type} : List (DataW H) → Nat
  | [] => 0
  | d :: r => uptoBulk d + uptoBulkAll r
def uptoBulkEntries {H : Type} : List (Lit × DataW H) → Nat
  | [] => 0
  | x :: r => uptoBulkEntry x + uptoBulkEntries r
def uptoBulkEntry {H : Type} : Lit × DataW H → Nat
  | (.string bytes, d) => bytes.length + uptoBulk d + 1
  | (_, d) => uptoBulk d + 1
 end
def uptoSmall : (H : Type) → List (DataW H) → Bool := fun _ ds => decide (uptoBulkAll ds ≤ 1048576)
def OpenSpec.upto (s : _root_.Go.ChangeSpec) : _root_.Go.OpenSpec := { _root_.Go.OpenSpec.ofChange s with cond := some uptoSmall }

/-- 'moidorelaw39.RelationSums', WHERE WHAT IT READS IS OF BULK AT MOST 1048576: true; the input reads as it did. -/
def relationSumsUptoRow : OpenClaim := { program := "ytpffhgljgpjenaa", sum := "2ddcfd2b077d05aa1b4fadb28ed0e9538fa4910e334062f345d376a1b590102d", func := "moidore/moidorelaw39.RelationSums", spec := "relationSums", inPlace := ["math/bits.Add64"], named := ["math/bits.divideError", "math/bits.overflowError"], apart := false, narrowed := true }
def RelationSumsUptoSaid : Prop := relationSumsUptoRow.holds Try.pinned (OpenSpec.upto relationSumsSpec)

/-- 'moidorelaw39.RelationBalance', WHERE WHAT IT READS IS OF BULK AT MOST 1048576: true; the input reads as it did. -/
def relationBalanceUptoRow : OpenClaim := { program := "ytpffhgljgpjenaa", sum := "2ddcfd2b077d05aa1b4fadb28ed0e9538fa4910e334062f345d376a1b590102d", func := "moidore/moidorelaw39.RelationBalance", spec := "relationBalance", inPlace := ["math/bits.Add64"], named := ["math/bits.divideError", "math/bits.overflowError"], apart := false, narrowed := true }
def RelationBalanceUptoSaid : Prop := relationBalanceUptoRow.holds Try.pinned (OpenSpec.upto relationBalanceSpec)

/-- 'moidorelaw39.RelationIdeal', WHERE WHAT IT READS IS OF BULK AT MOST 1048576: true; the input reads as it did. -/
def relationIdealUptoRow : OpenClaim := { program := "ytpffhgljgpjenaa", sum := "2ddcfd2b077d05aa1b4fadb28ed0e9538fa4910e334062f345d376a1b590102d", func := "moidore/moidorelaw39.RelationIdeal", spec := "relationIdeal", inPlace := ["math/bits.Add64"], named := ["math/bits.divideError", "math/bits.overflowError"], apart := false, narrowed := true }
def RelationIdealUptoSaid : Prop := relationIdealUptoRow.holds Try.pinned (OpenSpec.upto relationIdealSpec)

/-- 'moidorelaw39.RelationEncode', WHERE WHAT IT READS IS OF BULK AT MOST 1048576: true; the input reads as it did. -/
def relationEncodeUptoRow : OpenClaim := { program := "ytpffhgljgpjenaa", sum := "2ddcfd2b077d05aa1b4fadb28ed0e9538fa4910e334062f345d376a1b590102d", func := "moidore/moidorelaw39.RelationEncode", spec := "relationEncode", inPlace := ["math/bits.Add64"], named := ["math/bits.divideError", "math/bits.overflowError"], apart := false, narrowed := true }
def RelationEncodeUptoSaid : Prop := relationEncodeUptoRow.holds Try.pinned (OpenSpec.upto relationEncodeSpec)

/-- 'moidorelaw39.RelationDecode', WHERE WHAT IT READS IS OF BULK AT MOST 1048576: true; the input reads as it did. -/
def relationDecodeUptoRow : OpenClaim := { program := "ytpffhgljgpjenaa", sum := "2ddcfd2b077d05aa1b4fadb28ed0e9538fa4910e334062f345d376a1b590102d", func := "moidore/moidorelaw39.RelationDecode", spec := "relationDecode", inPlace := ["math/bits.Add64"], named := ["math/bits.divideError", "math/bits.overflowError"], apart := false, narrowed := true }
def RelationDecodeUptoSaid : Prop := relationDecodeUptoRow.holds Try.pinned (OpenSpec.upto relationDecodeSpec)

end Rows
end Go.Proofs.Ytpffhgljgpjenaa
