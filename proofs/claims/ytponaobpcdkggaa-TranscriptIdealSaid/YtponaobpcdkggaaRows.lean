/-
  No cell of these rows narrows 'for every input' (looked for: loops, veiled, ifaces, maps, wideKeys, modest, calm, conditions, laid).
  DERIVED. THE GIVEN ROWS OF THIS SEAT. 6 by the template 'for every input the law returns true; each argument reads behind the call as it read before'; 0 by the template 'total and deterministic' (their statements: YtponaobpcdkggaaTotals.lean).
  GIVEN WITH THE SEED: the statements are not yours to turn. If you find one false, say at which input.
  Laid BY PROGRAM, IN A SANDBOX (cutbox-rows.mjs): the forced cells as the released guide's own fill.sh prints them over the translation 160e5fcd66ec4f89… (all of the seat's roots in one cut). By AI agents, Wed Nov 11 2026. No macro, syntax, notation, axiom, sorry.
-/
import Derived.Test.YtponaobpcdkggaaChecked
import GoSem.Claim
import GoSem.ClaimJoined
import GoSem.ClaimMapViews
import Derived.JoinedTies
import Derived.KernelRfl
namespace Go.Proofs.Ytponaobpcdkggaa
/- THE CELL 'sum', in the pinned program and in every row, IS THE sha256 OF THE DUMP (.gsa) THAT YtponaobpcdkggaaProg.lean LOADS. Nothing in Lean hashes anything: it is a label: what it is worth is what the hold of that sum in a sandbox is worth. -/
noncomputable def Try.pinned : Pinned := { name := "ytponaobpcdkggaa", sum := "160e5fcd66ec4f89e0158dd9188a3322f6ac5e0e0b301c170920fcd79cf27ac0", checked := Try.checked }
namespace Rows
def none {H : Type} : Left H := { results := [], args := [] }

/-- 'moidorelaw13.TranscriptResets': WHATEVER THE INPUT: true; the input reads as it did. -/
def transcriptResetsSpec : ChangeSpec := { name := "transcriptResets", fn := fun _ => fun
  | [d1, d2, d3] => { results := [.lit (.bool true)], args := [d1, d2, d3] }
  | _ => none }
def transcriptResetsRow : OpenClaim := { program := "ytponaobpcdkggaa", sum := "160e5fcd66ec4f89e0158dd9188a3322f6ac5e0e0b301c170920fcd79cf27ac0", func := "moidore/moidorelaw13.TranscriptResets", spec := "transcriptResets", inPlace := ["math/bits.Add64"], recurses := true, named := ["math/bits.divideError", "math/bits.overflowError"], apart := false }
def TranscriptResetsSaid : Prop := transcriptResetsRow.holds Try.pinned (OpenSpec.ofChange transcriptResetsSpec)

/-- ITS FALSE NEIGHBOUR: 'it returns false'. Refute it at one input. -/
def transcriptResetsWrong : ChangeSpec := { name := "transcriptResets", fn := fun _ => fun
  | [d1, d2, d3] => { results := [.lit (.bool false)], args := [d1, d2, d3] }
  | _ => none }
def TranscriptResetsWrongFalsely : Prop := transcriptResetsRow.holds Try.pinned (OpenSpec.ofChange transcriptResetsWrong)

/-- 'moidorelaw13.TranscriptQuestions': WHATEVER THE INPUT: true; the input reads as it did. -/
def transcriptQuestionsSpec : ChangeSpec := { name := "transcriptQuestions", fn := fun _ => fun
  | [d1, d2] => { results := [.lit (.bool true)], args := [d1, d2] }
  | _ => none }
def transcriptQuestionsRow : OpenClaim := { program := "ytponaobpcdkggaa", sum := "160e5fcd66ec4f89e0158dd9188a3322f6ac5e0e0b301c170920fcd79cf27ac0", func := "moidore/moidorelaw13.TranscriptQuestions", spec := "transcriptQuestions", inPlace := ["math/bits.Add64"], recurses := true, named := ["math/bits.divideError", "math/bits.overflowError"], apart := false }
def TranscriptQuestionsSaid : Prop := transcriptQuestionsRow.holds Try.pinned (OpenSpec.ofChange transcriptQuestionsSpec)

/-- ITS FALSE NEIGHBOUR: 'it returns false'. Refute it at one input. -/
def transcriptQuestionsWrong : ChangeSpec := { name := "transcriptQuestions", fn := fun _ => fun
  | [d1, d2] => { results := [.lit (.bool false)], args := [d1, d2] }
  | _ => none }
def TranscriptQuestionsWrongFalsely : Prop := transcriptQuestionsRow.holds Try.pinned (OpenSpec.ofChange transcriptQuestionsWrong)

/-- 'moidorelaw13.TranscriptAbsorb': WHATEVER THE INPUT: true; the input reads as it did. -/
def transcriptAbsorbSpec : ChangeSpec := { name := "transcriptAbsorb", fn := fun _ => fun
  | [d1, d2] => { results := [.lit (.bool true)], args := [d1, d2] }
  | _ => none }
def transcriptAbsorbRow : OpenClaim := { program := "ytponaobpcdkggaa", sum := "160e5fcd66ec4f89e0158dd9188a3322f6ac5e0e0b301c170920fcd79cf27ac0", func := "moidore/moidorelaw13.TranscriptAbsorb", spec := "transcriptAbsorb", inPlace := ["math/bits.Add64"], recurses := true, named := ["math/bits.divideError", "math/bits.overflowError"], apart := false }
def TranscriptAbsorbSaid : Prop := transcriptAbsorbRow.holds Try.pinned (OpenSpec.ofChange transcriptAbsorbSpec)

/-- ITS FALSE NEIGHBOUR: 'it returns false'. Refute it at one input. -/
def transcriptAbsorbWrong : ChangeSpec := { name := "transcriptAbsorb", fn := fun _ => fun
  | [d1, d2] => { results := [.lit (.bool false)], args := [d1, d2] }
  | _ => none }
def TranscriptAbsorbWrongFalsely : Prop := transcriptAbsorbRow.holds Try.pinned (OpenSpec.ofChange transcriptAbsorbWrong)

/-- 'moidorelaw13.TranscriptClash': WHATEVER THE INPUT: true; the input reads as it did. -/
def transcriptClashSpec : ChangeSpec := { name := "transcriptClash", fn := fun _ => fun
  | [d1, d2, d3] => { results := [.lit (.bool true)], args := [d1, d2, d3] }
  | _ => none }
def transcriptClashRow : OpenClaim := { program := "ytponaobpcdkggaa", sum := "160e5fcd66ec4f89e0158dd9188a3322f6ac5e0e0b301c170920fcd79cf27ac0", func := "moidore/moidorelaw13.TranscriptClash", spec := "transcriptClash", inPlace := ["math/bits.Add64"], recurses := true, named := ["math/bits.divideError", "math/bits.overflowError"], apart := false }
def TranscriptClashSaid : Prop := transcriptClashRow.holds Try.pinned (OpenSpec.ofChange transcriptClashSpec)

/-- ITS FALSE NEIGHBOUR: 'it returns false'. Refute it at one input. -/
def transcriptClashWrong : ChangeSpec := { name := "transcriptClash", fn := fun _ => fun
  | [d1, d2, d3] => { results := [.lit (.bool false)], args := [d1, d2, d3] }
  | _ => none }
def TranscriptClashWrongFalsely : Prop := transcriptClashRow.holds Try.pinned (OpenSpec.ofChange transcriptClashWrong)

/-- 'moidorelaw13.TranscriptChallenges': WHATEVER THE INPUT: true; the input reads as it did. -/
def transcriptChallengesSpec : ChangeSpec := { name := "transcriptChallenges", fn := fun _ => fun
  | [d1, d2, d3] => { results := [.lit (.bool true)], args := [d1, d2, d3] }
  | _ => none }
def transcriptChallengesRow : OpenClaim := { program := "ytponaobpcdkggaa", sum := "160e5fcd66ec4f89e0158dd9188a3322f6ac5e0e0b301c170920fcd79cf27ac0", func := "moidore/moidorelaw13.TranscriptChallenges", spec := "transcriptChallenges", inPlace := ["math/bits.Add64"], recurses := true, named := ["math/bits.divideError", "math/bits.overflowError"], apart := false }
def TranscriptChallengesSaid : Prop := transcriptChallengesRow.holds Try.pinned (OpenSpec.ofChange transcriptChallengesSpec)

/-- ITS FALSE NEIGHBOUR: 'it returns false'. Refute it at one input. -/
def transcriptChallengesWrong : ChangeSpec := { name := "transcriptChallenges", fn := fun _ => fun
  | [d1, d2, d3] => { results := [.lit (.bool false)], args := [d1, d2, d3] }
  | _ => none }
def TranscriptChallengesWrongFalsely : Prop := transcriptChallengesRow.holds Try.pinned (OpenSpec.ofChange transcriptChallengesWrong)

/-- 'moidorelaw13.TranscriptIdeal': WHATEVER THE INPUT: true; the input reads as it did. -/
def transcriptIdealSpec : ChangeSpec := { name := "transcriptIdeal", fn := fun _ => fun
  | [d1, d2, d3] => { results := [.lit (.bool true)], args := [d1, d2, d3] }
  | _ => none }
def transcriptIdealRow : OpenClaim := { program := "ytponaobpcdkggaa", sum := "160e5fcd66ec4f89e0158dd9188a3322f6ac5e0e0b301c170920fcd79cf27ac0", func := "moidore/moidorelaw13.TranscriptIdeal", spec := "transcriptIdeal", inPlace := ["math/bits.Add64"], recurses := true, named := ["math/bits.divideError", "math/bits.overflowError"], apart := false }
def TranscriptIdealSaid : Prop := transcriptIdealRow.holds Try.pinned (OpenSpec.ofChange transcriptIdealSpec)

/-- ITS FALSE NEIGHBOUR: 'it returns false'. Refute it at one input. -/
def transcriptIdealWrong : ChangeSpec := { name := "transcriptIdeal", fn := fun _ => fun
  | [d1, d2, d3] => { results := [.lit (.bool false)], args := [d1, d2, d3] }
  | _ => none }
def TranscriptIdealWrongFalsely : Prop := transcriptIdealRow.holds Try.pinned (OpenSpec.ofChange transcriptIdealWrong)

/- THE SECOND FORM. 'bulk': how many values and letters a reading holds, each counted each time it is reached (what is shared counts as often as it is met; a slice's spare places count too). A statement '..UptoSaid' is the law's where the arguments, and the package variables that the reading takes, are together of bulk at most 1048576: NARROWER than '..Said'. Prove '..Said' where nothing that the law and all that it calls make is longer than what came in: it says more and counts as full. Else prove '..UptoSaid'. A law counts once. -/
mutual
def uptoBulk {H : Type} : DataW H → Nat
  | .lit (.string bytes) => bytes.length + 1
  | .lit _ => 1
  | .nil => 1
  | .ptr d => uptoBulk d + 1
  | .slice elems spare => uptoBulkAll elems + uptoBulkAll spare + 1
  | .agg parts => uptoBulkAll parts + 1
  | .iface _ d => uptoBulk d + 1
  | .map entries => uptoBulkEntries entries + 1
  | .held _ => 1
def uptoBulkAll {H : Type} : List (DataW H) → Nat
  | [] => 0
  | d :: r => uptoBulk d + uptoBulkAll r
def uptoBulkEntries {H : Type} : List (Lit × DataW H) → Nat
  | [] => 0
  | x :: r => uptoBulkEntry x + uptoBulkEntries r
def uptoBulkEntry {H : Type} : Lit × DataW H → Nat
  | (.string bytes, d) => bytes.length + uptoBulk d + 1
  | (_, d) => uptoBulk d + 1
 end
def uptoSmall : (H : Type) → List (DataW H) → Bool := fun _ ds => decide (uptoBulkAll ds ≤ 1048576)
def OpenSpec.upto (s : _root_.Go.ChangeSpec) : _root_.Go.OpenSpec := { _root_.Go.OpenSpec.ofChange s with cond := some uptoSmall }

/-- 'moidorelaw13.TranscriptResets', WHERE WHAT IT READS IS OF BULK AT MOST 1048576: true; the input reads as it did. -/
def transcriptResetsUptoRow : OpenClaim := { program := "ytponaobpcdkggaa", sum := "160e5fcd66ec4f89e0158dd9188a3322f6ac5e0e0b301c170920fcd79cf27ac0", func := "moidore/moidorelaw13.TranscriptResets", spec := "transcriptResets", inPlace := ["math/bits.Add64"], recurses := true, named := ["math/bits.divideError", "math/bits.overflowError"], apart := false, narrowed := true }
def TranscriptResetsUptoSaid : Prop := transcriptResetsUptoRow.holds Try.pinned (OpenSpec.upto transcriptResetsSpec)

/-- 'moidorelaw13.TranscriptQuestions', WHERE WHAT IT READS IS OF BULK AT MOST 1048576: true; the input reads as it did. -/
def transcriptQuestionsUptoRow : OpenClaim := { program := "ytponaobpcdkggaa", sum := "160e5fcd66ec4f89e0158dd9188a3322f6ac5e0e0b301c170920fcd79cf27ac0", func := "moidore/moidorelaw13.TranscriptQuestions", spec := "transcriptQuestions", inPlace := ["math/bits.Add64"], recurses := true, named := ["math/bits.divideError", "math/bits.overflowError"], apart := false, narrowed := true }
def TranscriptQuestionsUptoSaid : Prop := transcriptQuestionsUptoRow.holds Try.pinned (OpenSpec.upto transcriptQuestionsSpec)

/-- 'moidorelaw13.TranscriptAbsorb', WHERE WHAT IT READS IS OF BULK AT MOST 1048576: true; the input reads as it did. -/
def transcriptAbsorbUptoRow : OpenClaim := { program := "ytponaobpcdkggaa", sum := "160e5fcd66ec4f89e0158dd9188a3322f6ac5e0e0b301c170920fcd79cf27ac0", func := "moidore/moidorelaw13.TranscriptAbsorb", spec := "transcriptAbsorb", inPlace := ["math/bits.Add64"], recurses := true, named := ["math/bits.divideError", "math/bits.overflowError"], apart := false, narrowed := true }
def TranscriptAbsorbUptoSaid : Prop := transcriptAbsorbUptoRow.holds Try.pinned (OpenSpec.upto transcriptAbsorbSpec)

/-- 'moidorelaw13.TranscriptClash', WHERE WHAT IT READS IS OF BULK AT MOST 1048576: true; the input reads as it did. -/
def transcriptClashUptoRow : OpenClaim := { program := "ytponaobpcdkggaa", sum := "160e5fcd66ec4f89e0158dd9188a3322f6ac5e0e0b301c170920fcd79cf27ac0", func := "moidore/moidorelaw13.TranscriptClash", spec := "transcriptClash", inPlace := ["math/bits.Add64"], recurses := true, named := ["math/bits.divideError", "math/bits.overflowError"], apart := false, narrowed := true }
def TranscriptClashUptoSaid : Prop := transcriptClashUptoRow.holds Try.pinned (OpenSpec.upto transcriptClashSpec)

/-- 'moidorelaw13.TranscriptChallenges', WHERE WHAT IT READS IS OF BULK AT MOST 1048576: true; the input reads as it did. -/
def transcriptChallengesUptoRow : OpenClaim := { program := "ytponaobpcdkggaa", sum := "160e5fcd66ec4f89e0158dd9188a3322f6ac5e0e0b301c170920fcd79cf27ac0", func := "moidore/moidorelaw13.TranscriptChallenges", spec := "transcriptChallenges", inPlace := ["math/bits.Add64"], recurses := true, named := ["math/bits.divideError", "math/bits.overflowError"], apart := false, narrowed := true }
def TranscriptChallengesUptoSaid : Prop := transcriptChallengesUptoRow.holds Try.pinned (OpenSpec.upto transcriptChallengesSpec)

/-- 'moidorelaw13.TranscriptIdeal', WHERE WHAT IT READS IS OF BULK AT MOST 1048576: true; the input reads as it did. -/
def transcriptIdealUptoRow : OpenClaim := { program := "ytponaobpcdkggaa", sum := "160e5fcd66ec4f89e0158dd9188a3322f6ac5e0e0b301c170920fcd79cf27ac0", func := "moidore/moidorelaw13.TranscriptIdeal", spec := "transcriptIdeal", inPlace := ["math/bits.Add64"], recurses := true, named := ["math/bits.divideError", "math/bits.overflowError"], apart := false, narrowed := true }
def TranscriptIdealUptoSaid : Prop := transcriptIdealUptoRow.holds Try.pinned (OpenSpec.upto transcriptIdealSpec)

end Rows
end Go.Proofs.Ytponaobpcdkggaa
