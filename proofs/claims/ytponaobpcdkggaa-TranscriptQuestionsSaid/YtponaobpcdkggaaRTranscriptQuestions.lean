/-
  The law 'TranscriptQuestions': it returns true for every input, and what it was given reads as it did. No conditions.
-/
import Derived.Test.YtponaobpcdkggaaA6
set_option linter.all false
namespace Go.Proofs.Ytponaobpcdkggaa.transcriptQuestions
open Go Go.Bv Go.Cv Go.Md Go.RowKit Go.ChangeShapes Go.WideShapes Go.ChangeAt
theorem ty : typesOk Try.prog Try.f4.params.toList = true := by kernel_rfl
theorem rt : Try.f4.resultTypes = #[4] := by kernel_rfl
theorem sound (p0 : TTranscript) (p1 : Int) (h0 : kfv p0) (h1 : ((-9223372036854775808) ≤ p1 ∧ p1 < 9223372036854775808)) : SoundH Try.prog 4 [vOf Try.prog 30 ((encTTranscript p0).cells), vOf Try.prog 3 [D.int .i64 p1]] [] (.d (.bool true)) [] :=
  mpr_of (by kernel_rfl) (kpa (ko2 p0 p1 (kp3 h0 h1)))
set_option maxRecDepth 1000000 in
theorem contract (H : Type) (enc : TypeId × Value → H) (W : World) (base : Nat) (args : Array Value) (ds gs : List (DataW H)) (before : List MemPlace)
    (hval : ∀ (j : Nat) t v, Try.f4.params[j]? = some t → args[j]? = some v → Value.okWide Try.prog W .any base t v)
    (hW : DataW.Whole enc Try.prog Try.f4.params.toList Rows.transcriptQuestionsSpec.vars false W args.toList ds gs before) :
    Calls Try.prog 4 args W fun e W' => ∃ v, e = .returned v ∧ Rows.transcriptQuestionsSpec.post enc Try.prog Try.f4 false true false false W args v W' := by
  have hW' := hW
  obtain ⟨p, q, hA0, hV, rfl, hfz, hnd⟩ := hW
  have hA : DataW.TrodAll enc Try.prog W 0 (fun _ => true) true Try.f4.params.toList args.toList ds p := hA0
  rw [Try.params4] at hA hval
  obtain ⟨v0, vs0, d0, ds0, pl0, q0, hargs0, rfl, rfl, t0, r0⟩ := trodAll_cons hA
  obtain ⟨v1, vs1, d1, ds1, pl1, q1, hargs1, rfl, rfl, t1, r1⟩ := trodAll_cons r0
  obtain ⟨rfl, rfl, rfl⟩ := trodAll_nil r1
  obtain rfl : args = #[v0, v1] := Array.ext' (by rw [hargs0, hargs1])
  obtain ⟨rfl, rfl⟩ := trodVars_none hV
  obtain ⟨xs0, hR0, hV0⟩ := k19n (h := []) (nx := 0) dt30 (hval 0 30 v0 rfl rfl) t0
  obtain ⟨p0, rfl, h0⟩ := op30 (k := 0) hR0
  obtain ⟨xs1, hR1, hV1⟩ := k19n (h := []) (nx := 0) dt3 (hval 1 3 v1 rfl rfl) t1
  obtain ⟨p1, rfl, h1⟩ := op3 (k := 0) hR1
  refine (law_of (sound p0 p1 h0 h1) (vs := [v0, v1]) rfl ?_).mono fun e W' hh => ?_
  · intro j v x hv hx
    match j with
    | 0 => simp at hv hx; subst hv; subst hx; exact hV0
    | 1 => simp at hv hx; subst hv; subst hx; exact hV1
    | j + 2 => simp at hv
  · obtain ⟨⟨v, G', rfl, hv⟩, hb⟩ := hh
    refine ⟨_, rfl, ?_⟩
    cases hv with | d _ _ hd =>
    cases hd
    exact k1dy rfl hW' laid ty rt Try.underlying4 rfl rfl rfl hb
set_option maxRecDepth 100000 in
theorem lifted (os : Os) (started : os.Started) (H : Type) (enc : TypeId × Value → H) :
    ReturnsInHanded {} Try.checked os 4 .any (Rows.transcriptQuestionsSpec.pre6 enc Try.prog Try.f4 Rows.transcriptQuestionsRow.domain false) (Rows.transcriptQuestionsSpec.post enc Try.prog Try.f4 false true false false) := by
  refine returnsInHanded_of_change (C := Try.checked) own started (by kernel_rfl) Try.func4
    (ChangeSpec.witness6 (enc := enc) (C := Try.checked) false ⟨#[], #[.agg #[.int .u64 0, .int .u64 0], .int .i64 0], []⟩ 8 (by kernel_rfl) (by kernel_rfl) (by kernel_rfl) (by kernel_rfl)) ?_
  intro W base args ds gs before hval hW _ _
  exact contract H enc W base args ds gs before hval hW
theorem proved : Rows.TranscriptQuestionsSaid :=
  OpenClaim.holds_of_wide 4 Try.f4 rfl rfl rfl rfl rfl rfl rfl ⟨rfl, rfl, rfl, rfl, rfl⟩ rfl rfl rfl rfl rfl (by kernel_rfl) Try.func4 (by kernel_rfl)
    (of_decide_eq_true (by kernel_rfl)) (by unfold Func.isWrapper; first | (rw [if_pos (by decide +kernel)]; kernel_rfl) | (rw [if_neg (by decide +kernel)]; exact ⟨rfl, rfl⟩))
    (fun os started H enc _ => lifted os started H enc)
end Go.Proofs.Ytponaobpcdkggaa.transcriptQuestions
