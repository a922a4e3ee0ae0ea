/-
  The law 'TranscriptAbsorb': it returns true for every input, and what it was given reads as it did. No conditions.
-/
import Derived.Test.YtponaobpcdkggaaA6
set_option linter.all false
namespace Go.Proofs.Ytponaobpcdkggaa.transcriptAbsorb
open Go Go.Bv Go.Cv Go.Md Go.RowKit Go.ChangeShapes Go.WideShapes Go.ChangeAt
theorem ty : typesOk Try.prog Try.f5.params.toList = true := by kernel_rfl
theorem rt : Try.f5.resultTypes = #[4] := by kernel_rfl
theorem sound (p0 : Int) (p1 : List TMessage) (h0 : (0 ≤ p0 ∧ p0 < 18446744073709551616)) (h1 : (p1.length ≤ 9223372036854775807 ∧ ∀ y ∈ p1, kc9 y)) : SoundH Try.prog 5 [vOf Try.prog 22 [D.int .u64 p0], vOf Try.prog 40 [D.slice 2 (p1.map encTMessage)]] [] (.d (.bool true)) [] :=
  mpr_of (by kernel_rfl) (kv2 (ktp p0 p1 (kuu h0 h1)))
set_option maxRecDepth 1000000 in
theorem contract (H : Type) (enc : TypeId × Value → H) (W : World) (base : Nat) (args : Array Value) (ds gs : List (DataW H)) (before : List MemPlace)
    (hval : ∀ (j : Nat) t v, Try.f5.params[j]? = some t → args[j]? = some v → Value.okWide Try.prog W .any base t v)
    (hW : DataW.Whole enc Try.prog Try.f5.params.toList Rows.transcriptAbsorbSpec.vars false W args.toList ds gs before) :
    Calls Try.prog 5 args W fun e W' => ∃ v, e = .returned v ∧ Rows.transcriptAbsorbSpec.post enc Try.prog Try.f5 false true false false W args v W' := by
  have hW' := hW
  obtain ⟨p, q, hA0, hV, rfl, hfz, hnd⟩ := hW
  have hA : DataW.TrodAll enc Try.prog W 0 (fun _ => true) true Try.f5.params.toList args.toList ds p := hA0
  rw [Try.params5] at hA hval
  obtain ⟨v0, vs0, d0, ds0, pl0, q0, hargs0, rfl, rfl, t0, r0⟩ := trodAll_cons hA
  obtain ⟨v1, vs1, d1, ds1, pl1, q1, hargs1, rfl, rfl, t1, r1⟩ := trodAll_cons r0
  obtain ⟨rfl, rfl, rfl⟩ := trodAll_nil r1
  obtain rfl : args = #[v0, v1] := Array.ext' (by rw [hargs0, hargs1])
  obtain ⟨rfl, rfl⟩ := trodVars_none hV
  obtain ⟨xs0, hR0, hV0⟩ := kjc (h := []) (nx := 0) dt22 (hval 0 22 v0 rfl rfl) t0
  obtain ⟨p0, rfl, h0⟩ := op22 (k := 0) hR0
  obtain ⟨xs1, hR1, hV1⟩ := kjc (h := []) (nx := 0) dt40 (hval 1 40 v1 rfl rfl) t1
  obtain ⟨p1, rfl, h1⟩ := op40 (k := 0) hR1
  refine (law_of (sound p0 p1 h0 h1) (vs := [v0, v1]) rfl ?_).mono fun e W' hh => ?_
  · intro j v x hv hx
    match j with
    | 0 => simp at hv hx; subst hv; subst hx; exact hV0
    | 1 => simp at hv hx; subst hv; subst hx; exact hV1
    | j + 2 => simp at hv
  · obtain ⟨⟨v, G', rfl, hv⟩, hb⟩ := hh
    refine ⟨_, rfl, ?_⟩
    cases hv with | d _ _ hd =>
    cases hd
    exact k16q rfl hW' laid ty rt Try.underlying4 rfl rfl rfl hb
set_option maxRecDepth 100000 in
theorem lifted (os : Os) (started : os.Started) (H : Type) (enc : TypeId × Value → H) :
    ReturnsInHanded {} Try.checked os 5 .any (Rows.transcriptAbsorbSpec.pre6 enc Try.prog Try.f5 Rows.transcriptAbsorbRow.domain false) (Rows.transcriptAbsorbSpec.post enc Try.prog Try.f5 false true false false) := by
  refine returnsInHanded_of_change (C := Try.checked) own started (by kernel_rfl) Try.func5
    (ChangeSpec.witness6 (enc := enc) (C := Try.checked) false ⟨#[], #[.int .u64 0, .slice none 0 0], []⟩ 8 (by kernel_rfl) (by kernel_rfl) (by kernel_rfl) (by kernel_rfl)) ?_
  intro W base args ds gs before hval hW _ _
  exact contract H enc W base args ds gs before hval hW
theorem proved : Rows.TranscriptAbsorbSaid :=
  OpenClaim.holds_of_wide 5 Try.f5 rfl rfl rfl rfl rfl rfl rfl ⟨rfl, rfl, rfl, rfl, rfl⟩ rfl rfl rfl rfl rfl (by kernel_rfl) Try.func5 (by kernel_rfl)
    (of_decide_eq_true (by kernel_rfl)) (by unfold Func.isWrapper; first | (rw [if_pos (by decide +kernel)]; kernel_rfl) | (rw [if_neg (by decide +kernel)]; exact ⟨rfl, rfl⟩))
    (fun os started H enc _ => lifted os started H enc)
end Go.Proofs.Ytponaobpcdkggaa.transcriptAbsorb
