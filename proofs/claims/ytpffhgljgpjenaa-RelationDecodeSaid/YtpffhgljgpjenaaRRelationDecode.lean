/-
  The law 'RelationDecode': it returns true for every input, and what it was given reads as it did. No conditions.
-/
import Derived.Test.YtpffhgljgpjenaaA7
set_option linter.all false
set_option maxRecDepth 100000
noncomputable section
namespace Go.Proofs.Ytpffhgljgpjenaa.relationDecode
open Go Go.Bv Go.Cv Go.Md Go.RowKit Go.ChangeShapes Go.WideShapes Go.ChangeAt
theorem ty : typesOk Try.prog Try.f7.params.toList = true := by kernel_rfl
theorem rt : Try.f7.resultTypes = #[4] := by kernel_rfl
theorem sound (p0 : List Int) (h0 : (p0.length ≤ 9223372036854775807 ∧ ∀ y ∈ p0, (0 ≤ y ∧ y < 256))) : SoundH Try.prog 7 [vOf Try.prog 62 [D.slice 1 (p0.map (D.int .u8))]] [] (.d (.bool true)) [] :=
 mpr_of (by kernel_rfl) (kuz (kst p0 (kuu h0)))
set_option maxRecDepth 1000000 in
theorem contract (H : Type) (enc : TypeId × Value → H) (W : World) (base : Nat) (args : Array Value) (ds gs : List (DataW H)) (before : List MemPlace)
  (hval : ∀ (j : Nat) t v, Try.f7.params[j]? = some t → args[j]? = some v → Value.okWide Try.prog W .any base t v)
  (hW : DataW.Whole enc Try.prog Try.f7.params.toList Rows.relationDecodeSpec.vars false W args.toList ds gs before) :
  Calls Try.prog 7 args W fun e W' => ∃ v, e = .returned v ∧ Rows.relationDecodeSpec.post enc Try.prog Try.f7 false true false false W args v W' := by
 have hW' := hW
 obtain ⟨p, q, hA0, hV, rfl, hfz, hnd⟩ := hW
 have hA : DataW.TrodAll enc Try.prog W 0 (fun _ => true) true Try.f7.params.toList args.toList ds p := hA0
 rw [Try.params7] at hA hval
 obtain ⟨v0, vs0, d0, ds0, pl0, q0, hargs0, rfl, rfl, t0, r0⟩ := trodAll_cons hA
 obtain ⟨rfl, rfl, rfl⟩ := trodAll_nil r0
 obtain rfl : args = #[v0] := Array.ext' (by rw [hargs0])
 obtain ⟨rfl, rfl⟩ := trodVars_none hV
 obtain ⟨xs0, hR0, hV0⟩ := k1qa (h := []) (nx := 0) dt62 (hval 0 62 v0 rfl rfl) t0
 obtain ⟨p0, rfl, h0⟩ := op62 (k := 0) hR0
 refine (law_of (sound p0 h0) (vs := [v0]) rfl ?_).mono fun e W' hh => ?_
 ·intro j v x hv hx
  match j with
  | 0 => simp at hv hx; subst hv; subst hx; exact hV0
  | j + 1 => simp at hv
 ·obtain ⟨⟨v, G', rfl, hv⟩, hb⟩ := hh
  refine ⟨_, rfl, ?_⟩
  cases hv with | d _ _ hd =>
  cases hd
  exact k1pn rfl hW' laid ty rt Try.underlying4 rfl rfl rfl hb
theorem lifted (os : Os) (started : os.Started) (H : Type) (enc : TypeId × Value → H) :
  ReturnsInHanded {} Try.checked os 7 .any (Rows.relationDecodeSpec.pre6 enc Try.prog Try.f7 Rows.relationDecodeRow.domain false) (Rows.relationDecodeSpec.post enc Try.prog Try.f7 false true false false) := by
 refine returnsInHanded_of_change (C := Try.checked) own started (by kernel_rfl) Try.func7
  (ChangeSpec.witness6 (enc := enc) (C := Try.checked) false ⟨#[], #[.slice none 0 0], []⟩ 8 (by kernel_rfl) (by kernel_rfl) (by kernel_rfl) (by kernel_rfl)) ?_
 intro W base args ds gs before hval hW _ _
 exact contract H enc W base args ds gs before hval hW
theorem proved : Rows.RelationDecodeSaid :=
 OpenClaim.holds_of_wide 7 Try.f7 rfl rfl rfl rfl rfl rfl rfl ⟨rfl, rfl, rfl, rfl, rfl⟩ rfl rfl rfl rfl rfl (by kernel_rfl) Try.func7 (by kernel_rfl)
  (of_decide_eq_true (by kernel_rfl)) (by unfold Func.isWrapper; first | (rw [if_pos (by decide +kernel)]; kernel_rfl) | (rw [if_neg (by decide +kernel)]; exact ⟨rfl, rfl⟩))
  (fun os started H enc _ => lifted os started H enc)
end Go.Proofs.Ytpffhgljgpjenaa.relationDecode
end
