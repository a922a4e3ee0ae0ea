/-
  The law 'LedgerMatchesModel': its row.
-/
import Derived.Test.YtjaignojekmfgaaT1
import Derived.Test.YtjaignojekmfgaaP6
namespace Go.Proofs.Ytjaignojekmfgaa.ledgerMatchesModel
open Go.ChangeShapes Go.WideShapes Go.ChangeAt Go.RowKit Go.Bv Go.Md

theorem ty : typesOk Try.prog Try.f7.params.toList = true := by kernel_rfl
theorem rt : Try.f7.resultTypes = #[4] := by kernel_rfl
theorem dt43 : dataT Try.prog true 4 43 = true := by kernel_rfl
theorem ag43 : isAggT Try.prog 43 = false := by kernel_rfl
theorem ag45 : isAggT Try.prog 45 = true := by kernel_rfl
theorem co45 : Try.prog.cellsOf 45 = 3 := by kernel_rfl
theorem wf_u8 {i : Int} (h : (Lit.int .u8 i).wf = true) : 0 ≤ i ∧ i < 256 := by
  simp only [Lit.wf, IntKind.min, IntKind.max, IntKind.signed, IntKind.bits, Bool.and_eq_true] at h
  simp at h
  omega
theorem step_open {H : Type} {k : Nat} {ds : List D} {d : DataW H} (h : Rel Try.prog (k + 2) 45 ds d) : ∃ a : SKindIDAmount, mkD Try.prog 45 ds = encSKindIDAmount a ∧ StepOk a := by
  obtain ⟨ps, rfl, h1⟩ := rel_struct Try.underlying45 h
  simp only [fsOf, List.map_cons, List.map_nil, RelFs] at h1
  obtain ⟨_, _, _, _, g1, ⟨_, _, _, _, g2, ⟨_, _, _, _, g3, ⟨rfl, rfl⟩, rfl, rfl⟩, rfl, rfl⟩, rfl, rfl⟩ := h1
  obtain ⟨i, rfl, rfl, w1⟩ := rel_int Try.underlying5 g1
  obtain ⟨j, rfl, rfl, w2⟩ := rel_int Try.underlying23 g2
  obtain ⟨n, rfl, rfl, w3⟩ := rel_int Try.underlying23 g3
  refine ⟨⟨i, j, n⟩, ?_, wf_u8 w1, wf_u64 w2, wf_u64 w3⟩
  unfold mkD
  rw [ag45]
  rfl
theorem list_open {H : Type} {ds : List D} {d : DataW H} (h : Rel Try.prog 4 43 ds d) : ∃ l : List SKindIDAmount, (∀ s ∈ l, StepOk s) ∧ vOf Try.prog 43 ds = .d (.slice 3 (List.map encSKindIDAmount l)) := by
  obtain ⟨l, rfl, hl, _⟩ := rel_slice encSKindIDAmount StepOk Try.underlying43 h (fun x y hh => step_open hh)
  refine ⟨l, hl, ?_⟩
  unfold vOf
  rw [ag43, co45]
  rfl
theorem contract (H : Type) (enc : TypeId × Value → H) (W : World) (base : Nat) (args : Array Value) (ds gs : List (DataW H)) (before : List MemPlace)
    (hval : ∀ (j : Nat) t v, Try.f7.params[j]? = some t → args[j]? = some v → Value.okWide Try.prog W .any base t v)
    (hW : DataW.Whole enc Try.prog Try.f7.params.toList Rows.ledgerMatchesModelSpec.vars false W args.toList ds gs before) :
    Calls Try.prog 7 args W fun e W' => ∃ v, e = .returned v ∧ Rows.ledgerMatchesModelSpec.post enc Try.prog Try.f7 false true false false W args v W' := by
  have hW' := hW
  obtain ⟨p, q, hA0, hV, rfl, hfz, hnd⟩ := hW
  have hA : DataW.TrodAll enc Try.prog W 0 (fun _ => true) true Try.f7.params.toList args.toList ds p := hA0
  rw [Try.params7] at hA hval
  obtain ⟨v0, vs0, d0, ds0, p0, q0, hargs, rfl, rfl, h0, r0⟩ := trodAll_cons hA
  obtain ⟨rfl, rfl, rfl⟩ := trodAll_nil r0
  obtain rfl : args = #[v0] := by cases args; simp_all
  obtain ⟨rfl, rfl⟩ := trodVars_none hV
  obtain ⟨xs, hR, hV0⟩ := arg_rep (h := []) (nx := 0) dt43 (hval 0 43 v0 rfl rfl) h0
  obtain ⟨c, hc, e⟩ := list_open hR
  rw [e] at hV0
  refine (law_of (moidorelaw44_LedgerMatchesModel_ok c true (law_match c hc)) (vs := [v0]) rfl ?_).mono fun e W' hh => ?_
  · intro j v x hv hx
    cases j with
    | zero => simp at hv hx; subst hv; subst hx; exact hV0
    | succ j => simp at hv
  · obtain ⟨⟨v, G', rfl, hv⟩, hb⟩ := hh
    refine ⟨_, rfl, ?_⟩
    cases hv with | d _ _ hd =>
    cases hd
    exact law_post rfl hW' laid ty rt Try.underlying4 rfl rfl rfl hb

set_option maxRecDepth 100000 in
theorem lifted (os : Os) (started : os.Started) (H : Type) (enc : TypeId × Value → H) :
    ReturnsInHanded {} Try.checked os 7 .any (Rows.ledgerMatchesModelSpec.pre6 enc Try.prog Try.f7 Rows.ledgerMatchesModelRow.domain false) (Rows.ledgerMatchesModelSpec.post enc Try.prog Try.f7 false true false false) := by
  refine returnsInHanded_of_change (C := Try.checked) own started (by kernel_rfl) Try.func7
    (ChangeSpec.witness6 (enc := enc) (C := Try.checked) false ⟨#[], #[.slice none 0 0], []⟩ 8 (by kernel_rfl) (by kernel_rfl) (by kernel_rfl) (by kernel_rfl)) ?_
  intro W base args ds gs before hval hW _ _
  exact contract H enc W base args ds gs before hval hW

theorem proved : Rows.LedgerMatchesModelSaid :=
  OpenClaim.holds_of_wide 7 Try.f7 rfl rfl rfl rfl rfl rfl rfl ⟨rfl, rfl, rfl, rfl, rfl⟩ rfl rfl rfl rfl rfl (by kernel_rfl) Try.func7 (by kernel_rfl)
    (of_decide_eq_true (by kernel_rfl)) (by unfold Func.isWrapper; first | (rw [if_pos (by decide +kernel)]; kernel_rfl) | (rw [if_neg (by decide +kernel)]; exact ⟨rfl, rfl⟩))
    (fun os started H enc _ => lifted os started H enc)
end Go.Proofs.Ytjaignojekmfgaa.ledgerMatchesModel
