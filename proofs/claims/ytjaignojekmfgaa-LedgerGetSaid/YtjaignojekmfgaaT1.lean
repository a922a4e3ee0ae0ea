/-
  The argument of the ledger's laws, opened.
-/
import Derived.Test.YtjaignojekmfgaaRows
import Derived.Test.YtjaignojekmfgaaWalk
import Derived.Test.YtjaignojekmfgaaP3
import Derived.Test.YtjaignojekmfgaaBvTop
import Derived.WalkKit
namespace Go.Proofs.Ytjaignojekmfgaa
open Go.ChangeShapes Go.WideShapes Go.ChangeAt Go.RowKit Go.Bv Go.Md

theorem wf_u64 {i : Int} (h : (Lit.int .u64 i).wf = true) : 0 ≤ i ∧ i < 18446744073709551616 := by
  simp only [Lit.wf, IntKind.min, IntKind.max, IntKind.signed, IntKind.bits, Bool.and_eq_true] at h
  simp at h
  omega
theorem ag47 : isAggT Try.prog 47 = true := by kernel_rfl
theorem ag25 : isAggT Try.prog 25 = true := by kernel_rfl
theorem co47 : Try.prog.cellsOf 47 = 3 := by kernel_rfl
theorem acc_open {H : Type} {k : Nat} {ds : List D} {d : DataW H} (h : Rel Try.prog (k + 2) 47 ds d) : ∃ a : Acc, mkD Try.prog 47 ds = encSIDBalanceNonce a ∧ W64 a := by
  obtain ⟨ps, rfl, h1⟩ := rel_struct Try.underlying47 h
  simp only [fsOf, List.map_cons, List.map_nil, RelFs] at h1
  obtain ⟨_, _, _, _, g1, ⟨_, _, _, _, g2, ⟨_, _, _, _, g3, ⟨rfl, rfl⟩, rfl, rfl⟩, rfl, rfl⟩, rfl, rfl⟩ := h1
  obtain ⟨i, rfl, rfl, w1⟩ := rel_int Try.underlying23 g1
  obtain ⟨j, rfl, rfl, w2⟩ := rel_int Try.underlying23 g2
  obtain ⟨n, rfl, rfl, w3⟩ := rel_int Try.underlying23 g3
  refine ⟨⟨i, j, n⟩, ?_, wf_u64 w1, wf_u64 w2, wf_u64 w3⟩
  unfold mkD
  rw [ag47]
  rfl
theorem case_open {H : Type} {ds : List D} {d : DataW H} (h : Rel Try.prog 4 25 ds d) : ∃ p : SLIDAmountNonce, CaseOk p ∧
    vOf Try.prog 25 ds = .agg [.d (.slice 3 (List.map encSIDBalanceNonce p.L)), .d (.int .u64 p.ID), .d (.int .u64 p.Amount), .d (.int .u64 p.Nonce)] := by
  obtain ⟨ps, rfl, h1⟩ := rel_struct Try.underlying25 h
  simp only [fsOf, List.map_cons, List.map_nil, RelFs] at h1
  obtain ⟨_, _, _, _, g1, ⟨_, _, _, _, g2, ⟨_, _, _, _, g3, ⟨_, _, _, _, g4, ⟨rfl, rfl⟩, rfl, rfl⟩, rfl, rfl⟩, rfl, rfl⟩, rfl, rfl⟩ := h1
  obtain ⟨l, rfl, hl, _⟩ := rel_slice encSIDBalanceNonce W64 Try.underlying22 g1 (fun x y hh => acc_open hh)
  obtain ⟨i, rfl, rfl, w1⟩ := rel_int Try.underlying23 g2
  obtain ⟨j, rfl, rfl, w2⟩ := rel_int Try.underlying23 g3
  obtain ⟨n, rfl, rfl, w3⟩ := rel_int Try.underlying23 g4
  refine ⟨⟨l, i, j, n⟩, ⟨hl, wf_u64 w1, wf_u64 w2, wf_u64 w3⟩, ?_⟩
  unfold vOf
  rw [ag25, co47]
  rfl
theorem own : ownKnob Try.prog.godebug = none := by kernel_rfl
theorem laid : laidOutB Try.prog = true := by kernel_rfl
theorem dt25 : dataT Try.prog true 4 25 = true := by kernel_rfl
end Go.Proofs.Ytjaignojekmfgaa
