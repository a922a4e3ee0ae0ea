/-
  Each function keeps its contract, if what it asks holds (printed by a program).
-/
import Derived.Test.YtjaignojekmfgaaFacts
import Derived.Test.YtjaignojekmfgaaPure
import Derived.Test.YtjaignojekmfgaaWalka
namespace Go.Proofs.Ytjaignojekmfgaa
open Go.RowKit Go.Bv Go.Md
set_option linter.unusedSimpArgs false
theorem moidoreref44_set_ok (p0 : List SIDBalanceNonce) (p1 : SIDBalanceNonce) (r0 : List SIDBalanceNonce) (h : moidoreref44_set_Ret p0 p1 r0) : SoundH Try.prog 30 [.d (.slice 3 (List.map encSIDBalanceNonce p0)), .agg [.d (.int .u64 p1.ID), .d (.int .u64 p1.Balance), .d (.int .u64 p1.Nonce)]] [] (.own 0 3 (List.map encSIDBalanceNonce r0)) [.tip (List.length r0)] := by
  refine sound_of Try.func30 rfl Try.ntmps30 (by simp) fun G0 w0 => ?_
  unfold moidoreref44_set_Ret at h
  refine sat_seq ?_
  refine sat_region fun K hK => ?_
  simp only [v1, v2, v3, v4, v5, v6, v7, v8, v9, tf1, tu, litOk, appOk, appS, growD, Nat.reduceEqDiff, Nat.reduceLT, Nat.reduceAdd, Nat.reduceLeDiff, Nat.reduceMul, Nat.reduceBEq, Nat.reduceSub, Int.reduceLE, Int.reduceToNat, Int.reduceLT, Int.reduceNeg, encSIDBalanceNonce, encSLIDAmountNonce, encSAccounts, encSKindIDAmount, List.map_append, List.length_append, List.length_map, List.map_take, List.map_drop, List.length_drop, List.length_take, Nat.le_refl, true_and]
  refine hK _ ?_
  clear hK K
  try simp only [s_thN, s_thE, s_thR, s_blN, s_blE, s_blM, s_blR, Nat.reduceEqDiff]
  refine sat_seq ?_
  refine sat_region fun K hK => ?_
  simp only [v1, v2, v3, v4, v5, v6, v7, v8, v9, tf1, tu, litOk, appOk, appS, growD, Nat.reduceEqDiff, Nat.reduceLT, Nat.reduceAdd, Nat.reduceLeDiff, Nat.reduceMul, Nat.reduceBEq, Nat.reduceSub, Int.reduceLE, Int.reduceToNat, Int.reduceLT, Int.reduceNeg, encSIDBalanceNonce, encSLIDAmountNonce, encSAccounts, encSKindIDAmount, List.map_append, List.length_append, List.length_map, List.map_take, List.map_drop, List.length_drop, List.length_take, Nat.le_refl, true_and]
  refine hK _ ?_
  clear hK K
  try simp only [s_thN, s_thE, s_thR, s_blN, s_blE, s_blM, s_blR, Nat.reduceEqDiff]
  refine sat_seq ?_
  refine sat_seq ?_
  refine sat_region fun K hK => ?_
  simp only [v1, v2, v3, v4, v5, v6, v7, v8, v9, tf1, tu, litOk, appOk, appS, growD, Nat.reduceEqDiff, Nat.reduceLT, Nat.reduceAdd, Nat.reduceLeDiff, Nat.reduceMul, Nat.reduceBEq, Nat.reduceSub, Int.reduceLE, Int.reduceToNat, Int.reduceLT, Int.reduceNeg, encSIDBalanceNonce, encSLIDAmountNonce, encSAccounts, encSKindIDAmount, List.map_append, List.length_append, List.length_map, List.map_take, List.map_drop, List.length_drop, List.length_take, Nat.le_refl, true_and]
  refine hK _ ?_
  clear hK K
  try simp only [s_thN, s_thE, s_thR, s_blN, s_blE, s_blM, s_blR, Nat.reduceEqDiff]
  refine sat_block ?_
  refine sat_tok 5 (sz := 3) (l := List.map encSIDBalanceNonce ([] : List SIDBalanceNonce)) (by simp only [v1, v2, v3, v4, v5, v6, v7, v8, v9, tf1, tu, litOk, appOk, appS, growD, Nat.reduceEqDiff, Nat.reduceLT, Nat.reduceAdd, Nat.reduceLeDiff, Nat.reduceMul, Nat.reduceBEq, Nat.reduceSub, Int.reduceLE, Int.reduceToNat, Int.reduceLT, Int.reduceNeg, encSIDBalanceNonce, encSLIDAmountNonce, encSAccounts, encSKindIDAmount, e_gfF, e_gfN]) ?_
  simp only [v1, v2, v3, v4, v5, v6, v7, v8, v9, tf1, tu, litOk, appOk, appS, growD, Nat.reduceEqDiff, Nat.reduceLT, Nat.reduceAdd, Nat.reduceLeDiff, Nat.reduceMul, Nat.reduceBEq, Nat.reduceSub, Int.reduceLE, Int.reduceToNat, Int.reduceLT, Int.reduceNeg, encSIDBalanceNonce, encSLIDAmountNonce, encSAccounts, encSKindIDAmount, List.map_append, List.length_append, List.length_map, List.map_take, List.map_drop, List.length_drop, List.length_take, Nat.le_refl, true_and]
  obtain ⟨inv, μ, h0, hs⟩ := h
  refine sat_loop (ι := (List SIDBalanceNonce) × Int) (fun x => ⟨[(0, .d (.slice 3 (List.map encSIDBalanceNonce p0))), (3, .ptr 0 0), (5, .own 1 3 (List.map encSIDBalanceNonce x.1)), (6, .d (.int .i64 x.2))], [(0, .cells [.d (.int .u64 p1.ID), .d (.int .u64 p1.Balance), .d (.int .u64 p1.Nonce)]), (1, .tip (List.length x.1))], 2⟩) inv μ (([] : List SIDBalanceNonce), 0) h0 (by simp only [v1, v2, v3, v4, v5, v6, v7, v8, v9, tf1, tu, litOk, appOk, appS, growD, Nat.reduceEqDiff, Nat.reduceLT, Nat.reduceAdd, Nat.reduceLeDiff, Nat.reduceMul, Nat.reduceBEq, Nat.reduceSub, Int.reduceLE, Int.reduceToNat, Int.reduceLT, Int.reduceNeg, encSIDBalanceNonce, encSLIDAmountNonce, encSAccounts, encSKindIDAmount, vl, List.map_append, List.length_append, List.length_map, List.map_take, List.map_drop, List.length_drop, List.length_take, Nat.le_refl, true_and]) ?_
  rintro ⟨j3, j4⟩ hi
  have h : moidoreref44_set_L6 p0 p1 r0 _ j3 j4 := hs _ hi
  clear hs h0 hi
  generalize hnx : (fun s => inv s ∧ μ s < μ (j3, j4)) = nx1 at h
  show Sat _ _ _ _ _ _ ⟨[(0, .d (.slice 3 (List.map encSIDBalanceNonce p0))), (3, .ptr 0 0), (5, .own 1 3 (List.map encSIDBalanceNonce j3)), (6, .d (.int .i64 j4))], [(0, .cells [.d (.int .u64 p1.ID), .d (.int .u64 p1.Balance), .d (.int .u64 p1.Nonce)]), (1, .tip (List.length j3))], 2⟩ _
  unfold moidoreref44_set_L6 at h
  refine sat_seq ?_
  refine sat_join (ι := Bool) (fun x => ⟨[(0, .d (.slice 3 (List.map encSIDBalanceNonce p0))), (3, .ptr 0 0), (5, .own 1 3 (List.map encSIDBalanceNonce j3)), (6, .d (.int .i64 j4)), (21, .d (.bool x))], [(0, .cells [.d (.int .u64 p1.ID), .d (.int .u64 p1.Balance), .d (.int .u64 p1.Nonce)]), (1, .tip (List.length j3))], 2⟩) (fun x => moidoreref44_set_J5 p0 p1 r0 nx1 j3 j4 x) ?_ ?_
  · obtain ⟨c1, c2, h⟩ := h
    refine sat_drawn 1 mix (by kernel_rfl) fun K hK => ?_
    simp only [v1, v2, v3, v4, v5, v6, v7, v8, v9, tf1, tu, litOk, appOk, appS, growD, Nat.reduceEqDiff, Nat.reduceLT, Nat.reduceAdd, Nat.reduceLeDiff, Nat.reduceMul, Nat.reduceBEq, Nat.reduceSub, Int.reduceLE, Int.reduceToNat, Int.reduceLT, Int.reduceNeg, encSIDBalanceNonce, encSLIDAmountNonce, encSAccounts, encSKindIDAmount, List.map_append, List.length_append, List.length_map, List.map_take, List.map_drop, List.length_drop, List.length_take, Nat.le_refl, true_and]
    refine D_guard_split (by simp only [v1, v2, v3, v4, v5, v6, v7, v8, v9, tf1, tu, litOk, appOk, appS, growD, Nat.reduceEqDiff, Nat.reduceLT, Nat.reduceAdd, Nat.reduceLeDiff, Nat.reduceMul, Nat.reduceBEq, Nat.reduceSub, Int.reduceLE, Int.reduceToNat, Int.reduceLT, Int.reduceNeg, encSIDBalanceNonce, encSLIDAmountNonce, encSAccounts, encSKindIDAmount]; rfl) (fun hg2 => ?_) (fun hg2 => ?_)
    · replace c1 := c1 (by simp only [v1, v2, v3, v4, v5, v6, v7, v8, v9, tf1, tu, litOk, appOk, appS, growD, Nat.reduceEqDiff, Nat.reduceLT, Nat.reduceAdd, Nat.reduceLeDiff, Nat.reduceMul, Nat.reduceBEq, Nat.reduceSub, Int.reduceLE, Int.reduceToNat, Int.reduceLT, Int.reduceNeg, encSIDBalanceNonce, encSLIDAmountNonce, encSAccounts, encSKindIDAmount, hg2])
      replace c2 := c2 (by simp only [v1, v2, v3, v4, v5, v6, v7, v8, v9, tf1, tu, litOk, appOk, appS, growD, Nat.reduceEqDiff, Nat.reduceLT, Nat.reduceAdd, Nat.reduceLeDiff, Nat.reduceMul, Nat.reduceBEq, Nat.reduceSub, Int.reduceLE, Int.reduceToNat, Int.reduceLT, Int.reduceNeg, encSIDBalanceNonce, encSLIDAmountNonce, encSAccounts, encSKindIDAmount, hg2])
      simp only [v1, v2, v3, v4, v5, v6, v7, v8, v9, tf1, tu, litOk, appOk, appS, growD, Nat.reduceEqDiff, Nat.reduceLT, Nat.reduceAdd, Nat.reduceLeDiff, Nat.reduceMul, Nat.reduceBEq, Nat.reduceSub, Int.reduceLE, Int.reduceToNat, Int.reduceLT, Int.reduceNeg, encSIDBalanceNonce, encSLIDAmountNonce, encSAccounts, encSKindIDAmount, hg2, List.map_append, List.length_append, List.length_map, List.map_take, List.map_drop, List.length_drop, List.length_take, Nat.le_refl, true_and, c1, c2, elt_ix encSIDBalanceNonce p0 j4 c1 c2]
      refine hK _ ?_
      clear hK K
      try simp only [s_thN, s_thE, s_thR, s_blN, s_blE, s_blM, s_blR, Nat.reduceEqDiff]
      exact ⟨(decide (j4 < ((List.length p0 : Nat) : Int))) && (decide ((ix p0 j4).ID < p1.ID)), h, by simp only [v1, v2, v3, v4, v5, v6, v7, v8, v9, tf1, tu, litOk, appOk, appS, growD, Nat.reduceEqDiff, Nat.reduceLT, Nat.reduceAdd, Nat.reduceLeDiff, Nat.reduceMul, Nat.reduceBEq, Nat.reduceSub, Int.reduceLE, Int.reduceToNat, Int.reduceLT, Int.reduceNeg, encSIDBalanceNonce, encSLIDAmountNonce, encSAccounts, encSKindIDAmount, vl, hg2, List.map_append, List.length_append, List.length_map, List.map_take, List.map_drop, List.length_drop, List.length_take, Nat.le_refl, true_and]⟩
    · simp only [v1, v2, v3, v4, v5, v6, v7, v8, v9, tf1, tu, litOk, appOk, appS, growD, Nat.reduceEqDiff, Nat.reduceLT, Nat.reduceAdd, Nat.reduceLeDiff, Nat.reduceMul, Nat.reduceBEq, Nat.reduceSub, Int.reduceLE, Int.reduceToNat, Int.reduceLT, Int.reduceNeg, encSIDBalanceNonce, encSLIDAmountNonce, encSAccounts, encSKindIDAmount, hg2, List.map_append, List.length_append, List.length_map, List.map_take, List.map_drop, List.length_drop, List.length_take, Nat.le_refl, true_and]
      refine hK _ ?_
      clear hK K
      try simp only [s_thN, s_thE, s_thR, s_blN, s_blE, s_blM, s_blR, Nat.reduceEqDiff]
      exact ⟨(decide (j4 < ((List.length p0 : Nat) : Int))) && (decide ((ix p0 j4).ID < p1.ID)), h, by simp only [v1, v2, v3, v4, v5, v6, v7, v8, v9, tf1, tu, litOk, appOk, appS, growD, Nat.reduceEqDiff, Nat.reduceLT, Nat.reduceAdd, Nat.reduceLeDiff, Nat.reduceMul, Nat.reduceBEq, Nat.reduceSub, Int.reduceLE, Int.reduceToNat, Int.reduceLT, Int.reduceNeg, encSIDBalanceNonce, encSLIDAmountNonce, encSAccounts, encSKindIDAmount, vl, hg2, List.map_append, List.length_append, List.length_map, List.map_take, List.map_drop, List.length_drop, List.length_take, Nat.le_refl, true_and]⟩
  · intro b1 h
    have h : moidoreref44_set_J5 p0 p1 r0 nx1 j3 j4 b1 := h
    show Sat _ _ _ _ _ _ ⟨[(0, .d (.slice 3 (List.map encSIDBalanceNonce p0))), (3, .ptr 0 0), (5, .own 1 3 (List.map encSIDBalanceNonce j3)), (6, .d (.int .i64 j4)), (21, .d (.bool b1))], [(0, .cells [.d (.int .u64 p1.ID), .d (.int .u64 p1.Balance), .d (.int .u64 p1.Nonce)]), (1, .tip (List.length j3))], 2⟩ _
    unfold moidoreref44_set_J5 at h
    refine sat_cond rfl (fun hb1 => ?_) (fun hb1 => ?_)
    · replace h := h.1 hb1
      refine sat_skip ?_
      try simp only [s_thN, s_thE, s_thR, s_blN, s_blE, s_blM, s_blR, Nat.reduceEqDiff]
      refine sat_seq ?_
      refine sat_block ?_
      obtain ⟨c3, c4, c5, c6, h⟩ := h
      refine sat_region fun K hK => ?_
      simp only [v1, v2, v3, v4, v5, v6, v7, v8, v9, tf1, tu, litOk, appOk, appS, growD, Nat.reduceEqDiff, Nat.reduceLT, Nat.reduceAdd, Nat.reduceLeDiff, Nat.reduceMul, Nat.reduceBEq, Nat.reduceSub, Int.reduceLE, Int.reduceToNat, Int.reduceLT, Int.reduceNeg, encSIDBalanceNonce, encSLIDAmountNonce, encSAccounts, encSKindIDAmount, c3, c4, elt_ix encSIDBalanceNonce p0 j4 c3 c4, c5, c6, List.map_append, List.length_append, List.length_map, List.map_take, List.map_drop, List.length_drop, List.length_take, Nat.le_refl, true_and]
      refine hK _ ?_
      clear hK K
      try simp only [s_thN, s_thE, s_thR, s_blN, s_blE, s_blM, s_blR, Nat.reduceEqDiff]
      refine sat_region fun K hK => ?_
      simp only [v1, v2, v3, v4, v5, v6, v7, v8, v9, tf1, tu, litOk, appOk, appS, growD, Nat.reduceEqDiff, Nat.reduceLT, Nat.reduceAdd, Nat.reduceLeDiff, Nat.reduceMul, Nat.reduceBEq, Nat.reduceSub, Int.reduceLE, Int.reduceToNat, Int.reduceLT, Int.reduceNeg, encSIDBalanceNonce, encSLIDAmountNonce, encSAccounts, encSKindIDAmount, List.map_append, List.length_append, List.length_map, List.map_take, List.map_drop, List.length_drop, List.length_take, Nat.le_refl, true_and]
      refine hK _ ?_
      clear hK K
      try simp only [s_thN, s_thE, s_thR, s_blN, s_blE, s_blM, s_blR, Nat.reduceEqDiff]
      rw [← hnx] at h
      exact ⟨(j3 ++ [(ix p0 j4)], IntKind.i64.wrap (j4 + 1)), h.1, h.2, by simp only [v1, v2, v3, v4, v5, v6, v7, v8, v9, tf1, tu, litOk, appOk, appS, growD, Nat.reduceEqDiff, Nat.reduceLT, Nat.reduceAdd, Nat.reduceLeDiff, Nat.reduceMul, Nat.reduceBEq, Nat.reduceSub, Int.reduceLE, Int.reduceToNat, Int.reduceLT, Int.reduceNeg, encSIDBalanceNonce, encSLIDAmountNonce, encSAccounts, encSKindIDAmount, vl, List.map_append, List.length_append, List.length_map, List.map_take, List.map_drop, List.length_drop, List.length_take, Nat.le_refl, true_and]⟩
    · replace h := h.2 hb1
      refine sat_exit ?_
      try simp only [s_thN, s_thE, s_thR, s_blN, s_blE, s_blM, s_blR, Nat.reduceEqDiff]
      refine sat_join (ι := (List SIDBalanceNonce)) (fun x => ⟨[(0, .d (.slice 3 (List.map encSIDBalanceNonce p0))), (3, .ptr 0 0), (5, .own 1 3 (List.map encSIDBalanceNonce x))], [(0, .cells [.d (.int .u64 p1.ID), .d (.int .u64 p1.Balance), .d (.int .u64 p1.Nonce)]), (1, .tip (List.length x))], 2⟩) (fun x => moidoreref44_set_J3 p0 p1 r0 x) ?_ ?_
      · refine sat_join (ι := Bool) (fun x => ⟨[(0, .d (.slice 3 (List.map encSIDBalanceNonce p0))), (3, .ptr 0 0), (5, .own 1 3 (List.map encSIDBalanceNonce j3)), (38, .d (.bool x))], [(0, .cells [.d (.int .u64 p1.ID), .d (.int .u64 p1.Balance), .d (.int .u64 p1.Nonce)]), (1, .tip (List.length j3))], 2⟩) (fun x => moidoreref44_set_J4 p0 p1 r0 j3 x) ?_ ?_
        · refine sat_region fun K hK => ?_
          simp only [v1, v2, v3, v4, v5, v6, v7, v8, v9, tf1, tu, litOk, appOk, appS, growD, Nat.reduceEqDiff, Nat.reduceLT, Nat.reduceAdd, Nat.reduceLeDiff, Nat.reduceMul, Nat.reduceBEq, Nat.reduceSub, Int.reduceLE, Int.reduceToNat, Int.reduceLT, Int.reduceNeg, encSIDBalanceNonce, encSLIDAmountNonce, encSAccounts, encSKindIDAmount, List.map_append, List.length_append, List.length_map, List.map_take, List.map_drop, List.length_drop, List.length_take, Nat.le_refl, true_and]
          refine A_guard_split (by simp only [v1, v2, v3, v4, v5, v6, v7, v8, v9, tf1, tu, litOk, appOk, appS, growD, Nat.reduceEqDiff, Nat.reduceLT, Nat.reduceAdd, Nat.reduceLeDiff, Nat.reduceMul, Nat.reduceBEq, Nat.reduceSub, Int.reduceLE, Int.reduceToNat, Int.reduceLT, Int.reduceNeg, encSIDBalanceNonce, encSLIDAmountNonce, encSAccounts, encSKindIDAmount]; rfl) (fun hg1 => ?_) (fun hg1 => ?_)
          · simp only [v1, v2, v3, v4, v5, v6, v7, v8, v9, tf1, tu, litOk, appOk, appS, growD, Nat.reduceEqDiff, Nat.reduceLT, Nat.reduceAdd, Nat.reduceLeDiff, Nat.reduceMul, Nat.reduceBEq, Nat.reduceSub, Int.reduceLE, Int.reduceToNat, Int.reduceLT, Int.reduceNeg, encSIDBalanceNonce, encSLIDAmountNonce, encSAccounts, encSKindIDAmount, hg1, List.map_append, List.length_append, List.length_map, List.map_take, List.map_drop, List.length_drop, List.length_take, Nat.le_refl, true_and]
            refine hK _ ?_
            clear hK K
            try simp only [s_thN, s_thE, s_thR, s_blN, s_blE, s_blM, s_blR, Nat.reduceEqDiff]
            exact ⟨(decide (0 < p1.Balance)) || (decide (0 < p1.Nonce)), h, by simp only [v1, v2, v3, v4, v5, v6, v7, v8, v9, tf1, tu, litOk, appOk, appS, growD, Nat.reduceEqDiff, Nat.reduceLT, Nat.reduceAdd, Nat.reduceLeDiff, Nat.reduceMul, Nat.reduceBEq, Nat.reduceSub, Int.reduceLE, Int.reduceToNat, Int.reduceLT, Int.reduceNeg, encSIDBalanceNonce, encSLIDAmountNonce, encSAccounts, encSKindIDAmount, vl, hg1, List.map_append, List.length_append, List.length_map, List.map_take, List.map_drop, List.length_drop, List.length_take, Nat.le_refl, true_and]⟩
          · simp only [v1, v2, v3, v4, v5, v6, v7, v8, v9, tf1, tu, litOk, appOk, appS, growD, Nat.reduceEqDiff, Nat.reduceLT, Nat.reduceAdd, Nat.reduceLeDiff, Nat.reduceMul, Nat.reduceBEq, Nat.reduceSub, Int.reduceLE, Int.reduceToNat, Int.reduceLT, Int.reduceNeg, encSIDBalanceNonce, encSLIDAmountNonce, encSAccounts, encSKindIDAmount, hg1, List.map_append, List.length_append, List.length_map, List.map_take, List.map_drop, List.length_drop, List.length_take, Nat.le_refl, true_and]
            refine hK _ ?_
            clear hK K
            try simp only [s_thN, s_thE, s_thR, s_blN, s_blE, s_blM, s_blR, Nat.reduceEqDiff]
            exact ⟨(decide (0 < p1.Balance)) || (decide (0 < p1.Nonce)), h, by simp only [v1, v2, v3, v4, v5, v6, v7, v8, v9, tf1, tu, litOk, appOk, appS, growD, Nat.reduceEqDiff, Nat.reduceLT, Nat.reduceAdd, Nat.reduceLeDiff, Nat.reduceMul, Nat.reduceBEq, Nat.reduceSub, Int.reduceLE, Int.reduceToNat, Int.reduceLT, Int.reduceNeg, encSIDBalanceNonce, encSLIDAmountNonce, encSAccounts, encSKindIDAmount, vl, hg1, List.map_append, List.length_append, List.length_map, List.map_take, List.map_drop, List.length_drop, List.length_take, Nat.le_refl, true_and]⟩
        · intro b2 h
          have h : moidoreref44_set_J4 p0 p1 r0 j3 b2 := h
          show Sat _ _ _ _ _ _ ⟨[(0, .d (.slice 3 (List.map encSIDBalanceNonce p0))), (3, .ptr 0 0), (5, .own 1 3 (List.map encSIDBalanceNonce j3)), (38, .d (.bool b2))], [(0, .cells [.d (.int .u64 p1.ID), .d (.int .u64 p1.Balance), .d (.int .u64 p1.Nonce)]), (1, .tip (List.length j3))], 2⟩ _
          unfold moidoreref44_set_J4 at h
          refine sat_cond rfl (fun hb2 => ?_) (fun hb2 => ?_)
          · replace h := h.1 hb2
            obtain ⟨c7, c8, h⟩ := h
            refine sat_region fun K hK => ?_
            simp only [v1, v2, v3, v4, v5, v6, v7, v8, v9, tf1, tu, litOk, appOk, appS, growD, Nat.reduceEqDiff, Nat.reduceLT, Nat.reduceAdd, Nat.reduceLeDiff, Nat.reduceMul, Nat.reduceBEq, Nat.reduceSub, Int.reduceLE, Int.reduceToNat, Int.reduceLT, Int.reduceNeg, encSIDBalanceNonce, encSLIDAmountNonce, encSAccounts, encSKindIDAmount, c7, c8, List.map_append, List.length_append, List.length_map, List.map_take, List.map_drop, List.length_drop, List.length_take, Nat.le_refl, true_and]
            refine hK _ ?_
            clear hK K
            try simp only [s_thN, s_thE, s_thR, s_blN, s_blE, s_blM, s_blR, Nat.reduceEqDiff]
            exact ⟨j3 ++ [p1], h, by simp only [v1, v2, v3, v4, v5, v6, v7, v8, v9, tf1, tu, litOk, appOk, appS, growD, Nat.reduceEqDiff, Nat.reduceLT, Nat.reduceAdd, Nat.reduceLeDiff, Nat.reduceMul, Nat.reduceBEq, Nat.reduceSub, Int.reduceLE, Int.reduceToNat, Int.reduceLT, Int.reduceNeg, encSIDBalanceNonce, encSLIDAmountNonce, encSAccounts, encSKindIDAmount, vl, List.map_append, List.length_append, List.length_map, List.map_take, List.map_drop, List.length_drop, List.length_take, Nat.le_refl, true_and]⟩
          · replace h := h.2 hb2
            refine sat_skip ?_
            try simp only [s_thN, s_thE, s_thR, s_blN, s_blE, s_blM, s_blR, Nat.reduceEqDiff]
            exact ⟨j3, h, by simp only [v1, v2, v3, v4, v5, v6, v7, v8, v9, tf1, tu, litOk, appOk, appS, growD, Nat.reduceEqDiff, Nat.reduceLT, Nat.reduceAdd, Nat.reduceLeDiff, Nat.reduceMul, Nat.reduceBEq, Nat.reduceSub, Int.reduceLE, Int.reduceToNat, Int.reduceLT, Int.reduceNeg, encSIDBalanceNonce, encSLIDAmountNonce, encSAccounts, encSKindIDAmount, vl, List.map_append, List.length_append, List.length_map, List.map_take, List.map_drop, List.length_drop, List.length_take, Nat.le_refl, true_and]⟩
      · intro j5 h
        have h : moidoreref44_set_J3 p0 p1 r0 j5 := h
        show Sat _ _ _ _ _ _ ⟨[(0, .d (.slice 3 (List.map encSIDBalanceNonce p0))), (3, .ptr 0 0), (5, .own 1 3 (List.map encSIDBalanceNonce j5))], [(0, .cells [.d (.int .u64 p1.ID), .d (.int .u64 p1.Balance), .d (.int .u64 p1.Nonce)]), (1, .tip (List.length j5))], 2⟩ _
        unfold moidoreref44_set_J3 at h
        refine sat_seq ?_
        refine sat_seq ?_
        refine sat_region fun K hK => ?_
        simp only [v1, v2, v3, v4, v5, v6, v7, v8, v9, tf1, tu, litOk, appOk, appS, growD, Nat.reduceEqDiff, Nat.reduceLT, Nat.reduceAdd, Nat.reduceLeDiff, Nat.reduceMul, Nat.reduceBEq, Nat.reduceSub, Int.reduceLE, Int.reduceToNat, Int.reduceLT, Int.reduceNeg, encSIDBalanceNonce, encSLIDAmountNonce, encSAccounts, encSKindIDAmount, List.map_append, List.length_append, List.length_map, List.map_take, List.map_drop, List.length_drop, List.length_take, Nat.le_refl, true_and]
        refine hK _ ?_
        clear hK K
        try simp only [s_thN, s_thE, s_thR, s_blN, s_blE, s_blM, s_blR, Nat.reduceEqDiff]
        refine sat_block ?_
        obtain ⟨inv, μ, h0, hs⟩ := h
        refine sat_loop (ι := (List SIDBalanceNonce) × Int) (fun x => ⟨[(0, .d (.slice 3 (List.map encSIDBalanceNonce p0))), (3, .ptr 0 0), (5, .own 1 3 (List.map encSIDBalanceNonce x.1)), (7, .d (.int .i64 x.2))], [(0, .cells [.d (.int .u64 p1.ID), .d (.int .u64 p1.Balance), .d (.int .u64 p1.Nonce)]), (1, .tip (List.length x.1))], 2⟩) inv μ (j5, 0) h0 (by simp only [v1, v2, v3, v4, v5, v6, v7, v8, v9, tf1, tu, litOk, appOk, appS, growD, Nat.reduceEqDiff, Nat.reduceLT, Nat.reduceAdd, Nat.reduceLeDiff, Nat.reduceMul, Nat.reduceBEq, Nat.reduceSub, Int.reduceLE, Int.reduceToNat, Int.reduceLT, Int.reduceNeg, encSIDBalanceNonce, encSLIDAmountNonce, encSAccounts, encSKindIDAmount, vl, List.map_append, List.length_append, List.length_map, List.map_take, List.map_drop, List.length_drop, List.length_take, Nat.le_refl, true_and]) ?_
        rintro ⟨j8, j9⟩ hi
        have h : moidoreref44_set_L2 p0 p1 r0 _ j8 j9 := hs _ hi
        clear hs h0 hi
        generalize hnx : (fun s => inv s ∧ μ s < μ (j8, j9)) = nx2 at h
        show Sat _ _ _ _ _ _ ⟨[(0, .d (.slice 3 (List.map encSIDBalanceNonce p0))), (3, .ptr 0 0), (5, .own 1 3 (List.map encSIDBalanceNonce j8)), (7, .d (.int .i64 j9))], [(0, .cells [.d (.int .u64 p1.ID), .d (.int .u64 p1.Balance), .d (.int .u64 p1.Nonce)]), (1, .tip (List.length j8))], 2⟩ _
        unfold moidoreref44_set_L2 at h
        refine sat_seq ?_
        refine sat_seq ?_
        refine sat_region fun K hK => ?_
        simp only [v1, v2, v3, v4, v5, v6, v7, v8, v9, tf1, tu, litOk, appOk, appS, growD, Nat.reduceEqDiff, Nat.reduceLT, Nat.reduceAdd, Nat.reduceLeDiff, Nat.reduceMul, Nat.reduceBEq, Nat.reduceSub, Int.reduceLE, Int.reduceToNat, Int.reduceLT, Int.reduceNeg, encSIDBalanceNonce, encSLIDAmountNonce, encSAccounts, encSKindIDAmount, List.map_append, List.length_append, List.length_map, List.map_take, List.map_drop, List.length_drop, List.length_take, Nat.le_refl, true_and]
        refine hK _ ?_
        clear hK K
        try simp only [s_thN, s_thE, s_thR, s_blN, s_blE, s_blM, s_blR, Nat.reduceEqDiff]
        refine sat_cond rfl (fun hb2 => ?_) (fun hb2 => ?_)
        · replace h := h.1 hb2
          refine sat_skip ?_
          try simp only [s_thN, s_thE, s_thR, s_blN, s_blE, s_blM, s_blR, Nat.reduceEqDiff]
          refine sat_join (ι := (List SIDBalanceNonce)) (fun x => ⟨[(0, .d (.slice 3 (List.map encSIDBalanceNonce p0))), (3, .ptr 0 0), (5, .own 1 3 (List.map encSIDBalanceNonce x)), (7, .d (.int .i64 j9))], [(0, .cells [.d (.int .u64 p1.ID), .d (.int .u64 p1.Balance), .d (.int .u64 p1.Nonce)]), (1, .tip (List.length x))], 2⟩) (fun x => moidoreref44_set_J1 nx2 j9 x) ?_ ?_
          · refine sat_block ?_
            refine sat_seq ?_
            obtain ⟨c7, c8, h⟩ := h
            refine sat_drawn 1 mix (by kernel_rfl) fun K hK => ?_
            simp only [v1, v2, v3, v4, v5, v6, v7, v8, v9, tf1, tu, litOk, appOk, appS, growD, Nat.reduceEqDiff, Nat.reduceLT, Nat.reduceAdd, Nat.reduceLeDiff, Nat.reduceMul, Nat.reduceBEq, Nat.reduceSub, Int.reduceLE, Int.reduceToNat, Int.reduceLT, Int.reduceNeg, encSIDBalanceNonce, encSLIDAmountNonce, encSAccounts, encSKindIDAmount, c7, c8, elt_ix encSIDBalanceNonce p0 j9 c7 c8, List.map_append, List.length_append, List.length_map, List.map_take, List.map_drop, List.length_drop, List.length_take, Nat.le_refl, true_and]
            refine hK _ ?_
            clear hK K
            try simp only [s_thN, s_thE, s_thR, s_blN, s_blE, s_blM, s_blR, Nat.reduceEqDiff]
            refine sat_cond rfl (fun hb3 => ?_) (fun hb3 => ?_)
            · replace h := h.1 hb3
              obtain ⟨c9, c10, c11, c12, h⟩ := h
              refine sat_region fun K hK => ?_
              simp only [v1, v2, v3, v4, v5, v6, v7, v8, v9, tf1, tu, litOk, appOk, appS, growD, Nat.reduceEqDiff, Nat.reduceLT, Nat.reduceAdd, Nat.reduceLeDiff, Nat.reduceMul, Nat.reduceBEq, Nat.reduceSub, Int.reduceLE, Int.reduceToNat, Int.reduceLT, Int.reduceNeg, encSIDBalanceNonce, encSLIDAmountNonce, encSAccounts, encSKindIDAmount, c9, c10, elt_ix encSIDBalanceNonce p0 j9 c9 c10, c11, c12, List.map_append, List.length_append, List.length_map, List.map_take, List.map_drop, List.length_drop, List.length_take, Nat.le_refl, true_and]
              refine hK _ ?_
              clear hK K
              try simp only [s_thN, s_thE, s_thR, s_blN, s_blE, s_blM, s_blR, Nat.reduceEqDiff]
              exact ⟨j8 ++ [(ix p0 j9)], h, by simp only [v1, v2, v3, v4, v5, v6, v7, v8, v9, tf1, tu, litOk, appOk, appS, growD, Nat.reduceEqDiff, Nat.reduceLT, Nat.reduceAdd, Nat.reduceLeDiff, Nat.reduceMul, Nat.reduceBEq, Nat.reduceSub, Int.reduceLE, Int.reduceToNat, Int.reduceLT, Int.reduceNeg, encSIDBalanceNonce, encSLIDAmountNonce, encSAccounts, encSKindIDAmount, vl, List.map_append, List.length_append, List.length_map, List.map_take, List.map_drop, List.length_drop, List.length_take, Nat.le_refl, true_and]⟩
            · replace h := h.2 hb3
              refine sat_skip ?_
              try simp only [s_thN, s_thE, s_thR, s_blN, s_blE, s_blM, s_blR, Nat.reduceEqDiff]
              exact ⟨j8, h, by simp only [v1, v2, v3, v4, v5, v6, v7, v8, v9, tf1, tu, litOk, appOk, appS, growD, Nat.reduceEqDiff, Nat.reduceLT, Nat.reduceAdd, Nat.reduceLeDiff, Nat.reduceMul, Nat.reduceBEq, Nat.reduceSub, Int.reduceLE, Int.reduceToNat, Int.reduceLT, Int.reduceNeg, encSIDBalanceNonce, encSLIDAmountNonce, encSAccounts, encSKindIDAmount, vl, List.map_append, List.length_append, List.length_map, List.map_take, List.map_drop, List.length_drop, List.length_take, Nat.le_refl, true_and]⟩
          · intro j10 h
            have h : moidoreref44_set_J1 nx2 j9 j10 := h
            show Sat _ _ _ _ _ _ ⟨[(0, .d (.slice 3 (List.map encSIDBalanceNonce p0))), (3, .ptr 0 0), (5, .own 1 3 (List.map encSIDBalanceNonce j10)), (7, .d (.int .i64 j9))], [(0, .cells [.d (.int .u64 p1.ID), .d (.int .u64 p1.Balance), .d (.int .u64 p1.Nonce)]), (1, .tip (List.length j10))], 2⟩ _
            unfold moidoreref44_set_J1 at h
            refine sat_region fun K hK => ?_
            simp only [v1, v2, v3, v4, v5, v6, v7, v8, v9, tf1, tu, litOk, appOk, appS, growD, Nat.reduceEqDiff, Nat.reduceLT, Nat.reduceAdd, Nat.reduceLeDiff, Nat.reduceMul, Nat.reduceBEq, Nat.reduceSub, Int.reduceLE, Int.reduceToNat, Int.reduceLT, Int.reduceNeg, encSIDBalanceNonce, encSLIDAmountNonce, encSAccounts, encSKindIDAmount, List.map_append, List.length_append, List.length_map, List.map_take, List.map_drop, List.length_drop, List.length_take, Nat.le_refl, true_and]
            refine hK _ ?_
            clear hK K
            try simp only [s_thN, s_thE, s_thR, s_blN, s_blE, s_blM, s_blR, Nat.reduceEqDiff]
            rw [← hnx] at h
            exact ⟨(j10, IntKind.i64.wrap (j9 + 1)), h.1, h.2, by simp only [v1, v2, v3, v4, v5, v6, v7, v8, v9, tf1, tu, litOk, appOk, appS, growD, Nat.reduceEqDiff, Nat.reduceLT, Nat.reduceAdd, Nat.reduceLeDiff, Nat.reduceMul, Nat.reduceBEq, Nat.reduceSub, Int.reduceLE, Int.reduceToNat, Int.reduceLT, Int.reduceNeg, encSIDBalanceNonce, encSLIDAmountNonce, encSAccounts, encSKindIDAmount, vl, List.map_append, List.length_append, List.length_map, List.map_take, List.map_drop, List.length_drop, List.length_take, Nat.le_refl, true_and]⟩
        · replace h := h.2 hb2
          refine sat_exit ?_
          try simp only [s_thN, s_thE, s_thR, s_blN, s_blE, s_blM, s_blR, Nat.reduceEqDiff]
          refine sat_seq ?_
          refine sat_region fun K hK => ?_
          simp only [v1, v2, v3, v4, v5, v6, v7, v8, v9, tf1, tu, litOk, appOk, appS, growD, Nat.reduceEqDiff, Nat.reduceLT, Nat.reduceAdd, Nat.reduceLeDiff, Nat.reduceMul, Nat.reduceBEq, Nat.reduceSub, Int.reduceLE, Int.reduceToNat, Int.reduceLT, Int.reduceNeg, encSIDBalanceNonce, encSLIDAmountNonce, encSAccounts, encSKindIDAmount, List.map_append, List.length_append, List.length_map, List.map_take, List.map_drop, List.length_drop, List.length_take, Nat.le_refl, true_and]
          refine hK _ ?_
          clear hK K
          try simp only [s_thN, s_thE, s_thR, s_blN, s_blE, s_blM, s_blR, Nat.reduceEqDiff]
          subst h
          refine sat_ret (retN [1] ?_)
          simp only [v1, v2, v3, v4, v5, v6, v7, v8, v9, tf1, tu, litOk, appOk, appS, growD, Nat.reduceEqDiff, Nat.reduceLT, Nat.reduceAdd, Nat.reduceLeDiff, Nat.reduceMul, Nat.reduceBEq, Nat.reduceSub, Int.reduceLE, Int.reduceToNat, Int.reduceLT, Int.reduceNeg, encSIDBalanceNonce, encSLIDAmountNonce, encSAccounts, encSKindIDAmount, vl, Try.results30, e_sp0, e_sp1, List.map_append, List.length_append, List.length_map, List.map_take, List.map_drop, List.length_drop, List.length_take, Nat.le_refl, true_and]
theorem moidoreref44_Credit_ok (p0 : List SIDBalanceNonce) (p1 : Int) (p2 : Int) (r0 : List SIDBalanceNonce) (r1 : Int) (h : moidoreref44_Credit_Ret p0 p1 p2 r0 r1) : SoundH Try.prog 13 [.d (.slice 3 (List.map encSIDBalanceNonce p0)), .d (.int .u64 p1), .d (.int .u64 p2)] [] (.tup [.own 0 3 (List.map encSIDBalanceNonce r0), .d (.int .i64 r1)]) [.tip (List.length r0)] := by
  refine sound_of Try.func13 rfl Try.ntmps13 (by simp) fun G0 w0 => ?_
  unfold moidoreref44_Credit_Ret at h
  refine sat_seq ?_
  refine sat_region fun K hK => ?_
  simp only [v1, v2, v3, v4, v5, v6, v7, v8, v9, tf1, tu, litOk, appOk, appS, growD, Nat.reduceEqDiff, Nat.reduceLT, Nat.reduceAdd, Nat.reduceLeDiff, Nat.reduceMul, Nat.reduceBEq, Nat.reduceSub, Int.reduceLE, Int.reduceToNat, Int.reduceLT, Int.reduceNeg, encSIDBalanceNonce, encSLIDAmountNonce, encSAccounts, encSKindIDAmount, List.map_append, List.length_append, List.length_map, List.map_take, List.map_drop, List.length_drop, List.length_take, Nat.le_refl, true_and]
  refine hK _ ?_
  clear hK K
  try simp only [s_thN, s_thE, s_thR, s_blN, s_blE, s_blM, s_blR, Nat.reduceEqDiff]
  refine sat_seq ?_
  obtain ⟨y1, hr1, h⟩ := h
  refine sat_region fun K hK => ?_
  simp only [v1, v2, v3, v4, v5, v6, v7, v8, v9, tf1, tu, litOk, appOk, appS, growD, Nat.reduceEqDiff, Nat.reduceLT, Nat.reduceAdd, Nat.reduceLeDiff, Nat.reduceMul, Nat.reduceBEq, Nat.reduceSub, Int.reduceLE, Int.reduceToNat, Int.reduceLT, Int.reduceNeg, encSIDBalanceNonce, encSLIDAmountNonce, encSAccounts, encSKindIDAmount, List.map_append, List.length_append, List.length_map, List.map_take, List.map_drop, List.length_drop, List.length_take, Nat.le_refl, true_and]
  refine a_call [] (moidoreref44_Get_ok p0 p1 y1 hr1) bd24 (by simp only [v1, v2, v3, v4, v5, v6, v7, v8, v9, tf1, tu, litOk, appOk, appS, growD, Nat.reduceEqDiff, Nat.reduceLT, Nat.reduceAdd, Nat.reduceLeDiff, Nat.reduceMul, Nat.reduceBEq, Nat.reduceSub, Int.reduceLE, Int.reduceToNat, Int.reduceLT, Int.reduceNeg, encSIDBalanceNonce, encSLIDAmountNonce, encSAccounts, encSKindIDAmount, callOk, vl, List.map_append, List.length_append, List.length_map, List.map_take, List.map_drop, List.length_drop, List.length_take, Nat.le_refl, true_and]) ?_
  simp only [v1, v2, v3, v4, v5, v6, v7, v8, v9, tf1, tu, litOk, appOk, appS, growD, Nat.reduceEqDiff, Nat.reduceLT, Nat.reduceAdd, Nat.reduceLeDiff, Nat.reduceMul, Nat.reduceBEq, Nat.reduceSub, Int.reduceLE, Int.reduceToNat, Int.reduceLT, Int.reduceNeg, encSIDBalanceNonce, encSLIDAmountNonce, encSAccounts, encSKindIDAmount, List.map_append, List.length_append, List.length_map, List.map_take, List.map_drop, List.length_drop, List.length_take, Nat.le_refl, true_and]
  refine hK _ ?_
  clear hK K
  try simp only [s_thN, s_thE, s_thR, s_blN, s_blE, s_blM, s_blR, Nat.reduceEqDiff]
  refine sat_seq ?_
  refine sat_seq ?_
  refine sat_region fun K hK => ?_
  simp only [v1, v2, v3, v4, v5, v6, v7, v8, v9, tf1, tu, litOk, appOk, appS, growD, Nat.reduceEqDiff, Nat.reduceLT, Nat.reduceAdd, Nat.reduceLeDiff, Nat.reduceMul, Nat.reduceBEq, Nat.reduceSub, Int.reduceLE, Int.reduceToNat, Int.reduceLT, Int.reduceNeg, encSIDBalanceNonce, encSLIDAmountNonce, encSAccounts, encSKindIDAmount, List.map_append, List.length_append, List.length_map, List.map_take, List.map_drop, List.length_drop, List.length_take, Nat.le_refl, true_and]
  refine hK _ ?_
  clear hK K
  try simp only [s_thN, s_thE, s_thR, s_blN, s_blE, s_blM, s_blR, Nat.reduceEqDiff]
  refine sat_cond rfl (fun hb1 => ?_) (fun hb1 => ?_)
  · replace h := h.1 hb1
    refine sat_seq ?_
    refine sat_region fun K hK => ?_
    simp only [v1, v2, v3, v4, v5, v6, v7, v8, v9, tf1, tu, litOk, appOk, appS, growD, Nat.reduceEqDiff, Nat.reduceLT, Nat.reduceAdd, Nat.reduceLeDiff, Nat.reduceMul, Nat.reduceBEq, Nat.reduceSub, Int.reduceLE, Int.reduceToNat, Int.reduceLT, Int.reduceNeg, encSIDBalanceNonce, encSLIDAmountNonce, encSAccounts, encSKindIDAmount, List.map_append, List.length_append, List.length_map, List.map_take, List.map_drop, List.length_drop, List.length_take, Nat.le_refl, true_and]
    refine hK _ ?_
    clear hK K
    try simp only [s_thN, s_thE, s_thR, s_blN, s_blE, s_blM, s_blR, Nat.reduceEqDiff]
    refine sat_tok 6 (sz := 3) (l := List.map encSIDBalanceNonce ([] : List SIDBalanceNonce)) (by simp only [v1, v2, v3, v4, v5, v6, v7, v8, v9, tf1, tu, litOk, appOk, appS, growD, Nat.reduceEqDiff, Nat.reduceLT, Nat.reduceAdd, Nat.reduceLeDiff, Nat.reduceMul, Nat.reduceBEq, Nat.reduceSub, Int.reduceLE, Int.reduceToNat, Int.reduceLT, Int.reduceNeg, encSIDBalanceNonce, encSLIDAmountNonce, encSAccounts, encSKindIDAmount, e_gfF, e_gfN]) ?_
    simp only [v1, v2, v3, v4, v5, v6, v7, v8, v9, tf1, tu, litOk, appOk, appS, growD, Nat.reduceEqDiff, Nat.reduceLT, Nat.reduceAdd, Nat.reduceLeDiff, Nat.reduceMul, Nat.reduceBEq, Nat.reduceSub, Int.reduceLE, Int.reduceToNat, Int.reduceLT, Int.reduceNeg, encSIDBalanceNonce, encSLIDAmountNonce, encSAccounts, encSKindIDAmount, List.map_append, List.length_append, List.length_map, List.map_take, List.map_drop, List.length_drop, List.length_take, Nat.le_refl, true_and]
    obtain ⟨rfl, rfl⟩ := h
    refine sat_ret (retN [1] ?_)
    simp only [v1, v2, v3, v4, v5, v6, v7, v8, v9, tf1, tu, litOk, appOk, appS, growD, Nat.reduceEqDiff, Nat.reduceLT, Nat.reduceAdd, Nat.reduceLeDiff, Nat.reduceMul, Nat.reduceBEq, Nat.reduceSub, Int.reduceLE, Int.reduceToNat, Int.reduceLT, Int.reduceNeg, encSIDBalanceNonce, encSLIDAmountNonce, encSAccounts, encSKindIDAmount, vl, Try.results13, e_sp0, e_sp1, List.map_append, List.length_append, List.length_map, List.map_take, List.map_drop, List.length_drop, List.length_take, Nat.le_refl, true_and]
  · replace h := h.2 hb1
    refine sat_skip ?_
    try simp only [s_thN, s_thE, s_thR, s_blN, s_blE, s_blM, s_blR, Nat.reduceEqDiff]
    refine sat_seq ?_
    refine sat_region fun K hK => ?_
    simp only [v1, v2, v3, v4, v5, v6, v7, v8, v9, tf1, tu, litOk, appOk, appS, growD, Nat.reduceEqDiff, Nat.reduceLT, Nat.reduceAdd, Nat.reduceLeDiff, Nat.reduceMul, Nat.reduceBEq, Nat.reduceSub, Int.reduceLE, Int.reduceToNat, Int.reduceLT, Int.reduceNeg, encSIDBalanceNonce, encSLIDAmountNonce, encSAccounts, encSKindIDAmount, List.map_append, List.length_append, List.length_map, List.map_take, List.map_drop, List.length_drop, List.length_take, Nat.le_refl, true_and]
    refine hK _ ?_
    clear hK K
    try simp only [s_thN, s_thE, s_thR, s_blN, s_blE, s_blM, s_blR, Nat.reduceEqDiff]
    refine sat_seq ?_
    obtain ⟨y2, hr2, h⟩ := h
    refine sat_region fun K hK => ?_
    simp only [v1, v2, v3, v4, v5, v6, v7, v8, v9, tf1, tu, litOk, appOk, appS, growD, Nat.reduceEqDiff, Nat.reduceLT, Nat.reduceAdd, Nat.reduceLeDiff, Nat.reduceMul, Nat.reduceBEq, Nat.reduceSub, Int.reduceLE, Int.reduceToNat, Int.reduceLT, Int.reduceNeg, encSIDBalanceNonce, encSLIDAmountNonce, encSAccounts, encSKindIDAmount, List.map_append, List.length_append, List.length_map, List.map_take, List.map_drop, List.length_drop, List.length_take, Nat.le_refl, true_and]
    refine a_call [] (moidoreref44_set_ok p0 (SIDBalanceNonce.mk y1.ID (IntKind.u64.wrap (y1.Balance + p2)) y1.Nonce) y2 hr2) bd30 (by simp only [v1, v2, v3, v4, v5, v6, v7, v8, v9, tf1, tu, litOk, appOk, appS, growD, Nat.reduceEqDiff, Nat.reduceLT, Nat.reduceAdd, Nat.reduceLeDiff, Nat.reduceMul, Nat.reduceBEq, Nat.reduceSub, Int.reduceLE, Int.reduceToNat, Int.reduceLT, Int.reduceNeg, encSIDBalanceNonce, encSLIDAmountNonce, encSAccounts, encSKindIDAmount, callOk, vl, List.map_append, List.length_append, List.length_map, List.map_take, List.map_drop, List.length_drop, List.length_take, Nat.le_refl, true_and]) ?_
    simp only [v1, v2, v3, v4, v5, v6, v7, v8, v9, tf1, tu, litOk, appOk, appS, growD, Nat.reduceEqDiff, Nat.reduceLT, Nat.reduceAdd, Nat.reduceLeDiff, Nat.reduceMul, Nat.reduceBEq, Nat.reduceSub, Int.reduceLE, Int.reduceToNat, Int.reduceLT, Int.reduceNeg, encSIDBalanceNonce, encSLIDAmountNonce, encSAccounts, encSKindIDAmount, List.map_append, List.length_append, List.length_map, List.map_take, List.map_drop, List.length_drop, List.length_take, Nat.le_refl, true_and]
    refine hK _ ?_
    clear hK K
    try simp only [s_thN, s_thE, s_thR, s_blN, s_blE, s_blM, s_blR, Nat.reduceEqDiff]
    obtain ⟨rfl, rfl⟩ := h
    refine sat_ret (retN [1] ?_)
    simp only [v1, v2, v3, v4, v5, v6, v7, v8, v9, tf1, tu, litOk, appOk, appS, growD, Nat.reduceEqDiff, Nat.reduceLT, Nat.reduceAdd, Nat.reduceLeDiff, Nat.reduceMul, Nat.reduceBEq, Nat.reduceSub, Int.reduceLE, Int.reduceToNat, Int.reduceLT, Int.reduceNeg, encSIDBalanceNonce, encSLIDAmountNonce, encSAccounts, encSKindIDAmount, vl, Try.results13, e_sp0, e_sp1, List.map_append, List.length_append, List.length_map, List.map_take, List.map_drop, List.length_drop, List.length_take, Nat.le_refl, true_and]
theorem moidoreref44_Uncredit_ok (p0 : List SIDBalanceNonce) (p1 : Int) (p2 : Int) (r0 : List SIDBalanceNonce) (r1 : Int) (h : moidoreref44_Uncredit_Ret p0 p1 p2 r0 r1) : SoundH Try.prog 15 [.d (.slice 3 (List.map encSIDBalanceNonce p0)), .d (.int .u64 p1), .d (.int .u64 p2)] [] (.tup [.own 0 3 (List.map encSIDBalanceNonce r0), .d (.int .i64 r1)]) [.tip (List.length r0)] := by
  refine sound_of Try.func15 rfl Try.ntmps15 (by simp) fun G0 w0 => ?_
  unfold moidoreref44_Uncredit_Ret at h
  refine sat_seq ?_
  refine sat_region fun K hK => ?_
  simp only [v1, v2, v3, v4, v5, v6, v7, v8, v9, tf1, tu, litOk, appOk, appS, growD, Nat.reduceEqDiff, Nat.reduceLT, Nat.reduceAdd, Nat.reduceLeDiff, Nat.reduceMul, Nat.reduceBEq, Nat.reduceSub, Int.reduceLE, Int.reduceToNat, Int.reduceLT, Int.reduceNeg, encSIDBalanceNonce, encSLIDAmountNonce, encSAccounts, encSKindIDAmount, List.map_append, List.length_append, List.length_map, List.map_take, List.map_drop, List.length_drop, List.length_take, Nat.le_refl, true_and]
  refine hK _ ?_
  clear hK K
  try simp only [s_thN, s_thE, s_thR, s_blN, s_blE, s_blM, s_blR, Nat.reduceEqDiff]
  refine sat_seq ?_
  obtain ⟨y1, hr1, h⟩ := h
  refine sat_region fun K hK => ?_
  simp only [v1, v2, v3, v4, v5, v6, v7, v8, v9, tf1, tu, litOk, appOk, appS, growD, Nat.reduceEqDiff, Nat.reduceLT, Nat.reduceAdd, Nat.reduceLeDiff, Nat.reduceMul, Nat.reduceBEq, Nat.reduceSub, Int.reduceLE, Int.reduceToNat, Int.reduceLT, Int.reduceNeg, encSIDBalanceNonce, encSLIDAmountNonce, encSAccounts, encSKindIDAmount, List.map_append, List.length_append, List.length_map, List.map_take, List.map_drop, List.length_drop, List.length_take, Nat.le_refl, true_and]
  refine a_call [] (moidoreref44_Get_ok p0 p1 y1 hr1) bd24 (by simp only [v1, v2, v3, v4, v5, v6, v7, v8, v9, tf1, tu, litOk, appOk, appS, growD, Nat.reduceEqDiff, Nat.reduceLT, Nat.reduceAdd, Nat.reduceLeDiff, Nat.reduceMul, Nat.reduceBEq, Nat.reduceSub, Int.reduceLE, Int.reduceToNat, Int.reduceLT, Int.reduceNeg, encSIDBalanceNonce, encSLIDAmountNonce, encSAccounts, encSKindIDAmount, callOk, vl, List.map_append, List.length_append, List.length_map, List.map_take, List.map_drop, List.length_drop, List.length_take, Nat.le_refl, true_and]) ?_
  simp only [v1, v2, v3, v4, v5, v6, v7, v8, v9, tf1, tu, litOk, appOk, appS, growD, Nat.reduceEqDiff, Nat.reduceLT, Nat.reduceAdd, Nat.reduceLeDiff, Nat.reduceMul, Nat.reduceBEq, Nat.reduceSub, Int.reduceLE, Int.reduceToNat, Int.reduceLT, Int.reduceNeg, encSIDBalanceNonce, encSLIDAmountNonce, encSAccounts, encSKindIDAmount, List.map_append, List.length_append, List.length_map, List.map_take, List.map_drop, List.length_drop, List.length_take, Nat.le_refl, true_and]
  refine hK _ ?_
  clear hK K
  try simp only [s_thN, s_thE, s_thR, s_blN, s_blE, s_blM, s_blR, Nat.reduceEqDiff]
  refine sat_seq ?_
  refine sat_seq ?_
  refine sat_region fun K hK => ?_
  simp only [v1, v2, v3, v4, v5, v6, v7, v8, v9, tf1, tu, litOk, appOk, appS, growD, Nat.reduceEqDiff, Nat.reduceLT, Nat.reduceAdd, Nat.reduceLeDiff, Nat.reduceMul, Nat.reduceBEq, Nat.reduceSub, Int.reduceLE, Int.reduceToNat, Int.reduceLT, Int.reduceNeg, encSIDBalanceNonce, encSLIDAmountNonce, encSAccounts, encSKindIDAmount, List.map_append, List.length_append, List.length_map, List.map_take, List.map_drop, List.length_drop, List.length_take, Nat.le_refl, true_and]
  refine hK _ ?_
  clear hK K
  try simp only [s_thN, s_thE, s_thR, s_blN, s_blE, s_blM, s_blR, Nat.reduceEqDiff]
  refine sat_cond rfl (fun hb1 => ?_) (fun hb1 => ?_)
  · replace h := h.1 hb1
    refine sat_seq ?_
    refine sat_region fun K hK => ?_
    simp only [v1, v2, v3, v4, v5, v6, v7, v8, v9, tf1, tu, litOk, appOk, appS, growD, Nat.reduceEqDiff, Nat.reduceLT, Nat.reduceAdd, Nat.reduceLeDiff, Nat.reduceMul, Nat.reduceBEq, Nat.reduceSub, Int.reduceLE, Int.reduceToNat, Int.reduceLT, Int.reduceNeg, encSIDBalanceNonce, encSLIDAmountNonce, encSAccounts, encSKindIDAmount, List.map_append, List.length_append, List.length_map, List.map_take, List.map_drop, List.length_drop, List.length_take, Nat.le_refl, true_and]
    refine hK _ ?_
    clear hK K
    try simp only [s_thN, s_thE, s_thR, s_blN, s_blE, s_blM, s_blR, Nat.reduceEqDiff]
    refine sat_tok 6 (sz := 3) (l := List.map encSIDBalanceNonce ([] : List SIDBalanceNonce)) (by simp only [v1, v2, v3, v4, v5, v6, v7, v8, v9, tf1, tu, litOk, appOk, appS, growD, Nat.reduceEqDiff, Nat.reduceLT, Nat.reduceAdd, Nat.reduceLeDiff, Nat.reduceMul, Nat.reduceBEq, Nat.reduceSub, Int.reduceLE, Int.reduceToNat, Int.reduceLT, Int.reduceNeg, encSIDBalanceNonce, encSLIDAmountNonce, encSAccounts, encSKindIDAmount, e_gfF, e_gfN]) ?_
    simp only [v1, v2, v3, v4, v5, v6, v7, v8, v9, tf1, tu, litOk, appOk, appS, growD, Nat.reduceEqDiff, Nat.reduceLT, Nat.reduceAdd, Nat.reduceLeDiff, Nat.reduceMul, Nat.reduceBEq, Nat.reduceSub, Int.reduceLE, Int.reduceToNat, Int.reduceLT, Int.reduceNeg, encSIDBalanceNonce, encSLIDAmountNonce, encSAccounts, encSKindIDAmount, List.map_append, List.length_append, List.length_map, List.map_take, List.map_drop, List.length_drop, List.length_take, Nat.le_refl, true_and]
    obtain ⟨rfl, rfl⟩ := h
    refine sat_ret (retN [1] ?_)
    simp only [v1, v2, v3, v4, v5, v6, v7, v8, v9, tf1, tu, litOk, appOk, appS, growD, Nat.reduceEqDiff, Nat.reduceLT, Nat.reduceAdd, Nat.reduceLeDiff, Nat.reduceMul, Nat.reduceBEq, Nat.reduceSub, Int.reduceLE, Int.reduceToNat, Int.reduceLT, Int.reduceNeg, encSIDBalanceNonce, encSLIDAmountNonce, encSAccounts, encSKindIDAmount, vl, Try.results15, e_sp0, e_sp1, List.map_append, List.length_append, List.length_map, List.map_take, List.map_drop, List.length_drop, List.length_take, Nat.le_refl, true_and]
  · replace h := h.2 hb1
    refine sat_skip ?_
    try simp only [s_thN, s_thE, s_thR, s_blN, s_blE, s_blM, s_blR, Nat.reduceEqDiff]
    refine sat_seq ?_
    refine sat_region fun K hK => ?_
    simp only [v1, v2, v3, v4, v5, v6, v7, v8, v9, tf1, tu, litOk, appOk, appS, growD, Nat.reduceEqDiff, Nat.reduceLT, Nat.reduceAdd, Nat.reduceLeDiff, Nat.reduceMul, Nat.reduceBEq, Nat.reduceSub, Int.reduceLE, Int.reduceToNat, Int.reduceLT, Int.reduceNeg, encSIDBalanceNonce, encSLIDAmountNonce, encSAccounts, encSKindIDAmount, List.map_append, List.length_append, List.length_map, List.map_take, List.map_drop, List.length_drop, List.length_take, Nat.le_refl, true_and]
    refine hK _ ?_
    clear hK K
    try simp only [s_thN, s_thE, s_thR, s_blN, s_blE, s_blM, s_blR, Nat.reduceEqDiff]
    refine sat_seq ?_
    obtain ⟨y2, hr2, h⟩ := h
    refine sat_region fun K hK => ?_
    simp only [v1, v2, v3, v4, v5, v6, v7, v8, v9, tf1, tu, litOk, appOk, appS, growD, Nat.reduceEqDiff, Nat.reduceLT, Nat.reduceAdd, Nat.reduceLeDiff, Nat.reduceMul, Nat.reduceBEq, Nat.reduceSub, Int.reduceLE, Int.reduceToNat, Int.reduceLT, Int.reduceNeg, encSIDBalanceNonce, encSLIDAmountNonce, encSAccounts, encSKindIDAmount, List.map_append, List.length_append, List.length_map, List.map_take, List.map_drop, List.length_drop, List.length_take, Nat.le_refl, true_and]
    refine a_call [] (moidoreref44_set_ok p0 (SIDBalanceNonce.mk y1.ID (IntKind.u64.wrap (y1.Balance - p2)) y1.Nonce) y2 hr2) bd30 (by simp only [v1, v2, v3, v4, v5, v6, v7, v8, v9, tf1, tu, litOk, appOk, appS, growD, Nat.reduceEqDiff, Nat.reduceLT, Nat.reduceAdd, Nat.reduceLeDiff, Nat.reduceMul, Nat.reduceBEq, Nat.reduceSub, Int.reduceLE, Int.reduceToNat, Int.reduceLT, Int.reduceNeg, encSIDBalanceNonce, encSLIDAmountNonce, encSAccounts, encSKindIDAmount, callOk, vl, List.map_append, List.length_append, List.length_map, List.map_take, List.map_drop, List.length_drop, List.length_take, Nat.le_refl, true_and]) ?_
    simp only [v1, v2, v3, v4, v5, v6, v7, v8, v9, tf1, tu, litOk, appOk, appS, growD, Nat.reduceEqDiff, Nat.reduceLT, Nat.reduceAdd, Nat.reduceLeDiff, Nat.reduceMul, Nat.reduceBEq, Nat.reduceSub, Int.reduceLE, Int.reduceToNat, Int.reduceLT, Int.reduceNeg, encSIDBalanceNonce, encSLIDAmountNonce, encSAccounts, encSKindIDAmount, List.map_append, List.length_append, List.length_map, List.map_take, List.map_drop, List.length_drop, List.length_take, Nat.le_refl, true_and]
    refine hK _ ?_
    clear hK K
    try simp only [s_thN, s_thE, s_thR, s_blN, s_blE, s_blM, s_blR, Nat.reduceEqDiff]
    obtain ⟨rfl, rfl⟩ := h
    refine sat_ret (retN [1] ?_)
    simp only [v1, v2, v3, v4, v5, v6, v7, v8, v9, tf1, tu, litOk, appOk, appS, growD, Nat.reduceEqDiff, Nat.reduceLT, Nat.reduceAdd, Nat.reduceLeDiff, Nat.reduceMul, Nat.reduceBEq, Nat.reduceSub, Int.reduceLE, Int.reduceToNat, Int.reduceLT, Int.reduceNeg, encSIDBalanceNonce, encSLIDAmountNonce, encSAccounts, encSKindIDAmount, vl, Try.results15, e_sp0, e_sp1, List.map_append, List.length_append, List.length_map, List.map_take, List.map_drop, List.length_drop, List.length_take, Nat.le_refl, true_and]
theorem moidorelaw44_back_ok (p0 : SAccounts) (r0 : List SIDBalanceNonce) (h : moidorelaw44_back_Ret p0 r0) : SoundH Try.prog 17 [.agg [.d (.slice 3 (List.map encSIDBalanceNonce p0.Accounts))]] [] (.own 0 3 (List.map encSIDBalanceNonce r0)) [.tip (List.length r0)] := by
  refine sound_of Try.func17 rfl Try.ntmps17 (by simp) fun G0 w0 => ?_
  unfold moidorelaw44_back_Ret at h
  refine sat_seq ?_
  refine sat_region fun K hK => ?_
  simp only [v1, v2, v3, v4, v5, v6, v7, v8, v9, tf1, tu, litOk, appOk, appS, growD, Nat.reduceEqDiff, Nat.reduceLT, Nat.reduceAdd, Nat.reduceLeDiff, Nat.reduceMul, Nat.reduceBEq, Nat.reduceSub, Int.reduceLE, Int.reduceToNat, Int.reduceLT, Int.reduceNeg, encSIDBalanceNonce, encSLIDAmountNonce, encSAccounts, encSKindIDAmount, List.map_append, List.length_append, List.length_map, List.map_take, List.map_drop, List.length_drop, List.length_take, Nat.le_refl, true_and]
  refine hK _ ?_
  clear hK K
  try simp only [s_thN, s_thE, s_thR, s_blN, s_blE, s_blM, s_blR, Nat.reduceEqDiff]
  refine sat_seq ?_
  refine sat_region fun K hK => ?_
  simp only [v1, v2, v3, v4, v5, v6, v7, v8, v9, tf1, tu, litOk, appOk, appS, growD, Nat.reduceEqDiff, Nat.reduceLT, Nat.reduceAdd, Nat.reduceLeDiff, Nat.reduceMul, Nat.reduceBEq, Nat.reduceSub, Int.reduceLE, Int.reduceToNat, Int.reduceLT, Int.reduceNeg, encSIDBalanceNonce, encSLIDAmountNonce, encSAccounts, encSKindIDAmount, List.map_append, List.length_append, List.length_map, List.map_take, List.map_drop, List.length_drop, List.length_take, Nat.le_refl, true_and]
  refine hK _ ?_
  clear hK K
  try simp only [s_thN, s_thE, s_thR, s_blN, s_blE, s_blM, s_blR, Nat.reduceEqDiff]
  refine sat_seq ?_
  refine sat_seq ?_
  refine sat_region fun K hK => ?_
  simp only [v1, v2, v3, v4, v5, v6, v7, v8, v9, tf1, tu, litOk, appOk, appS, growD, Nat.reduceEqDiff, Nat.reduceLT, Nat.reduceAdd, Nat.reduceLeDiff, Nat.reduceMul, Nat.reduceBEq, Nat.reduceSub, Int.reduceLE, Int.reduceToNat, Int.reduceLT, Int.reduceNeg, encSIDBalanceNonce, encSLIDAmountNonce, encSAccounts, encSKindIDAmount, List.map_append, List.length_append, List.length_map, List.map_take, List.map_drop, List.length_drop, List.length_take, Nat.le_refl, true_and]
  refine hK _ ?_
  clear hK K
  try simp only [s_thN, s_thE, s_thR, s_blN, s_blE, s_blM, s_blR, Nat.reduceEqDiff]
  refine sat_block ?_
  refine sat_tok 3 (sz := 3) (l := List.map encSIDBalanceNonce ([] : List SIDBalanceNonce)) (by simp only [v1, v2, v3, v4, v5, v6, v7, v8, v9, tf1, tu, litOk, appOk, appS, growD, Nat.reduceEqDiff, Nat.reduceLT, Nat.reduceAdd, Nat.reduceLeDiff, Nat.reduceMul, Nat.reduceBEq, Nat.reduceSub, Int.reduceLE, Int.reduceToNat, Int.reduceLT, Int.reduceNeg, encSIDBalanceNonce, encSLIDAmountNonce, encSAccounts, encSKindIDAmount, e_gfF, e_gfN]) ?_
  simp only [v1, v2, v3, v4, v5, v6, v7, v8, v9, tf1, tu, litOk, appOk, appS, growD, Nat.reduceEqDiff, Nat.reduceLT, Nat.reduceAdd, Nat.reduceLeDiff, Nat.reduceMul, Nat.reduceBEq, Nat.reduceSub, Int.reduceLE, Int.reduceToNat, Int.reduceLT, Int.reduceNeg, encSIDBalanceNonce, encSLIDAmountNonce, encSAccounts, encSKindIDAmount, List.map_append, List.length_append, List.length_map, List.map_take, List.map_drop, List.length_drop, List.length_take, Nat.le_refl, true_and]
  obtain ⟨inv, μ, h0, hs⟩ := h
  refine sat_loop (ι := (List SIDBalanceNonce) × Int) (fun x => ⟨[(3, .own 1 3 (List.map encSIDBalanceNonce x.1)), (7, .d (.slice 3 (List.map encSIDBalanceNonce p0.Accounts))), (8, .d (.int .i64 ((List.length p0.Accounts : Nat) : Int))), (9, .d (.int .i64 x.2))], [(1, .tip (List.length x.1))], 2⟩) inv μ (([] : List SIDBalanceNonce), 0) h0 (by simp only [v1, v2, v3, v4, v5, v6, v7, v8, v9, tf1, tu, litOk, appOk, appS, growD, Nat.reduceEqDiff, Nat.reduceLT, Nat.reduceAdd, Nat.reduceLeDiff, Nat.reduceMul, Nat.reduceBEq, Nat.reduceSub, Int.reduceLE, Int.reduceToNat, Int.reduceLT, Int.reduceNeg, encSIDBalanceNonce, encSLIDAmountNonce, encSAccounts, encSKindIDAmount, vl, List.map_append, List.length_append, List.length_map, List.map_take, List.map_drop, List.length_drop, List.length_take, Nat.le_refl, true_and]) ?_
  rintro ⟨j3, j4⟩ hi
  have h : moidorelaw44_back_L1 p0 r0 _ j3 j4 := hs _ hi
  clear hs h0 hi
  generalize hnx : (fun s => inv s ∧ μ s < μ (j3, j4)) = nx1 at h
  show Sat _ _ _ _ _ _ ⟨[(3, .own 1 3 (List.map encSIDBalanceNonce j3)), (7, .d (.slice 3 (List.map encSIDBalanceNonce p0.Accounts))), (8, .d (.int .i64 ((List.length p0.Accounts : Nat) : Int))), (9, .d (.int .i64 j4))], [(1, .tip (List.length j3))], 2⟩ _
  unfold moidorelaw44_back_L1 at h
  refine sat_seq ?_
  refine sat_region fun K hK => ?_
  simp only [v1, v2, v3, v4, v5, v6, v7, v8, v9, tf1, tu, litOk, appOk, appS, growD, Nat.reduceEqDiff, Nat.reduceLT, Nat.reduceAdd, Nat.reduceLeDiff, Nat.reduceMul, Nat.reduceBEq, Nat.reduceSub, Int.reduceLE, Int.reduceToNat, Int.reduceLT, Int.reduceNeg, encSIDBalanceNonce, encSLIDAmountNonce, encSAccounts, encSKindIDAmount, List.map_append, List.length_append, List.length_map, List.map_take, List.map_drop, List.length_drop, List.length_take, Nat.le_refl, true_and]
  refine hK _ ?_
  clear hK K
  try simp only [s_thN, s_thE, s_thR, s_blN, s_blE, s_blM, s_blR, Nat.reduceEqDiff]
  refine sat_seq ?_
  refine sat_cond rfl (fun hb1 => ?_) (fun hb1 => ?_)
  · replace h := h.1 hb1
    refine sat_skip ?_
    try simp only [s_thN, s_thE, s_thR, s_blN, s_blE, s_blM, s_blR, Nat.reduceEqDiff]
    refine sat_seq ?_
    refine sat_block ?_
    refine sat_seq ?_
    obtain ⟨c1, c2, h⟩ := h
    refine sat_region fun K hK => ?_
    simp only [v1, v2, v3, v4, v5, v6, v7, v8, v9, tf1, tu, litOk, appOk, appS, growD, Nat.reduceEqDiff, Nat.reduceLT, Nat.reduceAdd, Nat.reduceLeDiff, Nat.reduceMul, Nat.reduceBEq, Nat.reduceSub, Int.reduceLE, Int.reduceToNat, Int.reduceLT, Int.reduceNeg, encSIDBalanceNonce, encSLIDAmountNonce, encSAccounts, encSKindIDAmount, c1, c2, elt_ix encSIDBalanceNonce p0.Accounts j4 c1 c2, List.map_append, List.length_append, List.length_map, List.map_take, List.map_drop, List.length_drop, List.length_take, Nat.le_refl, true_and]
    refine hK _ ?_
    clear hK K
    try simp only [s_thN, s_thE, s_thR, s_blN, s_blE, s_blM, s_blR, Nat.reduceEqDiff]
    obtain ⟨c3, c4, h⟩ := h
    refine sat_region fun K hK => ?_
    simp only [v1, v2, v3, v4, v5, v6, v7, v8, v9, tf1, tu, litOk, appOk, appS, growD, Nat.reduceEqDiff, Nat.reduceLT, Nat.reduceAdd, Nat.reduceLeDiff, Nat.reduceMul, Nat.reduceBEq, Nat.reduceSub, Int.reduceLE, Int.reduceToNat, Int.reduceLT, Int.reduceNeg, encSIDBalanceNonce, encSLIDAmountNonce, encSAccounts, encSKindIDAmount, c3, c4, List.map_append, List.length_append, List.length_map, List.map_take, List.map_drop, List.length_drop, List.length_take, Nat.le_refl, true_and]
    refine hK _ ?_
    clear hK K
    try simp only [s_thN, s_thE, s_thR, s_blN, s_blE, s_blM, s_blR, Nat.reduceEqDiff]
    refine sat_region fun K hK => ?_
    simp only [v1, v2, v3, v4, v5, v6, v7, v8, v9, tf1, tu, litOk, appOk, appS, growD, Nat.reduceEqDiff, Nat.reduceLT, Nat.reduceAdd, Nat.reduceLeDiff, Nat.reduceMul, Nat.reduceBEq, Nat.reduceSub, Int.reduceLE, Int.reduceToNat, Int.reduceLT, Int.reduceNeg, encSIDBalanceNonce, encSLIDAmountNonce, encSAccounts, encSKindIDAmount, List.map_append, List.length_append, List.length_map, List.map_take, List.map_drop, List.length_drop, List.length_take, Nat.le_refl, true_and]
    refine hK _ ?_
    clear hK K
    try simp only [s_thN, s_thE, s_thR, s_blN, s_blE, s_blM, s_blR, Nat.reduceEqDiff]
    rw [← hnx] at h
    exact ⟨(j3 ++ [(ix p0.Accounts j4)], IntKind.i64.wrap (j4 + 1)), h.1, h.2, by simp only [v1, v2, v3, v4, v5, v6, v7, v8, v9, tf1, tu, litOk, appOk, appS, growD, Nat.reduceEqDiff, Nat.reduceLT, Nat.reduceAdd, Nat.reduceLeDiff, Nat.reduceMul, Nat.reduceBEq, Nat.reduceSub, Int.reduceLE, Int.reduceToNat, Int.reduceLT, Int.reduceNeg, encSIDBalanceNonce, encSLIDAmountNonce, encSAccounts, encSKindIDAmount, vl, List.map_append, List.length_append, List.length_map, List.map_take, List.map_drop, List.length_drop, List.length_take, Nat.le_refl, true_and]⟩
  · replace h := h.2 hb1
    refine sat_exit ?_
    try simp only [s_thN, s_thE, s_thR, s_blN, s_blE, s_blM, s_blR, Nat.reduceEqDiff]
    refine sat_seq ?_
    refine sat_region fun K hK => ?_
    simp only [v1, v2, v3, v4, v5, v6, v7, v8, v9, tf1, tu, litOk, appOk, appS, growD, Nat.reduceEqDiff, Nat.reduceLT, Nat.reduceAdd, Nat.reduceLeDiff, Nat.reduceMul, Nat.reduceBEq, Nat.reduceSub, Int.reduceLE, Int.reduceToNat, Int.reduceLT, Int.reduceNeg, encSIDBalanceNonce, encSLIDAmountNonce, encSAccounts, encSKindIDAmount, List.map_append, List.length_append, List.length_map, List.map_take, List.map_drop, List.length_drop, List.length_take, Nat.le_refl, true_and]
    refine hK _ ?_
    clear hK K
    try simp only [s_thN, s_thE, s_thR, s_blN, s_blE, s_blM, s_blR, Nat.reduceEqDiff]
    subst h
    refine sat_ret (retN [1] ?_)
    simp only [v1, v2, v3, v4, v5, v6, v7, v8, v9, tf1, tu, litOk, appOk, appS, growD, Nat.reduceEqDiff, Nat.reduceLT, Nat.reduceAdd, Nat.reduceLeDiff, Nat.reduceMul, Nat.reduceBEq, Nat.reduceSub, Int.reduceLE, Int.reduceToNat, Int.reduceLT, Int.reduceNeg, encSIDBalanceNonce, encSLIDAmountNonce, encSAccounts, encSKindIDAmount, vl, Try.results17, e_sp0, e_sp1, List.map_append, List.length_append, List.length_map, List.map_take, List.map_drop, List.length_drop, List.length_take, Nat.le_refl, true_and]
theorem moidoreref44_Same_ok (p0 : List SIDBalanceNonce) (p1 : List SIDBalanceNonce) (r0 : Bool) (h : moidoreref44_Same_Ret p0 p1 r0) : SoundH Try.prog 16 [.d (.slice 3 (List.map encSIDBalanceNonce p0)), .d (.slice 3 (List.map encSIDBalanceNonce p1))] [] (.d (.bool r0)) [] := by
  refine sound_of Try.func16 rfl Try.ntmps16 (by simp) fun G0 w0 => ?_
  unfold moidoreref44_Same_Ret at h
  refine sat_seq ?_
  refine sat_region fun K hK => ?_
  simp only [v1, v2, v3, v4, v5, v6, v7, v8, v9, tf1, tu, litOk, appOk, appS, growD, Nat.reduceEqDiff, Nat.reduceLT, Nat.reduceAdd, Nat.reduceLeDiff, Nat.reduceMul, Nat.reduceBEq, Nat.reduceSub, Int.reduceLE, Int.reduceToNat, Int.reduceLT, Int.reduceNeg, encSIDBalanceNonce, encSLIDAmountNonce, encSAccounts, encSKindIDAmount, List.map_append, List.length_append, List.length_map, List.map_take, List.map_drop, List.length_drop, List.length_take, Nat.le_refl, true_and]
  refine hK _ ?_
  clear hK K
  try simp only [s_thN, s_thE, s_thR, s_blN, s_blE, s_blM, s_blR, Nat.reduceEqDiff]
  refine sat_seq ?_
  refine sat_seq ?_
  refine sat_region fun K hK => ?_
  simp only [v1, v2, v3, v4, v5, v6, v7, v8, v9, tf1, tu, litOk, appOk, appS, growD, Nat.reduceEqDiff, Nat.reduceLT, Nat.reduceAdd, Nat.reduceLeDiff, Nat.reduceMul, Nat.reduceBEq, Nat.reduceSub, Int.reduceLE, Int.reduceToNat, Int.reduceLT, Int.reduceNeg, encSIDBalanceNonce, encSLIDAmountNonce, encSAccounts, encSKindIDAmount, List.map_append, List.length_append, List.length_map, List.map_take, List.map_drop, List.length_drop, List.length_take, Nat.le_refl, true_and]
  refine hK _ ?_
  clear hK K
  try simp only [s_thN, s_thE, s_thR, s_blN, s_blE, s_blM, s_blR, Nat.reduceEqDiff]
  refine sat_cond rfl (fun hb1 => ?_) (fun hb1 => ?_)
  · replace h := h.1 hb1
    refine sat_seq ?_
    refine sat_region fun K hK => ?_
    simp only [v1, v2, v3, v4, v5, v6, v7, v8, v9, tf1, tu, litOk, appOk, appS, growD, Nat.reduceEqDiff, Nat.reduceLT, Nat.reduceAdd, Nat.reduceLeDiff, Nat.reduceMul, Nat.reduceBEq, Nat.reduceSub, Int.reduceLE, Int.reduceToNat, Int.reduceLT, Int.reduceNeg, encSIDBalanceNonce, encSLIDAmountNonce, encSAccounts, encSKindIDAmount, List.map_append, List.length_append, List.length_map, List.map_take, List.map_drop, List.length_drop, List.length_take, Nat.le_refl, true_and]
    refine hK _ ?_
    clear hK K
    try simp only [s_thN, s_thE, s_thR, s_blN, s_blE, s_blM, s_blR, Nat.reduceEqDiff]
    subst h
    refine sat_ret (retN [] ?_)
    simp only [v1, v2, v3, v4, v5, v6, v7, v8, v9, tf1, tu, litOk, appOk, appS, growD, Nat.reduceEqDiff, Nat.reduceLT, Nat.reduceAdd, Nat.reduceLeDiff, Nat.reduceMul, Nat.reduceBEq, Nat.reduceSub, Int.reduceLE, Int.reduceToNat, Int.reduceLT, Int.reduceNeg, encSIDBalanceNonce, encSLIDAmountNonce, encSAccounts, encSKindIDAmount, vl, Try.results16, e_sp0, e_sp1, List.map_append, List.length_append, List.length_map, List.map_take, List.map_drop, List.length_drop, List.length_take, Nat.le_refl, true_and]
  · replace h := h.2 hb1
    refine sat_skip ?_
    try simp only [s_thN, s_thE, s_thR, s_blN, s_blE, s_blM, s_blR, Nat.reduceEqDiff]
    refine sat_seq ?_
    refine sat_seq ?_
    refine sat_region fun K hK => ?_
    simp only [v1, v2, v3, v4, v5, v6, v7, v8, v9, tf1, tu, litOk, appOk, appS, growD, Nat.reduceEqDiff, Nat.reduceLT, Nat.reduceAdd, Nat.reduceLeDiff, Nat.reduceMul, Nat.reduceBEq, Nat.reduceSub, Int.reduceLE, Int.reduceToNat, Int.reduceLT, Int.reduceNeg, encSIDBalanceNonce, encSLIDAmountNonce, encSAccounts, encSKindIDAmount, List.map_append, List.length_append, List.length_map, List.map_take, List.map_drop, List.length_drop, List.length_take, Nat.le_refl, true_and]
    refine hK _ ?_
    clear hK K
    try simp only [s_thN, s_thE, s_thR, s_blN, s_blE, s_blM, s_blR, Nat.reduceEqDiff]
    refine sat_block ?_
    obtain ⟨inv, μ, h0, hs⟩ := h
    refine sat_loop (ι := Int) (fun x => ⟨[(0, .d (.slice 3 (List.map encSIDBalanceNonce p0))), (1, .d (.slice 3 (List.map encSIDBalanceNonce p1))), (5, .d (.int .i64 x))], [], 0⟩) inv μ 0 h0 (by simp only [v1, v2, v3, v4, v5, v6, v7, v8, v9, tf1, tu, litOk, appOk, appS, growD, Nat.reduceEqDiff, Nat.reduceLT, Nat.reduceAdd, Nat.reduceLeDiff, Nat.reduceMul, Nat.reduceBEq, Nat.reduceSub, Int.reduceLE, Int.reduceToNat, Int.reduceLT, Int.reduceNeg, encSIDBalanceNonce, encSLIDAmountNonce, encSAccounts, encSKindIDAmount, vl, List.map_append, List.length_append, List.length_map, List.map_take, List.map_drop, List.length_drop, List.length_take, Nat.le_refl, true_and]) ?_
    intro j2 hi
    have h : moidoreref44_Same_L1 p0 p1 r0 _ j2 := hs _ hi
    clear hs h0 hi
    generalize hnx : (fun s => inv s ∧ μ s < μ j2) = nx1 at h
    show Sat _ _ _ _ _ _ ⟨[(0, .d (.slice 3 (List.map encSIDBalanceNonce p0))), (1, .d (.slice 3 (List.map encSIDBalanceNonce p1))), (5, .d (.int .i64 j2))], [], 0⟩ _
    unfold moidoreref44_Same_L1 at h
    refine sat_seq ?_
    refine sat_seq ?_
    refine sat_region fun K hK => ?_
    simp only [v1, v2, v3, v4, v5, v6, v7, v8, v9, tf1, tu, litOk, appOk, appS, growD, Nat.reduceEqDiff, Nat.reduceLT, Nat.reduceAdd, Nat.reduceLeDiff, Nat.reduceMul, Nat.reduceBEq, Nat.reduceSub, Int.reduceLE, Int.reduceToNat, Int.reduceLT, Int.reduceNeg, encSIDBalanceNonce, encSLIDAmountNonce, encSAccounts, encSKindIDAmount, List.map_append, List.length_append, List.length_map, List.map_take, List.map_drop, List.length_drop, List.length_take, Nat.le_refl, true_and]
    refine hK _ ?_
    clear hK K
    try simp only [s_thN, s_thE, s_thR, s_blN, s_blE, s_blM, s_blR, Nat.reduceEqDiff]
    refine sat_cond rfl (fun hb2 => ?_) (fun hb2 => ?_)
    · replace h := h.1 hb2
      refine sat_skip ?_
      try simp only [s_thN, s_thE, s_thR, s_blN, s_blE, s_blM, s_blR, Nat.reduceEqDiff]
      refine sat_seq ?_
      refine sat_block ?_
      refine sat_seq ?_
      obtain ⟨c1, c2, c3, c4, h⟩ := h
      refine sat_drawn 1 mix (by kernel_rfl) fun K hK => ?_
      simp only [v1, v2, v3, v4, v5, v6, v7, v8, v9, tf1, tu, litOk, appOk, appS, growD, Nat.reduceEqDiff, Nat.reduceLT, Nat.reduceAdd, Nat.reduceLeDiff, Nat.reduceMul, Nat.reduceBEq, Nat.reduceSub, Int.reduceLE, Int.reduceToNat, Int.reduceLT, Int.reduceNeg, encSIDBalanceNonce, encSLIDAmountNonce, encSAccounts, encSKindIDAmount, c1, c2, elt_ix encSIDBalanceNonce p0 j2 c1 c2, c3, c4, elt_ix encSIDBalanceNonce p1 j2 c3 c4, List.map_append, List.length_append, List.length_map, List.map_take, List.map_drop, List.length_drop, List.length_take, Nat.le_refl, true_and]
      refine hK _ ?_
      clear hK K
      try simp only [s_thN, s_thE, s_thR, s_blN, s_blE, s_blM, s_blR, Nat.reduceEqDiff]
      refine sat_cond rfl (fun hb3 => ?_) (fun hb3 => ?_)
      · replace h := h.1 hb3
        refine sat_seq ?_
        refine sat_region fun K hK => ?_
        simp only [v1, v2, v3, v4, v5, v6, v7, v8, v9, tf1, tu, litOk, appOk, appS, growD, Nat.reduceEqDiff, Nat.reduceLT, Nat.reduceAdd, Nat.reduceLeDiff, Nat.reduceMul, Nat.reduceBEq, Nat.reduceSub, Int.reduceLE, Int.reduceToNat, Int.reduceLT, Int.reduceNeg, encSIDBalanceNonce, encSLIDAmountNonce, encSAccounts, encSKindIDAmount, List.map_append, List.length_append, List.length_map, List.map_take, List.map_drop, List.length_drop, List.length_take, Nat.le_refl, true_and]
        refine hK _ ?_
        clear hK K
        try simp only [s_thN, s_thE, s_thR, s_blN, s_blE, s_blM, s_blR, Nat.reduceEqDiff]
        subst h
        refine sat_ret (retN [] ?_)
        simp only [v1, v2, v3, v4, v5, v6, v7, v8, v9, tf1, tu, litOk, appOk, appS, growD, Nat.reduceEqDiff, Nat.reduceLT, Nat.reduceAdd, Nat.reduceLeDiff, Nat.reduceMul, Nat.reduceBEq, Nat.reduceSub, Int.reduceLE, Int.reduceToNat, Int.reduceLT, Int.reduceNeg, encSIDBalanceNonce, encSLIDAmountNonce, encSAccounts, encSKindIDAmount, vl, Try.results16, e_sp0, e_sp1, List.map_append, List.length_append, List.length_map, List.map_take, List.map_drop, List.length_drop, List.length_take, Nat.le_refl, true_and]
      · replace h := h.2 hb3
        refine sat_skip ?_
        try simp only [s_thN, s_thE, s_thR, s_blN, s_blE, s_blM, s_blR, Nat.reduceEqDiff]
        refine sat_region fun K hK => ?_
        simp only [v1, v2, v3, v4, v5, v6, v7, v8, v9, tf1, tu, litOk, appOk, appS, growD, Nat.reduceEqDiff, Nat.reduceLT, Nat.reduceAdd, Nat.reduceLeDiff, Nat.reduceMul, Nat.reduceBEq, Nat.reduceSub, Int.reduceLE, Int.reduceToNat, Int.reduceLT, Int.reduceNeg, encSIDBalanceNonce, encSLIDAmountNonce, encSAccounts, encSKindIDAmount, List.map_append, List.length_append, List.length_map, List.map_take, List.map_drop, List.length_drop, List.length_take, Nat.le_refl, true_and]
        refine hK _ ?_
        clear hK K
        try simp only [s_thN, s_thE, s_thR, s_blN, s_blE, s_blM, s_blR, Nat.reduceEqDiff]
        rw [← hnx] at h
        exact ⟨IntKind.i64.wrap (j2 + 1), h.1, h.2, by simp only [v1, v2, v3, v4, v5, v6, v7, v8, v9, tf1, tu, litOk, appOk, appS, growD, Nat.reduceEqDiff, Nat.reduceLT, Nat.reduceAdd, Nat.reduceLeDiff, Nat.reduceMul, Nat.reduceBEq, Nat.reduceSub, Int.reduceLE, Int.reduceToNat, Int.reduceLT, Int.reduceNeg, encSIDBalanceNonce, encSLIDAmountNonce, encSAccounts, encSKindIDAmount, vl, List.map_append, List.length_append, List.length_map, List.map_take, List.map_drop, List.length_drop, List.length_take, Nat.le_refl, true_and]⟩
    · replace h := h.2 hb2
      refine sat_exit ?_
      try simp only [s_thN, s_thE, s_thR, s_blN, s_blE, s_blM, s_blR, Nat.reduceEqDiff]
      refine sat_seq ?_
      refine sat_region fun K hK => ?_
      simp only [v1, v2, v3, v4, v5, v6, v7, v8, v9, tf1, tu, litOk, appOk, appS, growD, Nat.reduceEqDiff, Nat.reduceLT, Nat.reduceAdd, Nat.reduceLeDiff, Nat.reduceMul, Nat.reduceBEq, Nat.reduceSub, Int.reduceLE, Int.reduceToNat, Int.reduceLT, Int.reduceNeg, encSIDBalanceNonce, encSLIDAmountNonce, encSAccounts, encSKindIDAmount, List.map_append, List.length_append, List.length_map, List.map_take, List.map_drop, List.length_drop, List.length_take, Nat.le_refl, true_and]
      refine hK _ ?_
      clear hK K
      try simp only [s_thN, s_thE, s_thR, s_blN, s_blE, s_blM, s_blR, Nat.reduceEqDiff]
      subst h
      refine sat_ret (retN [] ?_)
      simp only [v1, v2, v3, v4, v5, v6, v7, v8, v9, tf1, tu, litOk, appOk, appS, growD, Nat.reduceEqDiff, Nat.reduceLT, Nat.reduceAdd, Nat.reduceLeDiff, Nat.reduceMul, Nat.reduceBEq, Nat.reduceSub, Int.reduceLE, Int.reduceToNat, Int.reduceLT, Int.reduceNeg, encSIDBalanceNonce, encSLIDAmountNonce, encSAccounts, encSKindIDAmount, vl, Try.results16, e_sp0, e_sp1, List.map_append, List.length_append, List.length_map, List.map_take, List.map_drop, List.length_drop, List.length_take, Nat.le_refl, true_and]
theorem moidorelaw44_LedgerCredit_ok (p0 : SLIDAmountNonce) (r0 : Bool) (h : moidorelaw44_LedgerCredit_Ret p0 r0) : SoundH Try.prog 3 [.agg [.d (.slice 3 (List.map encSIDBalanceNonce p0.L)), .d (.int .u64 p0.ID), .d (.int .u64 p0.Amount), .d (.int .u64 p0.Nonce)]] [] (.d (.bool r0)) [] := by
  refine sound_of Try.func3 rfl Try.ntmps3 (by simp) fun G0 w0 => ?_
  unfold moidorelaw44_LedgerCredit_Ret at h
  refine sat_seq ?_
  refine sat_region fun K hK => ?_
  simp only [v1, v2, v3, v4, v5, v6, v7, v8, v9, tf1, tu, litOk, appOk, appS, growD, Nat.reduceEqDiff, Nat.reduceLT, Nat.reduceAdd, Nat.reduceLeDiff, Nat.reduceMul, Nat.reduceBEq, Nat.reduceSub, Int.reduceLE, Int.reduceToNat, Int.reduceLT, Int.reduceNeg, encSIDBalanceNonce, encSLIDAmountNonce, encSAccounts, encSKindIDAmount, List.map_append, List.length_append, List.length_map, List.map_take, List.map_drop, List.length_drop, List.length_take, Nat.le_refl, true_and]
  refine hK _ ?_
  clear hK K
  try simp only [s_thN, s_thE, s_thR, s_blN, s_blE, s_blM, s_blR, Nat.reduceEqDiff]
  refine sat_seq ?_
  refine sat_join (ι := Bool) (fun x => ⟨[(1, .ptr 0 0), (17, .d (.bool x))], [(0, .cells [.d (.slice 3 (List.map encSIDBalanceNonce p0.L)), .d (.int .u64 p0.ID), .d (.int .u64 p0.Amount), .d (.int .u64 p0.Nonce)])], 1⟩) (fun x => moidorelaw44_LedgerCredit_J2 p0 r0 x) ?_ ?_
  · obtain ⟨y1, hr1, y2, hr2, h⟩ := h
    refine sat_region fun K hK => ?_
    simp only [v1, v2, v3, v4, v5, v6, v7, v8, v9, tf1, tu, litOk, appOk, appS, growD, Nat.reduceEqDiff, Nat.reduceLT, Nat.reduceAdd, Nat.reduceLeDiff, Nat.reduceMul, Nat.reduceBEq, Nat.reduceSub, Int.reduceLE, Int.reduceToNat, Int.reduceLT, Int.reduceNeg, encSIDBalanceNonce, encSLIDAmountNonce, encSAccounts, encSKindIDAmount, List.map_append, List.length_append, List.length_map, List.map_take, List.map_drop, List.length_drop, List.length_take, Nat.le_refl, true_and]
    refine a_call [] (moidorelaw44_awake_ok  y1 hr1) bd9 (by simp only [v1, v2, v3, v4, v5, v6, v7, v8, v9, tf1, tu, litOk, appOk, appS, growD, Nat.reduceEqDiff, Nat.reduceLT, Nat.reduceAdd, Nat.reduceLeDiff, Nat.reduceMul, Nat.reduceBEq, Nat.reduceSub, Int.reduceLE, Int.reduceToNat, Int.reduceLT, Int.reduceNeg, encSIDBalanceNonce, encSLIDAmountNonce, encSAccounts, encSKindIDAmount, callOk, vl, List.map_append, List.length_append, List.length_map, List.map_take, List.map_drop, List.length_drop, List.length_take, Nat.le_refl, true_and]) ?_
    simp only [v1, v2, v3, v4, v5, v6, v7, v8, v9, tf1, tu, litOk, appOk, appS, growD, Nat.reduceEqDiff, Nat.reduceLT, Nat.reduceAdd, Nat.reduceLeDiff, Nat.reduceMul, Nat.reduceBEq, Nat.reduceSub, Int.reduceLE, Int.reduceToNat, Int.reduceLT, Int.reduceNeg, encSIDBalanceNonce, encSLIDAmountNonce, encSAccounts, encSKindIDAmount, List.map_append, List.length_append, List.length_map, List.map_take, List.map_drop, List.length_drop, List.length_take, Nat.le_refl, true_and]
    refine A_guard_split (by simp only [v1, v2, v3, v4, v5, v6, v7, v8, v9, tf1, tu, litOk, appOk, appS, growD, Nat.reduceEqDiff, Nat.reduceLT, Nat.reduceAdd, Nat.reduceLeDiff, Nat.reduceMul, Nat.reduceBEq, Nat.reduceSub, Int.reduceLE, Int.reduceToNat, Int.reduceLT, Int.reduceNeg, encSIDBalanceNonce, encSLIDAmountNonce, encSAccounts, encSKindIDAmount]; rfl) (fun hg4 => ?_) (fun hg4 => ?_)
    · simp only [v1, v2, v3, v4, v5, v6, v7, v8, v9, tf1, tu, litOk, appOk, appS, growD, Nat.reduceEqDiff, Nat.reduceLT, Nat.reduceAdd, Nat.reduceLeDiff, Nat.reduceMul, Nat.reduceBEq, Nat.reduceSub, Int.reduceLE, Int.reduceToNat, Int.reduceLT, Int.reduceNeg, encSIDBalanceNonce, encSLIDAmountNonce, encSAccounts, encSKindIDAmount, hg4, List.map_append, List.length_append, List.length_map, List.map_take, List.map_drop, List.length_drop, List.length_take, Nat.le_refl, true_and]
      refine hK _ ?_
      clear hK K
      try simp only [s_thN, s_thE, s_thR, s_blN, s_blE, s_blM, s_blR, Nat.reduceEqDiff]
      exact ⟨(!y1) || (!y2), h, by simp only [v1, v2, v3, v4, v5, v6, v7, v8, v9, tf1, tu, litOk, appOk, appS, growD, Nat.reduceEqDiff, Nat.reduceLT, Nat.reduceAdd, Nat.reduceLeDiff, Nat.reduceMul, Nat.reduceBEq, Nat.reduceSub, Int.reduceLE, Int.reduceToNat, Int.reduceLT, Int.reduceNeg, encSIDBalanceNonce, encSLIDAmountNonce, encSAccounts, encSKindIDAmount, vl, hg4, List.map_append, List.length_append, List.length_map, List.map_take, List.map_drop, List.length_drop, List.length_take, Nat.le_refl, true_and]⟩
    · simp only [v1, v2, v3, v4, v5, v6, v7, v8, v9, tf1, tu, litOk, appOk, appS, growD, Nat.reduceEqDiff, Nat.reduceLT, Nat.reduceAdd, Nat.reduceLeDiff, Nat.reduceMul, Nat.reduceBEq, Nat.reduceSub, Int.reduceLE, Int.reduceToNat, Int.reduceLT, Int.reduceNeg, encSIDBalanceNonce, encSLIDAmountNonce, encSAccounts, encSKindIDAmount, hg4, List.map_append, List.length_append, List.length_map, List.map_take, List.map_drop, List.length_drop, List.length_take, Nat.le_refl, true_and]
      replace hr2 := hr2 (by simp only [v1, v2, v3, v4, v5, v6, v7, v8, v9, tf1, tu, litOk, appOk, appS, growD, Nat.reduceEqDiff, Nat.reduceLT, Nat.reduceAdd, Nat.reduceLeDiff, Nat.reduceMul, Nat.reduceBEq, Nat.reduceSub, Int.reduceLE, Int.reduceToNat, Int.reduceLT, Int.reduceNeg, encSIDBalanceNonce, encSLIDAmountNonce, encSAccounts, encSKindIDAmount, hg4])
      refine a_call [] (moidorelaw44_Case_right_ok p0 y2 hr2) bd10 (by simp only [v1, v2, v3, v4, v5, v6, v7, v8, v9, tf1, tu, litOk, appOk, appS, growD, Nat.reduceEqDiff, Nat.reduceLT, Nat.reduceAdd, Nat.reduceLeDiff, Nat.reduceMul, Nat.reduceBEq, Nat.reduceSub, Int.reduceLE, Int.reduceToNat, Int.reduceLT, Int.reduceNeg, encSIDBalanceNonce, encSLIDAmountNonce, encSAccounts, encSKindIDAmount, callOk, vl, hg4, List.map_append, List.length_append, List.length_map, List.map_take, List.map_drop, List.length_drop, List.length_take, Nat.le_refl, true_and]) ?_
      simp only [v1, v2, v3, v4, v5, v6, v7, v8, v9, tf1, tu, litOk, appOk, appS, growD, Nat.reduceEqDiff, Nat.reduceLT, Nat.reduceAdd, Nat.reduceLeDiff, Nat.reduceMul, Nat.reduceBEq, Nat.reduceSub, Int.reduceLE, Int.reduceToNat, Int.reduceLT, Int.reduceNeg, encSIDBalanceNonce, encSLIDAmountNonce, encSAccounts, encSKindIDAmount, hg4, List.map_append, List.length_append, List.length_map, List.map_take, List.map_drop, List.length_drop, List.length_take, Nat.le_refl, true_and]
      refine hK _ ?_
      clear hK K
      try simp only [s_thN, s_thE, s_thR, s_blN, s_blE, s_blM, s_blR, Nat.reduceEqDiff]
      exact ⟨(!y1) || (!y2), h, by simp only [v1, v2, v3, v4, v5, v6, v7, v8, v9, tf1, tu, litOk, appOk, appS, growD, Nat.reduceEqDiff, Nat.reduceLT, Nat.reduceAdd, Nat.reduceLeDiff, Nat.reduceMul, Nat.reduceBEq, Nat.reduceSub, Int.reduceLE, Int.reduceToNat, Int.reduceLT, Int.reduceNeg, encSIDBalanceNonce, encSLIDAmountNonce, encSAccounts, encSKindIDAmount, vl, hg4, List.map_append, List.length_append, List.length_map, List.map_take, List.map_drop, List.length_drop, List.length_take, Nat.le_refl, true_and]⟩
  · intro b1 h
    have h : moidorelaw44_LedgerCredit_J2 p0 r0 b1 := h
    show Sat _ _ _ _ _ _ ⟨[(1, .ptr 0 0), (17, .d (.bool b1))], [(0, .cells [.d (.slice 3 (List.map encSIDBalanceNonce p0.L)), .d (.int .u64 p0.ID), .d (.int .u64 p0.Amount), .d (.int .u64 p0.Nonce)])], 1⟩ _
    unfold moidorelaw44_LedgerCredit_J2 at h
    refine sat_cond rfl (fun hb1 => ?_) (fun hb1 => ?_)
    · replace h := h.1 hb1
      refine sat_seq ?_
      obtain ⟨y3, hr3, h⟩ := h
      refine sat_region fun K hK => ?_
      simp only [v1, v2, v3, v4, v5, v6, v7, v8, v9, tf1, tu, litOk, appOk, appS, growD, Nat.reduceEqDiff, Nat.reduceLT, Nat.reduceAdd, Nat.reduceLeDiff, Nat.reduceMul, Nat.reduceBEq, Nat.reduceSub, Int.reduceLE, Int.reduceToNat, Int.reduceLT, Int.reduceNeg, encSIDBalanceNonce, encSLIDAmountNonce, encSAccounts, encSKindIDAmount, List.map_append, List.length_append, List.length_map, List.map_take, List.map_drop, List.length_drop, List.length_take, Nat.le_refl, true_and]
      refine a_call [] (moidorelaw44_awake_ok  y3 hr3) bd9 (by simp only [v1, v2, v3, v4, v5, v6, v7, v8, v9, tf1, tu, litOk, appOk, appS, growD, Nat.reduceEqDiff, Nat.reduceLT, Nat.reduceAdd, Nat.reduceLeDiff, Nat.reduceMul, Nat.reduceBEq, Nat.reduceSub, Int.reduceLE, Int.reduceToNat, Int.reduceLT, Int.reduceNeg, encSIDBalanceNonce, encSLIDAmountNonce, encSAccounts, encSKindIDAmount, callOk, vl, List.map_append, List.length_append, List.length_map, List.map_take, List.map_drop, List.length_drop, List.length_take, Nat.le_refl, true_and]) ?_
      simp only [v1, v2, v3, v4, v5, v6, v7, v8, v9, tf1, tu, litOk, appOk, appS, growD, Nat.reduceEqDiff, Nat.reduceLT, Nat.reduceAdd, Nat.reduceLeDiff, Nat.reduceMul, Nat.reduceBEq, Nat.reduceSub, Int.reduceLE, Int.reduceToNat, Int.reduceLT, Int.reduceNeg, encSIDBalanceNonce, encSLIDAmountNonce, encSAccounts, encSKindIDAmount, List.map_append, List.length_append, List.length_map, List.map_take, List.map_drop, List.length_drop, List.length_take, Nat.le_refl, true_and]
      refine hK _ ?_
      clear hK K
      try simp only [s_thN, s_thE, s_thR, s_blN, s_blE, s_blM, s_blR, Nat.reduceEqDiff]
      subst h
      refine sat_ret (retN [] ?_)
      simp only [v1, v2, v3, v4, v5, v6, v7, v8, v9, tf1, tu, litOk, appOk, appS, growD, Nat.reduceEqDiff, Nat.reduceLT, Nat.reduceAdd, Nat.reduceLeDiff, Nat.reduceMul, Nat.reduceBEq, Nat.reduceSub, Int.reduceLE, Int.reduceToNat, Int.reduceLT, Int.reduceNeg, encSIDBalanceNonce, encSLIDAmountNonce, encSAccounts, encSKindIDAmount, vl, Try.results3, e_sp0, e_sp1, List.map_append, List.length_append, List.length_map, List.map_take, List.map_drop, List.length_drop, List.length_take, Nat.le_refl, true_and]
    · replace h := h.2 hb1
      refine sat_skip ?_
      try simp only [s_thN, s_thE, s_thR, s_blN, s_blE, s_blM, s_blR, Nat.reduceEqDiff]
      refine sat_seq ?_
      obtain ⟨y4, hr4, y5, y6, hr5, h⟩ := h
      refine sat_drawn 1 mix (by kernel_rfl) fun K hK => ?_
      simp only [v1, v2, v3, v4, v5, v6, v7, v8, v9, tf1, tu, litOk, appOk, appS, growD, Nat.reduceEqDiff, Nat.reduceLT, Nat.reduceAdd, Nat.reduceLeDiff, Nat.reduceMul, Nat.reduceBEq, Nat.reduceSub, Int.reduceLE, Int.reduceToNat, Int.reduceLT, Int.reduceNeg, encSIDBalanceNonce, encSLIDAmountNonce, encSAccounts, encSKindIDAmount, List.map_append, List.length_append, List.length_map, List.map_take, List.map_drop, List.length_drop, List.length_take, Nat.le_refl, true_and]
      refine d_call [] (moidorelaw44_own_ok p0.L y4 hr4) bd12 (by simp only [v1, v2, v3, v4, v5, v6, v7, v8, v9, tf1, tu, litOk, appOk, appS, growD, Nat.reduceEqDiff, Nat.reduceLT, Nat.reduceAdd, Nat.reduceLeDiff, Nat.reduceMul, Nat.reduceBEq, Nat.reduceSub, Int.reduceLE, Int.reduceToNat, Int.reduceLT, Int.reduceNeg, encSIDBalanceNonce, encSLIDAmountNonce, encSAccounts, encSKindIDAmount, callOk, vl, List.map_append, List.length_append, List.length_map, List.map_take, List.map_drop, List.length_drop, List.length_take, Nat.le_refl, true_and]) ?_
      simp only [v1, v2, v3, v4, v5, v6, v7, v8, v9, tf1, tu, litOk, appOk, appS, growD, Nat.reduceEqDiff, Nat.reduceLT, Nat.reduceAdd, Nat.reduceLeDiff, Nat.reduceMul, Nat.reduceBEq, Nat.reduceSub, Int.reduceLE, Int.reduceToNat, Int.reduceLT, Int.reduceNeg, encSIDBalanceNonce, encSLIDAmountNonce, encSAccounts, encSKindIDAmount, List.map_append, List.length_append, List.length_map, List.map_take, List.map_drop, List.length_drop, List.length_take, Nat.le_refl, true_and]
      refine d_call [] (ledger_Credit_ok y4 p0.ID p0.Amount y5 y6 hr5) bd11 (by simp only [v1, v2, v3, v4, v5, v6, v7, v8, v9, tf1, tu, litOk, appOk, appS, growD, Nat.reduceEqDiff, Nat.reduceLT, Nat.reduceAdd, Nat.reduceLeDiff, Nat.reduceMul, Nat.reduceBEq, Nat.reduceSub, Int.reduceLE, Int.reduceToNat, Int.reduceLT, Int.reduceNeg, encSIDBalanceNonce, encSLIDAmountNonce, encSAccounts, encSKindIDAmount, callOk, vl, List.map_append, List.length_append, List.length_map, List.map_take, List.map_drop, List.length_drop, List.length_take, Nat.le_refl, true_and]) ?_
      simp only [v1, v2, v3, v4, v5, v6, v7, v8, v9, tf1, tu, litOk, appOk, appS, growD, Nat.reduceEqDiff, Nat.reduceLT, Nat.reduceAdd, Nat.reduceLeDiff, Nat.reduceMul, Nat.reduceBEq, Nat.reduceSub, Int.reduceLE, Int.reduceToNat, Int.reduceLT, Int.reduceNeg, encSIDBalanceNonce, encSLIDAmountNonce, encSAccounts, encSKindIDAmount, List.map_append, List.length_append, List.length_map, List.map_take, List.map_drop, List.length_drop, List.length_take, Nat.le_refl, true_and]
      refine hK _ ?_
      clear hK K
      try simp only [s_thN, s_thE, s_thR, s_blN, s_blE, s_blM, s_blR, Nat.reduceEqDiff]
      refine sat_seq ?_
      obtain ⟨y7, y8, hr6, h⟩ := h
      refine sat_region fun K hK => ?_
      simp only [v1, v2, v3, v4, v5, v6, v7, v8, v9, tf1, tu, litOk, appOk, appS, growD, Nat.reduceEqDiff, Nat.reduceLT, Nat.reduceAdd, Nat.reduceLeDiff, Nat.reduceMul, Nat.reduceBEq, Nat.reduceSub, Int.reduceLE, Int.reduceToNat, Int.reduceLT, Int.reduceNeg, encSIDBalanceNonce, encSLIDAmountNonce, encSAccounts, encSKindIDAmount, List.map_append, List.length_append, List.length_map, List.map_take, List.map_drop, List.length_drop, List.length_take, Nat.le_refl, true_and]
      refine a_call [] (moidoreref44_Credit_ok p0.L p0.ID p0.Amount y7 y8 hr6) bd13 (by simp only [v1, v2, v3, v4, v5, v6, v7, v8, v9, tf1, tu, litOk, appOk, appS, growD, Nat.reduceEqDiff, Nat.reduceLT, Nat.reduceAdd, Nat.reduceLeDiff, Nat.reduceMul, Nat.reduceBEq, Nat.reduceSub, Int.reduceLE, Int.reduceToNat, Int.reduceLT, Int.reduceNeg, encSIDBalanceNonce, encSLIDAmountNonce, encSAccounts, encSKindIDAmount, callOk, vl, List.map_append, List.length_append, List.length_map, List.map_take, List.map_drop, List.length_drop, List.length_take, Nat.le_refl, true_and]) ?_
      simp only [v1, v2, v3, v4, v5, v6, v7, v8, v9, tf1, tu, litOk, appOk, appS, growD, Nat.reduceEqDiff, Nat.reduceLT, Nat.reduceAdd, Nat.reduceLeDiff, Nat.reduceMul, Nat.reduceBEq, Nat.reduceSub, Int.reduceLE, Int.reduceToNat, Int.reduceLT, Int.reduceNeg, encSIDBalanceNonce, encSLIDAmountNonce, encSAccounts, encSKindIDAmount, List.map_append, List.length_append, List.length_map, List.map_take, List.map_drop, List.length_drop, List.length_take, Nat.le_refl, true_and]
      refine hK _ ?_
      clear hK K
      try simp only [s_thN, s_thE, s_thR, s_blN, s_blE, s_blM, s_blR, Nat.reduceEqDiff]
      refine sat_seq ?_
      obtain ⟨y9, hr7, y10, y11, hr8, h⟩ := h
      refine sat_drawn 1 mix (by kernel_rfl) fun K hK => ?_
      simp only [v1, v2, v3, v4, v5, v6, v7, v8, v9, tf1, tu, litOk, appOk, appS, growD, Nat.reduceEqDiff, Nat.reduceLT, Nat.reduceAdd, Nat.reduceLeDiff, Nat.reduceMul, Nat.reduceBEq, Nat.reduceSub, Int.reduceLE, Int.reduceToNat, Int.reduceLT, Int.reduceNeg, encSIDBalanceNonce, encSLIDAmountNonce, encSAccounts, encSKindIDAmount, List.map_append, List.length_append, List.length_map, List.map_take, List.map_drop, List.length_drop, List.length_take, Nat.le_refl, true_and]
      refine d_call [] (moidorelaw44_own_ok p0.L y9 hr7) bd12 (by simp only [v1, v2, v3, v4, v5, v6, v7, v8, v9, tf1, tu, litOk, appOk, appS, growD, Nat.reduceEqDiff, Nat.reduceLT, Nat.reduceAdd, Nat.reduceLeDiff, Nat.reduceMul, Nat.reduceBEq, Nat.reduceSub, Int.reduceLE, Int.reduceToNat, Int.reduceLT, Int.reduceNeg, encSIDBalanceNonce, encSLIDAmountNonce, encSAccounts, encSKindIDAmount, callOk, vl, List.map_append, List.length_append, List.length_map, List.map_take, List.map_drop, List.length_drop, List.length_take, Nat.le_refl, true_and]) ?_
      simp only [v1, v2, v3, v4, v5, v6, v7, v8, v9, tf1, tu, litOk, appOk, appS, growD, Nat.reduceEqDiff, Nat.reduceLT, Nat.reduceAdd, Nat.reduceLeDiff, Nat.reduceMul, Nat.reduceBEq, Nat.reduceSub, Int.reduceLE, Int.reduceToNat, Int.reduceLT, Int.reduceNeg, encSIDBalanceNonce, encSLIDAmountNonce, encSAccounts, encSKindIDAmount, List.map_append, List.length_append, List.length_map, List.map_take, List.map_drop, List.length_drop, List.length_take, Nat.le_refl, true_and]
      refine d_call [] (ledger_Uncredit_ok y9 p0.ID p0.Amount y10 y11 hr8) bd14 (by simp only [v1, v2, v3, v4, v5, v6, v7, v8, v9, tf1, tu, litOk, appOk, appS, growD, Nat.reduceEqDiff, Nat.reduceLT, Nat.reduceAdd, Nat.reduceLeDiff, Nat.reduceMul, Nat.reduceBEq, Nat.reduceSub, Int.reduceLE, Int.reduceToNat, Int.reduceLT, Int.reduceNeg, encSIDBalanceNonce, encSLIDAmountNonce, encSAccounts, encSKindIDAmount, callOk, vl, List.map_append, List.length_append, List.length_map, List.map_take, List.map_drop, List.length_drop, List.length_take, Nat.le_refl, true_and]) ?_
      simp only [v1, v2, v3, v4, v5, v6, v7, v8, v9, tf1, tu, litOk, appOk, appS, growD, Nat.reduceEqDiff, Nat.reduceLT, Nat.reduceAdd, Nat.reduceLeDiff, Nat.reduceMul, Nat.reduceBEq, Nat.reduceSub, Int.reduceLE, Int.reduceToNat, Int.reduceLT, Int.reduceNeg, encSIDBalanceNonce, encSLIDAmountNonce, encSAccounts, encSKindIDAmount, List.map_append, List.length_append, List.length_map, List.map_take, List.map_drop, List.length_drop, List.length_take, Nat.le_refl, true_and]
      refine hK _ ?_
      clear hK K
      try simp only [s_thN, s_thE, s_thR, s_blN, s_blE, s_blM, s_blR, Nat.reduceEqDiff]
      refine sat_seq ?_
      obtain ⟨y12, y13, hr9, h⟩ := h
      refine sat_region fun K hK => ?_
      simp only [v1, v2, v3, v4, v5, v6, v7, v8, v9, tf1, tu, litOk, appOk, appS, growD, Nat.reduceEqDiff, Nat.reduceLT, Nat.reduceAdd, Nat.reduceLeDiff, Nat.reduceMul, Nat.reduceBEq, Nat.reduceSub, Int.reduceLE, Int.reduceToNat, Int.reduceLT, Int.reduceNeg, encSIDBalanceNonce, encSLIDAmountNonce, encSAccounts, encSKindIDAmount, List.map_append, List.length_append, List.length_map, List.map_take, List.map_drop, List.length_drop, List.length_take, Nat.le_refl, true_and]
      refine a_call [] (moidoreref44_Uncredit_ok p0.L p0.ID p0.Amount y12 y13 hr9) bd15 (by simp only [v1, v2, v3, v4, v5, v6, v7, v8, v9, tf1, tu, litOk, appOk, appS, growD, Nat.reduceEqDiff, Nat.reduceLT, Nat.reduceAdd, Nat.reduceLeDiff, Nat.reduceMul, Nat.reduceBEq, Nat.reduceSub, Int.reduceLE, Int.reduceToNat, Int.reduceLT, Int.reduceNeg, encSIDBalanceNonce, encSLIDAmountNonce, encSAccounts, encSKindIDAmount, callOk, vl, List.map_append, List.length_append, List.length_map, List.map_take, List.map_drop, List.length_drop, List.length_take, Nat.le_refl, true_and]) ?_
      simp only [v1, v2, v3, v4, v5, v6, v7, v8, v9, tf1, tu, litOk, appOk, appS, growD, Nat.reduceEqDiff, Nat.reduceLT, Nat.reduceAdd, Nat.reduceLeDiff, Nat.reduceMul, Nat.reduceBEq, Nat.reduceSub, Int.reduceLE, Int.reduceToNat, Int.reduceLT, Int.reduceNeg, encSIDBalanceNonce, encSLIDAmountNonce, encSAccounts, encSKindIDAmount, List.map_append, List.length_append, List.length_map, List.map_take, List.map_drop, List.length_drop, List.length_take, Nat.le_refl, true_and]
      refine hK _ ?_
      clear hK K
      try simp only [s_thN, s_thE, s_thR, s_blN, s_blE, s_blM, s_blR, Nat.reduceEqDiff]
      refine sat_join (ι := Bool) (fun x => ⟨[(2, .d (.bool x))], [], 31⟩) (fun x => moidorelaw44_LedgerCredit_J1 r0 x) ?_ ?_
      · obtain ⟨y14, hr10, y15, hr11, y16, hr12, y17, hr13, h⟩ := h
        refine sat_region fun K hK => ?_
        simp only [v1, v2, v3, v4, v5, v6, v7, v8, v9, tf1, tu, litOk, appOk, appS, growD, Nat.reduceEqDiff, Nat.reduceLT, Nat.reduceAdd, Nat.reduceLeDiff, Nat.reduceMul, Nat.reduceBEq, Nat.reduceSub, Int.reduceLE, Int.reduceToNat, Int.reduceLT, Int.reduceNeg, encSIDBalanceNonce, encSLIDAmountNonce, encSAccounts, encSKindIDAmount, List.map_append, List.length_append, List.length_map, List.map_take, List.map_drop, List.length_drop, List.length_take, Nat.le_refl, true_and]
        refine A_guard_split (by simp only [v1, v2, v3, v4, v5, v6, v7, v8, v9, tf1, tu, litOk, appOk, appS, growD, Nat.reduceEqDiff, Nat.reduceLT, Nat.reduceAdd, Nat.reduceLeDiff, Nat.reduceMul, Nat.reduceBEq, Nat.reduceSub, Int.reduceLE, Int.reduceToNat, Int.reduceLT, Int.reduceNeg, encSIDBalanceNonce, encSLIDAmountNonce, encSAccounts, encSKindIDAmount]; rfl) (fun hg1 => ?_) (fun hg1 => ?_)
        · simp only [v1, v2, v3, v4, v5, v6, v7, v8, v9, tf1, tu, litOk, appOk, appS, growD, Nat.reduceEqDiff, Nat.reduceLT, Nat.reduceAdd, Nat.reduceLeDiff, Nat.reduceMul, Nat.reduceBEq, Nat.reduceSub, Int.reduceLE, Int.reduceToNat, Int.reduceLT, Int.reduceNeg, encSIDBalanceNonce, encSLIDAmountNonce, encSAccounts, encSKindIDAmount, hg1, List.map_append, List.length_append, List.length_map, List.map_take, List.map_drop, List.length_drop, List.length_take, Nat.le_refl, true_and]
          replace hr10 := hr10 (by simp only [v1, v2, v3, v4, v5, v6, v7, v8, v9, tf1, tu, litOk, appOk, appS, growD, Nat.reduceEqDiff, Nat.reduceLT, Nat.reduceAdd, Nat.reduceLeDiff, Nat.reduceMul, Nat.reduceBEq, Nat.reduceSub, Int.reduceLE, Int.reduceToNat, Int.reduceLT, Int.reduceNeg, encSIDBalanceNonce, encSLIDAmountNonce, encSAccounts, encSKindIDAmount, hg1])
          refine a_call [] (moidorelaw44_back_ok y5 y14 hr10) bd17 (by simp only [v1, v2, v3, v4, v5, v6, v7, v8, v9, tf1, tu, litOk, appOk, appS, growD, Nat.reduceEqDiff, Nat.reduceLT, Nat.reduceAdd, Nat.reduceLeDiff, Nat.reduceMul, Nat.reduceBEq, Nat.reduceSub, Int.reduceLE, Int.reduceToNat, Int.reduceLT, Int.reduceNeg, encSIDBalanceNonce, encSLIDAmountNonce, encSAccounts, encSKindIDAmount, callOk, vl, hg1, List.map_append, List.length_append, List.length_map, List.map_take, List.map_drop, List.length_drop, List.length_take, Nat.le_refl, true_and]) ?_
          simp only [v1, v2, v3, v4, v5, v6, v7, v8, v9, tf1, tu, litOk, appOk, appS, growD, Nat.reduceEqDiff, Nat.reduceLT, Nat.reduceAdd, Nat.reduceLeDiff, Nat.reduceMul, Nat.reduceBEq, Nat.reduceSub, Int.reduceLE, Int.reduceToNat, Int.reduceLT, Int.reduceNeg, encSIDBalanceNonce, encSLIDAmountNonce, encSAccounts, encSKindIDAmount, hg1, List.map_append, List.length_append, List.length_map, List.map_take, List.map_drop, List.length_drop, List.length_take, Nat.le_refl, true_and]
          replace hr11 := hr11 (by simp only [v1, v2, v3, v4, v5, v6, v7, v8, v9, tf1, tu, litOk, appOk, appS, growD, Nat.reduceEqDiff, Nat.reduceLT, Nat.reduceAdd, Nat.reduceLeDiff, Nat.reduceMul, Nat.reduceBEq, Nat.reduceSub, Int.reduceLE, Int.reduceToNat, Int.reduceLT, Int.reduceNeg, encSIDBalanceNonce, encSLIDAmountNonce, encSAccounts, encSKindIDAmount, hg1])
          refine a_call [] (moidoreref44_Same_ok y14 y7 y15 hr11) bd16 (by simp only [v1, v2, v3, v4, v5, v6, v7, v8, v9, tf1, tu, litOk, appOk, appS, growD, Nat.reduceEqDiff, Nat.reduceLT, Nat.reduceAdd, Nat.reduceLeDiff, Nat.reduceMul, Nat.reduceBEq, Nat.reduceSub, Int.reduceLE, Int.reduceToNat, Int.reduceLT, Int.reduceNeg, encSIDBalanceNonce, encSLIDAmountNonce, encSAccounts, encSKindIDAmount, callOk, vl, hg1, List.map_append, List.length_append, List.length_map, List.map_take, List.map_drop, List.length_drop, List.length_take, Nat.le_refl, true_and]) ?_
          simp only [v1, v2, v3, v4, v5, v6, v7, v8, v9, tf1, tu, litOk, appOk, appS, growD, Nat.reduceEqDiff, Nat.reduceLT, Nat.reduceAdd, Nat.reduceLeDiff, Nat.reduceMul, Nat.reduceBEq, Nat.reduceSub, Int.reduceLE, Int.reduceToNat, Int.reduceLT, Int.reduceNeg, encSIDBalanceNonce, encSLIDAmountNonce, encSAccounts, encSKindIDAmount, hg1, List.map_append, List.length_append, List.length_map, List.map_take, List.map_drop, List.length_drop, List.length_take, Nat.le_refl, true_and]
          refine A_guard_split (by simp only [v1, v2, v3, v4, v5, v6, v7, v8, v9, tf1, tu, litOk, appOk, appS, growD, Nat.reduceEqDiff, Nat.reduceLT, Nat.reduceAdd, Nat.reduceLeDiff, Nat.reduceMul, Nat.reduceBEq, Nat.reduceSub, Int.reduceLE, Int.reduceToNat, Int.reduceLT, Int.reduceNeg, encSIDBalanceNonce, encSLIDAmountNonce, encSAccounts, encSKindIDAmount, hg1]; rfl) (fun hg2 => ?_) (fun hg2 => ?_)
          · simp only [v1, v2, v3, v4, v5, v6, v7, v8, v9, tf1, tu, litOk, appOk, appS, growD, Nat.reduceEqDiff, Nat.reduceLT, Nat.reduceAdd, Nat.reduceLeDiff, Nat.reduceMul, Nat.reduceBEq, Nat.reduceSub, Int.reduceLE, Int.reduceToNat, Int.reduceLT, Int.reduceNeg, encSIDBalanceNonce, encSLIDAmountNonce, encSAccounts, encSKindIDAmount, hg1, hg2, List.map_append, List.length_append, List.length_map, List.map_take, List.map_drop, List.length_drop, List.length_take, Nat.le_refl, true_and]
            refine A_guard_split (by simp only [v1, v2, v3, v4, v5, v6, v7, v8, v9, tf1, tu, litOk, appOk, appS, growD, Nat.reduceEqDiff, Nat.reduceLT, Nat.reduceAdd, Nat.reduceLeDiff, Nat.reduceMul, Nat.reduceBEq, Nat.reduceSub, Int.reduceLE, Int.reduceToNat, Int.reduceLT, Int.reduceNeg, encSIDBalanceNonce, encSLIDAmountNonce, encSAccounts, encSKindIDAmount, hg1, hg2]; rfl) (fun hg3 => ?_) (fun hg3 => ?_)
            · simp only [v1, v2, v3, v4, v5, v6, v7, v8, v9, tf1, tu, litOk, appOk, appS, growD, Nat.reduceEqDiff, Nat.reduceLT, Nat.reduceAdd, Nat.reduceLeDiff, Nat.reduceMul, Nat.reduceBEq, Nat.reduceSub, Int.reduceLE, Int.reduceToNat, Int.reduceLT, Int.reduceNeg, encSIDBalanceNonce, encSLIDAmountNonce, encSAccounts, encSKindIDAmount, hg1, hg2, hg3, List.map_append, List.length_append, List.length_map, List.map_take, List.map_drop, List.length_drop, List.length_take, Nat.le_refl, true_and]
              replace hr12 := hr12 (by simp only [v1, v2, v3, v4, v5, v6, v7, v8, v9, tf1, tu, litOk, appOk, appS, growD, Nat.reduceEqDiff, Nat.reduceLT, Nat.reduceAdd, Nat.reduceLeDiff, Nat.reduceMul, Nat.reduceBEq, Nat.reduceSub, Int.reduceLE, Int.reduceToNat, Int.reduceLT, Int.reduceNeg, encSIDBalanceNonce, encSLIDAmountNonce, encSAccounts, encSKindIDAmount, hg1, hg2, hg3])
              refine a_call [] (moidorelaw44_back_ok y10 y16 hr12) bd17 (by simp only [v1, v2, v3, v4, v5, v6, v7, v8, v9, tf1, tu, litOk, appOk, appS, growD, Nat.reduceEqDiff, Nat.reduceLT, Nat.reduceAdd, Nat.reduceLeDiff, Nat.reduceMul, Nat.reduceBEq, Nat.reduceSub, Int.reduceLE, Int.reduceToNat, Int.reduceLT, Int.reduceNeg, encSIDBalanceNonce, encSLIDAmountNonce, encSAccounts, encSKindIDAmount, callOk, vl, hg1, hg2, hg3, List.map_append, List.length_append, List.length_map, List.map_take, List.map_drop, List.length_drop, List.length_take, Nat.le_refl, true_and]) ?_
              simp only [v1, v2, v3, v4, v5, v6, v7, v8, v9, tf1, tu, litOk, appOk, appS, growD, Nat.reduceEqDiff, Nat.reduceLT, Nat.reduceAdd, Nat.reduceLeDiff, Nat.reduceMul, Nat.reduceBEq, Nat.reduceSub, Int.reduceLE, Int.reduceToNat, Int.reduceLT, Int.reduceNeg, encSIDBalanceNonce, encSLIDAmountNonce, encSAccounts, encSKindIDAmount, hg1, hg2, hg3, List.map_append, List.length_append, List.length_map, List.map_take, List.map_drop, List.length_drop, List.length_take, Nat.le_refl, true_and]
              replace hr13 := hr13 (by simp only [v1, v2, v3, v4, v5, v6, v7, v8, v9, tf1, tu, litOk, appOk, appS, growD, Nat.reduceEqDiff, Nat.reduceLT, Nat.reduceAdd, Nat.reduceLeDiff, Nat.reduceMul, Nat.reduceBEq, Nat.reduceSub, Int.reduceLE, Int.reduceToNat, Int.reduceLT, Int.reduceNeg, encSIDBalanceNonce, encSLIDAmountNonce, encSAccounts, encSKindIDAmount, hg1, hg2, hg3])
              refine a_call [] (moidoreref44_Same_ok y16 y12 y17 hr13) bd16 (by simp only [v1, v2, v3, v4, v5, v6, v7, v8, v9, tf1, tu, litOk, appOk, appS, growD, Nat.reduceEqDiff, Nat.reduceLT, Nat.reduceAdd, Nat.reduceLeDiff, Nat.reduceMul, Nat.reduceBEq, Nat.reduceSub, Int.reduceLE, Int.reduceToNat, Int.reduceLT, Int.reduceNeg, encSIDBalanceNonce, encSLIDAmountNonce, encSAccounts, encSKindIDAmount, callOk, vl, hg1, hg2, hg3, List.map_append, List.length_append, List.length_map, List.map_take, List.map_drop, List.length_drop, List.length_take, Nat.le_refl, true_and]) ?_
              simp only [v1, v2, v3, v4, v5, v6, v7, v8, v9, tf1, tu, litOk, appOk, appS, growD, Nat.reduceEqDiff, Nat.reduceLT, Nat.reduceAdd, Nat.reduceLeDiff, Nat.reduceMul, Nat.reduceBEq, Nat.reduceSub, Int.reduceLE, Int.reduceToNat, Int.reduceLT, Int.reduceNeg, encSIDBalanceNonce, encSLIDAmountNonce, encSAccounts, encSKindIDAmount, hg1, hg2, hg3, List.map_append, List.length_append, List.length_map, List.map_take, List.map_drop, List.length_drop, List.length_take, Nat.le_refl, true_and]
              refine hK _ ?_
              clear hK K
              try simp only [s_thN, s_thE, s_thR, s_blN, s_blE, s_blM, s_blR, Nat.reduceEqDiff]
              exact ⟨(((y6 == y8) && y15) && (y11 == y13)) && y17, h, by simp only [v1, v2, v3, v4, v5, v6, v7, v8, v9, tf1, tu, litOk, appOk, appS, growD, Nat.reduceEqDiff, Nat.reduceLT, Nat.reduceAdd, Nat.reduceLeDiff, Nat.reduceMul, Nat.reduceBEq, Nat.reduceSub, Int.reduceLE, Int.reduceToNat, Int.reduceLT, Int.reduceNeg, encSIDBalanceNonce, encSLIDAmountNonce, encSAccounts, encSKindIDAmount, vl, hg1, hg2, hg3, List.map_append, List.length_append, List.length_map, List.map_take, List.map_drop, List.length_drop, List.length_take, Nat.le_refl, true_and]⟩
            · simp only [v1, v2, v3, v4, v5, v6, v7, v8, v9, tf1, tu, litOk, appOk, appS, growD, Nat.reduceEqDiff, Nat.reduceLT, Nat.reduceAdd, Nat.reduceLeDiff, Nat.reduceMul, Nat.reduceBEq, Nat.reduceSub, Int.reduceLE, Int.reduceToNat, Int.reduceLT, Int.reduceNeg, encSIDBalanceNonce, encSLIDAmountNonce, encSAccounts, encSKindIDAmount, hg1, hg2, hg3, List.map_append, List.length_append, List.length_map, List.map_take, List.map_drop, List.length_drop, List.length_take, Nat.le_refl, true_and]
              refine hK _ ?_
              clear hK K
              try simp only [s_thN, s_thE, s_thR, s_blN, s_blE, s_blM, s_blR, Nat.reduceEqDiff]
              exact ⟨(((y6 == y8) && y15) && (y11 == y13)) && y17, h, by simp only [v1, v2, v3, v4, v5, v6, v7, v8, v9, tf1, tu, litOk, appOk, appS, growD, Nat.reduceEqDiff, Nat.reduceLT, Nat.reduceAdd, Nat.reduceLeDiff, Nat.reduceMul, Nat.reduceBEq, Nat.reduceSub, Int.reduceLE, Int.reduceToNat, Int.reduceLT, Int.reduceNeg, encSIDBalanceNonce, encSLIDAmountNonce, encSAccounts, encSKindIDAmount, vl, hg1, hg2, hg3, List.map_append, List.length_append, List.length_map, List.map_take, List.map_drop, List.length_drop, List.length_take, Nat.le_refl, true_and]⟩
          · simp only [v1, v2, v3, v4, v5, v6, v7, v8, v9, tf1, tu, litOk, appOk, appS, growD, Nat.reduceEqDiff, Nat.reduceLT, Nat.reduceAdd, Nat.reduceLeDiff, Nat.reduceMul, Nat.reduceBEq, Nat.reduceSub, Int.reduceLE, Int.reduceToNat, Int.reduceLT, Int.reduceNeg, encSIDBalanceNonce, encSLIDAmountNonce, encSAccounts, encSKindIDAmount, hg1, hg2, List.map_append, List.length_append, List.length_map, List.map_take, List.map_drop, List.length_drop, List.length_take, Nat.le_refl, true_and]
            refine hK _ ?_
            clear hK K
            try simp only [s_thN, s_thE, s_thR, s_blN, s_blE, s_blM, s_blR, Nat.reduceEqDiff]
            exact ⟨(((y6 == y8) && y15) && (y11 == y13)) && y17, h, by simp only [v1, v2, v3, v4, v5, v6, v7, v8, v9, tf1, tu, litOk, appOk, appS, growD, Nat.reduceEqDiff, Nat.reduceLT, Nat.reduceAdd, Nat.reduceLeDiff, Nat.reduceMul, Nat.reduceBEq, Nat.reduceSub, Int.reduceLE, Int.reduceToNat, Int.reduceLT, Int.reduceNeg, encSIDBalanceNonce, encSLIDAmountNonce, encSAccounts, encSKindIDAmount, vl, hg1, hg2, List.map_append, List.length_append, List.length_map, List.map_take, List.map_drop, List.length_drop, List.length_take, Nat.le_refl, true_and]⟩
        · simp only [v1, v2, v3, v4, v5, v6, v7, v8, v9, tf1, tu, litOk, appOk, appS, growD, Nat.reduceEqDiff, Nat.reduceLT, Nat.reduceAdd, Nat.reduceLeDiff, Nat.reduceMul, Nat.reduceBEq, Nat.reduceSub, Int.reduceLE, Int.reduceToNat, Int.reduceLT, Int.reduceNeg, encSIDBalanceNonce, encSLIDAmountNonce, encSAccounts, encSKindIDAmount, hg1, List.map_append, List.length_append, List.length_map, List.map_take, List.map_drop, List.length_drop, List.length_take, Nat.le_refl, true_and]
          refine hK _ ?_
          clear hK K
          try simp only [s_thN, s_thE, s_thR, s_blN, s_blE, s_blM, s_blR, Nat.reduceEqDiff]
          exact ⟨(((y6 == y8) && y15) && (y11 == y13)) && y17, h, by simp only [v1, v2, v3, v4, v5, v6, v7, v8, v9, tf1, tu, litOk, appOk, appS, growD, Nat.reduceEqDiff, Nat.reduceLT, Nat.reduceAdd, Nat.reduceLeDiff, Nat.reduceMul, Nat.reduceBEq, Nat.reduceSub, Int.reduceLE, Int.reduceToNat, Int.reduceLT, Int.reduceNeg, encSIDBalanceNonce, encSLIDAmountNonce, encSAccounts, encSKindIDAmount, vl, hg1, List.map_append, List.length_append, List.length_map, List.map_take, List.map_drop, List.length_drop, List.length_take, Nat.le_refl, true_and]⟩
      · intro b2 h
        have h : moidorelaw44_LedgerCredit_J1 r0 b2 := h
        show Sat _ _ _ _ _ _ ⟨[(2, .d (.bool b2))], [], 31⟩ _
        unfold moidorelaw44_LedgerCredit_J1 at h
        subst h
        refine sat_ret (retN [] ?_)
        simp only [v1, v2, v3, v4, v5, v6, v7, v8, v9, tf1, tu, litOk, appOk, appS, growD, Nat.reduceEqDiff, Nat.reduceLT, Nat.reduceAdd, Nat.reduceLeDiff, Nat.reduceMul, Nat.reduceBEq, Nat.reduceSub, Int.reduceLE, Int.reduceToNat, Int.reduceLT, Int.reduceNeg, encSIDBalanceNonce, encSLIDAmountNonce, encSAccounts, encSKindIDAmount, vl, Try.results3, e_sp0, e_sp1, List.map_append, List.length_append, List.length_map, List.map_take, List.map_drop, List.length_drop, List.length_take, Nat.le_refl, true_and]
theorem moidoreref44_Debit_ok (p0 : List SIDBalanceNonce) (p1 : Int) (p2 : Int) (p3 : Int) (r0 : List SIDBalanceNonce) (r1 : Int) (h : moidoreref44_Debit_Ret p0 p1 p2 p3 r0 r1) : SoundH Try.prog 19 [.d (.slice 3 (List.map encSIDBalanceNonce p0)), .d (.int .u64 p1), .d (.int .u64 p2), .d (.int .u64 p3)] [] (.tup [.own 0 3 (List.map encSIDBalanceNonce r0), .d (.int .i64 r1)]) [.tip (List.length r0)] := by
  refine sound_of Try.func19 rfl Try.ntmps19 (by simp) fun G0 w0 => ?_
  unfold moidoreref44_Debit_Ret at h
  refine sat_seq ?_
  refine sat_region fun K hK => ?_
  simp only [v1, v2, v3, v4, v5, v6, v7, v8, v9, tf1, tu, litOk, appOk, appS, growD, Nat.reduceEqDiff, Nat.reduceLT, Nat.reduceAdd, Nat.reduceLeDiff, Nat.reduceMul, Nat.reduceBEq, Nat.reduceSub, Int.reduceLE, Int.reduceToNat, Int.reduceLT, Int.reduceNeg, encSIDBalanceNonce, encSLIDAmountNonce, encSAccounts, encSKindIDAmount, List.map_append, List.length_append, List.length_map, List.map_take, List.map_drop, List.length_drop, List.length_take, Nat.le_refl, true_and]
  refine hK _ ?_
  clear hK K
  try simp only [s_thN, s_thE, s_thR, s_blN, s_blE, s_blM, s_blR, Nat.reduceEqDiff]
  refine sat_seq ?_
  obtain ⟨y1, hr1, h⟩ := h
  refine sat_region fun K hK => ?_
  simp only [v1, v2, v3, v4, v5, v6, v7, v8, v9, tf1, tu, litOk, appOk, appS, growD, Nat.reduceEqDiff, Nat.reduceLT, Nat.reduceAdd, Nat.reduceLeDiff, Nat.reduceMul, Nat.reduceBEq, Nat.reduceSub, Int.reduceLE, Int.reduceToNat, Int.reduceLT, Int.reduceNeg, encSIDBalanceNonce, encSLIDAmountNonce, encSAccounts, encSKindIDAmount, List.map_append, List.length_append, List.length_map, List.map_take, List.map_drop, List.length_drop, List.length_take, Nat.le_refl, true_and]
  refine a_call [] (moidoreref44_Get_ok p0 p1 y1 hr1) bd24 (by simp only [v1, v2, v3, v4, v5, v6, v7, v8, v9, tf1, tu, litOk, appOk, appS, growD, Nat.reduceEqDiff, Nat.reduceLT, Nat.reduceAdd, Nat.reduceLeDiff, Nat.reduceMul, Nat.reduceBEq, Nat.reduceSub, Int.reduceLE, Int.reduceToNat, Int.reduceLT, Int.reduceNeg, encSIDBalanceNonce, encSLIDAmountNonce, encSAccounts, encSKindIDAmount, callOk, vl, List.map_append, List.length_append, List.length_map, List.map_take, List.map_drop, List.length_drop, List.length_take, Nat.le_refl, true_and]) ?_
  simp only [v1, v2, v3, v4, v5, v6, v7, v8, v9, tf1, tu, litOk, appOk, appS, growD, Nat.reduceEqDiff, Nat.reduceLT, Nat.reduceAdd, Nat.reduceLeDiff, Nat.reduceMul, Nat.reduceBEq, Nat.reduceSub, Int.reduceLE, Int.reduceToNat, Int.reduceLT, Int.reduceNeg, encSIDBalanceNonce, encSLIDAmountNonce, encSAccounts, encSKindIDAmount, List.map_append, List.length_append, List.length_map, List.map_take, List.map_drop, List.length_drop, List.length_take, Nat.le_refl, true_and]
  refine hK _ ?_
  clear hK K
  try simp only [s_thN, s_thE, s_thR, s_blN, s_blE, s_blM, s_blR, Nat.reduceEqDiff]
  refine sat_seq ?_
  refine sat_block ?_
  refine sat_seq ?_
  refine sat_region fun K hK => ?_
  simp only [v1, v2, v3, v4, v5, v6, v7, v8, v9, tf1, tu, litOk, appOk, appS, growD, Nat.reduceEqDiff, Nat.reduceLT, Nat.reduceAdd, Nat.reduceLeDiff, Nat.reduceMul, Nat.reduceBEq, Nat.reduceSub, Int.reduceLE, Int.reduceToNat, Int.reduceLT, Int.reduceNeg, encSIDBalanceNonce, encSLIDAmountNonce, encSAccounts, encSKindIDAmount, List.map_append, List.length_append, List.length_map, List.map_take, List.map_drop, List.length_drop, List.length_take, Nat.le_refl, true_and]
  refine hK _ ?_
  clear hK K
  try simp only [s_thN, s_thE, s_thR, s_blN, s_blE, s_blM, s_blR, Nat.reduceEqDiff]
  refine sat_cond rfl (fun hb1 => ?_) (fun hb1 => ?_)
  · replace h := h.1 hb1
    refine sat_seq ?_
    refine sat_region fun K hK => ?_
    simp only [v1, v2, v3, v4, v5, v6, v7, v8, v9, tf1, tu, litOk, appOk, appS, growD, Nat.reduceEqDiff, Nat.reduceLT, Nat.reduceAdd, Nat.reduceLeDiff, Nat.reduceMul, Nat.reduceBEq, Nat.reduceSub, Int.reduceLE, Int.reduceToNat, Int.reduceLT, Int.reduceNeg, encSIDBalanceNonce, encSLIDAmountNonce, encSAccounts, encSKindIDAmount, List.map_append, List.length_append, List.length_map, List.map_take, List.map_drop, List.length_drop, List.length_take, Nat.le_refl, true_and]
    refine hK _ ?_
    clear hK K
    try simp only [s_thN, s_thE, s_thR, s_blN, s_blE, s_blM, s_blR, Nat.reduceEqDiff]
    refine sat_tok 8 (sz := 3) (l := List.map encSIDBalanceNonce ([] : List SIDBalanceNonce)) (by simp only [v1, v2, v3, v4, v5, v6, v7, v8, v9, tf1, tu, litOk, appOk, appS, growD, Nat.reduceEqDiff, Nat.reduceLT, Nat.reduceAdd, Nat.reduceLeDiff, Nat.reduceMul, Nat.reduceBEq, Nat.reduceSub, Int.reduceLE, Int.reduceToNat, Int.reduceLT, Int.reduceNeg, encSIDBalanceNonce, encSLIDAmountNonce, encSAccounts, encSKindIDAmount, e_gfF, e_gfN]) ?_
    simp only [v1, v2, v3, v4, v5, v6, v7, v8, v9, tf1, tu, litOk, appOk, appS, growD, Nat.reduceEqDiff, Nat.reduceLT, Nat.reduceAdd, Nat.reduceLeDiff, Nat.reduceMul, Nat.reduceBEq, Nat.reduceSub, Int.reduceLE, Int.reduceToNat, Int.reduceLT, Int.reduceNeg, encSIDBalanceNonce, encSLIDAmountNonce, encSAccounts, encSKindIDAmount, List.map_append, List.length_append, List.length_map, List.map_take, List.map_drop, List.length_drop, List.length_take, Nat.le_refl, true_and]
    obtain ⟨rfl, rfl⟩ := h
    refine sat_ret (retN [1] ?_)
    simp only [v1, v2, v3, v4, v5, v6, v7, v8, v9, tf1, tu, litOk, appOk, appS, growD, Nat.reduceEqDiff, Nat.reduceLT, Nat.reduceAdd, Nat.reduceLeDiff, Nat.reduceMul, Nat.reduceBEq, Nat.reduceSub, Int.reduceLE, Int.reduceToNat, Int.reduceLT, Int.reduceNeg, encSIDBalanceNonce, encSLIDAmountNonce, encSAccounts, encSKindIDAmount, vl, Try.results19, e_sp0, e_sp1, List.map_append, List.length_append, List.length_map, List.map_take, List.map_drop, List.length_drop, List.length_take, Nat.le_refl, true_and]
  · replace h := h.2 hb1
    refine sat_join (ι := Bool) (fun x => ⟨[(0, .d (.slice 3 (List.map encSIDBalanceNonce p0))), (2, .d (.int .u64 p2)), (10, .ptr 0 0), (17, .d (.bool x))], [(0, .cells [.d (.int .u64 y1.ID), .d (.int .u64 y1.Balance), .d (.int .u64 y1.Nonce)])], 1⟩) (fun x => moidoreref44_Debit_J1 p0 p2 r0 r1 y1 x) ?_ ?_
    · refine sat_region fun K hK => ?_
      simp only [v1, v2, v3, v4, v5, v6, v7, v8, v9, tf1, tu, litOk, appOk, appS, growD, Nat.reduceEqDiff, Nat.reduceLT, Nat.reduceAdd, Nat.reduceLeDiff, Nat.reduceMul, Nat.reduceBEq, Nat.reduceSub, Int.reduceLE, Int.reduceToNat, Int.reduceLT, Int.reduceNeg, encSIDBalanceNonce, encSLIDAmountNonce, encSAccounts, encSKindIDAmount, List.map_append, List.length_append, List.length_map, List.map_take, List.map_drop, List.length_drop, List.length_take, Nat.le_refl, true_and]
      refine A_guard_split (by simp only [v1, v2, v3, v4, v5, v6, v7, v8, v9, tf1, tu, litOk, appOk, appS, growD, Nat.reduceEqDiff, Nat.reduceLT, Nat.reduceAdd, Nat.reduceLeDiff, Nat.reduceMul, Nat.reduceBEq, Nat.reduceSub, Int.reduceLE, Int.reduceToNat, Int.reduceLT, Int.reduceNeg, encSIDBalanceNonce, encSLIDAmountNonce, encSAccounts, encSKindIDAmount]; rfl) (fun hg1 => ?_) (fun hg1 => ?_)
      · simp only [v1, v2, v3, v4, v5, v6, v7, v8, v9, tf1, tu, litOk, appOk, appS, growD, Nat.reduceEqDiff, Nat.reduceLT, Nat.reduceAdd, Nat.reduceLeDiff, Nat.reduceMul, Nat.reduceBEq, Nat.reduceSub, Int.reduceLE, Int.reduceToNat, Int.reduceLT, Int.reduceNeg, encSIDBalanceNonce, encSLIDAmountNonce, encSAccounts, encSKindIDAmount, hg1, List.map_append, List.length_append, List.length_map, List.map_take, List.map_drop, List.length_drop, List.length_take, Nat.le_refl, true_and]
        refine hK _ ?_
        clear hK K
        try simp only [s_thN, s_thE, s_thR, s_blN, s_blE, s_blM, s_blR, Nat.reduceEqDiff]
        exact ⟨(p3 != y1.Nonce) || (p3 == 18446744073709551615), h, by simp only [v1, v2, v3, v4, v5, v6, v7, v8, v9, tf1, tu, litOk, appOk, appS, growD, Nat.reduceEqDiff, Nat.reduceLT, Nat.reduceAdd, Nat.reduceLeDiff, Nat.reduceMul, Nat.reduceBEq, Nat.reduceSub, Int.reduceLE, Int.reduceToNat, Int.reduceLT, Int.reduceNeg, encSIDBalanceNonce, encSLIDAmountNonce, encSAccounts, encSKindIDAmount, vl, hg1, List.map_append, List.length_append, List.length_map, List.map_take, List.map_drop, List.length_drop, List.length_take, Nat.le_refl, true_and]⟩
      · simp only [v1, v2, v3, v4, v5, v6, v7, v8, v9, tf1, tu, litOk, appOk, appS, growD, Nat.reduceEqDiff, Nat.reduceLT, Nat.reduceAdd, Nat.reduceLeDiff, Nat.reduceMul, Nat.reduceBEq, Nat.reduceSub, Int.reduceLE, Int.reduceToNat, Int.reduceLT, Int.reduceNeg, encSIDBalanceNonce, encSLIDAmountNonce, encSAccounts, encSKindIDAmount, hg1, List.map_append, List.length_append, List.length_map, List.map_take, List.map_drop, List.length_drop, List.length_take, Nat.le_refl, true_and]
        refine hK _ ?_
        clear hK K
        try simp only [s_thN, s_thE, s_thR, s_blN, s_blE, s_blM, s_blR, Nat.reduceEqDiff]
        exact ⟨(p3 != y1.Nonce) || (p3 == 18446744073709551615), h, by simp only [v1, v2, v3, v4, v5, v6, v7, v8, v9, tf1, tu, litOk, appOk, appS, growD, Nat.reduceEqDiff, Nat.reduceLT, Nat.reduceAdd, Nat.reduceLeDiff, Nat.reduceMul, Nat.reduceBEq, Nat.reduceSub, Int.reduceLE, Int.reduceToNat, Int.reduceLT, Int.reduceNeg, encSIDBalanceNonce, encSLIDAmountNonce, encSAccounts, encSKindIDAmount, vl, hg1, List.map_append, List.length_append, List.length_map, List.map_take, List.map_drop, List.length_drop, List.length_take, Nat.le_refl, true_and]⟩
    · intro b1 h
      have h : moidoreref44_Debit_J1 p0 p2 r0 r1 y1 b1 := h
      show Sat _ _ _ _ _ _ ⟨[(0, .d (.slice 3 (List.map encSIDBalanceNonce p0))), (2, .d (.int .u64 p2)), (10, .ptr 0 0), (17, .d (.bool b1))], [(0, .cells [.d (.int .u64 y1.ID), .d (.int .u64 y1.Balance), .d (.int .u64 y1.Nonce)])], 1⟩ _
      unfold moidoreref44_Debit_J1 at h
      refine sat_cond rfl (fun hb2 => ?_) (fun hb2 => ?_)
      · replace h := h.1 hb2
        refine sat_seq ?_
        refine sat_region fun K hK => ?_
        simp only [v1, v2, v3, v4, v5, v6, v7, v8, v9, tf1, tu, litOk, appOk, appS, growD, Nat.reduceEqDiff, Nat.reduceLT, Nat.reduceAdd, Nat.reduceLeDiff, Nat.reduceMul, Nat.reduceBEq, Nat.reduceSub, Int.reduceLE, Int.reduceToNat, Int.reduceLT, Int.reduceNeg, encSIDBalanceNonce, encSLIDAmountNonce, encSAccounts, encSKindIDAmount, List.map_append, List.length_append, List.length_map, List.map_take, List.map_drop, List.length_drop, List.length_take, Nat.le_refl, true_and]
        refine hK _ ?_
        clear hK K
        try simp only [s_thN, s_thE, s_thR, s_blN, s_blE, s_blM, s_blR, Nat.reduceEqDiff]
        refine sat_tok 8 (sz := 3) (l := List.map encSIDBalanceNonce ([] : List SIDBalanceNonce)) (by simp only [v1, v2, v3, v4, v5, v6, v7, v8, v9, tf1, tu, litOk, appOk, appS, growD, Nat.reduceEqDiff, Nat.reduceLT, Nat.reduceAdd, Nat.reduceLeDiff, Nat.reduceMul, Nat.reduceBEq, Nat.reduceSub, Int.reduceLE, Int.reduceToNat, Int.reduceLT, Int.reduceNeg, encSIDBalanceNonce, encSLIDAmountNonce, encSAccounts, encSKindIDAmount, e_gfF, e_gfN]) ?_
        simp only [v1, v2, v3, v4, v5, v6, v7, v8, v9, tf1, tu, litOk, appOk, appS, growD, Nat.reduceEqDiff, Nat.reduceLT, Nat.reduceAdd, Nat.reduceLeDiff, Nat.reduceMul, Nat.reduceBEq, Nat.reduceSub, Int.reduceLE, Int.reduceToNat, Int.reduceLT, Int.reduceNeg, encSIDBalanceNonce, encSLIDAmountNonce, encSAccounts, encSKindIDAmount, List.map_append, List.length_append, List.length_map, List.map_take, List.map_drop, List.length_drop, List.length_take, Nat.le_refl, true_and]
        obtain ⟨rfl, rfl⟩ := h
        refine sat_ret (retN [1] ?_)
        simp only [v1, v2, v3, v4, v5, v6, v7, v8, v9, tf1, tu, litOk, appOk, appS, growD, Nat.reduceEqDiff, Nat.reduceLT, Nat.reduceAdd, Nat.reduceLeDiff, Nat.reduceMul, Nat.reduceBEq, Nat.reduceSub, Int.reduceLE, Int.reduceToNat, Int.reduceLT, Int.reduceNeg, encSIDBalanceNonce, encSLIDAmountNonce, encSAccounts, encSKindIDAmount, vl, Try.results19, e_sp0, e_sp1, List.map_append, List.length_append, List.length_map, List.map_take, List.map_drop, List.length_drop, List.length_take, Nat.le_refl, true_and]
      · replace h := h.2 hb2
        refine sat_seq ?_
        refine sat_region fun K hK => ?_
        simp only [v1, v2, v3, v4, v5, v6, v7, v8, v9, tf1, tu, litOk, appOk, appS, growD, Nat.reduceEqDiff, Nat.reduceLT, Nat.reduceAdd, Nat.reduceLeDiff, Nat.reduceMul, Nat.reduceBEq, Nat.reduceSub, Int.reduceLE, Int.reduceToNat, Int.reduceLT, Int.reduceNeg, encSIDBalanceNonce, encSLIDAmountNonce, encSAccounts, encSKindIDAmount, List.map_append, List.length_append, List.length_map, List.map_take, List.map_drop, List.length_drop, List.length_take, Nat.le_refl, true_and]
        refine hK _ ?_
        clear hK K
        try simp only [s_thN, s_thE, s_thR, s_blN, s_blE, s_blM, s_blR, Nat.reduceEqDiff]
        refine sat_cond rfl (fun hb3 => ?_) (fun hb3 => ?_)
        · replace h := h.1 hb3
          refine sat_seq ?_
          refine sat_region fun K hK => ?_
          simp only [v1, v2, v3, v4, v5, v6, v7, v8, v9, tf1, tu, litOk, appOk, appS, growD, Nat.reduceEqDiff, Nat.reduceLT, Nat.reduceAdd, Nat.reduceLeDiff, Nat.reduceMul, Nat.reduceBEq, Nat.reduceSub, Int.reduceLE, Int.reduceToNat, Int.reduceLT, Int.reduceNeg, encSIDBalanceNonce, encSLIDAmountNonce, encSAccounts, encSKindIDAmount, List.map_append, List.length_append, List.length_map, List.map_take, List.map_drop, List.length_drop, List.length_take, Nat.le_refl, true_and]
          refine hK _ ?_
          clear hK K
          try simp only [s_thN, s_thE, s_thR, s_blN, s_blE, s_blM, s_blR, Nat.reduceEqDiff]
          refine sat_tok 8 (sz := 3) (l := List.map encSIDBalanceNonce ([] : List SIDBalanceNonce)) (by simp only [v1, v2, v3, v4, v5, v6, v7, v8, v9, tf1, tu, litOk, appOk, appS, growD, Nat.reduceEqDiff, Nat.reduceLT, Nat.reduceAdd, Nat.reduceLeDiff, Nat.reduceMul, Nat.reduceBEq, Nat.reduceSub, Int.reduceLE, Int.reduceToNat, Int.reduceLT, Int.reduceNeg, encSIDBalanceNonce, encSLIDAmountNonce, encSAccounts, encSKindIDAmount, e_gfF, e_gfN]) ?_
          simp only [v1, v2, v3, v4, v5, v6, v7, v8, v9, tf1, tu, litOk, appOk, appS, growD, Nat.reduceEqDiff, Nat.reduceLT, Nat.reduceAdd, Nat.reduceLeDiff, Nat.reduceMul, Nat.reduceBEq, Nat.reduceSub, Int.reduceLE, Int.reduceToNat, Int.reduceLT, Int.reduceNeg, encSIDBalanceNonce, encSLIDAmountNonce, encSAccounts, encSKindIDAmount, List.map_append, List.length_append, List.length_map, List.map_take, List.map_drop, List.length_drop, List.length_take, Nat.le_refl, true_and]
          obtain ⟨rfl, rfl⟩ := h
          refine sat_ret (retN [1] ?_)
          simp only [v1, v2, v3, v4, v5, v6, v7, v8, v9, tf1, tu, litOk, appOk, appS, growD, Nat.reduceEqDiff, Nat.reduceLT, Nat.reduceAdd, Nat.reduceLeDiff, Nat.reduceMul, Nat.reduceBEq, Nat.reduceSub, Int.reduceLE, Int.reduceToNat, Int.reduceLT, Int.reduceNeg, encSIDBalanceNonce, encSLIDAmountNonce, encSAccounts, encSKindIDAmount, vl, Try.results19, e_sp0, e_sp1, List.map_append, List.length_append, List.length_map, List.map_take, List.map_drop, List.length_drop, List.length_take, Nat.le_refl, true_and]
        · replace h := h.2 hb3
          refine sat_skip ?_
          try simp only [s_thN, s_thE, s_thR, s_blN, s_blE, s_blM, s_blR, Nat.reduceEqDiff]
          refine sat_seq ?_
          refine sat_region fun K hK => ?_
          simp only [v1, v2, v3, v4, v5, v6, v7, v8, v9, tf1, tu, litOk, appOk, appS, growD, Nat.reduceEqDiff, Nat.reduceLT, Nat.reduceAdd, Nat.reduceLeDiff, Nat.reduceMul, Nat.reduceBEq, Nat.reduceSub, Int.reduceLE, Int.reduceToNat, Int.reduceLT, Int.reduceNeg, encSIDBalanceNonce, encSLIDAmountNonce, encSAccounts, encSKindIDAmount, List.map_append, List.length_append, List.length_map, List.map_take, List.map_drop, List.length_drop, List.length_take, Nat.le_refl, true_and]
          refine hK _ ?_
          clear hK K
          try simp only [s_thN, s_thE, s_thR, s_blN, s_blE, s_blM, s_blR, Nat.reduceEqDiff]
          refine sat_seq ?_
          refine sat_region fun K hK => ?_
          simp only [v1, v2, v3, v4, v5, v6, v7, v8, v9, tf1, tu, litOk, appOk, appS, growD, Nat.reduceEqDiff, Nat.reduceLT, Nat.reduceAdd, Nat.reduceLeDiff, Nat.reduceMul, Nat.reduceBEq, Nat.reduceSub, Int.reduceLE, Int.reduceToNat, Int.reduceLT, Int.reduceNeg, encSIDBalanceNonce, encSLIDAmountNonce, encSAccounts, encSKindIDAmount, List.map_append, List.length_append, List.length_map, List.map_take, List.map_drop, List.length_drop, List.length_take, Nat.le_refl, true_and]
          refine hK _ ?_
          clear hK K
          try simp only [s_thN, s_thE, s_thR, s_blN, s_blE, s_blM, s_blR, Nat.reduceEqDiff]
          refine sat_seq ?_
          obtain ⟨y2, hr2, h⟩ := h
          refine sat_region fun K hK => ?_
          simp only [v1, v2, v3, v4, v5, v6, v7, v8, v9, tf1, tu, litOk, appOk, appS, growD, Nat.reduceEqDiff, Nat.reduceLT, Nat.reduceAdd, Nat.reduceLeDiff, Nat.reduceMul, Nat.reduceBEq, Nat.reduceSub, Int.reduceLE, Int.reduceToNat, Int.reduceLT, Int.reduceNeg, encSIDBalanceNonce, encSLIDAmountNonce, encSAccounts, encSKindIDAmount, List.map_append, List.length_append, List.length_map, List.map_take, List.map_drop, List.length_drop, List.length_take, Nat.le_refl, true_and]
          refine a_call [] (moidoreref44_set_ok p0 (SIDBalanceNonce.mk y1.ID (IntKind.u64.wrap (y1.Balance - p2)) (IntKind.u64.wrap (y1.Nonce + 1))) y2 hr2) bd30 (by simp only [v1, v2, v3, v4, v5, v6, v7, v8, v9, tf1, tu, litOk, appOk, appS, growD, Nat.reduceEqDiff, Nat.reduceLT, Nat.reduceAdd, Nat.reduceLeDiff, Nat.reduceMul, Nat.reduceBEq, Nat.reduceSub, Int.reduceLE, Int.reduceToNat, Int.reduceLT, Int.reduceNeg, encSIDBalanceNonce, encSLIDAmountNonce, encSAccounts, encSKindIDAmount, callOk, vl, List.map_append, List.length_append, List.length_map, List.map_take, List.map_drop, List.length_drop, List.length_take, Nat.le_refl, true_and]) ?_
          simp only [v1, v2, v3, v4, v5, v6, v7, v8, v9, tf1, tu, litOk, appOk, appS, growD, Nat.reduceEqDiff, Nat.reduceLT, Nat.reduceAdd, Nat.reduceLeDiff, Nat.reduceMul, Nat.reduceBEq, Nat.reduceSub, Int.reduceLE, Int.reduceToNat, Int.reduceLT, Int.reduceNeg, encSIDBalanceNonce, encSLIDAmountNonce, encSAccounts, encSKindIDAmount, List.map_append, List.length_append, List.length_map, List.map_take, List.map_drop, List.length_drop, List.length_take, Nat.le_refl, true_and]
          refine hK _ ?_
          clear hK K
          try simp only [s_thN, s_thE, s_thR, s_blN, s_blE, s_blM, s_blR, Nat.reduceEqDiff]
          obtain ⟨rfl, rfl⟩ := h
          refine sat_ret (retN [1] ?_)
          simp only [v1, v2, v3, v4, v5, v6, v7, v8, v9, tf1, tu, litOk, appOk, appS, growD, Nat.reduceEqDiff, Nat.reduceLT, Nat.reduceAdd, Nat.reduceLeDiff, Nat.reduceMul, Nat.reduceBEq, Nat.reduceSub, Int.reduceLE, Int.reduceToNat, Int.reduceLT, Int.reduceNeg, encSIDBalanceNonce, encSLIDAmountNonce, encSAccounts, encSKindIDAmount, vl, Try.results19, e_sp0, e_sp1, List.map_append, List.length_append, List.length_map, List.map_take, List.map_drop, List.length_drop, List.length_take, Nat.le_refl, true_and]
theorem moidoreref44_Undebit_ok (p0 : List SIDBalanceNonce) (p1 : Int) (p2 : Int) (p3 : Int) (r0 : List SIDBalanceNonce) (r1 : Int) (h : moidoreref44_Undebit_Ret p0 p1 p2 p3 r0 r1) : SoundH Try.prog 21 [.d (.slice 3 (List.map encSIDBalanceNonce p0)), .d (.int .u64 p1), .d (.int .u64 p2), .d (.int .u64 p3)] [] (.tup [.own 0 3 (List.map encSIDBalanceNonce r0), .d (.int .i64 r1)]) [.tip (List.length r0)] := by
  refine sound_of Try.func21 rfl Try.ntmps21 (by simp) fun G0 w0 => ?_
  unfold moidoreref44_Undebit_Ret at h
  refine sat_seq ?_
  refine sat_region fun K hK => ?_
  simp only [v1, v2, v3, v4, v5, v6, v7, v8, v9, tf1, tu, litOk, appOk, appS, growD, Nat.reduceEqDiff, Nat.reduceLT, Nat.reduceAdd, Nat.reduceLeDiff, Nat.reduceMul, Nat.reduceBEq, Nat.reduceSub, Int.reduceLE, Int.reduceToNat, Int.reduceLT, Int.reduceNeg, encSIDBalanceNonce, encSLIDAmountNonce, encSAccounts, encSKindIDAmount, List.map_append, List.length_append, List.length_map, List.map_take, List.map_drop, List.length_drop, List.length_take, Nat.le_refl, true_and]
  refine hK _ ?_
  clear hK K
  try simp only [s_thN, s_thE, s_thR, s_blN, s_blE, s_blM, s_blR, Nat.reduceEqDiff]
  refine sat_seq ?_
  obtain ⟨y1, hr1, h⟩ := h
  refine sat_region fun K hK => ?_
  simp only [v1, v2, v3, v4, v5, v6, v7, v8, v9, tf1, tu, litOk, appOk, appS, growD, Nat.reduceEqDiff, Nat.reduceLT, Nat.reduceAdd, Nat.reduceLeDiff, Nat.reduceMul, Nat.reduceBEq, Nat.reduceSub, Int.reduceLE, Int.reduceToNat, Int.reduceLT, Int.reduceNeg, encSIDBalanceNonce, encSLIDAmountNonce, encSAccounts, encSKindIDAmount, List.map_append, List.length_append, List.length_map, List.map_take, List.map_drop, List.length_drop, List.length_take, Nat.le_refl, true_and]
  refine a_call [] (moidoreref44_Get_ok p0 p1 y1 hr1) bd24 (by simp only [v1, v2, v3, v4, v5, v6, v7, v8, v9, tf1, tu, litOk, appOk, appS, growD, Nat.reduceEqDiff, Nat.reduceLT, Nat.reduceAdd, Nat.reduceLeDiff, Nat.reduceMul, Nat.reduceBEq, Nat.reduceSub, Int.reduceLE, Int.reduceToNat, Int.reduceLT, Int.reduceNeg, encSIDBalanceNonce, encSLIDAmountNonce, encSAccounts, encSKindIDAmount, callOk, vl, List.map_append, List.length_append, List.length_map, List.map_take, List.map_drop, List.length_drop, List.length_take, Nat.le_refl, true_and]) ?_
  simp only [v1, v2, v3, v4, v5, v6, v7, v8, v9, tf1, tu, litOk, appOk, appS, growD, Nat.reduceEqDiff, Nat.reduceLT, Nat.reduceAdd, Nat.reduceLeDiff, Nat.reduceMul, Nat.reduceBEq, Nat.reduceSub, Int.reduceLE, Int.reduceToNat, Int.reduceLT, Int.reduceNeg, encSIDBalanceNonce, encSLIDAmountNonce, encSAccounts, encSKindIDAmount, List.map_append, List.length_append, List.length_map, List.map_take, List.map_drop, List.length_drop, List.length_take, Nat.le_refl, true_and]
  refine hK _ ?_
  clear hK K
  try simp only [s_thN, s_thE, s_thR, s_blN, s_blE, s_blM, s_blR, Nat.reduceEqDiff]
  refine sat_seq ?_
  refine sat_block ?_
  refine sat_join (ι := Bool) (fun x => ⟨[(0, .d (.slice 3 (List.map encSIDBalanceNonce p0))), (2, .d (.int .u64 p2)), (3, .d (.int .u64 p3)), (10, .ptr 0 0), (14, .d (.bool x))], [(0, .cells [.d (.int .u64 y1.ID), .d (.int .u64 y1.Balance), .d (.int .u64 y1.Nonce)])], 1⟩) (fun x => moidoreref44_Undebit_J1 p0 p2 p3 r0 r1 y1 x) ?_ ?_
  · refine sat_region fun K hK => ?_
    simp only [v1, v2, v3, v4, v5, v6, v7, v8, v9, tf1, tu, litOk, appOk, appS, growD, Nat.reduceEqDiff, Nat.reduceLT, Nat.reduceAdd, Nat.reduceLeDiff, Nat.reduceMul, Nat.reduceBEq, Nat.reduceSub, Int.reduceLE, Int.reduceToNat, Int.reduceLT, Int.reduceNeg, encSIDBalanceNonce, encSLIDAmountNonce, encSAccounts, encSKindIDAmount, List.map_append, List.length_append, List.length_map, List.map_take, List.map_drop, List.length_drop, List.length_take, Nat.le_refl, true_and]
    refine A_guard_split (by simp only [v1, v2, v3, v4, v5, v6, v7, v8, v9, tf1, tu, litOk, appOk, appS, growD, Nat.reduceEqDiff, Nat.reduceLT, Nat.reduceAdd, Nat.reduceLeDiff, Nat.reduceMul, Nat.reduceBEq, Nat.reduceSub, Int.reduceLE, Int.reduceToNat, Int.reduceLT, Int.reduceNeg, encSIDBalanceNonce, encSLIDAmountNonce, encSAccounts, encSKindIDAmount]; rfl) (fun hg1 => ?_) (fun hg1 => ?_)
    · simp only [v1, v2, v3, v4, v5, v6, v7, v8, v9, tf1, tu, litOk, appOk, appS, growD, Nat.reduceEqDiff, Nat.reduceLT, Nat.reduceAdd, Nat.reduceLeDiff, Nat.reduceMul, Nat.reduceBEq, Nat.reduceSub, Int.reduceLE, Int.reduceToNat, Int.reduceLT, Int.reduceNeg, encSIDBalanceNonce, encSLIDAmountNonce, encSAccounts, encSKindIDAmount, hg1, List.map_append, List.length_append, List.length_map, List.map_take, List.map_drop, List.length_drop, List.length_take, Nat.le_refl, true_and]
      refine hK _ ?_
      clear hK K
      try simp only [s_thN, s_thE, s_thR, s_blN, s_blE, s_blM, s_blR, Nat.reduceEqDiff]
      exact ⟨((p2 == 0) || (decide (IntKind.u64.wrap (9223372036854775807 - y1.Balance) < p2))) || (y1.Nonce == 0), h, by simp only [v1, v2, v3, v4, v5, v6, v7, v8, v9, tf1, tu, litOk, appOk, appS, growD, Nat.reduceEqDiff, Nat.reduceLT, Nat.reduceAdd, Nat.reduceLeDiff, Nat.reduceMul, Nat.reduceBEq, Nat.reduceSub, Int.reduceLE, Int.reduceToNat, Int.reduceLT, Int.reduceNeg, encSIDBalanceNonce, encSLIDAmountNonce, encSAccounts, encSKindIDAmount, vl, hg1, List.map_append, List.length_append, List.length_map, List.map_take, List.map_drop, List.length_drop, List.length_take, Nat.le_refl, true_and]⟩
    · simp only [v1, v2, v3, v4, v5, v6, v7, v8, v9, tf1, tu, litOk, appOk, appS, growD, Nat.reduceEqDiff, Nat.reduceLT, Nat.reduceAdd, Nat.reduceLeDiff, Nat.reduceMul, Nat.reduceBEq, Nat.reduceSub, Int.reduceLE, Int.reduceToNat, Int.reduceLT, Int.reduceNeg, encSIDBalanceNonce, encSLIDAmountNonce, encSAccounts, encSKindIDAmount, hg1, List.map_append, List.length_append, List.length_map, List.map_take, List.map_drop, List.length_drop, List.length_take, Nat.le_refl, true_and]
      refine A_guard_split (by simp only [v1, v2, v3, v4, v5, v6, v7, v8, v9, tf1, tu, litOk, appOk, appS, growD, Nat.reduceEqDiff, Nat.reduceLT, Nat.reduceAdd, Nat.reduceLeDiff, Nat.reduceMul, Nat.reduceBEq, Nat.reduceSub, Int.reduceLE, Int.reduceToNat, Int.reduceLT, Int.reduceNeg, encSIDBalanceNonce, encSLIDAmountNonce, encSAccounts, encSKindIDAmount, hg1]; rfl) (fun hg2 => ?_) (fun hg2 => ?_)
      · simp only [v1, v2, v3, v4, v5, v6, v7, v8, v9, tf1, tu, litOk, appOk, appS, growD, Nat.reduceEqDiff, Nat.reduceLT, Nat.reduceAdd, Nat.reduceLeDiff, Nat.reduceMul, Nat.reduceBEq, Nat.reduceSub, Int.reduceLE, Int.reduceToNat, Int.reduceLT, Int.reduceNeg, encSIDBalanceNonce, encSLIDAmountNonce, encSAccounts, encSKindIDAmount, hg1, hg2, List.map_append, List.length_append, List.length_map, List.map_take, List.map_drop, List.length_drop, List.length_take, Nat.le_refl, true_and]
        refine hK _ ?_
        clear hK K
        try simp only [s_thN, s_thE, s_thR, s_blN, s_blE, s_blM, s_blR, Nat.reduceEqDiff]
        exact ⟨((p2 == 0) || (decide (IntKind.u64.wrap (9223372036854775807 - y1.Balance) < p2))) || (y1.Nonce == 0), h, by simp only [v1, v2, v3, v4, v5, v6, v7, v8, v9, tf1, tu, litOk, appOk, appS, growD, Nat.reduceEqDiff, Nat.reduceLT, Nat.reduceAdd, Nat.reduceLeDiff, Nat.reduceMul, Nat.reduceBEq, Nat.reduceSub, Int.reduceLE, Int.reduceToNat, Int.reduceLT, Int.reduceNeg, encSIDBalanceNonce, encSLIDAmountNonce, encSAccounts, encSKindIDAmount, vl, hg1, hg2, List.map_append, List.length_append, List.length_map, List.map_take, List.map_drop, List.length_drop, List.length_take, Nat.le_refl, true_and]⟩
      · simp only [v1, v2, v3, v4, v5, v6, v7, v8, v9, tf1, tu, litOk, appOk, appS, growD, Nat.reduceEqDiff, Nat.reduceLT, Nat.reduceAdd, Nat.reduceLeDiff, Nat.reduceMul, Nat.reduceBEq, Nat.reduceSub, Int.reduceLE, Int.reduceToNat, Int.reduceLT, Int.reduceNeg, encSIDBalanceNonce, encSLIDAmountNonce, encSAccounts, encSKindIDAmount, hg1, hg2, List.map_append, List.length_append, List.length_map, List.map_take, List.map_drop, List.length_drop, List.length_take, Nat.le_refl, true_and]
        refine hK _ ?_
        clear hK K
        try simp only [s_thN, s_thE, s_thR, s_blN, s_blE, s_blM, s_blR, Nat.reduceEqDiff]
        exact ⟨((p2 == 0) || (decide (IntKind.u64.wrap (9223372036854775807 - y1.Balance) < p2))) || (y1.Nonce == 0), h, by simp only [v1, v2, v3, v4, v5, v6, v7, v8, v9, tf1, tu, litOk, appOk, appS, growD, Nat.reduceEqDiff, Nat.reduceLT, Nat.reduceAdd, Nat.reduceLeDiff, Nat.reduceMul, Nat.reduceBEq, Nat.reduceSub, Int.reduceLE, Int.reduceToNat, Int.reduceLT, Int.reduceNeg, encSIDBalanceNonce, encSLIDAmountNonce, encSAccounts, encSKindIDAmount, vl, hg1, hg2, List.map_append, List.length_append, List.length_map, List.map_take, List.map_drop, List.length_drop, List.length_take, Nat.le_refl, true_and]⟩
  · intro b1 h
    have h : moidoreref44_Undebit_J1 p0 p2 p3 r0 r1 y1 b1 := h
    show Sat _ _ _ _ _ _ ⟨[(0, .d (.slice 3 (List.map encSIDBalanceNonce p0))), (2, .d (.int .u64 p2)), (3, .d (.int .u64 p3)), (10, .ptr 0 0), (14, .d (.bool b1))], [(0, .cells [.d (.int .u64 y1.ID), .d (.int .u64 y1.Balance), .d (.int .u64 y1.Nonce)])], 1⟩ _
    unfold moidoreref44_Undebit_J1 at h
    refine sat_cond rfl (fun hb1 => ?_) (fun hb1 => ?_)
    · replace h := h.1 hb1
      refine sat_seq ?_
      refine sat_region fun K hK => ?_
      simp only [v1, v2, v3, v4, v5, v6, v7, v8, v9, tf1, tu, litOk, appOk, appS, growD, Nat.reduceEqDiff, Nat.reduceLT, Nat.reduceAdd, Nat.reduceLeDiff, Nat.reduceMul, Nat.reduceBEq, Nat.reduceSub, Int.reduceLE, Int.reduceToNat, Int.reduceLT, Int.reduceNeg, encSIDBalanceNonce, encSLIDAmountNonce, encSAccounts, encSKindIDAmount, List.map_append, List.length_append, List.length_map, List.map_take, List.map_drop, List.length_drop, List.length_take, Nat.le_refl, true_and]
      refine hK _ ?_
      clear hK K
      try simp only [s_thN, s_thE, s_thR, s_blN, s_blE, s_blM, s_blR, Nat.reduceEqDiff]
      refine sat_tok 8 (sz := 3) (l := List.map encSIDBalanceNonce ([] : List SIDBalanceNonce)) (by simp only [v1, v2, v3, v4, v5, v6, v7, v8, v9, tf1, tu, litOk, appOk, appS, growD, Nat.reduceEqDiff, Nat.reduceLT, Nat.reduceAdd, Nat.reduceLeDiff, Nat.reduceMul, Nat.reduceBEq, Nat.reduceSub, Int.reduceLE, Int.reduceToNat, Int.reduceLT, Int.reduceNeg, encSIDBalanceNonce, encSLIDAmountNonce, encSAccounts, encSKindIDAmount, e_gfF, e_gfN]) ?_
      simp only [v1, v2, v3, v4, v5, v6, v7, v8, v9, tf1, tu, litOk, appOk, appS, growD, Nat.reduceEqDiff, Nat.reduceLT, Nat.reduceAdd, Nat.reduceLeDiff, Nat.reduceMul, Nat.reduceBEq, Nat.reduceSub, Int.reduceLE, Int.reduceToNat, Int.reduceLT, Int.reduceNeg, encSIDBalanceNonce, encSLIDAmountNonce, encSAccounts, encSKindIDAmount, List.map_append, List.length_append, List.length_map, List.map_take, List.map_drop, List.length_drop, List.length_take, Nat.le_refl, true_and]
      obtain ⟨rfl, rfl⟩ := h
      refine sat_ret (retN [1] ?_)
      simp only [v1, v2, v3, v4, v5, v6, v7, v8, v9, tf1, tu, litOk, appOk, appS, growD, Nat.reduceEqDiff, Nat.reduceLT, Nat.reduceAdd, Nat.reduceLeDiff, Nat.reduceMul, Nat.reduceBEq, Nat.reduceSub, Int.reduceLE, Int.reduceToNat, Int.reduceLT, Int.reduceNeg, encSIDBalanceNonce, encSLIDAmountNonce, encSAccounts, encSKindIDAmount, vl, Try.results21, e_sp0, e_sp1, List.map_append, List.length_append, List.length_map, List.map_take, List.map_drop, List.length_drop, List.length_take, Nat.le_refl, true_and]
    · replace h := h.2 hb1
      refine sat_seq ?_
      refine sat_region fun K hK => ?_
      simp only [v1, v2, v3, v4, v5, v6, v7, v8, v9, tf1, tu, litOk, appOk, appS, growD, Nat.reduceEqDiff, Nat.reduceLT, Nat.reduceAdd, Nat.reduceLeDiff, Nat.reduceMul, Nat.reduceBEq, Nat.reduceSub, Int.reduceLE, Int.reduceToNat, Int.reduceLT, Int.reduceNeg, encSIDBalanceNonce, encSLIDAmountNonce, encSAccounts, encSKindIDAmount, List.map_append, List.length_append, List.length_map, List.map_take, List.map_drop, List.length_drop, List.length_take, Nat.le_refl, true_and]
      refine hK _ ?_
      clear hK K
      try simp only [s_thN, s_thE, s_thR, s_blN, s_blE, s_blM, s_blR, Nat.reduceEqDiff]
      refine sat_cond rfl (fun hb2 => ?_) (fun hb2 => ?_)
      · replace h := h.1 hb2
        refine sat_seq ?_
        refine sat_region fun K hK => ?_
        simp only [v1, v2, v3, v4, v5, v6, v7, v8, v9, tf1, tu, litOk, appOk, appS, growD, Nat.reduceEqDiff, Nat.reduceLT, Nat.reduceAdd, Nat.reduceLeDiff, Nat.reduceMul, Nat.reduceBEq, Nat.reduceSub, Int.reduceLE, Int.reduceToNat, Int.reduceLT, Int.reduceNeg, encSIDBalanceNonce, encSLIDAmountNonce, encSAccounts, encSKindIDAmount, List.map_append, List.length_append, List.length_map, List.map_take, List.map_drop, List.length_drop, List.length_take, Nat.le_refl, true_and]
        refine hK _ ?_
        clear hK K
        try simp only [s_thN, s_thE, s_thR, s_blN, s_blE, s_blM, s_blR, Nat.reduceEqDiff]
        refine sat_tok 8 (sz := 3) (l := List.map encSIDBalanceNonce ([] : List SIDBalanceNonce)) (by simp only [v1, v2, v3, v4, v5, v6, v7, v8, v9, tf1, tu, litOk, appOk, appS, growD, Nat.reduceEqDiff, Nat.reduceLT, Nat.reduceAdd, Nat.reduceLeDiff, Nat.reduceMul, Nat.reduceBEq, Nat.reduceSub, Int.reduceLE, Int.reduceToNat, Int.reduceLT, Int.reduceNeg, encSIDBalanceNonce, encSLIDAmountNonce, encSAccounts, encSKindIDAmount, e_gfF, e_gfN]) ?_
        simp only [v1, v2, v3, v4, v5, v6, v7, v8, v9, tf1, tu, litOk, appOk, appS, growD, Nat.reduceEqDiff, Nat.reduceLT, Nat.reduceAdd, Nat.reduceLeDiff, Nat.reduceMul, Nat.reduceBEq, Nat.reduceSub, Int.reduceLE, Int.reduceToNat, Int.reduceLT, Int.reduceNeg, encSIDBalanceNonce, encSLIDAmountNonce, encSAccounts, encSKindIDAmount, List.map_append, List.length_append, List.length_map, List.map_take, List.map_drop, List.length_drop, List.length_take, Nat.le_refl, true_and]
        obtain ⟨rfl, rfl⟩ := h
        refine sat_ret (retN [1] ?_)
        simp only [v1, v2, v3, v4, v5, v6, v7, v8, v9, tf1, tu, litOk, appOk, appS, growD, Nat.reduceEqDiff, Nat.reduceLT, Nat.reduceAdd, Nat.reduceLeDiff, Nat.reduceMul, Nat.reduceBEq, Nat.reduceSub, Int.reduceLE, Int.reduceToNat, Int.reduceLT, Int.reduceNeg, encSIDBalanceNonce, encSLIDAmountNonce, encSAccounts, encSKindIDAmount, vl, Try.results21, e_sp0, e_sp1, List.map_append, List.length_append, List.length_map, List.map_take, List.map_drop, List.length_drop, List.length_take, Nat.le_refl, true_and]
      · replace h := h.2 hb2
        refine sat_skip ?_
        try simp only [s_thN, s_thE, s_thR, s_blN, s_blE, s_blM, s_blR, Nat.reduceEqDiff]
        refine sat_seq ?_
        refine sat_region fun K hK => ?_
        simp only [v1, v2, v3, v4, v5, v6, v7, v8, v9, tf1, tu, litOk, appOk, appS, growD, Nat.reduceEqDiff, Nat.reduceLT, Nat.reduceAdd, Nat.reduceLeDiff, Nat.reduceMul, Nat.reduceBEq, Nat.reduceSub, Int.reduceLE, Int.reduceToNat, Int.reduceLT, Int.reduceNeg, encSIDBalanceNonce, encSLIDAmountNonce, encSAccounts, encSKindIDAmount, List.map_append, List.length_append, List.length_map, List.map_take, List.map_drop, List.length_drop, List.length_take, Nat.le_refl, true_and]
        refine hK _ ?_
        clear hK K
        try simp only [s_thN, s_thE, s_thR, s_blN, s_blE, s_blM, s_blR, Nat.reduceEqDiff]
        refine sat_seq ?_
        refine sat_region fun K hK => ?_
        simp only [v1, v2, v3, v4, v5, v6, v7, v8, v9, tf1, tu, litOk, appOk, appS, growD, Nat.reduceEqDiff, Nat.reduceLT, Nat.reduceAdd, Nat.reduceLeDiff, Nat.reduceMul, Nat.reduceBEq, Nat.reduceSub, Int.reduceLE, Int.reduceToNat, Int.reduceLT, Int.reduceNeg, encSIDBalanceNonce, encSLIDAmountNonce, encSAccounts, encSKindIDAmount, List.map_append, List.length_append, List.length_map, List.map_take, List.map_drop, List.length_drop, List.length_take, Nat.le_refl, true_and]
        refine hK _ ?_
        clear hK K
        try simp only [s_thN, s_thE, s_thR, s_blN, s_blE, s_blM, s_blR, Nat.reduceEqDiff]
        refine sat_seq ?_
        obtain ⟨y2, hr2, h⟩ := h
        refine sat_region fun K hK => ?_
        simp only [v1, v2, v3, v4, v5, v6, v7, v8, v9, tf1, tu, litOk, appOk, appS, growD, Nat.reduceEqDiff, Nat.reduceLT, Nat.reduceAdd, Nat.reduceLeDiff, Nat.reduceMul, Nat.reduceBEq, Nat.reduceSub, Int.reduceLE, Int.reduceToNat, Int.reduceLT, Int.reduceNeg, encSIDBalanceNonce, encSLIDAmountNonce, encSAccounts, encSKindIDAmount, List.map_append, List.length_append, List.length_map, List.map_take, List.map_drop, List.length_drop, List.length_take, Nat.le_refl, true_and]
        refine a_call [] (moidoreref44_set_ok p0 (SIDBalanceNonce.mk y1.ID (IntKind.u64.wrap (y1.Balance + p2)) (IntKind.u64.wrap (y1.Nonce - 1))) y2 hr2) bd30 (by simp only [v1, v2, v3, v4, v5, v6, v7, v8, v9, tf1, tu, litOk, appOk, appS, growD, Nat.reduceEqDiff, Nat.reduceLT, Nat.reduceAdd, Nat.reduceLeDiff, Nat.reduceMul, Nat.reduceBEq, Nat.reduceSub, Int.reduceLE, Int.reduceToNat, Int.reduceLT, Int.reduceNeg, encSIDBalanceNonce, encSLIDAmountNonce, encSAccounts, encSKindIDAmount, callOk, vl, List.map_append, List.length_append, List.length_map, List.map_take, List.map_drop, List.length_drop, List.length_take, Nat.le_refl, true_and]) ?_
        simp only [v1, v2, v3, v4, v5, v6, v7, v8, v9, tf1, tu, litOk, appOk, appS, growD, Nat.reduceEqDiff, Nat.reduceLT, Nat.reduceAdd, Nat.reduceLeDiff, Nat.reduceMul, Nat.reduceBEq, Nat.reduceSub, Int.reduceLE, Int.reduceToNat, Int.reduceLT, Int.reduceNeg, encSIDBalanceNonce, encSLIDAmountNonce, encSAccounts, encSKindIDAmount, List.map_append, List.length_append, List.length_map, List.map_take, List.map_drop, List.length_drop, List.length_take, Nat.le_refl, true_and]
        refine hK _ ?_
        clear hK K
        try simp only [s_thN, s_thE, s_thR, s_blN, s_blE, s_blM, s_blR, Nat.reduceEqDiff]
        obtain ⟨rfl, rfl⟩ := h
        refine sat_ret (retN [1] ?_)
        simp only [v1, v2, v3, v4, v5, v6, v7, v8, v9, tf1, tu, litOk, appOk, appS, growD, Nat.reduceEqDiff, Nat.reduceLT, Nat.reduceAdd, Nat.reduceLeDiff, Nat.reduceMul, Nat.reduceBEq, Nat.reduceSub, Int.reduceLE, Int.reduceToNat, Int.reduceLT, Int.reduceNeg, encSIDBalanceNonce, encSLIDAmountNonce, encSAccounts, encSKindIDAmount, vl, Try.results21, e_sp0, e_sp1, List.map_append, List.length_append, List.length_map, List.map_take, List.map_drop, List.length_drop, List.length_take, Nat.le_refl, true_and]
theorem moidorelaw44_LedgerDebit_ok (p0 : SLIDAmountNonce) (r0 : Bool) (h : moidorelaw44_LedgerDebit_Ret p0 r0) : SoundH Try.prog 4 [.agg [.d (.slice 3 (List.map encSIDBalanceNonce p0.L)), .d (.int .u64 p0.ID), .d (.int .u64 p0.Amount), .d (.int .u64 p0.Nonce)]] [] (.d (.bool r0)) [] := by
  refine sound_of Try.func4 rfl Try.ntmps4 (by simp) fun G0 w0 => ?_
  unfold moidorelaw44_LedgerDebit_Ret at h
  refine sat_seq ?_
  refine sat_region fun K hK => ?_
  simp only [v1, v2, v3, v4, v5, v6, v7, v8, v9, tf1, tu, litOk, appOk, appS, growD, Nat.reduceEqDiff, Nat.reduceLT, Nat.reduceAdd, Nat.reduceLeDiff, Nat.reduceMul, Nat.reduceBEq, Nat.reduceSub, Int.reduceLE, Int.reduceToNat, Int.reduceLT, Int.reduceNeg, encSIDBalanceNonce, encSLIDAmountNonce, encSAccounts, encSKindIDAmount, List.map_append, List.length_append, List.length_map, List.map_take, List.map_drop, List.length_drop, List.length_take, Nat.le_refl, true_and]
  refine hK _ ?_
  clear hK K
  try simp only [s_thN, s_thE, s_thR, s_blN, s_blE, s_blM, s_blR, Nat.reduceEqDiff]
  refine sat_seq ?_
  refine sat_join (ι := Bool) (fun x => ⟨[(1, .ptr 0 0), (17, .d (.bool x))], [(0, .cells [.d (.slice 3 (List.map encSIDBalanceNonce p0.L)), .d (.int .u64 p0.ID), .d (.int .u64 p0.Amount), .d (.int .u64 p0.Nonce)])], 1⟩) (fun x => moidorelaw44_LedgerDebit_J2 p0 r0 x) ?_ ?_
  · obtain ⟨y1, hr1, y2, hr2, h⟩ := h
    refine sat_region fun K hK => ?_
    simp only [v1, v2, v3, v4, v5, v6, v7, v8, v9, tf1, tu, litOk, appOk, appS, growD, Nat.reduceEqDiff, Nat.reduceLT, Nat.reduceAdd, Nat.reduceLeDiff, Nat.reduceMul, Nat.reduceBEq, Nat.reduceSub, Int.reduceLE, Int.reduceToNat, Int.reduceLT, Int.reduceNeg, encSIDBalanceNonce, encSLIDAmountNonce, encSAccounts, encSKindIDAmount, List.map_append, List.length_append, List.length_map, List.map_take, List.map_drop, List.length_drop, List.length_take, Nat.le_refl, true_and]
    refine a_call [] (moidorelaw44_awake_ok  y1 hr1) bd9 (by simp only [v1, v2, v3, v4, v5, v6, v7, v8, v9, tf1, tu, litOk, appOk, appS, growD, Nat.reduceEqDiff, Nat.reduceLT, Nat.reduceAdd, Nat.reduceLeDiff, Nat.reduceMul, Nat.reduceBEq, Nat.reduceSub, Int.reduceLE, Int.reduceToNat, Int.reduceLT, Int.reduceNeg, encSIDBalanceNonce, encSLIDAmountNonce, encSAccounts, encSKindIDAmount, callOk, vl, List.map_append, List.length_append, List.length_map, List.map_take, List.map_drop, List.length_drop, List.length_take, Nat.le_refl, true_and]) ?_
    simp only [v1, v2, v3, v4, v5, v6, v7, v8, v9, tf1, tu, litOk, appOk, appS, growD, Nat.reduceEqDiff, Nat.reduceLT, Nat.reduceAdd, Nat.reduceLeDiff, Nat.reduceMul, Nat.reduceBEq, Nat.reduceSub, Int.reduceLE, Int.reduceToNat, Int.reduceLT, Int.reduceNeg, encSIDBalanceNonce, encSLIDAmountNonce, encSAccounts, encSKindIDAmount, List.map_append, List.length_append, List.length_map, List.map_take, List.map_drop, List.length_drop, List.length_take, Nat.le_refl, true_and]
    refine A_guard_split (by simp only [v1, v2, v3, v4, v5, v6, v7, v8, v9, tf1, tu, litOk, appOk, appS, growD, Nat.reduceEqDiff, Nat.reduceLT, Nat.reduceAdd, Nat.reduceLeDiff, Nat.reduceMul, Nat.reduceBEq, Nat.reduceSub, Int.reduceLE, Int.reduceToNat, Int.reduceLT, Int.reduceNeg, encSIDBalanceNonce, encSLIDAmountNonce, encSAccounts, encSKindIDAmount]; rfl) (fun hg4 => ?_) (fun hg4 => ?_)
    · simp only [v1, v2, v3, v4, v5, v6, v7, v8, v9, tf1, tu, litOk, appOk, appS, growD, Nat.reduceEqDiff, Nat.reduceLT, Nat.reduceAdd, Nat.reduceLeDiff, Nat.reduceMul, Nat.reduceBEq, Nat.reduceSub, Int.reduceLE, Int.reduceToNat, Int.reduceLT, Int.reduceNeg, encSIDBalanceNonce, encSLIDAmountNonce, encSAccounts, encSKindIDAmount, hg4, List.map_append, List.length_append, List.length_map, List.map_take, List.map_drop, List.length_drop, List.length_take, Nat.le_refl, true_and]
      refine hK _ ?_
      clear hK K
      try simp only [s_thN, s_thE, s_thR, s_blN, s_blE, s_blM, s_blR, Nat.reduceEqDiff]
      exact ⟨(!y1) || (!y2), h, by simp only [v1, v2, v3, v4, v5, v6, v7, v8, v9, tf1, tu, litOk, appOk, appS, growD, Nat.reduceEqDiff, Nat.reduceLT, Nat.reduceAdd, Nat.reduceLeDiff, Nat.reduceMul, Nat.reduceBEq, Nat.reduceSub, Int.reduceLE, Int.reduceToNat, Int.reduceLT, Int.reduceNeg, encSIDBalanceNonce, encSLIDAmountNonce, encSAccounts, encSKindIDAmount, vl, hg4, List.map_append, List.length_append, List.length_map, List.map_take, List.map_drop, List.length_drop, List.length_take, Nat.le_refl, true_and]⟩
    · simp only [v1, v2, v3, v4, v5, v6, v7, v8, v9, tf1, tu, litOk, appOk, appS, growD, Nat.reduceEqDiff, Nat.reduceLT, Nat.reduceAdd, Nat.reduceLeDiff, Nat.reduceMul, Nat.reduceBEq, Nat.reduceSub, Int.reduceLE, Int.reduceToNat, Int.reduceLT, Int.reduceNeg, encSIDBalanceNonce, encSLIDAmountNonce, encSAccounts, encSKindIDAmount, hg4, List.map_append, List.length_append, List.length_map, List.map_take, List.map_drop, List.length_drop, List.length_take, Nat.le_refl, true_and]
      replace hr2 := hr2 (by simp only [v1, v2, v3, v4, v5, v6, v7, v8, v9, tf1, tu, litOk, appOk, appS, growD, Nat.reduceEqDiff, Nat.reduceLT, Nat.reduceAdd, Nat.reduceLeDiff, Nat.reduceMul, Nat.reduceBEq, Nat.reduceSub, Int.reduceLE, Int.reduceToNat, Int.reduceLT, Int.reduceNeg, encSIDBalanceNonce, encSLIDAmountNonce, encSAccounts, encSKindIDAmount, hg4])
      refine a_call [] (moidorelaw44_Case_right_ok p0 y2 hr2) bd10 (by simp only [v1, v2, v3, v4, v5, v6, v7, v8, v9, tf1, tu, litOk, appOk, appS, growD, Nat.reduceEqDiff, Nat.reduceLT, Nat.reduceAdd, Nat.reduceLeDiff, Nat.reduceMul, Nat.reduceBEq, Nat.reduceSub, Int.reduceLE, Int.reduceToNat, Int.reduceLT, Int.reduceNeg, encSIDBalanceNonce, encSLIDAmountNonce, encSAccounts, encSKindIDAmount, callOk, vl, hg4, List.map_append, List.length_append, List.length_map, List.map_take, List.map_drop, List.length_drop, List.length_take, Nat.le_refl, true_and]) ?_
      simp only [v1, v2, v3, v4, v5, v6, v7, v8, v9, tf1, tu, litOk, appOk, appS, growD, Nat.reduceEqDiff, Nat.reduceLT, Nat.reduceAdd, Nat.reduceLeDiff, Nat.reduceMul, Nat.reduceBEq, Nat.reduceSub, Int.reduceLE, Int.reduceToNat, Int.reduceLT, Int.reduceNeg, encSIDBalanceNonce, encSLIDAmountNonce, encSAccounts, encSKindIDAmount, hg4, List.map_append, List.length_append, List.length_map, List.map_take, List.map_drop, List.length_drop, List.length_take, Nat.le_refl, true_and]
      refine hK _ ?_
      clear hK K
      try simp only [s_thN, s_thE, s_thR, s_blN, s_blE, s_blM, s_blR, Nat.reduceEqDiff]
      exact ⟨(!y1) || (!y2), h, by simp only [v1, v2, v3, v4, v5, v6, v7, v8, v9, tf1, tu, litOk, appOk, appS, growD, Nat.reduceEqDiff, Nat.reduceLT, Nat.reduceAdd, Nat.reduceLeDiff, Nat.reduceMul, Nat.reduceBEq, Nat.reduceSub, Int.reduceLE, Int.reduceToNat, Int.reduceLT, Int.reduceNeg, encSIDBalanceNonce, encSLIDAmountNonce, encSAccounts, encSKindIDAmount, vl, hg4, List.map_append, List.length_append, List.length_map, List.map_take, List.map_drop, List.length_drop, List.length_take, Nat.le_refl, true_and]⟩
  · intro b1 h
    have h : moidorelaw44_LedgerDebit_J2 p0 r0 b1 := h
    show Sat _ _ _ _ _ _ ⟨[(1, .ptr 0 0), (17, .d (.bool b1))], [(0, .cells [.d (.slice 3 (List.map encSIDBalanceNonce p0.L)), .d (.int .u64 p0.ID), .d (.int .u64 p0.Amount), .d (.int .u64 p0.Nonce)])], 1⟩ _
    unfold moidorelaw44_LedgerDebit_J2 at h
    refine sat_cond rfl (fun hb1 => ?_) (fun hb1 => ?_)
    · replace h := h.1 hb1
      refine sat_seq ?_
      obtain ⟨y3, hr3, h⟩ := h
      refine sat_region fun K hK => ?_
      simp only [v1, v2, v3, v4, v5, v6, v7, v8, v9, tf1, tu, litOk, appOk, appS, growD, Nat.reduceEqDiff, Nat.reduceLT, Nat.reduceAdd, Nat.reduceLeDiff, Nat.reduceMul, Nat.reduceBEq, Nat.reduceSub, Int.reduceLE, Int.reduceToNat, Int.reduceLT, Int.reduceNeg, encSIDBalanceNonce, encSLIDAmountNonce, encSAccounts, encSKindIDAmount, List.map_append, List.length_append, List.length_map, List.map_take, List.map_drop, List.length_drop, List.length_take, Nat.le_refl, true_and]
      refine a_call [] (moidorelaw44_awake_ok  y3 hr3) bd9 (by simp only [v1, v2, v3, v4, v5, v6, v7, v8, v9, tf1, tu, litOk, appOk, appS, growD, Nat.reduceEqDiff, Nat.reduceLT, Nat.reduceAdd, Nat.reduceLeDiff, Nat.reduceMul, Nat.reduceBEq, Nat.reduceSub, Int.reduceLE, Int.reduceToNat, Int.reduceLT, Int.reduceNeg, encSIDBalanceNonce, encSLIDAmountNonce, encSAccounts, encSKindIDAmount, callOk, vl, List.map_append, List.length_append, List.length_map, List.map_take, List.map_drop, List.length_drop, List.length_take, Nat.le_refl, true_and]) ?_
      simp only [v1, v2, v3, v4, v5, v6, v7, v8, v9, tf1, tu, litOk, appOk, appS, growD, Nat.reduceEqDiff, Nat.reduceLT, Nat.reduceAdd, Nat.reduceLeDiff, Nat.reduceMul, Nat.reduceBEq, Nat.reduceSub, Int.reduceLE, Int.reduceToNat, Int.reduceLT, Int.reduceNeg, encSIDBalanceNonce, encSLIDAmountNonce, encSAccounts, encSKindIDAmount, List.map_append, List.length_append, List.length_map, List.map_take, List.map_drop, List.length_drop, List.length_take, Nat.le_refl, true_and]
      refine hK _ ?_
      clear hK K
      try simp only [s_thN, s_thE, s_thR, s_blN, s_blE, s_blM, s_blR, Nat.reduceEqDiff]
      subst h
      refine sat_ret (retN [] ?_)
      simp only [v1, v2, v3, v4, v5, v6, v7, v8, v9, tf1, tu, litOk, appOk, appS, growD, Nat.reduceEqDiff, Nat.reduceLT, Nat.reduceAdd, Nat.reduceLeDiff, Nat.reduceMul, Nat.reduceBEq, Nat.reduceSub, Int.reduceLE, Int.reduceToNat, Int.reduceLT, Int.reduceNeg, encSIDBalanceNonce, encSLIDAmountNonce, encSAccounts, encSKindIDAmount, vl, Try.results4, e_sp0, e_sp1, List.map_append, List.length_append, List.length_map, List.map_take, List.map_drop, List.length_drop, List.length_take, Nat.le_refl, true_and]
    · replace h := h.2 hb1
      refine sat_skip ?_
      try simp only [s_thN, s_thE, s_thR, s_blN, s_blE, s_blM, s_blR, Nat.reduceEqDiff]
      refine sat_seq ?_
      obtain ⟨y4, hr4, y5, y6, hr5, h⟩ := h
      refine sat_drawn 1 mix (by kernel_rfl) fun K hK => ?_
      simp only [v1, v2, v3, v4, v5, v6, v7, v8, v9, tf1, tu, litOk, appOk, appS, growD, Nat.reduceEqDiff, Nat.reduceLT, Nat.reduceAdd, Nat.reduceLeDiff, Nat.reduceMul, Nat.reduceBEq, Nat.reduceSub, Int.reduceLE, Int.reduceToNat, Int.reduceLT, Int.reduceNeg, encSIDBalanceNonce, encSLIDAmountNonce, encSAccounts, encSKindIDAmount, List.map_append, List.length_append, List.length_map, List.map_take, List.map_drop, List.length_drop, List.length_take, Nat.le_refl, true_and]
      refine d_call [] (moidorelaw44_own_ok p0.L y4 hr4) bd12 (by simp only [v1, v2, v3, v4, v5, v6, v7, v8, v9, tf1, tu, litOk, appOk, appS, growD, Nat.reduceEqDiff, Nat.reduceLT, Nat.reduceAdd, Nat.reduceLeDiff, Nat.reduceMul, Nat.reduceBEq, Nat.reduceSub, Int.reduceLE, Int.reduceToNat, Int.reduceLT, Int.reduceNeg, encSIDBalanceNonce, encSLIDAmountNonce, encSAccounts, encSKindIDAmount, callOk, vl, List.map_append, List.length_append, List.length_map, List.map_take, List.map_drop, List.length_drop, List.length_take, Nat.le_refl, true_and]) ?_
      simp only [v1, v2, v3, v4, v5, v6, v7, v8, v9, tf1, tu, litOk, appOk, appS, growD, Nat.reduceEqDiff, Nat.reduceLT, Nat.reduceAdd, Nat.reduceLeDiff, Nat.reduceMul, Nat.reduceBEq, Nat.reduceSub, Int.reduceLE, Int.reduceToNat, Int.reduceLT, Int.reduceNeg, encSIDBalanceNonce, encSLIDAmountNonce, encSAccounts, encSKindIDAmount, List.map_append, List.length_append, List.length_map, List.map_take, List.map_drop, List.length_drop, List.length_take, Nat.le_refl, true_and]
      refine d_call [] (ledger_Debit_ok y4 p0.ID p0.Amount p0.Nonce y5 y6 hr5) bd18 (by simp only [v1, v2, v3, v4, v5, v6, v7, v8, v9, tf1, tu, litOk, appOk, appS, growD, Nat.reduceEqDiff, Nat.reduceLT, Nat.reduceAdd, Nat.reduceLeDiff, Nat.reduceMul, Nat.reduceBEq, Nat.reduceSub, Int.reduceLE, Int.reduceToNat, Int.reduceLT, Int.reduceNeg, encSIDBalanceNonce, encSLIDAmountNonce, encSAccounts, encSKindIDAmount, callOk, vl, List.map_append, List.length_append, List.length_map, List.map_take, List.map_drop, List.length_drop, List.length_take, Nat.le_refl, true_and]) ?_
      simp only [v1, v2, v3, v4, v5, v6, v7, v8, v9, tf1, tu, litOk, appOk, appS, growD, Nat.reduceEqDiff, Nat.reduceLT, Nat.reduceAdd, Nat.reduceLeDiff, Nat.reduceMul, Nat.reduceBEq, Nat.reduceSub, Int.reduceLE, Int.reduceToNat, Int.reduceLT, Int.reduceNeg, encSIDBalanceNonce, encSLIDAmountNonce, encSAccounts, encSKindIDAmount, List.map_append, List.length_append, List.length_map, List.map_take, List.map_drop, List.length_drop, List.length_take, Nat.le_refl, true_and]
      refine hK _ ?_
      clear hK K
      try simp only [s_thN, s_thE, s_thR, s_blN, s_blE, s_blM, s_blR, Nat.reduceEqDiff]
      refine sat_seq ?_
      obtain ⟨y7, y8, hr6, h⟩ := h
      refine sat_region fun K hK => ?_
      simp only [v1, v2, v3, v4, v5, v6, v7, v8, v9, tf1, tu, litOk, appOk, appS, growD, Nat.reduceEqDiff, Nat.reduceLT, Nat.reduceAdd, Nat.reduceLeDiff, Nat.reduceMul, Nat.reduceBEq, Nat.reduceSub, Int.reduceLE, Int.reduceToNat, Int.reduceLT, Int.reduceNeg, encSIDBalanceNonce, encSLIDAmountNonce, encSAccounts, encSKindIDAmount, List.map_append, List.length_append, List.length_map, List.map_take, List.map_drop, List.length_drop, List.length_take, Nat.le_refl, true_and]
      refine a_call [] (moidoreref44_Debit_ok p0.L p0.ID p0.Amount p0.Nonce y7 y8 hr6) bd19 (by simp only [v1, v2, v3, v4, v5, v6, v7, v8, v9, tf1, tu, litOk, appOk, appS, growD, Nat.reduceEqDiff, Nat.reduceLT, Nat.reduceAdd, Nat.reduceLeDiff, Nat.reduceMul, Nat.reduceBEq, Nat.reduceSub, Int.reduceLE, Int.reduceToNat, Int.reduceLT, Int.reduceNeg, encSIDBalanceNonce, encSLIDAmountNonce, encSAccounts, encSKindIDAmount, callOk, vl, List.map_append, List.length_append, List.length_map, List.map_take, List.map_drop, List.length_drop, List.length_take, Nat.le_refl, true_and]) ?_
      simp only [v1, v2, v3, v4, v5, v6, v7, v8, v9, tf1, tu, litOk, appOk, appS, growD, Nat.reduceEqDiff, Nat.reduceLT, Nat.reduceAdd, Nat.reduceLeDiff, Nat.reduceMul, Nat.reduceBEq, Nat.reduceSub, Int.reduceLE, Int.reduceToNat, Int.reduceLT, Int.reduceNeg, encSIDBalanceNonce, encSLIDAmountNonce, encSAccounts, encSKindIDAmount, List.map_append, List.length_append, List.length_map, List.map_take, List.map_drop, List.length_drop, List.length_take, Nat.le_refl, true_and]
      refine hK _ ?_
      clear hK K
      try simp only [s_thN, s_thE, s_thR, s_blN, s_blE, s_blM, s_blR, Nat.reduceEqDiff]
      refine sat_seq ?_
      obtain ⟨y9, hr7, y10, y11, hr8, h⟩ := h
      refine sat_drawn 1 mix (by kernel_rfl) fun K hK => ?_
      simp only [v1, v2, v3, v4, v5, v6, v7, v8, v9, tf1, tu, litOk, appOk, appS, growD, Nat.reduceEqDiff, Nat.reduceLT, Nat.reduceAdd, Nat.reduceLeDiff, Nat.reduceMul, Nat.reduceBEq, Nat.reduceSub, Int.reduceLE, Int.reduceToNat, Int.reduceLT, Int.reduceNeg, encSIDBalanceNonce, encSLIDAmountNonce, encSAccounts, encSKindIDAmount, List.map_append, List.length_append, List.length_map, List.map_take, List.map_drop, List.length_drop, List.length_take, Nat.le_refl, true_and]
      refine d_call [] (moidorelaw44_own_ok p0.L y9 hr7) bd12 (by simp only [v1, v2, v3, v4, v5, v6, v7, v8, v9, tf1, tu, litOk, appOk, appS, growD, Nat.reduceEqDiff, Nat.reduceLT, Nat.reduceAdd, Nat.reduceLeDiff, Nat.reduceMul, Nat.reduceBEq, Nat.reduceSub, Int.reduceLE, Int.reduceToNat, Int.reduceLT, Int.reduceNeg, encSIDBalanceNonce, encSLIDAmountNonce, encSAccounts, encSKindIDAmount, callOk, vl, List.map_append, List.length_append, List.length_map, List.map_take, List.map_drop, List.length_drop, List.length_take, Nat.le_refl, true_and]) ?_
      simp only [v1, v2, v3, v4, v5, v6, v7, v8, v9, tf1, tu, litOk, appOk, appS, growD, Nat.reduceEqDiff, Nat.reduceLT, Nat.reduceAdd, Nat.reduceLeDiff, Nat.reduceMul, Nat.reduceBEq, Nat.reduceSub, Int.reduceLE, Int.reduceToNat, Int.reduceLT, Int.reduceNeg, encSIDBalanceNonce, encSLIDAmountNonce, encSAccounts, encSKindIDAmount, List.map_append, List.length_append, List.length_map, List.map_take, List.map_drop, List.length_drop, List.length_take, Nat.le_refl, true_and]
      refine d_call [] (ledger_Undebit_ok y9 p0.ID p0.Amount p0.Nonce y10 y11 hr8) bd20 (by simp only [v1, v2, v3, v4, v5, v6, v7, v8, v9, tf1, tu, litOk, appOk, appS, growD, Nat.reduceEqDiff, Nat.reduceLT, Nat.reduceAdd, Nat.reduceLeDiff, Nat.reduceMul, Nat.reduceBEq, Nat.reduceSub, Int.reduceLE, Int.reduceToNat, Int.reduceLT, Int.reduceNeg, encSIDBalanceNonce, encSLIDAmountNonce, encSAccounts, encSKindIDAmount, callOk, vl, List.map_append, List.length_append, List.length_map, List.map_take, List.map_drop, List.length_drop, List.length_take, Nat.le_refl, true_and]) ?_
      simp only [v1, v2, v3, v4, v5, v6, v7, v8, v9, tf1, tu, litOk, appOk, appS, growD, Nat.reduceEqDiff, Nat.reduceLT, Nat.reduceAdd, Nat.reduceLeDiff, Nat.reduceMul, Nat.reduceBEq, Nat.reduceSub, Int.reduceLE, Int.reduceToNat, Int.reduceLT, Int.reduceNeg, encSIDBalanceNonce, encSLIDAmountNonce, encSAccounts, encSKindIDAmount, List.map_append, List.length_append, List.length_map, List.map_take, List.map_drop, List.length_drop, List.length_take, Nat.le_refl, true_and]
      refine hK _ ?_
      clear hK K
      try simp only [s_thN, s_thE, s_thR, s_blN, s_blE, s_blM, s_blR, Nat.reduceEqDiff]
      refine sat_seq ?_
      obtain ⟨y12, y13, hr9, h⟩ := h
      refine sat_region fun K hK => ?_
      simp only [v1, v2, v3, v4, v5, v6, v7, v8, v9, tf1, tu, litOk, appOk, appS, growD, Nat.reduceEqDiff, Nat.reduceLT, Nat.reduceAdd, Nat.reduceLeDiff, Nat.reduceMul, Nat.reduceBEq, Nat.reduceSub, Int.reduceLE, Int.reduceToNat, Int.reduceLT, Int.reduceNeg, encSIDBalanceNonce, encSLIDAmountNonce, encSAccounts, encSKindIDAmount, List.map_append, List.length_append, List.length_map, List.map_take, List.map_drop, List.length_drop, List.length_take, Nat.le_refl, true_and]
      refine a_call [] (moidoreref44_Undebit_ok p0.L p0.ID p0.Amount p0.Nonce y12 y13 hr9) bd21 (by simp only [v1, v2, v3, v4, v5, v6, v7, v8, v9, tf1, tu, litOk, appOk, appS, growD, Nat.reduceEqDiff, Nat.reduceLT, Nat.reduceAdd, Nat.reduceLeDiff, Nat.reduceMul, Nat.reduceBEq, Nat.reduceSub, Int.reduceLE, Int.reduceToNat, Int.reduceLT, Int.reduceNeg, encSIDBalanceNonce, encSLIDAmountNonce, encSAccounts, encSKindIDAmount, callOk, vl, List.map_append, List.length_append, List.length_map, List.map_take, List.map_drop, List.length_drop, List.length_take, Nat.le_refl, true_and]) ?_
      simp only [v1, v2, v3, v4, v5, v6, v7, v8, v9, tf1, tu, litOk, appOk, appS, growD, Nat.reduceEqDiff, Nat.reduceLT, Nat.reduceAdd, Nat.reduceLeDiff, Nat.reduceMul, Nat.reduceBEq, Nat.reduceSub, Int.reduceLE, Int.reduceToNat, Int.reduceLT, Int.reduceNeg, encSIDBalanceNonce, encSLIDAmountNonce, encSAccounts, encSKindIDAmount, List.map_append, List.length_append, List.length_map, List.map_take, List.map_drop, List.length_drop, List.length_take, Nat.le_refl, true_and]
      refine hK _ ?_
      clear hK K
      try simp only [s_thN, s_thE, s_thR, s_blN, s_blE, s_blM, s_blR, Nat.reduceEqDiff]
      refine sat_join (ι := Bool) (fun x => ⟨[(2, .d (.bool x))], [], 35⟩) (fun x => moidorelaw44_LedgerDebit_J1 r0 x) ?_ ?_
      · obtain ⟨y14, hr10, y15, hr11, y16, hr12, y17, hr13, h⟩ := h
        refine sat_region fun K hK => ?_
        simp only [v1, v2, v3, v4, v5, v6, v7, v8, v9, tf1, tu, litOk, appOk, appS, growD, Nat.reduceEqDiff, Nat.reduceLT, Nat.reduceAdd, Nat.reduceLeDiff, Nat.reduceMul, Nat.reduceBEq, Nat.reduceSub, Int.reduceLE, Int.reduceToNat, Int.reduceLT, Int.reduceNeg, encSIDBalanceNonce, encSLIDAmountNonce, encSAccounts, encSKindIDAmount, List.map_append, List.length_append, List.length_map, List.map_take, List.map_drop, List.length_drop, List.length_take, Nat.le_refl, true_and]
        refine A_guard_split (by simp only [v1, v2, v3, v4, v5, v6, v7, v8, v9, tf1, tu, litOk, appOk, appS, growD, Nat.reduceEqDiff, Nat.reduceLT, Nat.reduceAdd, Nat.reduceLeDiff, Nat.reduceMul, Nat.reduceBEq, Nat.reduceSub, Int.reduceLE, Int.reduceToNat, Int.reduceLT, Int.reduceNeg, encSIDBalanceNonce, encSLIDAmountNonce, encSAccounts, encSKindIDAmount]; rfl) (fun hg1 => ?_) (fun hg1 => ?_)
        · simp only [v1, v2, v3, v4, v5, v6, v7, v8, v9, tf1, tu, litOk, appOk, appS, growD, Nat.reduceEqDiff, Nat.reduceLT, Nat.reduceAdd, Nat.reduceLeDiff, Nat.reduceMul, Nat.reduceBEq, Nat.reduceSub, Int.reduceLE, Int.reduceToNat, Int.reduceLT, Int.reduceNeg, encSIDBalanceNonce, encSLIDAmountNonce, encSAccounts, encSKindIDAmount, hg1, List.map_append, List.length_append, List.length_map, List.map_take, List.map_drop, List.length_drop, List.length_take, Nat.le_refl, true_and]
          replace hr10 := hr10 (by simp only [v1, v2, v3, v4, v5, v6, v7, v8, v9, tf1, tu, litOk, appOk, appS, growD, Nat.reduceEqDiff, Nat.reduceLT, Nat.reduceAdd, Nat.reduceLeDiff, Nat.reduceMul, Nat.reduceBEq, Nat.reduceSub, Int.reduceLE, Int.reduceToNat, Int.reduceLT, Int.reduceNeg, encSIDBalanceNonce, encSLIDAmountNonce, encSAccounts, encSKindIDAmount, hg1])
          refine a_call [] (moidorelaw44_back_ok y5 y14 hr10) bd17 (by simp only [v1, v2, v3, v4, v5, v6, v7, v8, v9, tf1, tu, litOk, appOk, appS, growD, Nat.reduceEqDiff, Nat.reduceLT, Nat.reduceAdd, Nat.reduceLeDiff, Nat.reduceMul, Nat.reduceBEq, Nat.reduceSub, Int.reduceLE, Int.reduceToNat, Int.reduceLT, Int.reduceNeg, encSIDBalanceNonce, encSLIDAmountNonce, encSAccounts, encSKindIDAmount, callOk, vl, hg1, List.map_append, List.length_append, List.length_map, List.map_take, List.map_drop, List.length_drop, List.length_take, Nat.le_refl, true_and]) ?_
          simp only [v1, v2, v3, v4, v5, v6, v7, v8, v9, tf1, tu, litOk, appOk, appS, growD, Nat.reduceEqDiff, Nat.reduceLT, Nat.reduceAdd, Nat.reduceLeDiff, Nat.reduceMul, Nat.reduceBEq, Nat.reduceSub, Int.reduceLE, Int.reduceToNat, Int.reduceLT, Int.reduceNeg, encSIDBalanceNonce, encSLIDAmountNonce, encSAccounts, encSKindIDAmount, hg1, List.map_append, List.length_append, List.length_map, List.map_take, List.map_drop, List.length_drop, List.length_take, Nat.le_refl, true_and]
          replace hr11 := hr11 (by simp only [v1, v2, v3, v4, v5, v6, v7, v8, v9, tf1, tu, litOk, appOk, appS, growD, Nat.reduceEqDiff, Nat.reduceLT, Nat.reduceAdd, Nat.reduceLeDiff, Nat.reduceMul, Nat.reduceBEq, Nat.reduceSub, Int.reduceLE, Int.reduceToNat, Int.reduceLT, Int.reduceNeg, encSIDBalanceNonce, encSLIDAmountNonce, encSAccounts, encSKindIDAmount, hg1])
          refine a_call [] (moidoreref44_Same_ok y14 y7 y15 hr11) bd16 (by simp only [v1, v2, v3, v4, v5, v6, v7, v8, v9, tf1, tu, litOk, appOk, appS, growD, Nat.reduceEqDiff, Nat.reduceLT, Nat.reduceAdd, Nat.reduceLeDiff, Nat.reduceMul, Nat.reduceBEq, Nat.reduceSub, Int.reduceLE, Int.reduceToNat, Int.reduceLT, Int.reduceNeg, encSIDBalanceNonce, encSLIDAmountNonce, encSAccounts, encSKindIDAmount, callOk, vl, hg1, List.map_append, List.length_append, List.length_map, List.map_take, List.map_drop, List.length_drop, List.length_take, Nat.le_refl, true_and]) ?_
          simp only [v1, v2, v3, v4, v5, v6, v7, v8, v9, tf1, tu, litOk, appOk, appS, growD, Nat.reduceEqDiff, Nat.reduceLT, Nat.reduceAdd, Nat.reduceLeDiff, Nat.reduceMul, Nat.reduceBEq, Nat.reduceSub, Int.reduceLE, Int.reduceToNat, Int.reduceLT, Int.reduceNeg, encSIDBalanceNonce, encSLIDAmountNonce, encSAccounts, encSKindIDAmount, hg1, List.map_append, List.length_append, List.length_map, List.map_take, List.map_drop, List.length_drop, List.length_take, Nat.le_refl, true_and]
          refine A_guard_split (by simp only [v1, v2, v3, v4, v5, v6, v7, v8, v9, tf1, tu, litOk, appOk, appS, growD, Nat.reduceEqDiff, Nat.reduceLT, Nat.reduceAdd, Nat.reduceLeDiff, Nat.reduceMul, Nat.reduceBEq, Nat.reduceSub, Int.reduceLE, Int.reduceToNat, Int.reduceLT, Int.reduceNeg, encSIDBalanceNonce, encSLIDAmountNonce, encSAccounts, encSKindIDAmount, hg1]; rfl) (fun hg2 => ?_) (fun hg2 => ?_)
          · simp only [v1, v2, v3, v4, v5, v6, v7, v8, v9, tf1, tu, litOk, appOk, appS, growD, Nat.reduceEqDiff, Nat.reduceLT, Nat.reduceAdd, Nat.reduceLeDiff, Nat.reduceMul, Nat.reduceBEq, Nat.reduceSub, Int.reduceLE, Int.reduceToNat, Int.reduceLT, Int.reduceNeg, encSIDBalanceNonce, encSLIDAmountNonce, encSAccounts, encSKindIDAmount, hg1, hg2, List.map_append, List.length_append, List.length_map, List.map_take, List.map_drop, List.length_drop, List.length_take, Nat.le_refl, true_and]
            refine A_guard_split (by simp only [v1, v2, v3, v4, v5, v6, v7, v8, v9, tf1, tu, litOk, appOk, appS, growD, Nat.reduceEqDiff, Nat.reduceLT, Nat.reduceAdd, Nat.reduceLeDiff, Nat.reduceMul, Nat.reduceBEq, Nat.reduceSub, Int.reduceLE, Int.reduceToNat, Int.reduceLT, Int.reduceNeg, encSIDBalanceNonce, encSLIDAmountNonce, encSAccounts, encSKindIDAmount, hg1, hg2]; rfl) (fun hg3 => ?_) (fun hg3 => ?_)
            · simp only [v1, v2, v3, v4, v5, v6, v7, v8, v9, tf1, tu, litOk, appOk, appS, growD, Nat.reduceEqDiff, Nat.reduceLT, Nat.reduceAdd, Nat.reduceLeDiff, Nat.reduceMul, Nat.reduceBEq, Nat.reduceSub, Int.reduceLE, Int.reduceToNat, Int.reduceLT, Int.reduceNeg, encSIDBalanceNonce, encSLIDAmountNonce, encSAccounts, encSKindIDAmount, hg1, hg2, hg3, List.map_append, List.length_append, List.length_map, List.map_take, List.map_drop, List.length_drop, List.length_take, Nat.le_refl, true_and]
              replace hr12 := hr12 (by simp only [v1, v2, v3, v4, v5, v6, v7, v8, v9, tf1, tu, litOk, appOk, appS, growD, Nat.reduceEqDiff, Nat.reduceLT, Nat.reduceAdd, Nat.reduceLeDiff, Nat.reduceMul, Nat.reduceBEq, Nat.reduceSub, Int.reduceLE, Int.reduceToNat, Int.reduceLT, Int.reduceNeg, encSIDBalanceNonce, encSLIDAmountNonce, encSAccounts, encSKindIDAmount, hg1, hg2, hg3])
              refine a_call [] (moidorelaw44_back_ok y10 y16 hr12) bd17 (by simp only [v1, v2, v3, v4, v5, v6, v7, v8, v9, tf1, tu, litOk, appOk, appS, growD, Nat.reduceEqDiff, Nat.reduceLT, Nat.reduceAdd, Nat.reduceLeDiff, Nat.reduceMul, Nat.reduceBEq, Nat.reduceSub, Int.reduceLE, Int.reduceToNat, Int.reduceLT, Int.reduceNeg, encSIDBalanceNonce, encSLIDAmountNonce, encSAccounts, encSKindIDAmount, callOk, vl, hg1, hg2, hg3, List.map_append, List.length_append, List.length_map, List.map_take, List.map_drop, List.length_drop, List.length_take, Nat.le_refl, true_and]) ?_
              simp only [v1, v2, v3, v4, v5, v6, v7, v8, v9, tf1, tu, litOk, appOk, appS, growD, Nat.reduceEqDiff, Nat.reduceLT, Nat.reduceAdd, Nat.reduceLeDiff, Nat.reduceMul, Nat.reduceBEq, Nat.reduceSub, Int.reduceLE, Int.reduceToNat, Int.reduceLT, Int.reduceNeg, encSIDBalanceNonce, encSLIDAmountNonce, encSAccounts, encSKindIDAmount, hg1, hg2, hg3, List.map_append, List.length_append, List.length_map, List.map_take, List.map_drop, List.length_drop, List.length_take, Nat.le_refl, true_and]
              replace hr13 := hr13 (by simp only [v1, v2, v3, v4, v5, v6, v7, v8, v9, tf1, tu, litOk, appOk, appS, growD, Nat.reduceEqDiff, Nat.reduceLT, Nat.reduceAdd, Nat.reduceLeDiff, Nat.reduceMul, Nat.reduceBEq, Nat.reduceSub, Int.reduceLE, Int.reduceToNat, Int.reduceLT, Int.reduceNeg, encSIDBalanceNonce, encSLIDAmountNonce, encSAccounts, encSKindIDAmount, hg1, hg2, hg3])
              refine a_call [] (moidoreref44_Same_ok y16 y12 y17 hr13) bd16 (by simp only [v1, v2, v3, v4, v5, v6, v7, v8, v9, tf1, tu, litOk, appOk, appS, growD, Nat.reduceEqDiff, Nat.reduceLT, Nat.reduceAdd, Nat.reduceLeDiff, Nat.reduceMul, Nat.reduceBEq, Nat.reduceSub, Int.reduceLE, Int.reduceToNat, Int.reduceLT, Int.reduceNeg, encSIDBalanceNonce, encSLIDAmountNonce, encSAccounts, encSKindIDAmount, callOk, vl, hg1, hg2, hg3, List.map_append, List.length_append, List.length_map, List.map_take, List.map_drop, List.length_drop, List.length_take, Nat.le_refl, true_and]) ?_
              simp only [v1, v2, v3, v4, v5, v6, v7, v8, v9, tf1, tu, litOk, appOk, appS, growD, Nat.reduceEqDiff, Nat.reduceLT, Nat.reduceAdd, Nat.reduceLeDiff, Nat.reduceMul, Nat.reduceBEq, Nat.reduceSub, Int.reduceLE, Int.reduceToNat, Int.reduceLT, Int.reduceNeg, encSIDBalanceNonce, encSLIDAmountNonce, encSAccounts, encSKindIDAmount, hg1, hg2, hg3, List.map_append, List.length_append, List.length_map, List.map_take, List.map_drop, List.length_drop, List.length_take, Nat.le_refl, true_and]
              refine hK _ ?_
              clear hK K
              try simp only [s_thN, s_thE, s_thR, s_blN, s_blE, s_blM, s_blR, Nat.reduceEqDiff]
              exact ⟨(((y6 == y8) && y15) && (y11 == y13)) && y17, h, by simp only [v1, v2, v3, v4, v5, v6, v7, v8, v9, tf1, tu, litOk, appOk, appS, growD, Nat.reduceEqDiff, Nat.reduceLT, Nat.reduceAdd, Nat.reduceLeDiff, Nat.reduceMul, Nat.reduceBEq, Nat.reduceSub, Int.reduceLE, Int.reduceToNat, Int.reduceLT, Int.reduceNeg, encSIDBalanceNonce, encSLIDAmountNonce, encSAccounts, encSKindIDAmount, vl, hg1, hg2, hg3, List.map_append, List.length_append, List.length_map, List.map_take, List.map_drop, List.length_drop, List.length_take, Nat.le_refl, true_and]⟩
            · simp only [v1, v2, v3, v4, v5, v6, v7, v8, v9, tf1, tu, litOk, appOk, appS, growD, Nat.reduceEqDiff, Nat.reduceLT, Nat.reduceAdd, Nat.reduceLeDiff, Nat.reduceMul, Nat.reduceBEq, Nat.reduceSub, Int.reduceLE, Int.reduceToNat, Int.reduceLT, Int.reduceNeg, encSIDBalanceNonce, encSLIDAmountNonce, encSAccounts, encSKindIDAmount, hg1, hg2, hg3, List.map_append, List.length_append, List.length_map, List.map_take, List.map_drop, List.length_drop, List.length_take, Nat.le_refl, true_and]
              refine hK _ ?_
              clear hK K
              try simp only [s_thN, s_thE, s_thR, s_blN, s_blE, s_blM, s_blR, Nat.reduceEqDiff]
              exact ⟨(((y6 == y8) && y15) && (y11 == y13)) && y17, h, by simp only [v1, v2, v3, v4, v5, v6, v7, v8, v9, tf1, tu, litOk, appOk, appS, growD, Nat.reduceEqDiff, Nat.reduceLT, Nat.reduceAdd, Nat.reduceLeDiff, Nat.reduceMul, Nat.reduceBEq, Nat.reduceSub, Int.reduceLE, Int.reduceToNat, Int.reduceLT, Int.reduceNeg, encSIDBalanceNonce, encSLIDAmountNonce, encSAccounts, encSKindIDAmount, vl, hg1, hg2, hg3, List.map_append, List.length_append, List.length_map, List.map_take, List.map_drop, List.length_drop, List.length_take, Nat.le_refl, true_and]⟩
          · simp only [v1, v2, v3, v4, v5, v6, v7, v8, v9, tf1, tu, litOk, appOk, appS, growD, Nat.reduceEqDiff, Nat.reduceLT, Nat.reduceAdd, Nat.reduceLeDiff, Nat.reduceMul, Nat.reduceBEq, Nat.reduceSub, Int.reduceLE, Int.reduceToNat, Int.reduceLT, Int.reduceNeg, encSIDBalanceNonce, encSLIDAmountNonce, encSAccounts, encSKindIDAmount, hg1, hg2, List.map_append, List.length_append, List.length_map, List.map_take, List.map_drop, List.length_drop, List.length_take, Nat.le_refl, true_and]
            refine hK _ ?_
            clear hK K
            try simp only [s_thN, s_thE, s_thR, s_blN, s_blE, s_blM, s_blR, Nat.reduceEqDiff]
            exact ⟨(((y6 == y8) && y15) && (y11 == y13)) && y17, h, by simp only [v1, v2, v3, v4, v5, v6, v7, v8, v9, tf1, tu, litOk, appOk, appS, growD, Nat.reduceEqDiff, Nat.reduceLT, Nat.reduceAdd, Nat.reduceLeDiff, Nat.reduceMul, Nat.reduceBEq, Nat.reduceSub, Int.reduceLE, Int.reduceToNat, Int.reduceLT, Int.reduceNeg, encSIDBalanceNonce, encSLIDAmountNonce, encSAccounts, encSKindIDAmount, vl, hg1, hg2, List.map_append, List.length_append, List.length_map, List.map_take, List.map_drop, List.length_drop, List.length_take, Nat.le_refl, true_and]⟩
        · simp only [v1, v2, v3, v4, v5, v6, v7, v8, v9, tf1, tu, litOk, appOk, appS, growD, Nat.reduceEqDiff, Nat.reduceLT, Nat.reduceAdd, Nat.reduceLeDiff, Nat.reduceMul, Nat.reduceBEq, Nat.reduceSub, Int.reduceLE, Int.reduceToNat, Int.reduceLT, Int.reduceNeg, encSIDBalanceNonce, encSLIDAmountNonce, encSAccounts, encSKindIDAmount, hg1, List.map_append, List.length_append, List.length_map, List.map_take, List.map_drop, List.length_drop, List.length_take, Nat.le_refl, true_and]
          refine hK _ ?_
          clear hK K
          try simp only [s_thN, s_thE, s_thR, s_blN, s_blE, s_blM, s_blR, Nat.reduceEqDiff]
          exact ⟨(((y6 == y8) && y15) && (y11 == y13)) && y17, h, by simp only [v1, v2, v3, v4, v5, v6, v7, v8, v9, tf1, tu, litOk, appOk, appS, growD, Nat.reduceEqDiff, Nat.reduceLT, Nat.reduceAdd, Nat.reduceLeDiff, Nat.reduceMul, Nat.reduceBEq, Nat.reduceSub, Int.reduceLE, Int.reduceToNat, Int.reduceLT, Int.reduceNeg, encSIDBalanceNonce, encSLIDAmountNonce, encSAccounts, encSKindIDAmount, vl, hg1, List.map_append, List.length_append, List.length_map, List.map_take, List.map_drop, List.length_drop, List.length_take, Nat.le_refl, true_and]⟩
      · intro b2 h
        have h : moidorelaw44_LedgerDebit_J1 r0 b2 := h
        show Sat _ _ _ _ _ _ ⟨[(2, .d (.bool b2))], [], 35⟩ _
        unfold moidorelaw44_LedgerDebit_J1 at h
        subst h
        refine sat_ret (retN [] ?_)
        simp only [v1, v2, v3, v4, v5, v6, v7, v8, v9, tf1, tu, litOk, appOk, appS, growD, Nat.reduceEqDiff, Nat.reduceLT, Nat.reduceAdd, Nat.reduceLeDiff, Nat.reduceMul, Nat.reduceBEq, Nat.reduceSub, Int.reduceLE, Int.reduceToNat, Int.reduceLT, Int.reduceNeg, encSIDBalanceNonce, encSLIDAmountNonce, encSAccounts, encSKindIDAmount, vl, Try.results4, e_sp0, e_sp1, List.map_append, List.length_append, List.length_map, List.map_take, List.map_drop, List.length_drop, List.length_take, Nat.le_refl, true_and]
theorem moidorelaw44_back_okD (p0 : SAccounts) (r0 : List SIDBalanceNonce) (h : moidorelaw44_back_Ret p0 r0) : SoundH Try.prog 17 [.agg [.d (.slice 3 (List.map encSIDBalanceNonce p0.Accounts))]] [] (.d (.slice 3 (List.map encSIDBalanceNonce r0))) [] := by
  refine sound_of Try.func17 rfl Try.ntmps17 (by simp) fun G0 w0 => ?_
  unfold moidorelaw44_back_Ret at h
  refine sat_seq ?_
  refine sat_region fun K hK => ?_
  simp only [v1, v2, v3, v4, v5, v6, v7, v8, v9, tf1, tu, litOk, appOk, appS, growD, Nat.reduceEqDiff, Nat.reduceLT, Nat.reduceAdd, Nat.reduceLeDiff, Nat.reduceMul, Nat.reduceBEq, Nat.reduceSub, Int.reduceLE, Int.reduceToNat, Int.reduceLT, Int.reduceNeg, encSIDBalanceNonce, encSLIDAmountNonce, encSAccounts, encSKindIDAmount, List.map_append, List.length_append, List.length_map, List.map_take, List.map_drop, List.length_drop, List.length_take, Nat.le_refl, true_and]
  refine hK _ ?_
  clear hK K
  try simp only [s_thN, s_thE, s_thR, s_blN, s_blE, s_blM, s_blR, Nat.reduceEqDiff]
  refine sat_seq ?_
  refine sat_region fun K hK => ?_
  simp only [v1, v2, v3, v4, v5, v6, v7, v8, v9, tf1, tu, litOk, appOk, appS, growD, Nat.reduceEqDiff, Nat.reduceLT, Nat.reduceAdd, Nat.reduceLeDiff, Nat.reduceMul, Nat.reduceBEq, Nat.reduceSub, Int.reduceLE, Int.reduceToNat, Int.reduceLT, Int.reduceNeg, encSIDBalanceNonce, encSLIDAmountNonce, encSAccounts, encSKindIDAmount, List.map_append, List.length_append, List.length_map, List.map_take, List.map_drop, List.length_drop, List.length_take, Nat.le_refl, true_and]
  refine hK _ ?_
  clear hK K
  try simp only [s_thN, s_thE, s_thR, s_blN, s_blE, s_blM, s_blR, Nat.reduceEqDiff]
  refine sat_seq ?_
  refine sat_seq ?_
  refine sat_region fun K hK => ?_
  simp only [v1, v2, v3, v4, v5, v6, v7, v8, v9, tf1, tu, litOk, appOk, appS, growD, Nat.reduceEqDiff, Nat.reduceLT, Nat.reduceAdd, Nat.reduceLeDiff, Nat.reduceMul, Nat.reduceBEq, Nat.reduceSub, Int.reduceLE, Int.reduceToNat, Int.reduceLT, Int.reduceNeg, encSIDBalanceNonce, encSLIDAmountNonce, encSAccounts, encSKindIDAmount, List.map_append, List.length_append, List.length_map, List.map_take, List.map_drop, List.length_drop, List.length_take, Nat.le_refl, true_and]
  refine hK _ ?_
  clear hK K
  try simp only [s_thN, s_thE, s_thR, s_blN, s_blE, s_blM, s_blR, Nat.reduceEqDiff]
  refine sat_block ?_
  refine sat_tok 3 (sz := 3) (l := List.map encSIDBalanceNonce ([] : List SIDBalanceNonce)) (by simp only [v1, v2, v3, v4, v5, v6, v7, v8, v9, tf1, tu, litOk, appOk, appS, growD, Nat.reduceEqDiff, Nat.reduceLT, Nat.reduceAdd, Nat.reduceLeDiff, Nat.reduceMul, Nat.reduceBEq, Nat.reduceSub, Int.reduceLE, Int.reduceToNat, Int.reduceLT, Int.reduceNeg, encSIDBalanceNonce, encSLIDAmountNonce, encSAccounts, encSKindIDAmount, e_gfF, e_gfN]) ?_
  simp only [v1, v2, v3, v4, v5, v6, v7, v8, v9, tf1, tu, litOk, appOk, appS, growD, Nat.reduceEqDiff, Nat.reduceLT, Nat.reduceAdd, Nat.reduceLeDiff, Nat.reduceMul, Nat.reduceBEq, Nat.reduceSub, Int.reduceLE, Int.reduceToNat, Int.reduceLT, Int.reduceNeg, encSIDBalanceNonce, encSLIDAmountNonce, encSAccounts, encSKindIDAmount, List.map_append, List.length_append, List.length_map, List.map_take, List.map_drop, List.length_drop, List.length_take, Nat.le_refl, true_and]
  obtain ⟨inv, μ, h0, hs⟩ := h
  refine sat_loop (ι := (List SIDBalanceNonce) × Int) (fun x => ⟨[(3, .own 1 3 (List.map encSIDBalanceNonce x.1)), (7, .d (.slice 3 (List.map encSIDBalanceNonce p0.Accounts))), (8, .d (.int .i64 ((List.length p0.Accounts : Nat) : Int))), (9, .d (.int .i64 x.2))], [(1, .tip (List.length x.1))], 2⟩) inv μ (([] : List SIDBalanceNonce), 0) h0 (by simp only [v1, v2, v3, v4, v5, v6, v7, v8, v9, tf1, tu, litOk, appOk, appS, growD, Nat.reduceEqDiff, Nat.reduceLT, Nat.reduceAdd, Nat.reduceLeDiff, Nat.reduceMul, Nat.reduceBEq, Nat.reduceSub, Int.reduceLE, Int.reduceToNat, Int.reduceLT, Int.reduceNeg, encSIDBalanceNonce, encSLIDAmountNonce, encSAccounts, encSKindIDAmount, vl, List.map_append, List.length_append, List.length_map, List.map_take, List.map_drop, List.length_drop, List.length_take, Nat.le_refl, true_and]) ?_
  rintro ⟨j3, j4⟩ hi
  have h : moidorelaw44_back_L1 p0 r0 _ j3 j4 := hs _ hi
  clear hs h0 hi
  generalize hnx : (fun s => inv s ∧ μ s < μ (j3, j4)) = nx1 at h
  show Sat _ _ _ _ _ _ ⟨[(3, .own 1 3 (List.map encSIDBalanceNonce j3)), (7, .d (.slice 3 (List.map encSIDBalanceNonce p0.Accounts))), (8, .d (.int .i64 ((List.length p0.Accounts : Nat) : Int))), (9, .d (.int .i64 j4))], [(1, .tip (List.length j3))], 2⟩ _
  unfold moidorelaw44_back_L1 at h
  refine sat_seq ?_
  refine sat_region fun K hK => ?_
  simp only [v1, v2, v3, v4, v5, v6, v7, v8, v9, tf1, tu, litOk, appOk, appS, growD, Nat.reduceEqDiff, Nat.reduceLT, Nat.reduceAdd, Nat.reduceLeDiff, Nat.reduceMul, Nat.reduceBEq, Nat.reduceSub, Int.reduceLE, Int.reduceToNat, Int.reduceLT, Int.reduceNeg, encSIDBalanceNonce, encSLIDAmountNonce, encSAccounts, encSKindIDAmount, List.map_append, List.length_append, List.length_map, List.map_take, List.map_drop, List.length_drop, List.length_take, Nat.le_refl, true_and]
  refine hK _ ?_
  clear hK K
  try simp only [s_thN, s_thE, s_thR, s_blN, s_blE, s_blM, s_blR, Nat.reduceEqDiff]
  refine sat_seq ?_
  refine sat_cond rfl (fun hb1 => ?_) (fun hb1 => ?_)
  · replace h := h.1 hb1
    refine sat_skip ?_
    try simp only [s_thN, s_thE, s_thR, s_blN, s_blE, s_blM, s_blR, Nat.reduceEqDiff]
    refine sat_seq ?_
    refine sat_block ?_
    refine sat_seq ?_
    obtain ⟨c1, c2, h⟩ := h
    refine sat_region fun K hK => ?_
    simp only [v1, v2, v3, v4, v5, v6, v7, v8, v9, tf1, tu, litOk, appOk, appS, growD, Nat.reduceEqDiff, Nat.reduceLT, Nat.reduceAdd, Nat.reduceLeDiff, Nat.reduceMul, Nat.reduceBEq, Nat.reduceSub, Int.reduceLE, Int.reduceToNat, Int.reduceLT, Int.reduceNeg, encSIDBalanceNonce, encSLIDAmountNonce, encSAccounts, encSKindIDAmount, c1, c2, elt_ix encSIDBalanceNonce p0.Accounts j4 c1 c2, List.map_append, List.length_append, List.length_map, List.map_take, List.map_drop, List.length_drop, List.length_take, Nat.le_refl, true_and]
    refine hK _ ?_
    clear hK K
    try simp only [s_thN, s_thE, s_thR, s_blN, s_blE, s_blM, s_blR, Nat.reduceEqDiff]
    obtain ⟨c3, c4, h⟩ := h
    refine sat_region fun K hK => ?_
    simp only [v1, v2, v3, v4, v5, v6, v7, v8, v9, tf1, tu, litOk, appOk, appS, growD, Nat.reduceEqDiff, Nat.reduceLT, Nat.reduceAdd, Nat.reduceLeDiff, Nat.reduceMul, Nat.reduceBEq, Nat.reduceSub, Int.reduceLE, Int.reduceToNat, Int.reduceLT, Int.reduceNeg, encSIDBalanceNonce, encSLIDAmountNonce, encSAccounts, encSKindIDAmount, c3, c4, List.map_append, List.length_append, List.length_map, List.map_take, List.map_drop, List.length_drop, List.length_take, Nat.le_refl, true_and]
    refine hK _ ?_
    clear hK K
    try simp only [s_thN, s_thE, s_thR, s_blN, s_blE, s_blM, s_blR, Nat.reduceEqDiff]
    refine sat_region fun K hK => ?_
    simp only [v1, v2, v3, v4, v5, v6, v7, v8, v9, tf1, tu, litOk, appOk, appS, growD, Nat.reduceEqDiff, Nat.reduceLT, Nat.reduceAdd, Nat.reduceLeDiff, Nat.reduceMul, Nat.reduceBEq, Nat.reduceSub, Int.reduceLE, Int.reduceToNat, Int.reduceLT, Int.reduceNeg, encSIDBalanceNonce, encSLIDAmountNonce, encSAccounts, encSKindIDAmount, List.map_append, List.length_append, List.length_map, List.map_take, List.map_drop, List.length_drop, List.length_take, Nat.le_refl, true_and]
    refine hK _ ?_
    clear hK K
    try simp only [s_thN, s_thE, s_thR, s_blN, s_blE, s_blM, s_blR, Nat.reduceEqDiff]
    rw [← hnx] at h
    exact ⟨(j3 ++ [(ix p0.Accounts j4)], IntKind.i64.wrap (j4 + 1)), h.1, h.2, by simp only [v1, v2, v3, v4, v5, v6, v7, v8, v9, tf1, tu, litOk, appOk, appS, growD, Nat.reduceEqDiff, Nat.reduceLT, Nat.reduceAdd, Nat.reduceLeDiff, Nat.reduceMul, Nat.reduceBEq, Nat.reduceSub, Int.reduceLE, Int.reduceToNat, Int.reduceLT, Int.reduceNeg, encSIDBalanceNonce, encSLIDAmountNonce, encSAccounts, encSKindIDAmount, vl, List.map_append, List.length_append, List.length_map, List.map_take, List.map_drop, List.length_drop, List.length_take, Nat.le_refl, true_and]⟩
  · replace h := h.2 hb1
    refine sat_exit ?_
    try simp only [s_thN, s_thE, s_thR, s_blN, s_blE, s_blM, s_blR, Nat.reduceEqDiff]
    refine sat_seq ?_
    refine sat_region fun K hK => ?_
    simp only [v1, v2, v3, v4, v5, v6, v7, v8, v9, tf1, tu, litOk, appOk, appS, growD, Nat.reduceEqDiff, Nat.reduceLT, Nat.reduceAdd, Nat.reduceLeDiff, Nat.reduceMul, Nat.reduceBEq, Nat.reduceSub, Int.reduceLE, Int.reduceToNat, Int.reduceLT, Int.reduceNeg, encSIDBalanceNonce, encSLIDAmountNonce, encSAccounts, encSKindIDAmount, List.map_append, List.length_append, List.length_map, List.map_take, List.map_drop, List.length_drop, List.length_take, Nat.le_refl, true_and]
    refine hK _ ?_
    clear hK K
    try simp only [s_thN, s_thE, s_thR, s_blN, s_blE, s_blM, s_blR, Nat.reduceEqDiff]
    subst h
    refine sat_ret (retN [] ?_)
    simp only [v1, v2, v3, v4, v5, v6, v7, v8, v9, tf1, tu, litOk, appOk, appS, growD, Nat.reduceEqDiff, Nat.reduceLT, Nat.reduceAdd, Nat.reduceLeDiff, Nat.reduceMul, Nat.reduceBEq, Nat.reduceSub, Int.reduceLE, Int.reduceToNat, Int.reduceLT, Int.reduceNeg, encSIDBalanceNonce, encSLIDAmountNonce, encSAccounts, encSKindIDAmount, vl, Try.results17, e_sp0, e_sp1, List.map_append, List.length_append, List.length_map, List.map_take, List.map_drop, List.length_drop, List.length_take, Nat.le_refl, true_and]
theorem moidorelaw44_LedgerUndo_ok (p0 : SLIDAmountNonce) (r0 : Bool) (h : moidorelaw44_LedgerUndo_Ret p0 r0) : SoundH Try.prog 5 [.agg [.d (.slice 3 (List.map encSIDBalanceNonce p0.L)), .d (.int .u64 p0.ID), .d (.int .u64 p0.Amount), .d (.int .u64 p0.Nonce)]] [] (.d (.bool r0)) [] := by
  refine sound_of Try.func5 rfl Try.ntmps5 (by simp) fun G0 w0 => ?_
  unfold moidorelaw44_LedgerUndo_Ret at h
  refine sat_seq ?_
  refine sat_region fun K hK => ?_
  simp only [v1, v2, v3, v4, v5, v6, v7, v8, v9, tf1, tu, litOk, appOk, appS, growD, Nat.reduceEqDiff, Nat.reduceLT, Nat.reduceAdd, Nat.reduceLeDiff, Nat.reduceMul, Nat.reduceBEq, Nat.reduceSub, Int.reduceLE, Int.reduceToNat, Int.reduceLT, Int.reduceNeg, encSIDBalanceNonce, encSLIDAmountNonce, encSAccounts, encSKindIDAmount, List.map_append, List.length_append, List.length_map, List.map_take, List.map_drop, List.length_drop, List.length_take, Nat.le_refl, true_and]
  refine hK _ ?_
  clear hK K
  try simp only [s_thN, s_thE, s_thR, s_blN, s_blE, s_blM, s_blR, Nat.reduceEqDiff]
  refine sat_seq ?_
  refine sat_join (ι := Bool) (fun x => ⟨[(1, .ptr 0 0), (17, .d (.bool x))], [(0, .cells [.d (.slice 3 (List.map encSIDBalanceNonce p0.L)), .d (.int .u64 p0.ID), .d (.int .u64 p0.Amount), .d (.int .u64 p0.Nonce)])], 1⟩) (fun x => moidorelaw44_LedgerUndo_J5 p0 r0 x) ?_ ?_
  · obtain ⟨y1, hr1, y2, hr2, h⟩ := h
    refine sat_region fun K hK => ?_
    simp only [v1, v2, v3, v4, v5, v6, v7, v8, v9, tf1, tu, litOk, appOk, appS, growD, Nat.reduceEqDiff, Nat.reduceLT, Nat.reduceAdd, Nat.reduceLeDiff, Nat.reduceMul, Nat.reduceBEq, Nat.reduceSub, Int.reduceLE, Int.reduceToNat, Int.reduceLT, Int.reduceNeg, encSIDBalanceNonce, encSLIDAmountNonce, encSAccounts, encSKindIDAmount, List.map_append, List.length_append, List.length_map, List.map_take, List.map_drop, List.length_drop, List.length_take, Nat.le_refl, true_and]
    refine a_call [] (moidorelaw44_awake_ok  y1 hr1) bd9 (by simp only [v1, v2, v3, v4, v5, v6, v7, v8, v9, tf1, tu, litOk, appOk, appS, growD, Nat.reduceEqDiff, Nat.reduceLT, Nat.reduceAdd, Nat.reduceLeDiff, Nat.reduceMul, Nat.reduceBEq, Nat.reduceSub, Int.reduceLE, Int.reduceToNat, Int.reduceLT, Int.reduceNeg, encSIDBalanceNonce, encSLIDAmountNonce, encSAccounts, encSKindIDAmount, callOk, vl, List.map_append, List.length_append, List.length_map, List.map_take, List.map_drop, List.length_drop, List.length_take, Nat.le_refl, true_and]) ?_
    simp only [v1, v2, v3, v4, v5, v6, v7, v8, v9, tf1, tu, litOk, appOk, appS, growD, Nat.reduceEqDiff, Nat.reduceLT, Nat.reduceAdd, Nat.reduceLeDiff, Nat.reduceMul, Nat.reduceBEq, Nat.reduceSub, Int.reduceLE, Int.reduceToNat, Int.reduceLT, Int.reduceNeg, encSIDBalanceNonce, encSLIDAmountNonce, encSAccounts, encSKindIDAmount, List.map_append, List.length_append, List.length_map, List.map_take, List.map_drop, List.length_drop, List.length_take, Nat.le_refl, true_and]
    refine A_guard_split (by simp only [v1, v2, v3, v4, v5, v6, v7, v8, v9, tf1, tu, litOk, appOk, appS, growD, Nat.reduceEqDiff, Nat.reduceLT, Nat.reduceAdd, Nat.reduceLeDiff, Nat.reduceMul, Nat.reduceBEq, Nat.reduceSub, Int.reduceLE, Int.reduceToNat, Int.reduceLT, Int.reduceNeg, encSIDBalanceNonce, encSLIDAmountNonce, encSAccounts, encSKindIDAmount]; rfl) (fun hg2 => ?_) (fun hg2 => ?_)
    · simp only [v1, v2, v3, v4, v5, v6, v7, v8, v9, tf1, tu, litOk, appOk, appS, growD, Nat.reduceEqDiff, Nat.reduceLT, Nat.reduceAdd, Nat.reduceLeDiff, Nat.reduceMul, Nat.reduceBEq, Nat.reduceSub, Int.reduceLE, Int.reduceToNat, Int.reduceLT, Int.reduceNeg, encSIDBalanceNonce, encSLIDAmountNonce, encSAccounts, encSKindIDAmount, hg2, List.map_append, List.length_append, List.length_map, List.map_take, List.map_drop, List.length_drop, List.length_take, Nat.le_refl, true_and]
      refine hK _ ?_
      clear hK K
      try simp only [s_thN, s_thE, s_thR, s_blN, s_blE, s_blM, s_blR, Nat.reduceEqDiff]
      exact ⟨(!y1) || (!y2), h, by simp only [v1, v2, v3, v4, v5, v6, v7, v8, v9, tf1, tu, litOk, appOk, appS, growD, Nat.reduceEqDiff, Nat.reduceLT, Nat.reduceAdd, Nat.reduceLeDiff, Nat.reduceMul, Nat.reduceBEq, Nat.reduceSub, Int.reduceLE, Int.reduceToNat, Int.reduceLT, Int.reduceNeg, encSIDBalanceNonce, encSLIDAmountNonce, encSAccounts, encSKindIDAmount, vl, hg2, List.map_append, List.length_append, List.length_map, List.map_take, List.map_drop, List.length_drop, List.length_take, Nat.le_refl, true_and]⟩
    · simp only [v1, v2, v3, v4, v5, v6, v7, v8, v9, tf1, tu, litOk, appOk, appS, growD, Nat.reduceEqDiff, Nat.reduceLT, Nat.reduceAdd, Nat.reduceLeDiff, Nat.reduceMul, Nat.reduceBEq, Nat.reduceSub, Int.reduceLE, Int.reduceToNat, Int.reduceLT, Int.reduceNeg, encSIDBalanceNonce, encSLIDAmountNonce, encSAccounts, encSKindIDAmount, hg2, List.map_append, List.length_append, List.length_map, List.map_take, List.map_drop, List.length_drop, List.length_take, Nat.le_refl, true_and]
      replace hr2 := hr2 (by simp only [v1, v2, v3, v4, v5, v6, v7, v8, v9, tf1, tu, litOk, appOk, appS, growD, Nat.reduceEqDiff, Nat.reduceLT, Nat.reduceAdd, Nat.reduceLeDiff, Nat.reduceMul, Nat.reduceBEq, Nat.reduceSub, Int.reduceLE, Int.reduceToNat, Int.reduceLT, Int.reduceNeg, encSIDBalanceNonce, encSLIDAmountNonce, encSAccounts, encSKindIDAmount, hg2])
      refine a_call [] (moidorelaw44_Case_right_ok p0 y2 hr2) bd10 (by simp only [v1, v2, v3, v4, v5, v6, v7, v8, v9, tf1, tu, litOk, appOk, appS, growD, Nat.reduceEqDiff, Nat.reduceLT, Nat.reduceAdd, Nat.reduceLeDiff, Nat.reduceMul, Nat.reduceBEq, Nat.reduceSub, Int.reduceLE, Int.reduceToNat, Int.reduceLT, Int.reduceNeg, encSIDBalanceNonce, encSLIDAmountNonce, encSAccounts, encSKindIDAmount, callOk, vl, hg2, List.map_append, List.length_append, List.length_map, List.map_take, List.map_drop, List.length_drop, List.length_take, Nat.le_refl, true_and]) ?_
      simp only [v1, v2, v3, v4, v5, v6, v7, v8, v9, tf1, tu, litOk, appOk, appS, growD, Nat.reduceEqDiff, Nat.reduceLT, Nat.reduceAdd, Nat.reduceLeDiff, Nat.reduceMul, Nat.reduceBEq, Nat.reduceSub, Int.reduceLE, Int.reduceToNat, Int.reduceLT, Int.reduceNeg, encSIDBalanceNonce, encSLIDAmountNonce, encSAccounts, encSKindIDAmount, hg2, List.map_append, List.length_append, List.length_map, List.map_take, List.map_drop, List.length_drop, List.length_take, Nat.le_refl, true_and]
      refine hK _ ?_
      clear hK K
      try simp only [s_thN, s_thE, s_thR, s_blN, s_blE, s_blM, s_blR, Nat.reduceEqDiff]
      exact ⟨(!y1) || (!y2), h, by simp only [v1, v2, v3, v4, v5, v6, v7, v8, v9, tf1, tu, litOk, appOk, appS, growD, Nat.reduceEqDiff, Nat.reduceLT, Nat.reduceAdd, Nat.reduceLeDiff, Nat.reduceMul, Nat.reduceBEq, Nat.reduceSub, Int.reduceLE, Int.reduceToNat, Int.reduceLT, Int.reduceNeg, encSIDBalanceNonce, encSLIDAmountNonce, encSAccounts, encSKindIDAmount, vl, hg2, List.map_append, List.length_append, List.length_map, List.map_take, List.map_drop, List.length_drop, List.length_take, Nat.le_refl, true_and]⟩
  · intro b1 h
    have h : moidorelaw44_LedgerUndo_J5 p0 r0 b1 := h
    show Sat _ _ _ _ _ _ ⟨[(1, .ptr 0 0), (17, .d (.bool b1))], [(0, .cells [.d (.slice 3 (List.map encSIDBalanceNonce p0.L)), .d (.int .u64 p0.ID), .d (.int .u64 p0.Amount), .d (.int .u64 p0.Nonce)])], 1⟩ _
    unfold moidorelaw44_LedgerUndo_J5 at h
    refine sat_cond rfl (fun hb1 => ?_) (fun hb1 => ?_)
    · replace h := h.1 hb1
      refine sat_seq ?_
      obtain ⟨y3, hr3, h⟩ := h
      refine sat_region fun K hK => ?_
      simp only [v1, v2, v3, v4, v5, v6, v7, v8, v9, tf1, tu, litOk, appOk, appS, growD, Nat.reduceEqDiff, Nat.reduceLT, Nat.reduceAdd, Nat.reduceLeDiff, Nat.reduceMul, Nat.reduceBEq, Nat.reduceSub, Int.reduceLE, Int.reduceToNat, Int.reduceLT, Int.reduceNeg, encSIDBalanceNonce, encSLIDAmountNonce, encSAccounts, encSKindIDAmount, List.map_append, List.length_append, List.length_map, List.map_take, List.map_drop, List.length_drop, List.length_take, Nat.le_refl, true_and]
      refine a_call [] (moidorelaw44_awake_ok  y3 hr3) bd9 (by simp only [v1, v2, v3, v4, v5, v6, v7, v8, v9, tf1, tu, litOk, appOk, appS, growD, Nat.reduceEqDiff, Nat.reduceLT, Nat.reduceAdd, Nat.reduceLeDiff, Nat.reduceMul, Nat.reduceBEq, Nat.reduceSub, Int.reduceLE, Int.reduceToNat, Int.reduceLT, Int.reduceNeg, encSIDBalanceNonce, encSLIDAmountNonce, encSAccounts, encSKindIDAmount, callOk, vl, List.map_append, List.length_append, List.length_map, List.map_take, List.map_drop, List.length_drop, List.length_take, Nat.le_refl, true_and]) ?_
      simp only [v1, v2, v3, v4, v5, v6, v7, v8, v9, tf1, tu, litOk, appOk, appS, growD, Nat.reduceEqDiff, Nat.reduceLT, Nat.reduceAdd, Nat.reduceLeDiff, Nat.reduceMul, Nat.reduceBEq, Nat.reduceSub, Int.reduceLE, Int.reduceToNat, Int.reduceLT, Int.reduceNeg, encSIDBalanceNonce, encSLIDAmountNonce, encSAccounts, encSKindIDAmount, List.map_append, List.length_append, List.length_map, List.map_take, List.map_drop, List.length_drop, List.length_take, Nat.le_refl, true_and]
      refine hK _ ?_
      clear hK K
      try simp only [s_thN, s_thE, s_thR, s_blN, s_blE, s_blM, s_blR, Nat.reduceEqDiff]
      subst h
      refine sat_ret (retN [] ?_)
      simp only [v1, v2, v3, v4, v5, v6, v7, v8, v9, tf1, tu, litOk, appOk, appS, growD, Nat.reduceEqDiff, Nat.reduceLT, Nat.reduceAdd, Nat.reduceLeDiff, Nat.reduceMul, Nat.reduceBEq, Nat.reduceSub, Int.reduceLE, Int.reduceToNat, Int.reduceLT, Int.reduceNeg, encSIDBalanceNonce, encSLIDAmountNonce, encSAccounts, encSKindIDAmount, vl, Try.results5, e_sp0, e_sp1, List.map_append, List.length_append, List.length_map, List.map_take, List.map_drop, List.length_drop, List.length_take, Nat.le_refl, true_and]
    · replace h := h.2 hb1
      refine sat_skip ?_
      try simp only [s_thN, s_thE, s_thR, s_blN, s_blE, s_blM, s_blR, Nat.reduceEqDiff]
      refine sat_seq ?_
      obtain ⟨y4, hr4, h⟩ := h
      refine sat_region fun K hK => ?_
      simp only [v1, v2, v3, v4, v5, v6, v7, v8, v9, tf1, tu, litOk, appOk, appS, growD, Nat.reduceEqDiff, Nat.reduceLT, Nat.reduceAdd, Nat.reduceLeDiff, Nat.reduceMul, Nat.reduceBEq, Nat.reduceSub, Int.reduceLE, Int.reduceToNat, Int.reduceLT, Int.reduceNeg, encSIDBalanceNonce, encSLIDAmountNonce, encSAccounts, encSKindIDAmount, List.map_append, List.length_append, List.length_map, List.map_take, List.map_drop, List.length_drop, List.length_take, Nat.le_refl, true_and]
      refine a_call [] (moidorelaw44_own_ok p0.L y4 hr4) bd12 (by simp only [v1, v2, v3, v4, v5, v6, v7, v8, v9, tf1, tu, litOk, appOk, appS, growD, Nat.reduceEqDiff, Nat.reduceLT, Nat.reduceAdd, Nat.reduceLeDiff, Nat.reduceMul, Nat.reduceBEq, Nat.reduceSub, Int.reduceLE, Int.reduceToNat, Int.reduceLT, Int.reduceNeg, encSIDBalanceNonce, encSLIDAmountNonce, encSAccounts, encSKindIDAmount, callOk, vl, List.map_append, List.length_append, List.length_map, List.map_take, List.map_drop, List.length_drop, List.length_take, Nat.le_refl, true_and]) ?_
      simp only [v1, v2, v3, v4, v5, v6, v7, v8, v9, tf1, tu, litOk, appOk, appS, growD, Nat.reduceEqDiff, Nat.reduceLT, Nat.reduceAdd, Nat.reduceLeDiff, Nat.reduceMul, Nat.reduceBEq, Nat.reduceSub, Int.reduceLE, Int.reduceToNat, Int.reduceLT, Int.reduceNeg, encSIDBalanceNonce, encSLIDAmountNonce, encSAccounts, encSKindIDAmount, List.map_append, List.length_append, List.length_map, List.map_take, List.map_drop, List.length_drop, List.length_take, Nat.le_refl, true_and]
      refine hK _ ?_
      clear hK K
      try simp only [s_thN, s_thE, s_thR, s_blN, s_blE, s_blM, s_blR, Nat.reduceEqDiff]
      refine sat_seq ?_
      obtain ⟨y5, y6, hr5, h⟩ := h
      refine sat_region fun K hK => ?_
      simp only [v1, v2, v3, v4, v5, v6, v7, v8, v9, tf1, tu, litOk, appOk, appS, growD, Nat.reduceEqDiff, Nat.reduceLT, Nat.reduceAdd, Nat.reduceLeDiff, Nat.reduceMul, Nat.reduceBEq, Nat.reduceSub, Int.reduceLE, Int.reduceToNat, Int.reduceLT, Int.reduceNeg, encSIDBalanceNonce, encSLIDAmountNonce, encSAccounts, encSKindIDAmount, List.map_append, List.length_append, List.length_map, List.map_take, List.map_drop, List.length_drop, List.length_take, Nat.le_refl, true_and]
      refine a_call [] (ledger_Credit_ok y4 p0.ID p0.Amount y5 y6 hr5) bd11 (by simp only [v1, v2, v3, v4, v5, v6, v7, v8, v9, tf1, tu, litOk, appOk, appS, growD, Nat.reduceEqDiff, Nat.reduceLT, Nat.reduceAdd, Nat.reduceLeDiff, Nat.reduceMul, Nat.reduceBEq, Nat.reduceSub, Int.reduceLE, Int.reduceToNat, Int.reduceLT, Int.reduceNeg, encSIDBalanceNonce, encSLIDAmountNonce, encSAccounts, encSKindIDAmount, callOk, vl, List.map_append, List.length_append, List.length_map, List.map_take, List.map_drop, List.length_drop, List.length_take, Nat.le_refl, true_and]) ?_
      simp only [v1, v2, v3, v4, v5, v6, v7, v8, v9, tf1, tu, litOk, appOk, appS, growD, Nat.reduceEqDiff, Nat.reduceLT, Nat.reduceAdd, Nat.reduceLeDiff, Nat.reduceMul, Nat.reduceBEq, Nat.reduceSub, Int.reduceLE, Int.reduceToNat, Int.reduceLT, Int.reduceNeg, encSIDBalanceNonce, encSLIDAmountNonce, encSAccounts, encSKindIDAmount, List.map_append, List.length_append, List.length_map, List.map_take, List.map_drop, List.length_drop, List.length_take, Nat.le_refl, true_and]
      refine hK _ ?_
      clear hK K
      try simp only [s_thN, s_thE, s_thR, s_blN, s_blE, s_blM, s_blR, Nat.reduceEqDiff]
      refine sat_join (ι := Unit) (fun x => ⟨[(1, .ptr 0 0), (3, .ptr 1 0)], [(0, .cells [.d (.slice 3 (List.map encSIDBalanceNonce p0.L)), .d (.int .u64 p0.ID), .d (.int .u64 p0.Amount), .d (.int .u64 p0.Nonce)]), (1, .cells [.d (.slice 3 (List.map encSIDBalanceNonce y4.Accounts))])], 3⟩) (fun x => moidorelaw44_LedgerUndo_J3 p0 r0 y4) ?_ ?_
      · refine sat_seq ?_
        refine sat_region fun K hK => ?_
        simp only [v1, v2, v3, v4, v5, v6, v7, v8, v9, tf1, tu, litOk, appOk, appS, growD, Nat.reduceEqDiff, Nat.reduceLT, Nat.reduceAdd, Nat.reduceLeDiff, Nat.reduceMul, Nat.reduceBEq, Nat.reduceSub, Int.reduceLE, Int.reduceToNat, Int.reduceLT, Int.reduceNeg, encSIDBalanceNonce, encSLIDAmountNonce, encSAccounts, encSKindIDAmount, List.map_append, List.length_append, List.length_map, List.map_take, List.map_drop, List.length_drop, List.length_take, Nat.le_refl, true_and]
        refine hK _ ?_
        clear hK K
        try simp only [s_thN, s_thE, s_thR, s_blN, s_blE, s_blM, s_blR, Nat.reduceEqDiff]
        refine sat_cond rfl (fun hb2 => ?_) (fun hb2 => ?_)
        · replace h := h.1 hb2
          refine sat_seq ?_
          obtain ⟨y7, y8, hr6, h⟩ := h
          refine sat_region fun K hK => ?_
          simp only [v1, v2, v3, v4, v5, v6, v7, v8, v9, tf1, tu, litOk, appOk, appS, growD, Nat.reduceEqDiff, Nat.reduceLT, Nat.reduceAdd, Nat.reduceLeDiff, Nat.reduceMul, Nat.reduceBEq, Nat.reduceSub, Int.reduceLE, Int.reduceToNat, Int.reduceLT, Int.reduceNeg, encSIDBalanceNonce, encSLIDAmountNonce, encSAccounts, encSKindIDAmount, List.map_append, List.length_append, List.length_map, List.map_take, List.map_drop, List.length_drop, List.length_take, Nat.le_refl, true_and]
          refine a_call [] (ledger_Uncredit_ok y5 p0.ID p0.Amount y7 y8 hr6) bd14 (by simp only [v1, v2, v3, v4, v5, v6, v7, v8, v9, tf1, tu, litOk, appOk, appS, growD, Nat.reduceEqDiff, Nat.reduceLT, Nat.reduceAdd, Nat.reduceLeDiff, Nat.reduceMul, Nat.reduceBEq, Nat.reduceSub, Int.reduceLE, Int.reduceToNat, Int.reduceLT, Int.reduceNeg, encSIDBalanceNonce, encSLIDAmountNonce, encSAccounts, encSKindIDAmount, callOk, vl, List.map_append, List.length_append, List.length_map, List.map_take, List.map_drop, List.length_drop, List.length_take, Nat.le_refl, true_and]) ?_
          simp only [v1, v2, v3, v4, v5, v6, v7, v8, v9, tf1, tu, litOk, appOk, appS, growD, Nat.reduceEqDiff, Nat.reduceLT, Nat.reduceAdd, Nat.reduceLeDiff, Nat.reduceMul, Nat.reduceBEq, Nat.reduceSub, Int.reduceLE, Int.reduceToNat, Int.reduceLT, Int.reduceNeg, encSIDBalanceNonce, encSLIDAmountNonce, encSAccounts, encSKindIDAmount, List.map_append, List.length_append, List.length_map, List.map_take, List.map_drop, List.length_drop, List.length_take, Nat.le_refl, true_and]
          refine hK _ ?_
          clear hK K
          try simp only [s_thN, s_thE, s_thR, s_blN, s_blE, s_blM, s_blR, Nat.reduceEqDiff]
          refine sat_join (ι := Bool) (fun x => ⟨[(1, .ptr 0 0), (3, .ptr 1 0), (51, .d (.bool x))], [(0, .cells [.d (.slice 3 (List.map encSIDBalanceNonce p0.L)), .d (.int .u64 p0.ID), .d (.int .u64 p0.Amount), .d (.int .u64 p0.Nonce)]), (1, .cells [.d (.slice 3 (List.map encSIDBalanceNonce y4.Accounts))])], 4⟩) (fun x => moidorelaw44_LedgerUndo_J4 p0 r0 y4 x) ?_ ?_
          · obtain ⟨y9, hr7, y10, hr8, h⟩ := h
            refine sat_drawn 1 mix (by kernel_rfl) fun K hK => ?_
            simp only [v1, v2, v3, v4, v5, v6, v7, v8, v9, tf1, tu, litOk, appOk, appS, growD, Nat.reduceEqDiff, Nat.reduceLT, Nat.reduceAdd, Nat.reduceLeDiff, Nat.reduceMul, Nat.reduceBEq, Nat.reduceSub, Int.reduceLE, Int.reduceToNat, Int.reduceLT, Int.reduceNeg, encSIDBalanceNonce, encSLIDAmountNonce, encSAccounts, encSKindIDAmount, List.map_append, List.length_append, List.length_map, List.map_take, List.map_drop, List.length_drop, List.length_take, Nat.le_refl, true_and]
            refine D_guard_split (by simp only [v1, v2, v3, v4, v5, v6, v7, v8, v9, tf1, tu, litOk, appOk, appS, growD, Nat.reduceEqDiff, Nat.reduceLT, Nat.reduceAdd, Nat.reduceLeDiff, Nat.reduceMul, Nat.reduceBEq, Nat.reduceSub, Int.reduceLE, Int.reduceToNat, Int.reduceLT, Int.reduceNeg, encSIDBalanceNonce, encSLIDAmountNonce, encSAccounts, encSKindIDAmount]; rfl) (fun hg1 => ?_) (fun hg1 => ?_)
            · simp only [v1, v2, v3, v4, v5, v6, v7, v8, v9, tf1, tu, litOk, appOk, appS, growD, Nat.reduceEqDiff, Nat.reduceLT, Nat.reduceAdd, Nat.reduceLeDiff, Nat.reduceMul, Nat.reduceBEq, Nat.reduceSub, Int.reduceLE, Int.reduceToNat, Int.reduceLT, Int.reduceNeg, encSIDBalanceNonce, encSLIDAmountNonce, encSAccounts, encSKindIDAmount, hg1, List.map_append, List.length_append, List.length_map, List.map_take, List.map_drop, List.length_drop, List.length_take, Nat.le_refl, true_and]
              refine hK _ ?_
              clear hK K
              try simp only [s_thN, s_thE, s_thR, s_blN, s_blE, s_blM, s_blR, Nat.reduceEqDiff]
              exact ⟨(y8 != 0) || (!y10), h, by simp only [v1, v2, v3, v4, v5, v6, v7, v8, v9, tf1, tu, litOk, appOk, appS, growD, Nat.reduceEqDiff, Nat.reduceLT, Nat.reduceAdd, Nat.reduceLeDiff, Nat.reduceMul, Nat.reduceBEq, Nat.reduceSub, Int.reduceLE, Int.reduceToNat, Int.reduceLT, Int.reduceNeg, encSIDBalanceNonce, encSLIDAmountNonce, encSAccounts, encSKindIDAmount, vl, hg1, List.map_append, List.length_append, List.length_map, List.map_take, List.map_drop, List.length_drop, List.length_take, Nat.le_refl, true_and]⟩
            · simp only [v1, v2, v3, v4, v5, v6, v7, v8, v9, tf1, tu, litOk, appOk, appS, growD, Nat.reduceEqDiff, Nat.reduceLT, Nat.reduceAdd, Nat.reduceLeDiff, Nat.reduceMul, Nat.reduceBEq, Nat.reduceSub, Int.reduceLE, Int.reduceToNat, Int.reduceLT, Int.reduceNeg, encSIDBalanceNonce, encSLIDAmountNonce, encSAccounts, encSKindIDAmount, hg1, List.map_append, List.length_append, List.length_map, List.map_take, List.map_drop, List.length_drop, List.length_take, Nat.le_refl, true_and]
              replace hr7 := hr7 (by simp only [v1, v2, v3, v4, v5, v6, v7, v8, v9, tf1, tu, litOk, appOk, appS, growD, Nat.reduceEqDiff, Nat.reduceLT, Nat.reduceAdd, Nat.reduceLeDiff, Nat.reduceMul, Nat.reduceBEq, Nat.reduceSub, Int.reduceLE, Int.reduceToNat, Int.reduceLT, Int.reduceNeg, encSIDBalanceNonce, encSLIDAmountNonce, encSAccounts, encSKindIDAmount, hg1])
              refine d_call [] (moidorelaw44_back_okD y7 y9 hr7) bd17 (by simp only [v1, v2, v3, v4, v5, v6, v7, v8, v9, tf1, tu, litOk, appOk, appS, growD, Nat.reduceEqDiff, Nat.reduceLT, Nat.reduceAdd, Nat.reduceLeDiff, Nat.reduceMul, Nat.reduceBEq, Nat.reduceSub, Int.reduceLE, Int.reduceToNat, Int.reduceLT, Int.reduceNeg, encSIDBalanceNonce, encSLIDAmountNonce, encSAccounts, encSKindIDAmount, callOk, vl, hg1, List.map_append, List.length_append, List.length_map, List.map_take, List.map_drop, List.length_drop, List.length_take, Nat.le_refl, true_and]) ?_
              simp only [v1, v2, v3, v4, v5, v6, v7, v8, v9, tf1, tu, litOk, appOk, appS, growD, Nat.reduceEqDiff, Nat.reduceLT, Nat.reduceAdd, Nat.reduceLeDiff, Nat.reduceMul, Nat.reduceBEq, Nat.reduceSub, Int.reduceLE, Int.reduceToNat, Int.reduceLT, Int.reduceNeg, encSIDBalanceNonce, encSLIDAmountNonce, encSAccounts, encSKindIDAmount, hg1, List.map_append, List.length_append, List.length_map, List.map_take, List.map_drop, List.length_drop, List.length_take, Nat.le_refl, true_and]
              replace hr8 := hr8 (by simp only [v1, v2, v3, v4, v5, v6, v7, v8, v9, tf1, tu, litOk, appOk, appS, growD, Nat.reduceEqDiff, Nat.reduceLT, Nat.reduceAdd, Nat.reduceLeDiff, Nat.reduceMul, Nat.reduceBEq, Nat.reduceSub, Int.reduceLE, Int.reduceToNat, Int.reduceLT, Int.reduceNeg, encSIDBalanceNonce, encSLIDAmountNonce, encSAccounts, encSKindIDAmount, hg1])
              refine d_call [] (moidoreref44_Same_ok y9 p0.L y10 hr8) bd16 (by simp only [v1, v2, v3, v4, v5, v6, v7, v8, v9, tf1, tu, litOk, appOk, appS, growD, Nat.reduceEqDiff, Nat.reduceLT, Nat.reduceAdd, Nat.reduceLeDiff, Nat.reduceMul, Nat.reduceBEq, Nat.reduceSub, Int.reduceLE, Int.reduceToNat, Int.reduceLT, Int.reduceNeg, encSIDBalanceNonce, encSLIDAmountNonce, encSAccounts, encSKindIDAmount, callOk, vl, hg1, List.map_append, List.length_append, List.length_map, List.map_take, List.map_drop, List.length_drop, List.length_take, Nat.le_refl, true_and]) ?_
              simp only [v1, v2, v3, v4, v5, v6, v7, v8, v9, tf1, tu, litOk, appOk, appS, growD, Nat.reduceEqDiff, Nat.reduceLT, Nat.reduceAdd, Nat.reduceLeDiff, Nat.reduceMul, Nat.reduceBEq, Nat.reduceSub, Int.reduceLE, Int.reduceToNat, Int.reduceLT, Int.reduceNeg, encSIDBalanceNonce, encSLIDAmountNonce, encSAccounts, encSKindIDAmount, hg1, List.map_append, List.length_append, List.length_map, List.map_take, List.map_drop, List.length_drop, List.length_take, Nat.le_refl, true_and]
              refine hK _ ?_
              clear hK K
              try simp only [s_thN, s_thE, s_thR, s_blN, s_blE, s_blM, s_blR, Nat.reduceEqDiff]
              exact ⟨(y8 != 0) || (!y10), h, by simp only [v1, v2, v3, v4, v5, v6, v7, v8, v9, tf1, tu, litOk, appOk, appS, growD, Nat.reduceEqDiff, Nat.reduceLT, Nat.reduceAdd, Nat.reduceLeDiff, Nat.reduceMul, Nat.reduceBEq, Nat.reduceSub, Int.reduceLE, Int.reduceToNat, Int.reduceLT, Int.reduceNeg, encSIDBalanceNonce, encSLIDAmountNonce, encSAccounts, encSKindIDAmount, vl, hg1, List.map_append, List.length_append, List.length_map, List.map_take, List.map_drop, List.length_drop, List.length_take, Nat.le_refl, true_and]⟩
          · intro b2 h
            have h : moidorelaw44_LedgerUndo_J4 p0 r0 y4 b2 := h
            show Sat _ _ _ _ _ _ ⟨[(1, .ptr 0 0), (3, .ptr 1 0), (51, .d (.bool b2))], [(0, .cells [.d (.slice 3 (List.map encSIDBalanceNonce p0.L)), .d (.int .u64 p0.ID), .d (.int .u64 p0.Amount), .d (.int .u64 p0.Nonce)]), (1, .cells [.d (.slice 3 (List.map encSIDBalanceNonce y4.Accounts))])], 4⟩ _
            unfold moidorelaw44_LedgerUndo_J4 at h
            refine sat_cond rfl (fun hb3 => ?_) (fun hb3 => ?_)
            · replace h := h.1 hb3
              refine sat_seq ?_
              refine sat_region fun K hK => ?_
              simp only [v1, v2, v3, v4, v5, v6, v7, v8, v9, tf1, tu, litOk, appOk, appS, growD, Nat.reduceEqDiff, Nat.reduceLT, Nat.reduceAdd, Nat.reduceLeDiff, Nat.reduceMul, Nat.reduceBEq, Nat.reduceSub, Int.reduceLE, Int.reduceToNat, Int.reduceLT, Int.reduceNeg, encSIDBalanceNonce, encSLIDAmountNonce, encSAccounts, encSKindIDAmount, List.map_append, List.length_append, List.length_map, List.map_take, List.map_drop, List.length_drop, List.length_take, Nat.le_refl, true_and]
              refine hK _ ?_
              clear hK K
              try simp only [s_thN, s_thE, s_thR, s_blN, s_blE, s_blM, s_blR, Nat.reduceEqDiff]
              subst h
              refine sat_ret (retN [] ?_)
              simp only [v1, v2, v3, v4, v5, v6, v7, v8, v9, tf1, tu, litOk, appOk, appS, growD, Nat.reduceEqDiff, Nat.reduceLT, Nat.reduceAdd, Nat.reduceLeDiff, Nat.reduceMul, Nat.reduceBEq, Nat.reduceSub, Int.reduceLE, Int.reduceToNat, Int.reduceLT, Int.reduceNeg, encSIDBalanceNonce, encSLIDAmountNonce, encSAccounts, encSKindIDAmount, vl, Try.results5, e_sp0, e_sp1, List.map_append, List.length_append, List.length_map, List.map_take, List.map_drop, List.length_drop, List.length_take, Nat.le_refl, true_and]
            · replace h := h.2 hb3
              refine sat_skip ?_
              try simp only [s_thN, s_thE, s_thR, s_blN, s_blE, s_blM, s_blR, Nat.reduceEqDiff]
              exact ⟨(), h, by simp only [v1, v2, v3, v4, v5, v6, v7, v8, v9, tf1, tu, litOk, appOk, appS, growD, Nat.reduceEqDiff, Nat.reduceLT, Nat.reduceAdd, Nat.reduceLeDiff, Nat.reduceMul, Nat.reduceBEq, Nat.reduceSub, Int.reduceLE, Int.reduceToNat, Int.reduceLT, Int.reduceNeg, encSIDBalanceNonce, encSLIDAmountNonce, encSAccounts, encSKindIDAmount, vl, List.map_append, List.length_append, List.length_map, List.map_take, List.map_drop, List.length_drop, List.length_take, Nat.le_refl, true_and]⟩
        · replace h := h.2 hb2
          refine sat_skip ?_
          try simp only [s_thN, s_thE, s_thR, s_blN, s_blE, s_blM, s_blR, Nat.reduceEqDiff]
          exact ⟨(), h, by simp only [v1, v2, v3, v4, v5, v6, v7, v8, v9, tf1, tu, litOk, appOk, appS, growD, Nat.reduceEqDiff, Nat.reduceLT, Nat.reduceAdd, Nat.reduceLeDiff, Nat.reduceMul, Nat.reduceBEq, Nat.reduceSub, Int.reduceLE, Int.reduceToNat, Int.reduceLT, Int.reduceNeg, encSIDBalanceNonce, encSLIDAmountNonce, encSAccounts, encSKindIDAmount, vl, List.map_append, List.length_append, List.length_map, List.map_take, List.map_drop, List.length_drop, List.length_take, Nat.le_refl, true_and]⟩
      · intro _u h
        have h : moidorelaw44_LedgerUndo_J3 p0 r0 y4 := h
        show Sat _ _ _ _ _ _ ⟨[(1, .ptr 0 0), (3, .ptr 1 0)], [(0, .cells [.d (.slice 3 (List.map encSIDBalanceNonce p0.L)), .d (.int .u64 p0.ID), .d (.int .u64 p0.Amount), .d (.int .u64 p0.Nonce)]), (1, .cells [.d (.slice 3 (List.map encSIDBalanceNonce y4.Accounts))])], 3⟩ _
        unfold moidorelaw44_LedgerUndo_J3 at h
        refine sat_seq ?_
        obtain ⟨y7, y8, hr6, h⟩ := h
        refine sat_region fun K hK => ?_
        simp only [v1, v2, v3, v4, v5, v6, v7, v8, v9, tf1, tu, litOk, appOk, appS, growD, Nat.reduceEqDiff, Nat.reduceLT, Nat.reduceAdd, Nat.reduceLeDiff, Nat.reduceMul, Nat.reduceBEq, Nat.reduceSub, Int.reduceLE, Int.reduceToNat, Int.reduceLT, Int.reduceNeg, encSIDBalanceNonce, encSLIDAmountNonce, encSAccounts, encSKindIDAmount, List.map_append, List.length_append, List.length_map, List.map_take, List.map_drop, List.length_drop, List.length_take, Nat.le_refl, true_and]
        refine a_call [] (ledger_Debit_ok y4 p0.ID p0.Amount p0.Nonce y7 y8 hr6) bd18 (by simp only [v1, v2, v3, v4, v5, v6, v7, v8, v9, tf1, tu, litOk, appOk, appS, growD, Nat.reduceEqDiff, Nat.reduceLT, Nat.reduceAdd, Nat.reduceLeDiff, Nat.reduceMul, Nat.reduceBEq, Nat.reduceSub, Int.reduceLE, Int.reduceToNat, Int.reduceLT, Int.reduceNeg, encSIDBalanceNonce, encSLIDAmountNonce, encSAccounts, encSKindIDAmount, callOk, vl, List.map_append, List.length_append, List.length_map, List.map_take, List.map_drop, List.length_drop, List.length_take, Nat.le_refl, true_and]) ?_
        simp only [v1, v2, v3, v4, v5, v6, v7, v8, v9, tf1, tu, litOk, appOk, appS, growD, Nat.reduceEqDiff, Nat.reduceLT, Nat.reduceAdd, Nat.reduceLeDiff, Nat.reduceMul, Nat.reduceBEq, Nat.reduceSub, Int.reduceLE, Int.reduceToNat, Int.reduceLT, Int.reduceNeg, encSIDBalanceNonce, encSLIDAmountNonce, encSAccounts, encSKindIDAmount, List.map_append, List.length_append, List.length_map, List.map_take, List.map_drop, List.length_drop, List.length_take, Nat.le_refl, true_and]
        refine hK _ ?_
        clear hK K
        try simp only [s_thN, s_thE, s_thR, s_blN, s_blE, s_blM, s_blR, Nat.reduceEqDiff]
        refine sat_join (ι := Unit) (fun x => ⟨[(1, .ptr 0 0), (3, .ptr 1 0)], [(0, .cells [.d (.slice 3 (List.map encSIDBalanceNonce p0.L)), .d (.int .u64 p0.ID), .d (.int .u64 p0.Amount), .d (.int .u64 p0.Nonce)]), (1, .cells [.d (.slice 3 (List.map encSIDBalanceNonce y4.Accounts))])], 4⟩) (fun x => moidorelaw44_LedgerUndo_J1 p0 r0 y4) ?_ ?_
        · refine sat_seq ?_
          refine sat_region fun K hK => ?_
          simp only [v1, v2, v3, v4, v5, v6, v7, v8, v9, tf1, tu, litOk, appOk, appS, growD, Nat.reduceEqDiff, Nat.reduceLT, Nat.reduceAdd, Nat.reduceLeDiff, Nat.reduceMul, Nat.reduceBEq, Nat.reduceSub, Int.reduceLE, Int.reduceToNat, Int.reduceLT, Int.reduceNeg, encSIDBalanceNonce, encSLIDAmountNonce, encSAccounts, encSKindIDAmount, List.map_append, List.length_append, List.length_map, List.map_take, List.map_drop, List.length_drop, List.length_take, Nat.le_refl, true_and]
          refine hK _ ?_
          clear hK K
          try simp only [s_thN, s_thE, s_thR, s_blN, s_blE, s_blM, s_blR, Nat.reduceEqDiff]
          refine sat_cond rfl (fun hb2 => ?_) (fun hb2 => ?_)
          · replace h := h.1 hb2
            refine sat_seq ?_
            obtain ⟨y9, y10, hr7, h⟩ := h
            refine sat_region fun K hK => ?_
            simp only [v1, v2, v3, v4, v5, v6, v7, v8, v9, tf1, tu, litOk, appOk, appS, growD, Nat.reduceEqDiff, Nat.reduceLT, Nat.reduceAdd, Nat.reduceLeDiff, Nat.reduceMul, Nat.reduceBEq, Nat.reduceSub, Int.reduceLE, Int.reduceToNat, Int.reduceLT, Int.reduceNeg, encSIDBalanceNonce, encSLIDAmountNonce, encSAccounts, encSKindIDAmount, List.map_append, List.length_append, List.length_map, List.map_take, List.map_drop, List.length_drop, List.length_take, Nat.le_refl, true_and]
            refine a_call [] (ledger_Undebit_ok y7 p0.ID p0.Amount p0.Nonce y9 y10 hr7) bd20 (by simp only [v1, v2, v3, v4, v5, v6, v7, v8, v9, tf1, tu, litOk, appOk, appS, growD, Nat.reduceEqDiff, Nat.reduceLT, Nat.reduceAdd, Nat.reduceLeDiff, Nat.reduceMul, Nat.reduceBEq, Nat.reduceSub, Int.reduceLE, Int.reduceToNat, Int.reduceLT, Int.reduceNeg, encSIDBalanceNonce, encSLIDAmountNonce, encSAccounts, encSKindIDAmount, callOk, vl, List.map_append, List.length_append, List.length_map, List.map_take, List.map_drop, List.length_drop, List.length_take, Nat.le_refl, true_and]) ?_
            simp only [v1, v2, v3, v4, v5, v6, v7, v8, v9, tf1, tu, litOk, appOk, appS, growD, Nat.reduceEqDiff, Nat.reduceLT, Nat.reduceAdd, Nat.reduceLeDiff, Nat.reduceMul, Nat.reduceBEq, Nat.reduceSub, Int.reduceLE, Int.reduceToNat, Int.reduceLT, Int.reduceNeg, encSIDBalanceNonce, encSLIDAmountNonce, encSAccounts, encSKindIDAmount, List.map_append, List.length_append, List.length_map, List.map_take, List.map_drop, List.length_drop, List.length_take, Nat.le_refl, true_and]
            refine hK _ ?_
            clear hK K
            try simp only [s_thN, s_thE, s_thR, s_blN, s_blE, s_blM, s_blR, Nat.reduceEqDiff]
            refine sat_join (ι := Bool) (fun x => ⟨[(1, .ptr 0 0), (3, .ptr 1 0), (85, .d (.bool x))], [(0, .cells [.d (.slice 3 (List.map encSIDBalanceNonce p0.L)), .d (.int .u64 p0.ID), .d (.int .u64 p0.Amount), .d (.int .u64 p0.Nonce)]), (1, .cells [.d (.slice 3 (List.map encSIDBalanceNonce y4.Accounts))])], 5⟩) (fun x => moidorelaw44_LedgerUndo_J2 p0 r0 y4 x) ?_ ?_
            · obtain ⟨y11, hr8, y12, hr9, h⟩ := h
              refine sat_drawn 1 mix (by kernel_rfl) fun K hK => ?_
              simp only [v1, v2, v3, v4, v5, v6, v7, v8, v9, tf1, tu, litOk, appOk, appS, growD, Nat.reduceEqDiff, Nat.reduceLT, Nat.reduceAdd, Nat.reduceLeDiff, Nat.reduceMul, Nat.reduceBEq, Nat.reduceSub, Int.reduceLE, Int.reduceToNat, Int.reduceLT, Int.reduceNeg, encSIDBalanceNonce, encSLIDAmountNonce, encSAccounts, encSKindIDAmount, List.map_append, List.length_append, List.length_map, List.map_take, List.map_drop, List.length_drop, List.length_take, Nat.le_refl, true_and]
              refine D_guard_split (by simp only [v1, v2, v3, v4, v5, v6, v7, v8, v9, tf1, tu, litOk, appOk, appS, growD, Nat.reduceEqDiff, Nat.reduceLT, Nat.reduceAdd, Nat.reduceLeDiff, Nat.reduceMul, Nat.reduceBEq, Nat.reduceSub, Int.reduceLE, Int.reduceToNat, Int.reduceLT, Int.reduceNeg, encSIDBalanceNonce, encSLIDAmountNonce, encSAccounts, encSKindIDAmount]; rfl) (fun hg1 => ?_) (fun hg1 => ?_)
              · simp only [v1, v2, v3, v4, v5, v6, v7, v8, v9, tf1, tu, litOk, appOk, appS, growD, Nat.reduceEqDiff, Nat.reduceLT, Nat.reduceAdd, Nat.reduceLeDiff, Nat.reduceMul, Nat.reduceBEq, Nat.reduceSub, Int.reduceLE, Int.reduceToNat, Int.reduceLT, Int.reduceNeg, encSIDBalanceNonce, encSLIDAmountNonce, encSAccounts, encSKindIDAmount, hg1, List.map_append, List.length_append, List.length_map, List.map_take, List.map_drop, List.length_drop, List.length_take, Nat.le_refl, true_and]
                refine hK _ ?_
                clear hK K
                try simp only [s_thN, s_thE, s_thR, s_blN, s_blE, s_blM, s_blR, Nat.reduceEqDiff]
                exact ⟨(y10 != 0) || (!y12), h, by simp only [v1, v2, v3, v4, v5, v6, v7, v8, v9, tf1, tu, litOk, appOk, appS, growD, Nat.reduceEqDiff, Nat.reduceLT, Nat.reduceAdd, Nat.reduceLeDiff, Nat.reduceMul, Nat.reduceBEq, Nat.reduceSub, Int.reduceLE, Int.reduceToNat, Int.reduceLT, Int.reduceNeg, encSIDBalanceNonce, encSLIDAmountNonce, encSAccounts, encSKindIDAmount, vl, hg1, List.map_append, List.length_append, List.length_map, List.map_take, List.map_drop, List.length_drop, List.length_take, Nat.le_refl, true_and]⟩
              · simp only [v1, v2, v3, v4, v5, v6, v7, v8, v9, tf1, tu, litOk, appOk, appS, growD, Nat.reduceEqDiff, Nat.reduceLT, Nat.reduceAdd, Nat.reduceLeDiff, Nat.reduceMul, Nat.reduceBEq, Nat.reduceSub, Int.reduceLE, Int.reduceToNat, Int.reduceLT, Int.reduceNeg, encSIDBalanceNonce, encSLIDAmountNonce, encSAccounts, encSKindIDAmount, hg1, List.map_append, List.length_append, List.length_map, List.map_take, List.map_drop, List.length_drop, List.length_take, Nat.le_refl, true_and]
                replace hr8 := hr8 (by simp only [v1, v2, v3, v4, v5, v6, v7, v8, v9, tf1, tu, litOk, appOk, appS, growD, Nat.reduceEqDiff, Nat.reduceLT, Nat.reduceAdd, Nat.reduceLeDiff, Nat.reduceMul, Nat.reduceBEq, Nat.reduceSub, Int.reduceLE, Int.reduceToNat, Int.reduceLT, Int.reduceNeg, encSIDBalanceNonce, encSLIDAmountNonce, encSAccounts, encSKindIDAmount, hg1])
                refine d_call [] (moidorelaw44_back_okD y9 y11 hr8) bd17 (by simp only [v1, v2, v3, v4, v5, v6, v7, v8, v9, tf1, tu, litOk, appOk, appS, growD, Nat.reduceEqDiff, Nat.reduceLT, Nat.reduceAdd, Nat.reduceLeDiff, Nat.reduceMul, Nat.reduceBEq, Nat.reduceSub, Int.reduceLE, Int.reduceToNat, Int.reduceLT, Int.reduceNeg, encSIDBalanceNonce, encSLIDAmountNonce, encSAccounts, encSKindIDAmount, callOk, vl, hg1, List.map_append, List.length_append, List.length_map, List.map_take, List.map_drop, List.length_drop, List.length_take, Nat.le_refl, true_and]) ?_
                simp only [v1, v2, v3, v4, v5, v6, v7, v8, v9, tf1, tu, litOk, appOk, appS, growD, Nat.reduceEqDiff, Nat.reduceLT, Nat.reduceAdd, Nat.reduceLeDiff, Nat.reduceMul, Nat.reduceBEq, Nat.reduceSub, Int.reduceLE, Int.reduceToNat, Int.reduceLT, Int.reduceNeg, encSIDBalanceNonce, encSLIDAmountNonce, encSAccounts, encSKindIDAmount, hg1, List.map_append, List.length_append, List.length_map, List.map_take, List.map_drop, List.length_drop, List.length_take, Nat.le_refl, true_and]
                replace hr9 := hr9 (by simp only [v1, v2, v3, v4, v5, v6, v7, v8, v9, tf1, tu, litOk, appOk, appS, growD, Nat.reduceEqDiff, Nat.reduceLT, Nat.reduceAdd, Nat.reduceLeDiff, Nat.reduceMul, Nat.reduceBEq, Nat.reduceSub, Int.reduceLE, Int.reduceToNat, Int.reduceLT, Int.reduceNeg, encSIDBalanceNonce, encSLIDAmountNonce, encSAccounts, encSKindIDAmount, hg1])
                refine d_call [] (moidoreref44_Same_ok y11 p0.L y12 hr9) bd16 (by simp only [v1, v2, v3, v4, v5, v6, v7, v8, v9, tf1, tu, litOk, appOk, appS, growD, Nat.reduceEqDiff, Nat.reduceLT, Nat.reduceAdd, Nat.reduceLeDiff, Nat.reduceMul, Nat.reduceBEq, Nat.reduceSub, Int.reduceLE, Int.reduceToNat, Int.reduceLT, Int.reduceNeg, encSIDBalanceNonce, encSLIDAmountNonce, encSAccounts, encSKindIDAmount, callOk, vl, hg1, List.map_append, List.length_append, List.length_map, List.map_take, List.map_drop, List.length_drop, List.length_take, Nat.le_refl, true_and]) ?_
                simp only [v1, v2, v3, v4, v5, v6, v7, v8, v9, tf1, tu, litOk, appOk, appS, growD, Nat.reduceEqDiff, Nat.reduceLT, Nat.reduceAdd, Nat.reduceLeDiff, Nat.reduceMul, Nat.reduceBEq, Nat.reduceSub, Int.reduceLE, Int.reduceToNat, Int.reduceLT, Int.reduceNeg, encSIDBalanceNonce, encSLIDAmountNonce, encSAccounts, encSKindIDAmount, hg1, List.map_append, List.length_append, List.length_map, List.map_take, List.map_drop, List.length_drop, List.length_take, Nat.le_refl, true_and]
                refine hK _ ?_
                clear hK K
                try simp only [s_thN, s_thE, s_thR, s_blN, s_blE, s_blM, s_blR, Nat.reduceEqDiff]
                exact ⟨(y10 != 0) || (!y12), h, by simp only [v1, v2, v3, v4, v5, v6, v7, v8, v9, tf1, tu, litOk, appOk, appS, growD, Nat.reduceEqDiff, Nat.reduceLT, Nat.reduceAdd, Nat.reduceLeDiff, Nat.reduceMul, Nat.reduceBEq, Nat.reduceSub, Int.reduceLE, Int.reduceToNat, Int.reduceLT, Int.reduceNeg, encSIDBalanceNonce, encSLIDAmountNonce, encSAccounts, encSKindIDAmount, vl, hg1, List.map_append, List.length_append, List.length_map, List.map_take, List.map_drop, List.length_drop, List.length_take, Nat.le_refl, true_and]⟩
            · intro b2 h
              have h : moidorelaw44_LedgerUndo_J2 p0 r0 y4 b2 := h
              show Sat _ _ _ _ _ _ ⟨[(1, .ptr 0 0), (3, .ptr 1 0), (85, .d (.bool b2))], [(0, .cells [.d (.slice 3 (List.map encSIDBalanceNonce p0.L)), .d (.int .u64 p0.ID), .d (.int .u64 p0.Amount), .d (.int .u64 p0.Nonce)]), (1, .cells [.d (.slice 3 (List.map encSIDBalanceNonce y4.Accounts))])], 5⟩ _
              unfold moidorelaw44_LedgerUndo_J2 at h
              refine sat_cond rfl (fun hb3 => ?_) (fun hb3 => ?_)
              · replace h := h.1 hb3
                refine sat_seq ?_
                refine sat_region fun K hK => ?_
                simp only [v1, v2, v3, v4, v5, v6, v7, v8, v9, tf1, tu, litOk, appOk, appS, growD, Nat.reduceEqDiff, Nat.reduceLT, Nat.reduceAdd, Nat.reduceLeDiff, Nat.reduceMul, Nat.reduceBEq, Nat.reduceSub, Int.reduceLE, Int.reduceToNat, Int.reduceLT, Int.reduceNeg, encSIDBalanceNonce, encSLIDAmountNonce, encSAccounts, encSKindIDAmount, List.map_append, List.length_append, List.length_map, List.map_take, List.map_drop, List.length_drop, List.length_take, Nat.le_refl, true_and]
                refine hK _ ?_
                clear hK K
                try simp only [s_thN, s_thE, s_thR, s_blN, s_blE, s_blM, s_blR, Nat.reduceEqDiff]
                subst h
                refine sat_ret (retN [] ?_)
                simp only [v1, v2, v3, v4, v5, v6, v7, v8, v9, tf1, tu, litOk, appOk, appS, growD, Nat.reduceEqDiff, Nat.reduceLT, Nat.reduceAdd, Nat.reduceLeDiff, Nat.reduceMul, Nat.reduceBEq, Nat.reduceSub, Int.reduceLE, Int.reduceToNat, Int.reduceLT, Int.reduceNeg, encSIDBalanceNonce, encSLIDAmountNonce, encSAccounts, encSKindIDAmount, vl, Try.results5, e_sp0, e_sp1, List.map_append, List.length_append, List.length_map, List.map_take, List.map_drop, List.length_drop, List.length_take, Nat.le_refl, true_and]
              · replace h := h.2 hb3
                refine sat_skip ?_
                try simp only [s_thN, s_thE, s_thR, s_blN, s_blE, s_blM, s_blR, Nat.reduceEqDiff]
                exact ⟨(), h, by simp only [v1, v2, v3, v4, v5, v6, v7, v8, v9, tf1, tu, litOk, appOk, appS, growD, Nat.reduceEqDiff, Nat.reduceLT, Nat.reduceAdd, Nat.reduceLeDiff, Nat.reduceMul, Nat.reduceBEq, Nat.reduceSub, Int.reduceLE, Int.reduceToNat, Int.reduceLT, Int.reduceNeg, encSIDBalanceNonce, encSLIDAmountNonce, encSAccounts, encSKindIDAmount, vl, List.map_append, List.length_append, List.length_map, List.map_take, List.map_drop, List.length_drop, List.length_take, Nat.le_refl, true_and]⟩
          · replace h := h.2 hb2
            refine sat_skip ?_
            try simp only [s_thN, s_thE, s_thR, s_blN, s_blE, s_blM, s_blR, Nat.reduceEqDiff]
            exact ⟨(), h, by simp only [v1, v2, v3, v4, v5, v6, v7, v8, v9, tf1, tu, litOk, appOk, appS, growD, Nat.reduceEqDiff, Nat.reduceLT, Nat.reduceAdd, Nat.reduceLeDiff, Nat.reduceMul, Nat.reduceBEq, Nat.reduceSub, Int.reduceLE, Int.reduceToNat, Int.reduceLT, Int.reduceNeg, encSIDBalanceNonce, encSLIDAmountNonce, encSAccounts, encSKindIDAmount, vl, List.map_append, List.length_append, List.length_map, List.map_take, List.map_drop, List.length_drop, List.length_take, Nat.le_refl, true_and]⟩
        · intro _u h
          have h : moidorelaw44_LedgerUndo_J1 p0 r0 y4 := h
          show Sat _ _ _ _ _ _ ⟨[(1, .ptr 0 0), (3, .ptr 1 0)], [(0, .cells [.d (.slice 3 (List.map encSIDBalanceNonce p0.L)), .d (.int .u64 p0.ID), .d (.int .u64 p0.Amount), .d (.int .u64 p0.Nonce)]), (1, .cells [.d (.slice 3 (List.map encSIDBalanceNonce y4.Accounts))])], 4⟩ _
          unfold moidorelaw44_LedgerUndo_J1 at h
          refine sat_seq ?_
          obtain ⟨y9, hr7, y10, hr8, h⟩ := h
          refine sat_drawn 1 mix (by kernel_rfl) fun K hK => ?_
          simp only [v1, v2, v3, v4, v5, v6, v7, v8, v9, tf1, tu, litOk, appOk, appS, growD, Nat.reduceEqDiff, Nat.reduceLT, Nat.reduceAdd, Nat.reduceLeDiff, Nat.reduceMul, Nat.reduceBEq, Nat.reduceSub, Int.reduceLE, Int.reduceToNat, Int.reduceLT, Int.reduceNeg, encSIDBalanceNonce, encSLIDAmountNonce, encSAccounts, encSKindIDAmount, List.map_append, List.length_append, List.length_map, List.map_take, List.map_drop, List.length_drop, List.length_take, Nat.le_refl, true_and]
          refine d_call [] (moidorelaw44_back_okD y4 y9 hr7) bd17 (by simp only [v1, v2, v3, v4, v5, v6, v7, v8, v9, tf1, tu, litOk, appOk, appS, growD, Nat.reduceEqDiff, Nat.reduceLT, Nat.reduceAdd, Nat.reduceLeDiff, Nat.reduceMul, Nat.reduceBEq, Nat.reduceSub, Int.reduceLE, Int.reduceToNat, Int.reduceLT, Int.reduceNeg, encSIDBalanceNonce, encSLIDAmountNonce, encSAccounts, encSKindIDAmount, callOk, vl, List.map_append, List.length_append, List.length_map, List.map_take, List.map_drop, List.length_drop, List.length_take, Nat.le_refl, true_and]) ?_
          simp only [v1, v2, v3, v4, v5, v6, v7, v8, v9, tf1, tu, litOk, appOk, appS, growD, Nat.reduceEqDiff, Nat.reduceLT, Nat.reduceAdd, Nat.reduceLeDiff, Nat.reduceMul, Nat.reduceBEq, Nat.reduceSub, Int.reduceLE, Int.reduceToNat, Int.reduceLT, Int.reduceNeg, encSIDBalanceNonce, encSLIDAmountNonce, encSAccounts, encSKindIDAmount, List.map_append, List.length_append, List.length_map, List.map_take, List.map_drop, List.length_drop, List.length_take, Nat.le_refl, true_and]
          refine d_call [] (moidoreref44_Same_ok y9 p0.L y10 hr8) bd16 (by simp only [v1, v2, v3, v4, v5, v6, v7, v8, v9, tf1, tu, litOk, appOk, appS, growD, Nat.reduceEqDiff, Nat.reduceLT, Nat.reduceAdd, Nat.reduceLeDiff, Nat.reduceMul, Nat.reduceBEq, Nat.reduceSub, Int.reduceLE, Int.reduceToNat, Int.reduceLT, Int.reduceNeg, encSIDBalanceNonce, encSLIDAmountNonce, encSAccounts, encSKindIDAmount, callOk, vl, List.map_append, List.length_append, List.length_map, List.map_take, List.map_drop, List.length_drop, List.length_take, Nat.le_refl, true_and]) ?_
          simp only [v1, v2, v3, v4, v5, v6, v7, v8, v9, tf1, tu, litOk, appOk, appS, growD, Nat.reduceEqDiff, Nat.reduceLT, Nat.reduceAdd, Nat.reduceLeDiff, Nat.reduceMul, Nat.reduceBEq, Nat.reduceSub, Int.reduceLE, Int.reduceToNat, Int.reduceLT, Int.reduceNeg, encSIDBalanceNonce, encSLIDAmountNonce, encSAccounts, encSKindIDAmount, List.map_append, List.length_append, List.length_map, List.map_take, List.map_drop, List.length_drop, List.length_take, Nat.le_refl, true_and]
          refine hK _ ?_
          clear hK K
          try simp only [s_thN, s_thE, s_thR, s_blN, s_blE, s_blM, s_blR, Nat.reduceEqDiff]
          subst h
          refine sat_ret (retN [] ?_)
          simp only [v1, v2, v3, v4, v5, v6, v7, v8, v9, tf1, tu, litOk, appOk, appS, growD, Nat.reduceEqDiff, Nat.reduceLT, Nat.reduceAdd, Nat.reduceLeDiff, Nat.reduceMul, Nat.reduceBEq, Nat.reduceSub, Int.reduceLE, Int.reduceToNat, Int.reduceLT, Int.reduceNeg, encSIDBalanceNonce, encSLIDAmountNonce, encSAccounts, encSKindIDAmount, vl, Try.results5, e_sp0, e_sp1, List.map_append, List.length_append, List.length_map, List.map_take, List.map_drop, List.length_drop, List.length_take, Nat.le_refl, true_and]
end Go.Proofs.Ytjaignojekmfgaa
