/-
  Each function keeps its contract, if what it asks holds (printed by a program).
-/
import Derived.Test.YtjaignojekmfgaaFacts
import Derived.Test.YtjaignojekmfgaaPure
import Derived.Test.YtjaignojekmfgaaWalkb
namespace Go.Proofs.Ytjaignojekmfgaa
open Go.RowKit Go.Bv Go.Md
set_option linter.unusedSimpArgs false
theorem ledger_Valid_ok (p0 : SAccounts) (r0 : Bool) (h : ledger_Valid_Ret p0 r0) : SoundH Try.prog 22 [.agg [.d (.slice 3 (List.map encSIDBalanceNonce p0.Accounts))]] [] (.d (.bool r0)) [] := by
  refine sound_of Try.func22 rfl Try.ntmps22 (by simp) fun G0 w0 => ?_
  unfold ledger_Valid_Ret at h
  refine sat_seq ?_
  refine sat_region fun K hK => ?_
  simp only [v1, v2, v3, v4, v5, v6, v7, v8, v9, tf1, tu, litOk, appOk, appS, growD, Nat.reduceEqDiff, Nat.reduceLT, Nat.reduceAdd, Nat.reduceLeDiff, Nat.reduceMul, Nat.reduceBEq, Nat.reduceSub, Int.reduceLE, Int.reduceToNat, Int.reduceLT, Int.reduceNeg, encSIDBalanceNonce, encSLIDAmountNonce, encSAccounts, encSKindIDAmount, List.map_append, List.length_append, List.length_map, List.map_take, List.map_drop, List.length_drop, List.length_take, Nat.le_refl, true_and]
  refine hK _ ?_
  clear hK K
  try simp only [s_thN, s_thE, s_thR, s_blN, s_blE, s_blM, s_blR, Nat.reduceEqDiff]
  refine sat_seq ?_
  refine sat_seq ?_
  refine sat_region fun K hK => ?_
  simp only [v1, v2, v3, v4, v5, v6, v7, v8, v9, tf1, tu, litOk, appOk, appS, growD, Nat.reduceEqDiff, Nat.reduceLT, Nat.reduceAdd, Nat.reduceLeDiff, Nat.reduceMul, Nat.reduceBEq, Nat.reduceSub, Int.reduceLE, Int.reduceToNat, Int.reduceLT, Int.reduceNeg, encSIDBalanceNonce, encSLIDAmountNonce, encSAccounts, encSKindIDAmount, List.map_append, List.length_append, List.length_map, List.map_take, List.map_drop, List.length_drop, List.length_take, Nat.le_refl, true_and]
  refine hK _ ?_
  clear hK K
  try simp only [s_thN, s_thE, s_thR, s_blN, s_blE, s_blM, s_blR, Nat.reduceEqDiff]
  refine sat_block ?_
  obtain ⟨inv, μ, h0, hs⟩ := h
  refine sat_loop (ι := Int) (fun x => ⟨[(1, .ptr 0 0), (6, .d (.slice 3 (List.map encSIDBalanceNonce p0.Accounts))), (7, .d (.int .i64 ((List.length p0.Accounts : Nat) : Int))), (8, .d (.int .i64 x))], [(0, .cells [.d (.slice 3 (List.map encSIDBalanceNonce p0.Accounts))])], 1⟩) inv μ 0 h0 (by simp only [v1, v2, v3, v4, v5, v6, v7, v8, v9, tf1, tu, litOk, appOk, appS, growD, Nat.reduceEqDiff, Nat.reduceLT, Nat.reduceAdd, Nat.reduceLeDiff, Nat.reduceMul, Nat.reduceBEq, Nat.reduceSub, Int.reduceLE, Int.reduceToNat, Int.reduceLT, Int.reduceNeg, encSIDBalanceNonce, encSLIDAmountNonce, encSAccounts, encSKindIDAmount, vl, List.map_append, List.length_append, List.length_map, List.map_take, List.map_drop, List.length_drop, List.length_take, Nat.le_refl, true_and]) ?_
  intro j2 hi
  have h : ledger_Valid_L3 p0 r0 _ j2 := hs _ hi
  clear hs h0 hi
  generalize hnx : (fun s => inv s ∧ μ s < μ j2) = nx1 at h
  show Sat _ _ _ _ _ _ ⟨[(1, .ptr 0 0), (6, .d (.slice 3 (List.map encSIDBalanceNonce p0.Accounts))), (7, .d (.int .i64 ((List.length p0.Accounts : Nat) : Int))), (8, .d (.int .i64 j2))], [(0, .cells [.d (.slice 3 (List.map encSIDBalanceNonce p0.Accounts))])], 1⟩ _
  unfold ledger_Valid_L3 at h
  refine sat_seq ?_
  refine sat_region fun K hK => ?_
  simp only [v1, v2, v3, v4, v5, v6, v7, v8, v9, tf1, tu, litOk, appOk, appS, growD, Nat.reduceEqDiff, Nat.reduceLT, Nat.reduceAdd, Nat.reduceLeDiff, Nat.reduceMul, Nat.reduceBEq, Nat.reduceSub, Int.reduceLE, Int.reduceToNat, Int.reduceLT, Int.reduceNeg, encSIDBalanceNonce, encSLIDAmountNonce, encSAccounts, encSKindIDAmount, List.map_append, List.length_append, List.length_map, List.map_take, List.map_drop, List.length_drop, List.length_take, Nat.le_refl, true_and]
  refine hK _ ?_
  clear hK K
  try simp only [s_thN, s_thE, s_thR, s_blN, s_blE, s_blM, s_blR, Nat.reduceEqDiff]
  refine sat_seq ?_
  refine sat_cond rfl (fun hb1 => ?_) (fun hb1 => ?_)
  · replace h := h.1 hb1
    refine sat_skip ?_
    try simp only [s_thN, s_thE, s_thR, s_blN, s_blE, s_blM, s_blR, Nat.reduceEqDiff]
    refine sat_seq ?_
    refine sat_block ?_
    refine sat_seq ?_
    obtain ⟨c1, c2, h⟩ := h
    refine sat_region fun K hK => ?_
    simp only [v1, v2, v3, v4, v5, v6, v7, v8, v9, tf1, tu, litOk, appOk, appS, growD, Nat.reduceEqDiff, Nat.reduceLT, Nat.reduceAdd, Nat.reduceLeDiff, Nat.reduceMul, Nat.reduceBEq, Nat.reduceSub, Int.reduceLE, Int.reduceToNat, Int.reduceLT, Int.reduceNeg, encSIDBalanceNonce, encSLIDAmountNonce, encSAccounts, encSKindIDAmount, c1, c2, elt_ix encSIDBalanceNonce p0.Accounts j2 c1 c2, List.map_append, List.length_append, List.length_map, List.map_take, List.map_drop, List.length_drop, List.length_take, Nat.le_refl, true_and]
    refine hK _ ?_
    clear hK K
    try simp only [s_thN, s_thE, s_thR, s_blN, s_blE, s_blM, s_blR, Nat.reduceEqDiff]
    refine sat_seq ?_
    refine sat_join (ι := Bool) (fun x => ⟨[(1, .ptr 0 0), (3, .d (.int .i64 j2)), (4, .ptr 1 0), (6, .d (.slice 3 (List.map encSIDBalanceNonce p0.Accounts))), (7, .d (.int .i64 ((List.length p0.Accounts : Nat) : Int))), (8, .d (.int .i64 j2)), (30, .d (.bool x))], [(0, .cells [.d (.slice 3 (List.map encSIDBalanceNonce p0.Accounts))]), (1, .cells [.d (.int .u64 ((ix p0.Accounts j2).ID)), .d (.int .u64 ((ix p0.Accounts j2).Balance)), .d (.int .u64 ((ix p0.Accounts j2).Nonce))])], 2⟩) (fun x => ledger_Valid_J2 p0 r0 nx1 j2 x) ?_ ?_
    · refine sat_region fun K hK => ?_
      simp only [v1, v2, v3, v4, v5, v6, v7, v8, v9, tf1, tu, litOk, appOk, appS, growD, Nat.reduceEqDiff, Nat.reduceLT, Nat.reduceAdd, Nat.reduceLeDiff, Nat.reduceMul, Nat.reduceBEq, Nat.reduceSub, Int.reduceLE, Int.reduceToNat, Int.reduceLT, Int.reduceNeg, encSIDBalanceNonce, encSLIDAmountNonce, encSAccounts, encSKindIDAmount, List.map_append, List.length_append, List.length_map, List.map_take, List.map_drop, List.length_drop, List.length_take, Nat.le_refl, true_and]
      refine A_guard_split (by simp only [v1, v2, v3, v4, v5, v6, v7, v8, v9, tf1, tu, litOk, appOk, appS, growD, Nat.reduceEqDiff, Nat.reduceLT, Nat.reduceAdd, Nat.reduceLeDiff, Nat.reduceMul, Nat.reduceBEq, Nat.reduceSub, Int.reduceLE, Int.reduceToNat, Int.reduceLT, Int.reduceNeg, encSIDBalanceNonce, encSLIDAmountNonce, encSAccounts, encSKindIDAmount]; rfl) (fun hg2 => ?_) (fun hg2 => ?_)
      · simp only [v1, v2, v3, v4, v5, v6, v7, v8, v9, tf1, tu, litOk, appOk, appS, growD, Nat.reduceEqDiff, Nat.reduceLT, Nat.reduceAdd, Nat.reduceLeDiff, Nat.reduceMul, Nat.reduceBEq, Nat.reduceSub, Int.reduceLE, Int.reduceToNat, Int.reduceLT, Int.reduceNeg, encSIDBalanceNonce, encSLIDAmountNonce, encSAccounts, encSKindIDAmount, hg2, List.map_append, List.length_append, List.length_map, List.map_take, List.map_drop, List.length_drop, List.length_take, Nat.le_refl, true_and]
        refine hK _ ?_
        clear hK K
        try simp only [s_thN, s_thE, s_thR, s_blN, s_blE, s_blM, s_blR, Nat.reduceEqDiff]
        exact ⟨((decide (18446744069414584321 ≤ (ix p0.Accounts j2).ID)) || (decide (9223372036854775807 < (ix p0.Accounts j2).Balance))) || ((((ix p0.Accounts j2).Balance) == 0) && (((ix p0.Accounts j2).Nonce) == 0)), h, by simp only [v1, v2, v3, v4, v5, v6, v7, v8, v9, tf1, tu, litOk, appOk, appS, growD, Nat.reduceEqDiff, Nat.reduceLT, Nat.reduceAdd, Nat.reduceLeDiff, Nat.reduceMul, Nat.reduceBEq, Nat.reduceSub, Int.reduceLE, Int.reduceToNat, Int.reduceLT, Int.reduceNeg, encSIDBalanceNonce, encSLIDAmountNonce, encSAccounts, encSKindIDAmount, vl, hg2, List.map_append, List.length_append, List.length_map, List.map_take, List.map_drop, List.length_drop, List.length_take, Nat.le_refl, true_and]⟩
      · simp only [v1, v2, v3, v4, v5, v6, v7, v8, v9, tf1, tu, litOk, appOk, appS, growD, Nat.reduceEqDiff, Nat.reduceLT, Nat.reduceAdd, Nat.reduceLeDiff, Nat.reduceMul, Nat.reduceBEq, Nat.reduceSub, Int.reduceLE, Int.reduceToNat, Int.reduceLT, Int.reduceNeg, encSIDBalanceNonce, encSLIDAmountNonce, encSAccounts, encSKindIDAmount, hg2, List.map_append, List.length_append, List.length_map, List.map_take, List.map_drop, List.length_drop, List.length_take, Nat.le_refl, true_and]
        refine A_guard_split (by simp only [v1, v2, v3, v4, v5, v6, v7, v8, v9, tf1, tu, litOk, appOk, appS, growD, Nat.reduceEqDiff, Nat.reduceLT, Nat.reduceAdd, Nat.reduceLeDiff, Nat.reduceMul, Nat.reduceBEq, Nat.reduceSub, Int.reduceLE, Int.reduceToNat, Int.reduceLT, Int.reduceNeg, encSIDBalanceNonce, encSLIDAmountNonce, encSAccounts, encSKindIDAmount, hg2]; rfl) (fun hg3 => ?_) (fun hg3 => ?_)
        · simp only [v1, v2, v3, v4, v5, v6, v7, v8, v9, tf1, tu, litOk, appOk, appS, growD, Nat.reduceEqDiff, Nat.reduceLT, Nat.reduceAdd, Nat.reduceLeDiff, Nat.reduceMul, Nat.reduceBEq, Nat.reduceSub, Int.reduceLE, Int.reduceToNat, Int.reduceLT, Int.reduceNeg, encSIDBalanceNonce, encSLIDAmountNonce, encSAccounts, encSKindIDAmount, hg2, hg3, List.map_append, List.length_append, List.length_map, List.map_take, List.map_drop, List.length_drop, List.length_take, Nat.le_refl, true_and]
          refine hK _ ?_
          clear hK K
          try simp only [s_thN, s_thE, s_thR, s_blN, s_blE, s_blM, s_blR, Nat.reduceEqDiff]
          exact ⟨((decide (18446744069414584321 ≤ (ix p0.Accounts j2).ID)) || (decide (9223372036854775807 < (ix p0.Accounts j2).Balance))) || ((((ix p0.Accounts j2).Balance) == 0) && (((ix p0.Accounts j2).Nonce) == 0)), h, by simp only [v1, v2, v3, v4, v5, v6, v7, v8, v9, tf1, tu, litOk, appOk, appS, growD, Nat.reduceEqDiff, Nat.reduceLT, Nat.reduceAdd, Nat.reduceLeDiff, Nat.reduceMul, Nat.reduceBEq, Nat.reduceSub, Int.reduceLE, Int.reduceToNat, Int.reduceLT, Int.reduceNeg, encSIDBalanceNonce, encSLIDAmountNonce, encSAccounts, encSKindIDAmount, vl, hg2, hg3, List.map_append, List.length_append, List.length_map, List.map_take, List.map_drop, List.length_drop, List.length_take, Nat.le_refl, true_and]⟩
        · simp only [v1, v2, v3, v4, v5, v6, v7, v8, v9, tf1, tu, litOk, appOk, appS, growD, Nat.reduceEqDiff, Nat.reduceLT, Nat.reduceAdd, Nat.reduceLeDiff, Nat.reduceMul, Nat.reduceBEq, Nat.reduceSub, Int.reduceLE, Int.reduceToNat, Int.reduceLT, Int.reduceNeg, encSIDBalanceNonce, encSLIDAmountNonce, encSAccounts, encSKindIDAmount, hg2, hg3, List.map_append, List.length_append, List.length_map, List.map_take, List.map_drop, List.length_drop, List.length_take, Nat.le_refl, true_and]
          refine A_guard_split (by simp only [v1, v2, v3, v4, v5, v6, v7, v8, v9, tf1, tu, litOk, appOk, appS, growD, Nat.reduceEqDiff, Nat.reduceLT, Nat.reduceAdd, Nat.reduceLeDiff, Nat.reduceMul, Nat.reduceBEq, Nat.reduceSub, Int.reduceLE, Int.reduceToNat, Int.reduceLT, Int.reduceNeg, encSIDBalanceNonce, encSLIDAmountNonce, encSAccounts, encSKindIDAmount, hg2, hg3]; rfl) (fun hg4 => ?_) (fun hg4 => ?_)
          · simp only [v1, v2, v3, v4, v5, v6, v7, v8, v9, tf1, tu, litOk, appOk, appS, growD, Nat.reduceEqDiff, Nat.reduceLT, Nat.reduceAdd, Nat.reduceLeDiff, Nat.reduceMul, Nat.reduceBEq, Nat.reduceSub, Int.reduceLE, Int.reduceToNat, Int.reduceLT, Int.reduceNeg, encSIDBalanceNonce, encSLIDAmountNonce, encSAccounts, encSKindIDAmount, hg2, hg3, hg4, List.map_append, List.length_append, List.length_map, List.map_take, List.map_drop, List.length_drop, List.length_take, Nat.le_refl, true_and]
            refine hK _ ?_
            clear hK K
            try simp only [s_thN, s_thE, s_thR, s_blN, s_blE, s_blM, s_blR, Nat.reduceEqDiff]
            exact ⟨((decide (18446744069414584321 ≤ (ix p0.Accounts j2).ID)) || (decide (9223372036854775807 < (ix p0.Accounts j2).Balance))) || ((((ix p0.Accounts j2).Balance) == 0) && (((ix p0.Accounts j2).Nonce) == 0)), h, by simp only [v1, v2, v3, v4, v5, v6, v7, v8, v9, tf1, tu, litOk, appOk, appS, growD, Nat.reduceEqDiff, Nat.reduceLT, Nat.reduceAdd, Nat.reduceLeDiff, Nat.reduceMul, Nat.reduceBEq, Nat.reduceSub, Int.reduceLE, Int.reduceToNat, Int.reduceLT, Int.reduceNeg, encSIDBalanceNonce, encSLIDAmountNonce, encSAccounts, encSKindIDAmount, vl, hg2, hg3, hg4, List.map_append, List.length_append, List.length_map, List.map_take, List.map_drop, List.length_drop, List.length_take, Nat.le_refl, true_and]⟩
          · simp only [v1, v2, v3, v4, v5, v6, v7, v8, v9, tf1, tu, litOk, appOk, appS, growD, Nat.reduceEqDiff, Nat.reduceLT, Nat.reduceAdd, Nat.reduceLeDiff, Nat.reduceMul, Nat.reduceBEq, Nat.reduceSub, Int.reduceLE, Int.reduceToNat, Int.reduceLT, Int.reduceNeg, encSIDBalanceNonce, encSLIDAmountNonce, encSAccounts, encSKindIDAmount, hg2, hg3, hg4, List.map_append, List.length_append, List.length_map, List.map_take, List.map_drop, List.length_drop, List.length_take, Nat.le_refl, true_and]
            refine hK _ ?_
            clear hK K
            try simp only [s_thN, s_thE, s_thR, s_blN, s_blE, s_blM, s_blR, Nat.reduceEqDiff]
            exact ⟨((decide (18446744069414584321 ≤ (ix p0.Accounts j2).ID)) || (decide (9223372036854775807 < (ix p0.Accounts j2).Balance))) || ((((ix p0.Accounts j2).Balance) == 0) && (((ix p0.Accounts j2).Nonce) == 0)), h, by simp only [v1, v2, v3, v4, v5, v6, v7, v8, v9, tf1, tu, litOk, appOk, appS, growD, Nat.reduceEqDiff, Nat.reduceLT, Nat.reduceAdd, Nat.reduceLeDiff, Nat.reduceMul, Nat.reduceBEq, Nat.reduceSub, Int.reduceLE, Int.reduceToNat, Int.reduceLT, Int.reduceNeg, encSIDBalanceNonce, encSLIDAmountNonce, encSAccounts, encSKindIDAmount, vl, hg2, hg3, hg4, List.map_append, List.length_append, List.length_map, List.map_take, List.map_drop, List.length_drop, List.length_take, Nat.le_refl, true_and]⟩
    · intro b1 h
      have h : ledger_Valid_J2 p0 r0 nx1 j2 b1 := h
      show Sat _ _ _ _ _ _ ⟨[(1, .ptr 0 0), (3, .d (.int .i64 j2)), (4, .ptr 1 0), (6, .d (.slice 3 (List.map encSIDBalanceNonce p0.Accounts))), (7, .d (.int .i64 ((List.length p0.Accounts : Nat) : Int))), (8, .d (.int .i64 j2)), (30, .d (.bool b1))], [(0, .cells [.d (.slice 3 (List.map encSIDBalanceNonce p0.Accounts))]), (1, .cells [.d (.int .u64 ((ix p0.Accounts j2).ID)), .d (.int .u64 ((ix p0.Accounts j2).Balance)), .d (.int .u64 ((ix p0.Accounts j2).Nonce))])], 2⟩ _
      unfold ledger_Valid_J2 at h
      refine sat_cond rfl (fun hb2 => ?_) (fun hb2 => ?_)
      · replace h := h.1 hb2
        refine sat_seq ?_
        refine sat_region fun K hK => ?_
        simp only [v1, v2, v3, v4, v5, v6, v7, v8, v9, tf1, tu, litOk, appOk, appS, growD, Nat.reduceEqDiff, Nat.reduceLT, Nat.reduceAdd, Nat.reduceLeDiff, Nat.reduceMul, Nat.reduceBEq, Nat.reduceSub, Int.reduceLE, Int.reduceToNat, Int.reduceLT, Int.reduceNeg, encSIDBalanceNonce, encSLIDAmountNonce, encSAccounts, encSKindIDAmount, List.map_append, List.length_append, List.length_map, List.map_take, List.map_drop, List.length_drop, List.length_take, Nat.le_refl, true_and]
        refine hK _ ?_
        clear hK K
        try simp only [s_thN, s_thE, s_thR, s_blN, s_blE, s_blM, s_blR, Nat.reduceEqDiff]
        subst h
        refine sat_ret (retN [] ?_)
        simp only [v1, v2, v3, v4, v5, v6, v7, v8, v9, tf1, tu, litOk, appOk, appS, growD, Nat.reduceEqDiff, Nat.reduceLT, Nat.reduceAdd, Nat.reduceLeDiff, Nat.reduceMul, Nat.reduceBEq, Nat.reduceSub, Int.reduceLE, Int.reduceToNat, Int.reduceLT, Int.reduceNeg, encSIDBalanceNonce, encSLIDAmountNonce, encSAccounts, encSKindIDAmount, vl, Try.results22, e_sp0, e_sp1, List.map_append, List.length_append, List.length_map, List.map_take, List.map_drop, List.length_drop, List.length_take, Nat.le_refl, true_and]
      · replace h := h.2 hb2
        refine sat_skip ?_
        try simp only [s_thN, s_thE, s_thR, s_blN, s_blE, s_blM, s_blR, Nat.reduceEqDiff]
        refine sat_join (ι := Bool) (fun x => ⟨[(1, .ptr 0 0), (6, .d (.slice 3 (List.map encSIDBalanceNonce p0.Accounts))), (7, .d (.int .i64 ((List.length p0.Accounts : Nat) : Int))), (8, .d (.int .i64 j2)), (44, .d (.bool x))], [(0, .cells [.d (.slice 3 (List.map encSIDBalanceNonce p0.Accounts))])], 2⟩) (fun x => ledger_Valid_J1 r0 nx1 j2 x) ?_ ?_
        · obtain ⟨c3, c4, h⟩ := h
          refine sat_drawn 1 mix (by kernel_rfl) fun K hK => ?_
          simp only [v1, v2, v3, v4, v5, v6, v7, v8, v9, tf1, tu, litOk, appOk, appS, growD, Nat.reduceEqDiff, Nat.reduceLT, Nat.reduceAdd, Nat.reduceLeDiff, Nat.reduceMul, Nat.reduceBEq, Nat.reduceSub, Int.reduceLE, Int.reduceToNat, Int.reduceLT, Int.reduceNeg, encSIDBalanceNonce, encSLIDAmountNonce, encSAccounts, encSKindIDAmount, List.map_append, List.length_append, List.length_map, List.map_take, List.map_drop, List.length_drop, List.length_take, Nat.le_refl, true_and]
          refine D_guard_split (by simp only [v1, v2, v3, v4, v5, v6, v7, v8, v9, tf1, tu, litOk, appOk, appS, growD, Nat.reduceEqDiff, Nat.reduceLT, Nat.reduceAdd, Nat.reduceLeDiff, Nat.reduceMul, Nat.reduceBEq, Nat.reduceSub, Int.reduceLE, Int.reduceToNat, Int.reduceLT, Int.reduceNeg, encSIDBalanceNonce, encSLIDAmountNonce, encSAccounts, encSKindIDAmount]; rfl) (fun hg1 => ?_) (fun hg1 => ?_)
          · replace c3 := c3 (by simp only [v1, v2, v3, v4, v5, v6, v7, v8, v9, tf1, tu, litOk, appOk, appS, growD, Nat.reduceEqDiff, Nat.reduceLT, Nat.reduceAdd, Nat.reduceLeDiff, Nat.reduceMul, Nat.reduceBEq, Nat.reduceSub, Int.reduceLE, Int.reduceToNat, Int.reduceLT, Int.reduceNeg, encSIDBalanceNonce, encSLIDAmountNonce, encSAccounts, encSKindIDAmount, hg1])
            replace c4 := c4 (by simp only [v1, v2, v3, v4, v5, v6, v7, v8, v9, tf1, tu, litOk, appOk, appS, growD, Nat.reduceEqDiff, Nat.reduceLT, Nat.reduceAdd, Nat.reduceLeDiff, Nat.reduceMul, Nat.reduceBEq, Nat.reduceSub, Int.reduceLE, Int.reduceToNat, Int.reduceLT, Int.reduceNeg, encSIDBalanceNonce, encSLIDAmountNonce, encSAccounts, encSKindIDAmount, hg1])
            simp only [v1, v2, v3, v4, v5, v6, v7, v8, v9, tf1, tu, litOk, appOk, appS, growD, Nat.reduceEqDiff, Nat.reduceLT, Nat.reduceAdd, Nat.reduceLeDiff, Nat.reduceMul, Nat.reduceBEq, Nat.reduceSub, Int.reduceLE, Int.reduceToNat, Int.reduceLT, Int.reduceNeg, encSIDBalanceNonce, encSLIDAmountNonce, encSAccounts, encSKindIDAmount, hg1, List.map_append, List.length_append, List.length_map, List.map_take, List.map_drop, List.length_drop, List.length_take, Nat.le_refl, true_and, c3, c4, elt_ix encSIDBalanceNonce p0.Accounts (IntKind.i64.wrap (j2 - 1)) c3 c4]
            refine hK _ ?_
            clear hK K
            try simp only [s_thN, s_thE, s_thR, s_blN, s_blE, s_blM, s_blR, Nat.reduceEqDiff]
            exact ⟨(decide (0 < j2)) && (decide ((ix p0.Accounts j2).ID ≤ (ix p0.Accounts (IntKind.i64.wrap (j2 - 1))).ID)), h, by simp only [v1, v2, v3, v4, v5, v6, v7, v8, v9, tf1, tu, litOk, appOk, appS, growD, Nat.reduceEqDiff, Nat.reduceLT, Nat.reduceAdd, Nat.reduceLeDiff, Nat.reduceMul, Nat.reduceBEq, Nat.reduceSub, Int.reduceLE, Int.reduceToNat, Int.reduceLT, Int.reduceNeg, encSIDBalanceNonce, encSLIDAmountNonce, encSAccounts, encSKindIDAmount, vl, hg1, List.map_append, List.length_append, List.length_map, List.map_take, List.map_drop, List.length_drop, List.length_take, Nat.le_refl, true_and]⟩
          · simp only [v1, v2, v3, v4, v5, v6, v7, v8, v9, tf1, tu, litOk, appOk, appS, growD, Nat.reduceEqDiff, Nat.reduceLT, Nat.reduceAdd, Nat.reduceLeDiff, Nat.reduceMul, Nat.reduceBEq, Nat.reduceSub, Int.reduceLE, Int.reduceToNat, Int.reduceLT, Int.reduceNeg, encSIDBalanceNonce, encSLIDAmountNonce, encSAccounts, encSKindIDAmount, hg1, List.map_append, List.length_append, List.length_map, List.map_take, List.map_drop, List.length_drop, List.length_take, Nat.le_refl, true_and]
            refine hK _ ?_
            clear hK K
            try simp only [s_thN, s_thE, s_thR, s_blN, s_blE, s_blM, s_blR, Nat.reduceEqDiff]
            exact ⟨(decide (0 < j2)) && (decide ((ix p0.Accounts j2).ID ≤ (ix p0.Accounts (IntKind.i64.wrap (j2 - 1))).ID)), h, by simp only [v1, v2, v3, v4, v5, v6, v7, v8, v9, tf1, tu, litOk, appOk, appS, growD, Nat.reduceEqDiff, Nat.reduceLT, Nat.reduceAdd, Nat.reduceLeDiff, Nat.reduceMul, Nat.reduceBEq, Nat.reduceSub, Int.reduceLE, Int.reduceToNat, Int.reduceLT, Int.reduceNeg, encSIDBalanceNonce, encSLIDAmountNonce, encSAccounts, encSKindIDAmount, vl, hg1, List.map_append, List.length_append, List.length_map, List.map_take, List.map_drop, List.length_drop, List.length_take, Nat.le_refl, true_and]⟩
        · intro b2 h
          have h : ledger_Valid_J1 r0 nx1 j2 b2 := h
          show Sat _ _ _ _ _ _ ⟨[(1, .ptr 0 0), (6, .d (.slice 3 (List.map encSIDBalanceNonce p0.Accounts))), (7, .d (.int .i64 ((List.length p0.Accounts : Nat) : Int))), (8, .d (.int .i64 j2)), (44, .d (.bool b2))], [(0, .cells [.d (.slice 3 (List.map encSIDBalanceNonce p0.Accounts))])], 2⟩ _
          unfold ledger_Valid_J1 at h
          refine sat_cond rfl (fun hb3 => ?_) (fun hb3 => ?_)
          · replace h := h.1 hb3
            refine sat_seq ?_
            refine sat_region fun K hK => ?_
            simp only [v1, v2, v3, v4, v5, v6, v7, v8, v9, tf1, tu, litOk, appOk, appS, growD, Nat.reduceEqDiff, Nat.reduceLT, Nat.reduceAdd, Nat.reduceLeDiff, Nat.reduceMul, Nat.reduceBEq, Nat.reduceSub, Int.reduceLE, Int.reduceToNat, Int.reduceLT, Int.reduceNeg, encSIDBalanceNonce, encSLIDAmountNonce, encSAccounts, encSKindIDAmount, List.map_append, List.length_append, List.length_map, List.map_take, List.map_drop, List.length_drop, List.length_take, Nat.le_refl, true_and]
            refine hK _ ?_
            clear hK K
            try simp only [s_thN, s_thE, s_thR, s_blN, s_blE, s_blM, s_blR, Nat.reduceEqDiff]
            subst h
            refine sat_ret (retN [] ?_)
            simp only [v1, v2, v3, v4, v5, v6, v7, v8, v9, tf1, tu, litOk, appOk, appS, growD, Nat.reduceEqDiff, Nat.reduceLT, Nat.reduceAdd, Nat.reduceLeDiff, Nat.reduceMul, Nat.reduceBEq, Nat.reduceSub, Int.reduceLE, Int.reduceToNat, Int.reduceLT, Int.reduceNeg, encSIDBalanceNonce, encSLIDAmountNonce, encSAccounts, encSKindIDAmount, vl, Try.results22, e_sp0, e_sp1, List.map_append, List.length_append, List.length_map, List.map_take, List.map_drop, List.length_drop, List.length_take, Nat.le_refl, true_and]
          · replace h := h.2 hb3
            refine sat_skip ?_
            try simp only [s_thN, s_thE, s_thR, s_blN, s_blE, s_blM, s_blR, Nat.reduceEqDiff]
            refine sat_region fun K hK => ?_
            simp only [v1, v2, v3, v4, v5, v6, v7, v8, v9, tf1, tu, litOk, appOk, appS, growD, Nat.reduceEqDiff, Nat.reduceLT, Nat.reduceAdd, Nat.reduceLeDiff, Nat.reduceMul, Nat.reduceBEq, Nat.reduceSub, Int.reduceLE, Int.reduceToNat, Int.reduceLT, Int.reduceNeg, encSIDBalanceNonce, encSLIDAmountNonce, encSAccounts, encSKindIDAmount, List.map_append, List.length_append, List.length_map, List.map_take, List.map_drop, List.length_drop, List.length_take, Nat.le_refl, true_and]
            refine hK _ ?_
            clear hK K
            try simp only [s_thN, s_thE, s_thR, s_blN, s_blE, s_blM, s_blR, Nat.reduceEqDiff]
            rw [← hnx] at h
            exact ⟨IntKind.i64.wrap (j2 + 1), h.1, h.2, by simp only [v1, v2, v3, v4, v5, v6, v7, v8, v9, tf1, tu, litOk, appOk, appS, growD, Nat.reduceEqDiff, Nat.reduceLT, Nat.reduceAdd, Nat.reduceLeDiff, Nat.reduceMul, Nat.reduceBEq, Nat.reduceSub, Int.reduceLE, Int.reduceToNat, Int.reduceLT, Int.reduceNeg, encSIDBalanceNonce, encSLIDAmountNonce, encSAccounts, encSKindIDAmount, vl, List.map_append, List.length_append, List.length_map, List.map_take, List.map_drop, List.length_drop, List.length_take, Nat.le_refl, true_and]⟩
  · replace h := h.2 hb1
    refine sat_exit ?_
    try simp only [s_thN, s_thE, s_thR, s_blN, s_blE, s_blM, s_blR, Nat.reduceEqDiff]
    refine sat_seq ?_
    refine sat_region fun K hK => ?_
    simp only [v1, v2, v3, v4, v5, v6, v7, v8, v9, tf1, tu, litOk, appOk, appS, growD, Nat.reduceEqDiff, Nat.reduceLT, Nat.reduceAdd, Nat.reduceLeDiff, Nat.reduceMul, Nat.reduceBEq, Nat.reduceSub, Int.reduceLE, Int.reduceToNat, Int.reduceLT, Int.reduceNeg, encSIDBalanceNonce, encSLIDAmountNonce, encSAccounts, encSKindIDAmount, List.map_append, List.length_append, List.length_map, List.map_take, List.map_drop, List.length_drop, List.length_take, Nat.le_refl, true_and]
    refine hK _ ?_
    clear hK K
    try simp only [s_thN, s_thE, s_thR, s_blN, s_blE, s_blM, s_blR, Nat.reduceEqDiff]
    subst h
    refine sat_ret (retN [] ?_)
    simp only [v1, v2, v3, v4, v5, v6, v7, v8, v9, tf1, tu, litOk, appOk, appS, growD, Nat.reduceEqDiff, Nat.reduceLT, Nat.reduceAdd, Nat.reduceLeDiff, Nat.reduceMul, Nat.reduceBEq, Nat.reduceSub, Int.reduceLE, Int.reduceToNat, Int.reduceLT, Int.reduceNeg, encSIDBalanceNonce, encSLIDAmountNonce, encSAccounts, encSKindIDAmount, vl, Try.results22, e_sp0, e_sp1, List.map_append, List.length_append, List.length_map, List.map_take, List.map_drop, List.length_drop, List.length_take, Nat.le_refl, true_and]
theorem moidorelaw44_LedgerValid_ok (p0 : List SIDBalanceNonce) (r0 : Bool) (h : moidorelaw44_LedgerValid_Ret p0 r0) : SoundH Try.prog 6 [.d (.slice 3 (List.map encSIDBalanceNonce p0))] [] (.d (.bool r0)) [] := by
  refine sound_of Try.func6 rfl Try.ntmps6 (by simp) fun G0 w0 => ?_
  unfold moidorelaw44_LedgerValid_Ret at h
  refine sat_seq ?_
  refine sat_region fun K hK => ?_
  simp only [v1, v2, v3, v4, v5, v6, v7, v8, v9, tf1, tu, litOk, appOk, appS, growD, Nat.reduceEqDiff, Nat.reduceLT, Nat.reduceAdd, Nat.reduceLeDiff, Nat.reduceMul, Nat.reduceBEq, Nat.reduceSub, Int.reduceLE, Int.reduceToNat, Int.reduceLT, Int.reduceNeg, encSIDBalanceNonce, encSLIDAmountNonce, encSAccounts, encSKindIDAmount, List.map_append, List.length_append, List.length_map, List.map_take, List.map_drop, List.length_drop, List.length_take, Nat.le_refl, true_and]
  refine hK _ ?_
  clear hK K
  try simp only [s_thN, s_thE, s_thR, s_blN, s_blE, s_blM, s_blR, Nat.reduceEqDiff]
  refine sat_join (ι := Bool) (fun x => ⟨[(2, .d (.bool x))], [], 0⟩) (fun x => moidorelaw44_LedgerValid_J1 r0 x) ?_ ?_
  · obtain ⟨y1, hr1, y2, hr2, y3, hr3, y4, hr4, h⟩ := h
    refine sat_region fun K hK => ?_
    simp only [v1, v2, v3, v4, v5, v6, v7, v8, v9, tf1, tu, litOk, appOk, appS, growD, Nat.reduceEqDiff, Nat.reduceLT, Nat.reduceAdd, Nat.reduceLeDiff, Nat.reduceMul, Nat.reduceBEq, Nat.reduceSub, Int.reduceLE, Int.reduceToNat, Int.reduceLT, Int.reduceNeg, encSIDBalanceNonce, encSLIDAmountNonce, encSAccounts, encSKindIDAmount, List.map_append, List.length_append, List.length_map, List.map_take, List.map_drop, List.length_drop, List.length_take, Nat.le_refl, true_and]
    refine a_call [] (moidorelaw44_awake_ok  y1 hr1) bd9 (by simp only [v1, v2, v3, v4, v5, v6, v7, v8, v9, tf1, tu, litOk, appOk, appS, growD, Nat.reduceEqDiff, Nat.reduceLT, Nat.reduceAdd, Nat.reduceLeDiff, Nat.reduceMul, Nat.reduceBEq, Nat.reduceSub, Int.reduceLE, Int.reduceToNat, Int.reduceLT, Int.reduceNeg, encSIDBalanceNonce, encSLIDAmountNonce, encSAccounts, encSKindIDAmount, callOk, vl, List.map_append, List.length_append, List.length_map, List.map_take, List.map_drop, List.length_drop, List.length_take, Nat.le_refl, true_and]) ?_
    simp only [v1, v2, v3, v4, v5, v6, v7, v8, v9, tf1, tu, litOk, appOk, appS, growD, Nat.reduceEqDiff, Nat.reduceLT, Nat.reduceAdd, Nat.reduceLeDiff, Nat.reduceMul, Nat.reduceBEq, Nat.reduceSub, Int.reduceLE, Int.reduceToNat, Int.reduceLT, Int.reduceNeg, encSIDBalanceNonce, encSLIDAmountNonce, encSAccounts, encSKindIDAmount, List.map_append, List.length_append, List.length_map, List.map_take, List.map_drop, List.length_drop, List.length_take, Nat.le_refl, true_and]
    refine A_guard_split (by simp only [v1, v2, v3, v4, v5, v6, v7, v8, v9, tf1, tu, litOk, appOk, appS, growD, Nat.reduceEqDiff, Nat.reduceLT, Nat.reduceAdd, Nat.reduceLeDiff, Nat.reduceMul, Nat.reduceBEq, Nat.reduceSub, Int.reduceLE, Int.reduceToNat, Int.reduceLT, Int.reduceNeg, encSIDBalanceNonce, encSLIDAmountNonce, encSAccounts, encSKindIDAmount]; rfl) (fun hg1 => ?_) (fun hg1 => ?_)
    · simp only [v1, v2, v3, v4, v5, v6, v7, v8, v9, tf1, tu, litOk, appOk, appS, growD, Nat.reduceEqDiff, Nat.reduceLT, Nat.reduceAdd, Nat.reduceLeDiff, Nat.reduceMul, Nat.reduceBEq, Nat.reduceSub, Int.reduceLE, Int.reduceToNat, Int.reduceLT, Int.reduceNeg, encSIDBalanceNonce, encSLIDAmountNonce, encSAccounts, encSKindIDAmount, hg1, List.map_append, List.length_append, List.length_map, List.map_take, List.map_drop, List.length_drop, List.length_take, Nat.le_refl, true_and]
      refine A_guard_split (by simp only [v1, v2, v3, v4, v5, v6, v7, v8, v9, tf1, tu, litOk, appOk, appS, growD, Nat.reduceEqDiff, Nat.reduceLT, Nat.reduceAdd, Nat.reduceLeDiff, Nat.reduceMul, Nat.reduceBEq, Nat.reduceSub, Int.reduceLE, Int.reduceToNat, Int.reduceLT, Int.reduceNeg, encSIDBalanceNonce, encSLIDAmountNonce, encSAccounts, encSKindIDAmount, hg1]; rfl) (fun hg2 => ?_) (fun hg2 => ?_)
      · simp only [v1, v2, v3, v4, v5, v6, v7, v8, v9, tf1, tu, litOk, appOk, appS, growD, Nat.reduceEqDiff, Nat.reduceLT, Nat.reduceAdd, Nat.reduceLeDiff, Nat.reduceMul, Nat.reduceBEq, Nat.reduceSub, Int.reduceLE, Int.reduceToNat, Int.reduceLT, Int.reduceNeg, encSIDBalanceNonce, encSLIDAmountNonce, encSAccounts, encSKindIDAmount, hg1, hg2, List.map_append, List.length_append, List.length_map, List.map_take, List.map_drop, List.length_drop, List.length_take, Nat.le_refl, true_and]
        refine hK _ ?_
        clear hK K
        try simp only [s_thN, s_thE, s_thR, s_blN, s_blE, s_blM, s_blR, Nat.reduceEqDiff]
        exact ⟨y1 && ((decide (20 < ((List.length p0 : Nat) : Int))) || (y3 == y4)), h, by simp only [v1, v2, v3, v4, v5, v6, v7, v8, v9, tf1, tu, litOk, appOk, appS, growD, Nat.reduceEqDiff, Nat.reduceLT, Nat.reduceAdd, Nat.reduceLeDiff, Nat.reduceMul, Nat.reduceBEq, Nat.reduceSub, Int.reduceLE, Int.reduceToNat, Int.reduceLT, Int.reduceNeg, encSIDBalanceNonce, encSLIDAmountNonce, encSAccounts, encSKindIDAmount, vl, hg1, hg2, List.map_append, List.length_append, List.length_map, List.map_take, List.map_drop, List.length_drop, List.length_take, Nat.le_refl, true_and]⟩
      · simp only [v1, v2, v3, v4, v5, v6, v7, v8, v9, tf1, tu, litOk, appOk, appS, growD, Nat.reduceEqDiff, Nat.reduceLT, Nat.reduceAdd, Nat.reduceLeDiff, Nat.reduceMul, Nat.reduceBEq, Nat.reduceSub, Int.reduceLE, Int.reduceToNat, Int.reduceLT, Int.reduceNeg, encSIDBalanceNonce, encSLIDAmountNonce, encSAccounts, encSKindIDAmount, hg1, hg2, List.map_append, List.length_append, List.length_map, List.map_take, List.map_drop, List.length_drop, List.length_take, Nat.le_refl, true_and]
        replace hr2 := hr2 (by simp only [v1, v2, v3, v4, v5, v6, v7, v8, v9, tf1, tu, litOk, appOk, appS, growD, Nat.reduceEqDiff, Nat.reduceLT, Nat.reduceAdd, Nat.reduceLeDiff, Nat.reduceMul, Nat.reduceBEq, Nat.reduceSub, Int.reduceLE, Int.reduceToNat, Int.reduceLT, Int.reduceNeg, encSIDBalanceNonce, encSLIDAmountNonce, encSAccounts, encSKindIDAmount, hg1, hg2]) (by simp only [v1, v2, v3, v4, v5, v6, v7, v8, v9, tf1, tu, litOk, appOk, appS, growD, Nat.reduceEqDiff, Nat.reduceLT, Nat.reduceAdd, Nat.reduceLeDiff, Nat.reduceMul, Nat.reduceBEq, Nat.reduceSub, Int.reduceLE, Int.reduceToNat, Int.reduceLT, Int.reduceNeg, encSIDBalanceNonce, encSLIDAmountNonce, encSAccounts, encSKindIDAmount, hg1, hg2])
        refine a_call [] (moidorelaw44_own_ok p0 y2 hr2) bd12 (by simp only [v1, v2, v3, v4, v5, v6, v7, v8, v9, tf1, tu, litOk, appOk, appS, growD, Nat.reduceEqDiff, Nat.reduceLT, Nat.reduceAdd, Nat.reduceLeDiff, Nat.reduceMul, Nat.reduceBEq, Nat.reduceSub, Int.reduceLE, Int.reduceToNat, Int.reduceLT, Int.reduceNeg, encSIDBalanceNonce, encSLIDAmountNonce, encSAccounts, encSKindIDAmount, callOk, vl, hg1, hg2, List.map_append, List.length_append, List.length_map, List.map_take, List.map_drop, List.length_drop, List.length_take, Nat.le_refl, true_and]) ?_
        simp only [v1, v2, v3, v4, v5, v6, v7, v8, v9, tf1, tu, litOk, appOk, appS, growD, Nat.reduceEqDiff, Nat.reduceLT, Nat.reduceAdd, Nat.reduceLeDiff, Nat.reduceMul, Nat.reduceBEq, Nat.reduceSub, Int.reduceLE, Int.reduceToNat, Int.reduceLT, Int.reduceNeg, encSIDBalanceNonce, encSLIDAmountNonce, encSAccounts, encSKindIDAmount, hg1, hg2, List.map_append, List.length_append, List.length_map, List.map_take, List.map_drop, List.length_drop, List.length_take, Nat.le_refl, true_and]
        replace hr3 := hr3 (by simp only [v1, v2, v3, v4, v5, v6, v7, v8, v9, tf1, tu, litOk, appOk, appS, growD, Nat.reduceEqDiff, Nat.reduceLT, Nat.reduceAdd, Nat.reduceLeDiff, Nat.reduceMul, Nat.reduceBEq, Nat.reduceSub, Int.reduceLE, Int.reduceToNat, Int.reduceLT, Int.reduceNeg, encSIDBalanceNonce, encSLIDAmountNonce, encSAccounts, encSKindIDAmount, hg1, hg2]) (by simp only [v1, v2, v3, v4, v5, v6, v7, v8, v9, tf1, tu, litOk, appOk, appS, growD, Nat.reduceEqDiff, Nat.reduceLT, Nat.reduceAdd, Nat.reduceLeDiff, Nat.reduceMul, Nat.reduceBEq, Nat.reduceSub, Int.reduceLE, Int.reduceToNat, Int.reduceLT, Int.reduceNeg, encSIDBalanceNonce, encSLIDAmountNonce, encSAccounts, encSKindIDAmount, hg1, hg2])
        refine a_call [] (ledger_Valid_ok y2 y3 hr3) bd22 (by simp only [v1, v2, v3, v4, v5, v6, v7, v8, v9, tf1, tu, litOk, appOk, appS, growD, Nat.reduceEqDiff, Nat.reduceLT, Nat.reduceAdd, Nat.reduceLeDiff, Nat.reduceMul, Nat.reduceBEq, Nat.reduceSub, Int.reduceLE, Int.reduceToNat, Int.reduceLT, Int.reduceNeg, encSIDBalanceNonce, encSLIDAmountNonce, encSAccounts, encSKindIDAmount, callOk, vl, hg1, hg2, List.map_append, List.length_append, List.length_map, List.map_take, List.map_drop, List.length_drop, List.length_take, Nat.le_refl, true_and]) ?_
        simp only [v1, v2, v3, v4, v5, v6, v7, v8, v9, tf1, tu, litOk, appOk, appS, growD, Nat.reduceEqDiff, Nat.reduceLT, Nat.reduceAdd, Nat.reduceLeDiff, Nat.reduceMul, Nat.reduceBEq, Nat.reduceSub, Int.reduceLE, Int.reduceToNat, Int.reduceLT, Int.reduceNeg, encSIDBalanceNonce, encSLIDAmountNonce, encSAccounts, encSKindIDAmount, hg1, hg2, List.map_append, List.length_append, List.length_map, List.map_take, List.map_drop, List.length_drop, List.length_take, Nat.le_refl, true_and]
        replace hr4 := hr4 (by simp only [v1, v2, v3, v4, v5, v6, v7, v8, v9, tf1, tu, litOk, appOk, appS, growD, Nat.reduceEqDiff, Nat.reduceLT, Nat.reduceAdd, Nat.reduceLeDiff, Nat.reduceMul, Nat.reduceBEq, Nat.reduceSub, Int.reduceLE, Int.reduceToNat, Int.reduceLT, Int.reduceNeg, encSIDBalanceNonce, encSLIDAmountNonce, encSAccounts, encSKindIDAmount, hg1, hg2]) (by simp only [v1, v2, v3, v4, v5, v6, v7, v8, v9, tf1, tu, litOk, appOk, appS, growD, Nat.reduceEqDiff, Nat.reduceLT, Nat.reduceAdd, Nat.reduceLeDiff, Nat.reduceMul, Nat.reduceBEq, Nat.reduceSub, Int.reduceLE, Int.reduceToNat, Int.reduceLT, Int.reduceNeg, encSIDBalanceNonce, encSLIDAmountNonce, encSAccounts, encSKindIDAmount, hg1, hg2])
        refine a_call [] (moidoreref44_Valid_ok p0 y4 hr4) bd23 (by simp only [v1, v2, v3, v4, v5, v6, v7, v8, v9, tf1, tu, litOk, appOk, appS, growD, Nat.reduceEqDiff, Nat.reduceLT, Nat.reduceAdd, Nat.reduceLeDiff, Nat.reduceMul, Nat.reduceBEq, Nat.reduceSub, Int.reduceLE, Int.reduceToNat, Int.reduceLT, Int.reduceNeg, encSIDBalanceNonce, encSLIDAmountNonce, encSAccounts, encSKindIDAmount, callOk, vl, hg1, hg2, List.map_append, List.length_append, List.length_map, List.map_take, List.map_drop, List.length_drop, List.length_take, Nat.le_refl, true_and]) ?_
        simp only [v1, v2, v3, v4, v5, v6, v7, v8, v9, tf1, tu, litOk, appOk, appS, growD, Nat.reduceEqDiff, Nat.reduceLT, Nat.reduceAdd, Nat.reduceLeDiff, Nat.reduceMul, Nat.reduceBEq, Nat.reduceSub, Int.reduceLE, Int.reduceToNat, Int.reduceLT, Int.reduceNeg, encSIDBalanceNonce, encSLIDAmountNonce, encSAccounts, encSKindIDAmount, hg1, hg2, List.map_append, List.length_append, List.length_map, List.map_take, List.map_drop, List.length_drop, List.length_take, Nat.le_refl, true_and]
        refine hK _ ?_
        clear hK K
        try simp only [s_thN, s_thE, s_thR, s_blN, s_blE, s_blM, s_blR, Nat.reduceEqDiff]
        exact ⟨y1 && ((decide (20 < ((List.length p0 : Nat) : Int))) || (y3 == y4)), h, by simp only [v1, v2, v3, v4, v5, v6, v7, v8, v9, tf1, tu, litOk, appOk, appS, growD, Nat.reduceEqDiff, Nat.reduceLT, Nat.reduceAdd, Nat.reduceLeDiff, Nat.reduceMul, Nat.reduceBEq, Nat.reduceSub, Int.reduceLE, Int.reduceToNat, Int.reduceLT, Int.reduceNeg, encSIDBalanceNonce, encSLIDAmountNonce, encSAccounts, encSKindIDAmount, vl, hg1, hg2, List.map_append, List.length_append, List.length_map, List.map_take, List.map_drop, List.length_drop, List.length_take, Nat.le_refl, true_and]⟩
    · simp only [v1, v2, v3, v4, v5, v6, v7, v8, v9, tf1, tu, litOk, appOk, appS, growD, Nat.reduceEqDiff, Nat.reduceLT, Nat.reduceAdd, Nat.reduceLeDiff, Nat.reduceMul, Nat.reduceBEq, Nat.reduceSub, Int.reduceLE, Int.reduceToNat, Int.reduceLT, Int.reduceNeg, encSIDBalanceNonce, encSLIDAmountNonce, encSAccounts, encSKindIDAmount, hg1, List.map_append, List.length_append, List.length_map, List.map_take, List.map_drop, List.length_drop, List.length_take, Nat.le_refl, true_and]
      refine hK _ ?_
      clear hK K
      try simp only [s_thN, s_thE, s_thR, s_blN, s_blE, s_blM, s_blR, Nat.reduceEqDiff]
      exact ⟨y1 && ((decide (20 < ((List.length p0 : Nat) : Int))) || (y3 == y4)), h, by simp only [v1, v2, v3, v4, v5, v6, v7, v8, v9, tf1, tu, litOk, appOk, appS, growD, Nat.reduceEqDiff, Nat.reduceLT, Nat.reduceAdd, Nat.reduceLeDiff, Nat.reduceMul, Nat.reduceBEq, Nat.reduceSub, Int.reduceLE, Int.reduceToNat, Int.reduceLT, Int.reduceNeg, encSIDBalanceNonce, encSLIDAmountNonce, encSAccounts, encSKindIDAmount, vl, hg1, List.map_append, List.length_append, List.length_map, List.map_take, List.map_drop, List.length_drop, List.length_take, Nat.le_refl, true_and]⟩
  · intro b1 h
    have h : moidorelaw44_LedgerValid_J1 r0 b1 := h
    show Sat _ _ _ _ _ _ ⟨[(2, .d (.bool b1))], [], 0⟩ _
    unfold moidorelaw44_LedgerValid_J1 at h
    subst h
    refine sat_ret (retN [] ?_)
    simp only [v1, v2, v3, v4, v5, v6, v7, v8, v9, tf1, tu, litOk, appOk, appS, growD, Nat.reduceEqDiff, Nat.reduceLT, Nat.reduceAdd, Nat.reduceLeDiff, Nat.reduceMul, Nat.reduceBEq, Nat.reduceSub, Int.reduceLE, Int.reduceToNat, Int.reduceLT, Int.reduceNeg, encSIDBalanceNonce, encSLIDAmountNonce, encSAccounts, encSKindIDAmount, vl, Try.results6, e_sp0, e_sp1, List.map_append, List.length_append, List.length_map, List.map_take, List.map_drop, List.length_drop, List.length_take, Nat.le_refl, true_and]
theorem moidorelaw44_LedgerMatchesModel_ok (p0 : List SKindIDAmount) (r0 : Bool) (h : moidorelaw44_LedgerMatchesModel_Ret p0 r0) : SoundH Try.prog 7 [.d (.slice 3 (List.map encSKindIDAmount p0))] [] (.d (.bool r0)) [] := by
  refine sound_of Try.func7 rfl Try.ntmps7 (by simp) fun G0 w0 => ?_
  unfold moidorelaw44_LedgerMatchesModel_Ret at h
  refine sat_seq ?_
  refine sat_region fun K hK => ?_
  simp only [v1, v2, v3, v4, v5, v6, v7, v8, v9, tf1, tu, litOk, appOk, appS, growD, Nat.reduceEqDiff, Nat.reduceLT, Nat.reduceAdd, Nat.reduceLeDiff, Nat.reduceMul, Nat.reduceBEq, Nat.reduceSub, Int.reduceLE, Int.reduceToNat, Int.reduceLT, Int.reduceNeg, encSIDBalanceNonce, encSLIDAmountNonce, encSAccounts, encSKindIDAmount, List.map_append, List.length_append, List.length_map, List.map_take, List.map_drop, List.length_drop, List.length_take, Nat.le_refl, true_and]
  refine hK _ ?_
  clear hK K
  try simp only [s_thN, s_thE, s_thR, s_blN, s_blE, s_blM, s_blR, Nat.reduceEqDiff]
  refine sat_seq ?_
  refine sat_join (ι := Bool) (fun x => ⟨[(0, .d (.slice 3 (List.map encSKindIDAmount p0))), (18, .d (.bool x))], [], 0⟩) (fun x => moidorelaw44_LedgerMatchesModel_J5 p0 r0 x) ?_ ?_
  · obtain ⟨y1, hr1, h⟩ := h
    refine sat_region fun K hK => ?_
    simp only [v1, v2, v3, v4, v5, v6, v7, v8, v9, tf1, tu, litOk, appOk, appS, growD, Nat.reduceEqDiff, Nat.reduceLT, Nat.reduceAdd, Nat.reduceLeDiff, Nat.reduceMul, Nat.reduceBEq, Nat.reduceSub, Int.reduceLE, Int.reduceToNat, Int.reduceLT, Int.reduceNeg, encSIDBalanceNonce, encSLIDAmountNonce, encSAccounts, encSKindIDAmount, List.map_append, List.length_append, List.length_map, List.map_take, List.map_drop, List.length_drop, List.length_take, Nat.le_refl, true_and]
    refine a_call [] (moidorelaw44_awake_ok  y1 hr1) bd9 (by simp only [v1, v2, v3, v4, v5, v6, v7, v8, v9, tf1, tu, litOk, appOk, appS, growD, Nat.reduceEqDiff, Nat.reduceLT, Nat.reduceAdd, Nat.reduceLeDiff, Nat.reduceMul, Nat.reduceBEq, Nat.reduceSub, Int.reduceLE, Int.reduceToNat, Int.reduceLT, Int.reduceNeg, encSIDBalanceNonce, encSLIDAmountNonce, encSAccounts, encSKindIDAmount, callOk, vl, List.map_append, List.length_append, List.length_map, List.map_take, List.map_drop, List.length_drop, List.length_take, Nat.le_refl, true_and]) ?_
    simp only [v1, v2, v3, v4, v5, v6, v7, v8, v9, tf1, tu, litOk, appOk, appS, growD, Nat.reduceEqDiff, Nat.reduceLT, Nat.reduceAdd, Nat.reduceLeDiff, Nat.reduceMul, Nat.reduceBEq, Nat.reduceSub, Int.reduceLE, Int.reduceToNat, Int.reduceLT, Int.reduceNeg, encSIDBalanceNonce, encSLIDAmountNonce, encSAccounts, encSKindIDAmount, List.map_append, List.length_append, List.length_map, List.map_take, List.map_drop, List.length_drop, List.length_take, Nat.le_refl, true_and]
    refine A_guard_split (by simp only [v1, v2, v3, v4, v5, v6, v7, v8, v9, tf1, tu, litOk, appOk, appS, growD, Nat.reduceEqDiff, Nat.reduceLT, Nat.reduceAdd, Nat.reduceLeDiff, Nat.reduceMul, Nat.reduceBEq, Nat.reduceSub, Int.reduceLE, Int.reduceToNat, Int.reduceLT, Int.reduceNeg, encSIDBalanceNonce, encSLIDAmountNonce, encSAccounts, encSKindIDAmount]; rfl) (fun hg1 => ?_) (fun hg1 => ?_)
    · simp only [v1, v2, v3, v4, v5, v6, v7, v8, v9, tf1, tu, litOk, appOk, appS, growD, Nat.reduceEqDiff, Nat.reduceLT, Nat.reduceAdd, Nat.reduceLeDiff, Nat.reduceMul, Nat.reduceBEq, Nat.reduceSub, Int.reduceLE, Int.reduceToNat, Int.reduceLT, Int.reduceNeg, encSIDBalanceNonce, encSLIDAmountNonce, encSAccounts, encSKindIDAmount, hg1, List.map_append, List.length_append, List.length_map, List.map_take, List.map_drop, List.length_drop, List.length_take, Nat.le_refl, true_and]
      refine hK _ ?_
      clear hK K
      try simp only [s_thN, s_thE, s_thR, s_blN, s_blE, s_blM, s_blR, Nat.reduceEqDiff]
      exact ⟨(!y1) || (decide (40 < ((List.length p0 : Nat) : Int))), h, by simp only [v1, v2, v3, v4, v5, v6, v7, v8, v9, tf1, tu, litOk, appOk, appS, growD, Nat.reduceEqDiff, Nat.reduceLT, Nat.reduceAdd, Nat.reduceLeDiff, Nat.reduceMul, Nat.reduceBEq, Nat.reduceSub, Int.reduceLE, Int.reduceToNat, Int.reduceLT, Int.reduceNeg, encSIDBalanceNonce, encSLIDAmountNonce, encSAccounts, encSKindIDAmount, vl, hg1, List.map_append, List.length_append, List.length_map, List.map_take, List.map_drop, List.length_drop, List.length_take, Nat.le_refl, true_and]⟩
    · simp only [v1, v2, v3, v4, v5, v6, v7, v8, v9, tf1, tu, litOk, appOk, appS, growD, Nat.reduceEqDiff, Nat.reduceLT, Nat.reduceAdd, Nat.reduceLeDiff, Nat.reduceMul, Nat.reduceBEq, Nat.reduceSub, Int.reduceLE, Int.reduceToNat, Int.reduceLT, Int.reduceNeg, encSIDBalanceNonce, encSLIDAmountNonce, encSAccounts, encSKindIDAmount, hg1, List.map_append, List.length_append, List.length_map, List.map_take, List.map_drop, List.length_drop, List.length_take, Nat.le_refl, true_and]
      refine hK _ ?_
      clear hK K
      try simp only [s_thN, s_thE, s_thR, s_blN, s_blE, s_blM, s_blR, Nat.reduceEqDiff]
      exact ⟨(!y1) || (decide (40 < ((List.length p0 : Nat) : Int))), h, by simp only [v1, v2, v3, v4, v5, v6, v7, v8, v9, tf1, tu, litOk, appOk, appS, growD, Nat.reduceEqDiff, Nat.reduceLT, Nat.reduceAdd, Nat.reduceLeDiff, Nat.reduceMul, Nat.reduceBEq, Nat.reduceSub, Int.reduceLE, Int.reduceToNat, Int.reduceLT, Int.reduceNeg, encSIDBalanceNonce, encSLIDAmountNonce, encSAccounts, encSKindIDAmount, vl, hg1, List.map_append, List.length_append, List.length_map, List.map_take, List.map_drop, List.length_drop, List.length_take, Nat.le_refl, true_and]⟩
  · intro b1 h
    have h : moidorelaw44_LedgerMatchesModel_J5 p0 r0 b1 := h
    show Sat _ _ _ _ _ _ ⟨[(0, .d (.slice 3 (List.map encSKindIDAmount p0))), (18, .d (.bool b1))], [], 0⟩ _
    unfold moidorelaw44_LedgerMatchesModel_J5 at h
    refine sat_cond rfl (fun hb1 => ?_) (fun hb1 => ?_)
    · replace h := h.1 hb1
      refine sat_seq ?_
      obtain ⟨y2, hr2, h⟩ := h
      refine sat_region fun K hK => ?_
      simp only [v1, v2, v3, v4, v5, v6, v7, v8, v9, tf1, tu, litOk, appOk, appS, growD, Nat.reduceEqDiff, Nat.reduceLT, Nat.reduceAdd, Nat.reduceLeDiff, Nat.reduceMul, Nat.reduceBEq, Nat.reduceSub, Int.reduceLE, Int.reduceToNat, Int.reduceLT, Int.reduceNeg, encSIDBalanceNonce, encSLIDAmountNonce, encSAccounts, encSKindIDAmount, List.map_append, List.length_append, List.length_map, List.map_take, List.map_drop, List.length_drop, List.length_take, Nat.le_refl, true_and]
      refine a_call [] (moidorelaw44_awake_ok  y2 hr2) bd9 (by simp only [v1, v2, v3, v4, v5, v6, v7, v8, v9, tf1, tu, litOk, appOk, appS, growD, Nat.reduceEqDiff, Nat.reduceLT, Nat.reduceAdd, Nat.reduceLeDiff, Nat.reduceMul, Nat.reduceBEq, Nat.reduceSub, Int.reduceLE, Int.reduceToNat, Int.reduceLT, Int.reduceNeg, encSIDBalanceNonce, encSLIDAmountNonce, encSAccounts, encSKindIDAmount, callOk, vl, List.map_append, List.length_append, List.length_map, List.map_take, List.map_drop, List.length_drop, List.length_take, Nat.le_refl, true_and]) ?_
      simp only [v1, v2, v3, v4, v5, v6, v7, v8, v9, tf1, tu, litOk, appOk, appS, growD, Nat.reduceEqDiff, Nat.reduceLT, Nat.reduceAdd, Nat.reduceLeDiff, Nat.reduceMul, Nat.reduceBEq, Nat.reduceSub, Int.reduceLE, Int.reduceToNat, Int.reduceLT, Int.reduceNeg, encSIDBalanceNonce, encSLIDAmountNonce, encSAccounts, encSKindIDAmount, List.map_append, List.length_append, List.length_map, List.map_take, List.map_drop, List.length_drop, List.length_take, Nat.le_refl, true_and]
      refine hK _ ?_
      clear hK K
      try simp only [s_thN, s_thE, s_thR, s_blN, s_blE, s_blM, s_blR, Nat.reduceEqDiff]
      subst h
      refine sat_ret (retN [] ?_)
      simp only [v1, v2, v3, v4, v5, v6, v7, v8, v9, tf1, tu, litOk, appOk, appS, growD, Nat.reduceEqDiff, Nat.reduceLT, Nat.reduceAdd, Nat.reduceLeDiff, Nat.reduceMul, Nat.reduceBEq, Nat.reduceSub, Int.reduceLE, Int.reduceToNat, Int.reduceLT, Int.reduceNeg, encSIDBalanceNonce, encSLIDAmountNonce, encSAccounts, encSKindIDAmount, vl, Try.results7, e_sp0, e_sp1, List.map_append, List.length_append, List.length_map, List.map_take, List.map_drop, List.length_drop, List.length_take, Nat.le_refl, true_and]
    · replace h := h.2 hb1
      refine sat_skip ?_
      try simp only [s_thN, s_thE, s_thR, s_blN, s_blE, s_blM, s_blR, Nat.reduceEqDiff]
      refine sat_seq ?_
      refine sat_region fun K hK => ?_
      simp only [v1, v2, v3, v4, v5, v6, v7, v8, v9, tf1, tu, litOk, appOk, appS, growD, Nat.reduceEqDiff, Nat.reduceLT, Nat.reduceAdd, Nat.reduceLeDiff, Nat.reduceMul, Nat.reduceBEq, Nat.reduceSub, Int.reduceLE, Int.reduceToNat, Int.reduceLT, Int.reduceNeg, encSIDBalanceNonce, encSLIDAmountNonce, encSAccounts, encSKindIDAmount, List.map_append, List.length_append, List.length_map, List.map_take, List.map_drop, List.length_drop, List.length_take, Nat.le_refl, true_and]
      refine hK _ ?_
      clear hK K
      try simp only [s_thN, s_thE, s_thR, s_blN, s_blE, s_blM, s_blR, Nat.reduceEqDiff]
      refine sat_seq ?_
      refine sat_region fun K hK => ?_
      simp only [v1, v2, v3, v4, v5, v6, v7, v8, v9, tf1, tu, litOk, appOk, appS, growD, Nat.reduceEqDiff, Nat.reduceLT, Nat.reduceAdd, Nat.reduceLeDiff, Nat.reduceMul, Nat.reduceBEq, Nat.reduceSub, Int.reduceLE, Int.reduceToNat, Int.reduceLT, Int.reduceNeg, encSIDBalanceNonce, encSLIDAmountNonce, encSAccounts, encSKindIDAmount, List.map_append, List.length_append, List.length_map, List.map_take, List.map_drop, List.length_drop, List.length_take, Nat.le_refl, true_and]
      refine hK _ ?_
      clear hK K
      try simp only [s_thN, s_thE, s_thR, s_blN, s_blE, s_blM, s_blR, Nat.reduceEqDiff]
      refine sat_seq ?_
      refine sat_seq ?_
      refine sat_region fun K hK => ?_
      simp only [v1, v2, v3, v4, v5, v6, v7, v8, v9, tf1, tu, litOk, appOk, appS, growD, Nat.reduceEqDiff, Nat.reduceLT, Nat.reduceAdd, Nat.reduceLeDiff, Nat.reduceMul, Nat.reduceBEq, Nat.reduceSub, Int.reduceLE, Int.reduceToNat, Int.reduceLT, Int.reduceNeg, encSIDBalanceNonce, encSLIDAmountNonce, encSAccounts, encSKindIDAmount, List.map_append, List.length_append, List.length_map, List.map_take, List.map_drop, List.length_drop, List.length_take, Nat.le_refl, true_and]
      refine hK _ ?_
      clear hK K
      try simp only [s_thN, s_thE, s_thR, s_blN, s_blE, s_blM, s_blR, Nat.reduceEqDiff]
      refine sat_block ?_
      refine sat_tok 4 (sz := 3) (l := List.map encSIDBalanceNonce ([] : List SIDBalanceNonce)) (by simp only [v1, v2, v3, v4, v5, v6, v7, v8, v9, tf1, tu, litOk, appOk, appS, growD, Nat.reduceEqDiff, Nat.reduceLT, Nat.reduceAdd, Nat.reduceLeDiff, Nat.reduceMul, Nat.reduceBEq, Nat.reduceSub, Int.reduceLE, Int.reduceToNat, Int.reduceLT, Int.reduceNeg, encSIDBalanceNonce, encSLIDAmountNonce, encSAccounts, encSKindIDAmount, e_gfF, e_gfN]) ?_
      simp only [v1, v2, v3, v4, v5, v6, v7, v8, v9, tf1, tu, litOk, appOk, appS, growD, Nat.reduceEqDiff, Nat.reduceLT, Nat.reduceAdd, Nat.reduceLeDiff, Nat.reduceMul, Nat.reduceBEq, Nat.reduceSub, Int.reduceLE, Int.reduceToNat, Int.reduceLT, Int.reduceNeg, encSIDBalanceNonce, encSLIDAmountNonce, encSAccounts, encSKindIDAmount, List.map_append, List.length_append, List.length_map, List.map_take, List.map_drop, List.length_drop, List.length_take, Nat.le_refl, true_and]
      obtain ⟨inv, μ, h0, hs⟩ := h
      refine sat_loop (ι := (List SIDBalanceNonce) × Int × (List SIDBalanceNonce)) (fun x => ⟨[(3, .ptr 0 0), (4, .d (.slice 3 (List.map encSIDBalanceNonce x.1))), (20, .d (.slice 3 (List.map encSKindIDAmount p0))), (21, .d (.int .i64 ((List.length p0 : Nat) : Int))), (22, .d (.int .i64 x.2.1))], [(0, .cells [.d (.slice 3 (List.map encSIDBalanceNonce x.2.2))])], 2⟩) inv μ (([] : List SIDBalanceNonce), 0, ([] : List SIDBalanceNonce)) h0 (by simp only [v1, v2, v3, v4, v5, v6, v7, v8, v9, tf1, tu, litOk, appOk, appS, growD, Nat.reduceEqDiff, Nat.reduceLT, Nat.reduceAdd, Nat.reduceLeDiff, Nat.reduceMul, Nat.reduceBEq, Nat.reduceSub, Int.reduceLE, Int.reduceToNat, Int.reduceLT, Int.reduceNeg, encSIDBalanceNonce, encSLIDAmountNonce, encSAccounts, encSKindIDAmount, vl, List.map_append, List.length_append, List.length_map, List.map_take, List.map_drop, List.length_drop, List.length_take, Nat.le_refl, true_and]) ?_
      rintro ⟨j4, j5, j6⟩ hi
      have h : moidorelaw44_LedgerMatchesModel_L4 p0 r0 _ j4 j5 j6 := hs _ hi
      clear hs h0 hi
      generalize hnx : (fun s => inv s ∧ μ s < μ (j4, j5, j6)) = nx1 at h
      show Sat _ _ _ _ _ _ ⟨[(3, .ptr 0 0), (4, .d (.slice 3 (List.map encSIDBalanceNonce j4))), (20, .d (.slice 3 (List.map encSKindIDAmount p0))), (21, .d (.int .i64 ((List.length p0 : Nat) : Int))), (22, .d (.int .i64 j5))], [(0, .cells [.d (.slice 3 (List.map encSIDBalanceNonce j6))])], 2⟩ _
      unfold moidorelaw44_LedgerMatchesModel_L4 at h
      refine sat_seq ?_
      refine sat_region fun K hK => ?_
      simp only [v1, v2, v3, v4, v5, v6, v7, v8, v9, tf1, tu, litOk, appOk, appS, growD, Nat.reduceEqDiff, Nat.reduceLT, Nat.reduceAdd, Nat.reduceLeDiff, Nat.reduceMul, Nat.reduceBEq, Nat.reduceSub, Int.reduceLE, Int.reduceToNat, Int.reduceLT, Int.reduceNeg, encSIDBalanceNonce, encSLIDAmountNonce, encSAccounts, encSKindIDAmount, List.map_append, List.length_append, List.length_map, List.map_take, List.map_drop, List.length_drop, List.length_take, Nat.le_refl, true_and]
      refine hK _ ?_
      clear hK K
      try simp only [s_thN, s_thE, s_thR, s_blN, s_blE, s_blM, s_blR, Nat.reduceEqDiff]
      refine sat_seq ?_
      refine sat_cond rfl (fun hb2 => ?_) (fun hb2 => ?_)
      · replace h := h.1 hb2
        refine sat_skip ?_
        try simp only [s_thN, s_thE, s_thR, s_blN, s_blE, s_blM, s_blR, Nat.reduceEqDiff]
        refine sat_seq ?_
        refine sat_block ?_
        refine sat_seq ?_
        obtain ⟨c1, c2, h⟩ := h
        refine sat_region fun K hK => ?_
        simp only [v1, v2, v3, v4, v5, v6, v7, v8, v9, tf1, tu, litOk, appOk, appS, growD, Nat.reduceEqDiff, Nat.reduceLT, Nat.reduceAdd, Nat.reduceLeDiff, Nat.reduceMul, Nat.reduceBEq, Nat.reduceSub, Int.reduceLE, Int.reduceToNat, Int.reduceLT, Int.reduceNeg, encSIDBalanceNonce, encSLIDAmountNonce, encSAccounts, encSKindIDAmount, c1, c2, elt_ix encSKindIDAmount p0 j5 c1 c2, List.map_append, List.length_append, List.length_map, List.map_take, List.map_drop, List.length_drop, List.length_take, Nat.le_refl, true_and]
        refine hK _ ?_
        clear hK K
        try simp only [s_thN, s_thE, s_thR, s_blN, s_blE, s_blM, s_blR, Nat.reduceEqDiff]
        refine sat_seq ?_
        refine sat_seq ?_
        refine sat_region fun K hK => ?_
        simp only [v1, v2, v3, v4, v5, v6, v7, v8, v9, tf1, tu, litOk, appOk, appS, growD, Nat.reduceEqDiff, Nat.reduceLT, Nat.reduceAdd, Nat.reduceLeDiff, Nat.reduceMul, Nat.reduceBEq, Nat.reduceSub, Int.reduceLE, Int.reduceToNat, Int.reduceLT, Int.reduceNeg, encSIDBalanceNonce, encSLIDAmountNonce, encSAccounts, encSKindIDAmount, List.map_append, List.length_append, List.length_map, List.map_take, List.map_drop, List.length_drop, List.length_take, Nat.le_refl, true_and]
        refine hK _ ?_
        clear hK K
        try simp only [s_thN, s_thE, s_thR, s_blN, s_blE, s_blM, s_blR, Nat.reduceEqDiff]
        refine sat_cond rfl (fun hb3 => ?_) (fun hb3 => ?_)
        · replace h := h.1 hb3
          refine sat_seq ?_
          refine sat_region fun K hK => ?_
          simp only [v1, v2, v3, v4, v5, v6, v7, v8, v9, tf1, tu, litOk, appOk, appS, growD, Nat.reduceEqDiff, Nat.reduceLT, Nat.reduceAdd, Nat.reduceLeDiff, Nat.reduceMul, Nat.reduceBEq, Nat.reduceSub, Int.reduceLE, Int.reduceToNat, Int.reduceLT, Int.reduceNeg, encSIDBalanceNonce, encSLIDAmountNonce, encSAccounts, encSKindIDAmount, List.map_append, List.length_append, List.length_map, List.map_take, List.map_drop, List.length_drop, List.length_take, Nat.le_refl, true_and]
          refine hK _ ?_
          clear hK K
          try simp only [s_thN, s_thE, s_thR, s_blN, s_blE, s_blM, s_blR, Nat.reduceEqDiff]
          subst h
          refine sat_ret (retN [] ?_)
          simp only [v1, v2, v3, v4, v5, v6, v7, v8, v9, tf1, tu, litOk, appOk, appS, growD, Nat.reduceEqDiff, Nat.reduceLT, Nat.reduceAdd, Nat.reduceLeDiff, Nat.reduceMul, Nat.reduceBEq, Nat.reduceSub, Int.reduceLE, Int.reduceToNat, Int.reduceLT, Int.reduceNeg, encSIDBalanceNonce, encSLIDAmountNonce, encSAccounts, encSKindIDAmount, vl, Try.results7, e_sp0, e_sp1, List.map_append, List.length_append, List.length_map, List.map_take, List.map_drop, List.length_drop, List.length_take, Nat.le_refl, true_and]
        · replace h := h.2 hb3
          refine sat_skip ?_
          try simp only [s_thN, s_thE, s_thR, s_blN, s_blE, s_blM, s_blR, Nat.reduceEqDiff]
          refine sat_seq ?_
          refine sat_region fun K hK => ?_
          simp only [v1, v2, v3, v4, v5, v6, v7, v8, v9, tf1, tu, litOk, appOk, appS, growD, Nat.reduceEqDiff, Nat.reduceLT, Nat.reduceAdd, Nat.reduceLeDiff, Nat.reduceMul, Nat.reduceBEq, Nat.reduceSub, Int.reduceLE, Int.reduceToNat, Int.reduceLT, Int.reduceNeg, encSIDBalanceNonce, encSLIDAmountNonce, encSAccounts, encSKindIDAmount, List.map_append, List.length_append, List.length_map, List.map_take, List.map_drop, List.length_drop, List.length_take, Nat.le_refl, true_and]
          refine hK _ ?_
          clear hK K
          try simp only [s_thN, s_thE, s_thR, s_blN, s_blE, s_blM, s_blR, Nat.reduceEqDiff]
          refine sat_seq ?_
          refine sat_region fun K hK => ?_
          simp only [v1, v2, v3, v4, v5, v6, v7, v8, v9, tf1, tu, litOk, appOk, appS, growD, Nat.reduceEqDiff, Nat.reduceLT, Nat.reduceAdd, Nat.reduceLeDiff, Nat.reduceMul, Nat.reduceBEq, Nat.reduceSub, Int.reduceLE, Int.reduceToNat, Int.reduceLT, Int.reduceNeg, encSIDBalanceNonce, encSLIDAmountNonce, encSAccounts, encSKindIDAmount, List.map_append, List.length_append, List.length_map, List.map_take, List.map_drop, List.length_drop, List.length_take, Nat.le_refl, true_and]
          refine hK _ ?_
          clear hK K
          try simp only [s_thN, s_thE, s_thR, s_blN, s_blE, s_blM, s_blR, Nat.reduceEqDiff]
          refine sat_seq ?_
          obtain ⟨y3, hr3, h⟩ := h
          refine sat_region fun K hK => ?_
          simp only [v1, v2, v3, v4, v5, v6, v7, v8, v9, tf1, tu, litOk, appOk, appS, growD, Nat.reduceEqDiff, Nat.reduceLT, Nat.reduceAdd, Nat.reduceLeDiff, Nat.reduceMul, Nat.reduceBEq, Nat.reduceSub, Int.reduceLE, Int.reduceToNat, Int.reduceLT, Int.reduceNeg, encSIDBalanceNonce, encSLIDAmountNonce, encSAccounts, encSKindIDAmount, List.map_append, List.length_append, List.length_map, List.map_take, List.map_drop, List.length_drop, List.length_take, Nat.le_refl, true_and]
          refine a_call [] (moidoreref44_Get_ok j4 ((ix p0 j5).ID) y3 hr3) bd24 (by simp only [v1, v2, v3, v4, v5, v6, v7, v8, v9, tf1, tu, litOk, appOk, appS, growD, Nat.reduceEqDiff, Nat.reduceLT, Nat.reduceAdd, Nat.reduceLeDiff, Nat.reduceMul, Nat.reduceBEq, Nat.reduceSub, Int.reduceLE, Int.reduceToNat, Int.reduceLT, Int.reduceNeg, encSIDBalanceNonce, encSLIDAmountNonce, encSAccounts, encSKindIDAmount, callOk, vl, List.map_append, List.length_append, List.length_map, List.map_take, List.map_drop, List.length_drop, List.length_take, Nat.le_refl, true_and]) ?_
          simp only [v1, v2, v3, v4, v5, v6, v7, v8, v9, tf1, tu, litOk, appOk, appS, growD, Nat.reduceEqDiff, Nat.reduceLT, Nat.reduceAdd, Nat.reduceLeDiff, Nat.reduceMul, Nat.reduceBEq, Nat.reduceSub, Int.reduceLE, Int.reduceToNat, Int.reduceLT, Int.reduceNeg, encSIDBalanceNonce, encSLIDAmountNonce, encSAccounts, encSKindIDAmount, List.map_append, List.length_append, List.length_map, List.map_take, List.map_drop, List.length_drop, List.length_take, Nat.le_refl, true_and]
          refine hK _ ?_
          clear hK K
          try simp only [s_thN, s_thE, s_thR, s_blN, s_blE, s_blM, s_blR, Nat.reduceEqDiff]
          refine sat_join (ι := (List SIDBalanceNonce) × Int × Int × (List SIDBalanceNonce)) (fun x => ⟨[(3, .ptr 0 0), (4, .d (.slice 3 (List.map encSIDBalanceNonce j4))), (7, .ptr 3 0), (8, .d (.slice 3 (List.map encSIDBalanceNonce x.1))), (9, .d (.int .i64 x.2.1)), (10, .d (.int .i64 x.2.2.1)), (20, .d (.slice 3 (List.map encSKindIDAmount p0))), (21, .d (.int .i64 ((List.length p0 : Nat) : Int))), (22, .d (.int .i64 j5))], [(0, .cells [.d (.slice 3 (List.map encSIDBalanceNonce j6))]), (3, .cells [.d (.slice 3 (List.map encSIDBalanceNonce x.2.2.2))])], 4⟩) (fun x => moidorelaw44_LedgerMatchesModel_J3 r0 nx1 j4 j5 j6 x.1 x.2.1 x.2.2.1 x.2.2.2) ?_ ?_
          · refine sat_seq ?_
            refine sat_region fun K hK => ?_
            simp only [v1, v2, v3, v4, v5, v6, v7, v8, v9, tf1, tu, litOk, appOk, appS, growD, Nat.reduceEqDiff, Nat.reduceLT, Nat.reduceAdd, Nat.reduceLeDiff, Nat.reduceMul, Nat.reduceBEq, Nat.reduceSub, Int.reduceLE, Int.reduceToNat, Int.reduceLT, Int.reduceNeg, encSIDBalanceNonce, encSLIDAmountNonce, encSAccounts, encSKindIDAmount, ne_eq, Int.reduceEq, not_false_eq_true, List.map_append, List.length_append, List.length_map, List.map_take, List.map_drop, List.length_drop, List.length_take, Nat.le_refl, true_and]
            refine hK _ ?_
            clear hK K
            try simp only [s_thN, s_thE, s_thR, s_blN, s_blE, s_blM, s_blR, Nat.reduceEqDiff]
            refine sat_block ?_
            refine sat_seq ?_
            refine sat_region fun K hK => ?_
            simp only [v1, v2, v3, v4, v5, v6, v7, v8, v9, tf1, tu, litOk, appOk, appS, growD, Nat.reduceEqDiff, Nat.reduceLT, Nat.reduceAdd, Nat.reduceLeDiff, Nat.reduceMul, Nat.reduceBEq, Nat.reduceSub, Int.reduceLE, Int.reduceToNat, Int.reduceLT, Int.reduceNeg, encSIDBalanceNonce, encSLIDAmountNonce, encSAccounts, encSKindIDAmount, List.map_append, List.length_append, List.length_map, List.map_take, List.map_drop, List.length_drop, List.length_take, Nat.le_refl, true_and]
            refine hK _ ?_
            clear hK K
            try simp only [s_thN, s_thE, s_thR, s_blN, s_blE, s_blM, s_blR, Nat.reduceEqDiff]
            refine sat_cond rfl (fun hb4 => ?_) (fun hb4 => ?_)
            · replace h := h.1 hb4
              refine sat_seq ?_
              obtain ⟨y4, y5, hr4, h⟩ := h
              refine sat_region fun K hK => ?_
              simp only [v1, v2, v3, v4, v5, v6, v7, v8, v9, tf1, tu, litOk, appOk, appS, growD, Nat.reduceEqDiff, Nat.reduceLT, Nat.reduceAdd, Nat.reduceLeDiff, Nat.reduceMul, Nat.reduceBEq, Nat.reduceSub, Int.reduceLE, Int.reduceToNat, Int.reduceLT, Int.reduceNeg, encSIDBalanceNonce, encSLIDAmountNonce, encSAccounts, encSKindIDAmount, List.map_append, List.length_append, List.length_map, List.map_take, List.map_drop, List.length_drop, List.length_take, Nat.le_refl, true_and]
              refine a_call [] (ledger_Credit_ok (SAccounts.mk j6) ((ix p0 j5).ID) ((ix p0 j5).Amount) y4 y5 hr4) bd11 (by simp only [v1, v2, v3, v4, v5, v6, v7, v8, v9, tf1, tu, litOk, appOk, appS, growD, Nat.reduceEqDiff, Nat.reduceLT, Nat.reduceAdd, Nat.reduceLeDiff, Nat.reduceMul, Nat.reduceBEq, Nat.reduceSub, Int.reduceLE, Int.reduceToNat, Int.reduceLT, Int.reduceNeg, encSIDBalanceNonce, encSLIDAmountNonce, encSAccounts, encSKindIDAmount, callOk, vl, List.map_append, List.length_append, List.length_map, List.map_take, List.map_drop, List.length_drop, List.length_take, Nat.le_refl, true_and]) ?_
              simp only [v1, v2, v3, v4, v5, v6, v7, v8, v9, tf1, tu, litOk, appOk, appS, growD, Nat.reduceEqDiff, Nat.reduceLT, Nat.reduceAdd, Nat.reduceLeDiff, Nat.reduceMul, Nat.reduceBEq, Nat.reduceSub, Int.reduceLE, Int.reduceToNat, Int.reduceLT, Int.reduceNeg, encSIDBalanceNonce, encSLIDAmountNonce, encSAccounts, encSKindIDAmount, List.map_append, List.length_append, List.length_map, List.map_take, List.map_drop, List.length_drop, List.length_take, Nat.le_refl, true_and]
              refine hK _ ?_
              clear hK K
              try simp only [s_thN, s_thE, s_thR, s_blN, s_blE, s_blM, s_blR, Nat.reduceEqDiff]
              obtain ⟨y6, y7, hr5, h⟩ := h
              refine sat_region fun K hK => ?_
              simp only [v1, v2, v3, v4, v5, v6, v7, v8, v9, tf1, tu, litOk, appOk, appS, growD, Nat.reduceEqDiff, Nat.reduceLT, Nat.reduceAdd, Nat.reduceLeDiff, Nat.reduceMul, Nat.reduceBEq, Nat.reduceSub, Int.reduceLE, Int.reduceToNat, Int.reduceLT, Int.reduceNeg, encSIDBalanceNonce, encSLIDAmountNonce, encSAccounts, encSKindIDAmount, List.map_append, List.length_append, List.length_map, List.map_take, List.map_drop, List.length_drop, List.length_take, Nat.le_refl, true_and]
              refine a_call [] (moidoreref44_Credit_ok j4 ((ix p0 j5).ID) ((ix p0 j5).Amount) y6 y7 hr5) bd13 (by simp only [v1, v2, v3, v4, v5, v6, v7, v8, v9, tf1, tu, litOk, appOk, appS, growD, Nat.reduceEqDiff, Nat.reduceLT, Nat.reduceAdd, Nat.reduceLeDiff, Nat.reduceMul, Nat.reduceBEq, Nat.reduceSub, Int.reduceLE, Int.reduceToNat, Int.reduceLT, Int.reduceNeg, encSIDBalanceNonce, encSLIDAmountNonce, encSAccounts, encSKindIDAmount, callOk, vl, List.map_append, List.length_append, List.length_map, List.map_take, List.map_drop, List.length_drop, List.length_take, Nat.le_refl, true_and]) ?_
              simp only [v1, v2, v3, v4, v5, v6, v7, v8, v9, tf1, tu, litOk, appOk, appS, growD, Nat.reduceEqDiff, Nat.reduceLT, Nat.reduceAdd, Nat.reduceLeDiff, Nat.reduceMul, Nat.reduceBEq, Nat.reduceSub, Int.reduceLE, Int.reduceToNat, Int.reduceLT, Int.reduceNeg, encSIDBalanceNonce, encSLIDAmountNonce, encSAccounts, encSKindIDAmount, List.map_append, List.length_append, List.length_map, List.map_take, List.map_drop, List.length_drop, List.length_take, Nat.le_refl, true_and]
              refine hK _ ?_
              clear hK K
              try simp only [s_thN, s_thE, s_thR, s_blN, s_blE, s_blM, s_blR, Nat.reduceEqDiff]
              exact ⟨(y6, y5, y7, y4.Accounts), h, by simp only [v1, v2, v3, v4, v5, v6, v7, v8, v9, tf1, tu, litOk, appOk, appS, growD, Nat.reduceEqDiff, Nat.reduceLT, Nat.reduceAdd, Nat.reduceLeDiff, Nat.reduceMul, Nat.reduceBEq, Nat.reduceSub, Int.reduceLE, Int.reduceToNat, Int.reduceLT, Int.reduceNeg, encSIDBalanceNonce, encSLIDAmountNonce, encSAccounts, encSKindIDAmount, vl, List.map_append, List.length_append, List.length_map, List.map_take, List.map_drop, List.length_drop, List.length_take, Nat.le_refl, true_and]⟩
            · replace h := h.2 hb4
              refine sat_seq ?_
              refine sat_region fun K hK => ?_
              simp only [v1, v2, v3, v4, v5, v6, v7, v8, v9, tf1, tu, litOk, appOk, appS, growD, Nat.reduceEqDiff, Nat.reduceLT, Nat.reduceAdd, Nat.reduceLeDiff, Nat.reduceMul, Nat.reduceBEq, Nat.reduceSub, Int.reduceLE, Int.reduceToNat, Int.reduceLT, Int.reduceNeg, encSIDBalanceNonce, encSLIDAmountNonce, encSAccounts, encSKindIDAmount, List.map_append, List.length_append, List.length_map, List.map_take, List.map_drop, List.length_drop, List.length_take, Nat.le_refl, true_and]
              refine hK _ ?_
              clear hK K
              try simp only [s_thN, s_thE, s_thR, s_blN, s_blE, s_blM, s_blR, Nat.reduceEqDiff]
              refine sat_cond rfl (fun hb5 => ?_) (fun hb5 => ?_)
              · replace h := h.1 hb5
                refine sat_seq ?_
                obtain ⟨y8, y9, hr6, h⟩ := h
                refine sat_region fun K hK => ?_
                simp only [v1, v2, v3, v4, v5, v6, v7, v8, v9, tf1, tu, litOk, appOk, appS, growD, Nat.reduceEqDiff, Nat.reduceLT, Nat.reduceAdd, Nat.reduceLeDiff, Nat.reduceMul, Nat.reduceBEq, Nat.reduceSub, Int.reduceLE, Int.reduceToNat, Int.reduceLT, Int.reduceNeg, encSIDBalanceNonce, encSLIDAmountNonce, encSAccounts, encSKindIDAmount, List.map_append, List.length_append, List.length_map, List.map_take, List.map_drop, List.length_drop, List.length_take, Nat.le_refl, true_and]
                refine a_call [] (ledger_Debit_ok (SAccounts.mk j6) ((ix p0 j5).ID) ((ix p0 j5).Amount) y3.Nonce y8 y9 hr6) bd18 (by simp only [v1, v2, v3, v4, v5, v6, v7, v8, v9, tf1, tu, litOk, appOk, appS, growD, Nat.reduceEqDiff, Nat.reduceLT, Nat.reduceAdd, Nat.reduceLeDiff, Nat.reduceMul, Nat.reduceBEq, Nat.reduceSub, Int.reduceLE, Int.reduceToNat, Int.reduceLT, Int.reduceNeg, encSIDBalanceNonce, encSLIDAmountNonce, encSAccounts, encSKindIDAmount, callOk, vl, List.map_append, List.length_append, List.length_map, List.map_take, List.map_drop, List.length_drop, List.length_take, Nat.le_refl, true_and]) ?_
                simp only [v1, v2, v3, v4, v5, v6, v7, v8, v9, tf1, tu, litOk, appOk, appS, growD, Nat.reduceEqDiff, Nat.reduceLT, Nat.reduceAdd, Nat.reduceLeDiff, Nat.reduceMul, Nat.reduceBEq, Nat.reduceSub, Int.reduceLE, Int.reduceToNat, Int.reduceLT, Int.reduceNeg, encSIDBalanceNonce, encSLIDAmountNonce, encSAccounts, encSKindIDAmount, List.map_append, List.length_append, List.length_map, List.map_take, List.map_drop, List.length_drop, List.length_take, Nat.le_refl, true_and]
                refine hK _ ?_
                clear hK K
                try simp only [s_thN, s_thE, s_thR, s_blN, s_blE, s_blM, s_blR, Nat.reduceEqDiff]
                obtain ⟨y10, y11, hr7, h⟩ := h
                refine sat_region fun K hK => ?_
                simp only [v1, v2, v3, v4, v5, v6, v7, v8, v9, tf1, tu, litOk, appOk, appS, growD, Nat.reduceEqDiff, Nat.reduceLT, Nat.reduceAdd, Nat.reduceLeDiff, Nat.reduceMul, Nat.reduceBEq, Nat.reduceSub, Int.reduceLE, Int.reduceToNat, Int.reduceLT, Int.reduceNeg, encSIDBalanceNonce, encSLIDAmountNonce, encSAccounts, encSKindIDAmount, List.map_append, List.length_append, List.length_map, List.map_take, List.map_drop, List.length_drop, List.length_take, Nat.le_refl, true_and]
                refine a_call [] (moidoreref44_Debit_ok j4 ((ix p0 j5).ID) ((ix p0 j5).Amount) y3.Nonce y10 y11 hr7) bd19 (by simp only [v1, v2, v3, v4, v5, v6, v7, v8, v9, tf1, tu, litOk, appOk, appS, growD, Nat.reduceEqDiff, Nat.reduceLT, Nat.reduceAdd, Nat.reduceLeDiff, Nat.reduceMul, Nat.reduceBEq, Nat.reduceSub, Int.reduceLE, Int.reduceToNat, Int.reduceLT, Int.reduceNeg, encSIDBalanceNonce, encSLIDAmountNonce, encSAccounts, encSKindIDAmount, callOk, vl, List.map_append, List.length_append, List.length_map, List.map_take, List.map_drop, List.length_drop, List.length_take, Nat.le_refl, true_and]) ?_
                simp only [v1, v2, v3, v4, v5, v6, v7, v8, v9, tf1, tu, litOk, appOk, appS, growD, Nat.reduceEqDiff, Nat.reduceLT, Nat.reduceAdd, Nat.reduceLeDiff, Nat.reduceMul, Nat.reduceBEq, Nat.reduceSub, Int.reduceLE, Int.reduceToNat, Int.reduceLT, Int.reduceNeg, encSIDBalanceNonce, encSLIDAmountNonce, encSAccounts, encSKindIDAmount, List.map_append, List.length_append, List.length_map, List.map_take, List.map_drop, List.length_drop, List.length_take, Nat.le_refl, true_and]
                refine hK _ ?_
                clear hK K
                try simp only [s_thN, s_thE, s_thR, s_blN, s_blE, s_blM, s_blR, Nat.reduceEqDiff]
                exact ⟨(y10, y9, y11, y8.Accounts), h, by simp only [v1, v2, v3, v4, v5, v6, v7, v8, v9, tf1, tu, litOk, appOk, appS, growD, Nat.reduceEqDiff, Nat.reduceLT, Nat.reduceAdd, Nat.reduceLeDiff, Nat.reduceMul, Nat.reduceBEq, Nat.reduceSub, Int.reduceLE, Int.reduceToNat, Int.reduceLT, Int.reduceNeg, encSIDBalanceNonce, encSLIDAmountNonce, encSAccounts, encSKindIDAmount, vl, List.map_append, List.length_append, List.length_map, List.map_take, List.map_drop, List.length_drop, List.length_take, Nat.le_refl, true_and]⟩
              · replace h := h.2 hb5
                refine sat_seq ?_
                refine sat_region fun K hK => ?_
                simp only [v1, v2, v3, v4, v5, v6, v7, v8, v9, tf1, tu, litOk, appOk, appS, growD, Nat.reduceEqDiff, Nat.reduceLT, Nat.reduceAdd, Nat.reduceLeDiff, Nat.reduceMul, Nat.reduceBEq, Nat.reduceSub, Int.reduceLE, Int.reduceToNat, Int.reduceLT, Int.reduceNeg, encSIDBalanceNonce, encSLIDAmountNonce, encSAccounts, encSKindIDAmount, List.map_append, List.length_append, List.length_map, List.map_take, List.map_drop, List.length_drop, List.length_take, Nat.le_refl, true_and]
                refine hK _ ?_
                clear hK K
                try simp only [s_thN, s_thE, s_thR, s_blN, s_blE, s_blM, s_blR, Nat.reduceEqDiff]
                refine sat_cond rfl (fun hb6 => ?_) (fun hb6 => ?_)
                · replace h := h.1 hb6
                  refine sat_seq ?_
                  obtain ⟨y12, y13, hr8, h⟩ := h
                  refine sat_region fun K hK => ?_
                  simp only [v1, v2, v3, v4, v5, v6, v7, v8, v9, tf1, tu, litOk, appOk, appS, growD, Nat.reduceEqDiff, Nat.reduceLT, Nat.reduceAdd, Nat.reduceLeDiff, Nat.reduceMul, Nat.reduceBEq, Nat.reduceSub, Int.reduceLE, Int.reduceToNat, Int.reduceLT, Int.reduceNeg, encSIDBalanceNonce, encSLIDAmountNonce, encSAccounts, encSKindIDAmount, List.map_append, List.length_append, List.length_map, List.map_take, List.map_drop, List.length_drop, List.length_take, Nat.le_refl, true_and]
                  refine a_call [] (ledger_Uncredit_ok (SAccounts.mk j6) ((ix p0 j5).ID) ((ix p0 j5).Amount) y12 y13 hr8) bd14 (by simp only [v1, v2, v3, v4, v5, v6, v7, v8, v9, tf1, tu, litOk, appOk, appS, growD, Nat.reduceEqDiff, Nat.reduceLT, Nat.reduceAdd, Nat.reduceLeDiff, Nat.reduceMul, Nat.reduceBEq, Nat.reduceSub, Int.reduceLE, Int.reduceToNat, Int.reduceLT, Int.reduceNeg, encSIDBalanceNonce, encSLIDAmountNonce, encSAccounts, encSKindIDAmount, callOk, vl, List.map_append, List.length_append, List.length_map, List.map_take, List.map_drop, List.length_drop, List.length_take, Nat.le_refl, true_and]) ?_
                  simp only [v1, v2, v3, v4, v5, v6, v7, v8, v9, tf1, tu, litOk, appOk, appS, growD, Nat.reduceEqDiff, Nat.reduceLT, Nat.reduceAdd, Nat.reduceLeDiff, Nat.reduceMul, Nat.reduceBEq, Nat.reduceSub, Int.reduceLE, Int.reduceToNat, Int.reduceLT, Int.reduceNeg, encSIDBalanceNonce, encSLIDAmountNonce, encSAccounts, encSKindIDAmount, List.map_append, List.length_append, List.length_map, List.map_take, List.map_drop, List.length_drop, List.length_take, Nat.le_refl, true_and]
                  refine hK _ ?_
                  clear hK K
                  try simp only [s_thN, s_thE, s_thR, s_blN, s_blE, s_blM, s_blR, Nat.reduceEqDiff]
                  obtain ⟨y14, y15, hr9, h⟩ := h
                  refine sat_region fun K hK => ?_
                  simp only [v1, v2, v3, v4, v5, v6, v7, v8, v9, tf1, tu, litOk, appOk, appS, growD, Nat.reduceEqDiff, Nat.reduceLT, Nat.reduceAdd, Nat.reduceLeDiff, Nat.reduceMul, Nat.reduceBEq, Nat.reduceSub, Int.reduceLE, Int.reduceToNat, Int.reduceLT, Int.reduceNeg, encSIDBalanceNonce, encSLIDAmountNonce, encSAccounts, encSKindIDAmount, List.map_append, List.length_append, List.length_map, List.map_take, List.map_drop, List.length_drop, List.length_take, Nat.le_refl, true_and]
                  refine a_call [] (moidoreref44_Uncredit_ok j4 ((ix p0 j5).ID) ((ix p0 j5).Amount) y14 y15 hr9) bd15 (by simp only [v1, v2, v3, v4, v5, v6, v7, v8, v9, tf1, tu, litOk, appOk, appS, growD, Nat.reduceEqDiff, Nat.reduceLT, Nat.reduceAdd, Nat.reduceLeDiff, Nat.reduceMul, Nat.reduceBEq, Nat.reduceSub, Int.reduceLE, Int.reduceToNat, Int.reduceLT, Int.reduceNeg, encSIDBalanceNonce, encSLIDAmountNonce, encSAccounts, encSKindIDAmount, callOk, vl, List.map_append, List.length_append, List.length_map, List.map_take, List.map_drop, List.length_drop, List.length_take, Nat.le_refl, true_and]) ?_
                  simp only [v1, v2, v3, v4, v5, v6, v7, v8, v9, tf1, tu, litOk, appOk, appS, growD, Nat.reduceEqDiff, Nat.reduceLT, Nat.reduceAdd, Nat.reduceLeDiff, Nat.reduceMul, Nat.reduceBEq, Nat.reduceSub, Int.reduceLE, Int.reduceToNat, Int.reduceLT, Int.reduceNeg, encSIDBalanceNonce, encSLIDAmountNonce, encSAccounts, encSKindIDAmount, List.map_append, List.length_append, List.length_map, List.map_take, List.map_drop, List.length_drop, List.length_take, Nat.le_refl, true_and]
                  refine hK _ ?_
                  clear hK K
                  try simp only [s_thN, s_thE, s_thR, s_blN, s_blE, s_blM, s_blR, Nat.reduceEqDiff]
                  exact ⟨(y14, y13, y15, y12.Accounts), h, by simp only [v1, v2, v3, v4, v5, v6, v7, v8, v9, tf1, tu, litOk, appOk, appS, growD, Nat.reduceEqDiff, Nat.reduceLT, Nat.reduceAdd, Nat.reduceLeDiff, Nat.reduceMul, Nat.reduceBEq, Nat.reduceSub, Int.reduceLE, Int.reduceToNat, Int.reduceLT, Int.reduceNeg, encSIDBalanceNonce, encSLIDAmountNonce, encSAccounts, encSKindIDAmount, vl, List.map_append, List.length_append, List.length_map, List.map_take, List.map_drop, List.length_drop, List.length_take, Nat.le_refl, true_and]⟩
                · replace h := h.2 hb6
                  refine sat_seq ?_
                  obtain ⟨y16, y17, hr10, h⟩ := h
                  refine sat_region fun K hK => ?_
                  simp only [v1, v2, v3, v4, v5, v6, v7, v8, v9, tf1, tu, litOk, appOk, appS, growD, Nat.reduceEqDiff, Nat.reduceLT, Nat.reduceAdd, Nat.reduceLeDiff, Nat.reduceMul, Nat.reduceBEq, Nat.reduceSub, Int.reduceLE, Int.reduceToNat, Int.reduceLT, Int.reduceNeg, encSIDBalanceNonce, encSLIDAmountNonce, encSAccounts, encSKindIDAmount, List.map_append, List.length_append, List.length_map, List.map_take, List.map_drop, List.length_drop, List.length_take, Nat.le_refl, true_and]
                  refine a_call [] (ledger_Undebit_ok (SAccounts.mk j6) ((ix p0 j5).ID) ((ix p0 j5).Amount) (IntKind.u64.wrap (y3.Nonce - 1)) y16 y17 hr10) bd20 (by simp only [v1, v2, v3, v4, v5, v6, v7, v8, v9, tf1, tu, litOk, appOk, appS, growD, Nat.reduceEqDiff, Nat.reduceLT, Nat.reduceAdd, Nat.reduceLeDiff, Nat.reduceMul, Nat.reduceBEq, Nat.reduceSub, Int.reduceLE, Int.reduceToNat, Int.reduceLT, Int.reduceNeg, encSIDBalanceNonce, encSLIDAmountNonce, encSAccounts, encSKindIDAmount, callOk, vl, List.map_append, List.length_append, List.length_map, List.map_take, List.map_drop, List.length_drop, List.length_take, Nat.le_refl, true_and]) ?_
                  simp only [v1, v2, v3, v4, v5, v6, v7, v8, v9, tf1, tu, litOk, appOk, appS, growD, Nat.reduceEqDiff, Nat.reduceLT, Nat.reduceAdd, Nat.reduceLeDiff, Nat.reduceMul, Nat.reduceBEq, Nat.reduceSub, Int.reduceLE, Int.reduceToNat, Int.reduceLT, Int.reduceNeg, encSIDBalanceNonce, encSLIDAmountNonce, encSAccounts, encSKindIDAmount, List.map_append, List.length_append, List.length_map, List.map_take, List.map_drop, List.length_drop, List.length_take, Nat.le_refl, true_and]
                  refine hK _ ?_
                  clear hK K
                  try simp only [s_thN, s_thE, s_thR, s_blN, s_blE, s_blM, s_blR, Nat.reduceEqDiff]
                  obtain ⟨y18, y19, hr11, h⟩ := h
                  refine sat_region fun K hK => ?_
                  simp only [v1, v2, v3, v4, v5, v6, v7, v8, v9, tf1, tu, litOk, appOk, appS, growD, Nat.reduceEqDiff, Nat.reduceLT, Nat.reduceAdd, Nat.reduceLeDiff, Nat.reduceMul, Nat.reduceBEq, Nat.reduceSub, Int.reduceLE, Int.reduceToNat, Int.reduceLT, Int.reduceNeg, encSIDBalanceNonce, encSLIDAmountNonce, encSAccounts, encSKindIDAmount, List.map_append, List.length_append, List.length_map, List.map_take, List.map_drop, List.length_drop, List.length_take, Nat.le_refl, true_and]
                  refine a_call [] (moidoreref44_Undebit_ok j4 ((ix p0 j5).ID) ((ix p0 j5).Amount) (IntKind.u64.wrap (y3.Nonce - 1)) y18 y19 hr11) bd21 (by simp only [v1, v2, v3, v4, v5, v6, v7, v8, v9, tf1, tu, litOk, appOk, appS, growD, Nat.reduceEqDiff, Nat.reduceLT, Nat.reduceAdd, Nat.reduceLeDiff, Nat.reduceMul, Nat.reduceBEq, Nat.reduceSub, Int.reduceLE, Int.reduceToNat, Int.reduceLT, Int.reduceNeg, encSIDBalanceNonce, encSLIDAmountNonce, encSAccounts, encSKindIDAmount, callOk, vl, List.map_append, List.length_append, List.length_map, List.map_take, List.map_drop, List.length_drop, List.length_take, Nat.le_refl, true_and]) ?_
                  simp only [v1, v2, v3, v4, v5, v6, v7, v8, v9, tf1, tu, litOk, appOk, appS, growD, Nat.reduceEqDiff, Nat.reduceLT, Nat.reduceAdd, Nat.reduceLeDiff, Nat.reduceMul, Nat.reduceBEq, Nat.reduceSub, Int.reduceLE, Int.reduceToNat, Int.reduceLT, Int.reduceNeg, encSIDBalanceNonce, encSLIDAmountNonce, encSAccounts, encSKindIDAmount, List.map_append, List.length_append, List.length_map, List.map_take, List.map_drop, List.length_drop, List.length_take, Nat.le_refl, true_and]
                  refine hK _ ?_
                  clear hK K
                  try simp only [s_thN, s_thE, s_thR, s_blN, s_blE, s_blM, s_blR, Nat.reduceEqDiff]
                  exact ⟨(y18, y17, y19, y16.Accounts), h, by simp only [v1, v2, v3, v4, v5, v6, v7, v8, v9, tf1, tu, litOk, appOk, appS, growD, Nat.reduceEqDiff, Nat.reduceLT, Nat.reduceAdd, Nat.reduceLeDiff, Nat.reduceMul, Nat.reduceBEq, Nat.reduceSub, Int.reduceLE, Int.reduceToNat, Int.reduceLT, Int.reduceNeg, encSIDBalanceNonce, encSLIDAmountNonce, encSAccounts, encSKindIDAmount, vl, List.map_append, List.length_append, List.length_map, List.map_take, List.map_drop, List.length_drop, List.length_take, Nat.le_refl, true_and]⟩
          · rintro ⟨j7, j8, j9, j10⟩ h
            have h : moidorelaw44_LedgerMatchesModel_J3 r0 nx1 j4 j5 j6 j7 j8 j9 j10 := h
            show Sat _ _ _ _ _ _ ⟨[(3, .ptr 0 0), (4, .d (.slice 3 (List.map encSIDBalanceNonce j4))), (7, .ptr 3 0), (8, .d (.slice 3 (List.map encSIDBalanceNonce j7))), (9, .d (.int .i64 j8)), (10, .d (.int .i64 j9)), (20, .d (.slice 3 (List.map encSKindIDAmount p0))), (21, .d (.int .i64 ((List.length p0 : Nat) : Int))), (22, .d (.int .i64 j5))], [(0, .cells [.d (.slice 3 (List.map encSIDBalanceNonce j6))]), (3, .cells [.d (.slice 3 (List.map encSIDBalanceNonce j10))])], 4⟩ _
            unfold moidorelaw44_LedgerMatchesModel_J3 at h
            refine sat_seq ?_
            refine sat_seq ?_
            refine sat_region fun K hK => ?_
            simp only [v1, v2, v3, v4, v5, v6, v7, v8, v9, tf1, tu, litOk, appOk, appS, growD, Nat.reduceEqDiff, Nat.reduceLT, Nat.reduceAdd, Nat.reduceLeDiff, Nat.reduceMul, Nat.reduceBEq, Nat.reduceSub, Int.reduceLE, Int.reduceToNat, Int.reduceLT, Int.reduceNeg, encSIDBalanceNonce, encSLIDAmountNonce, encSAccounts, encSKindIDAmount, List.map_append, List.length_append, List.length_map, List.map_take, List.map_drop, List.length_drop, List.length_take, Nat.le_refl, true_and]
            refine hK _ ?_
            clear hK K
            try simp only [s_thN, s_thE, s_thR, s_blN, s_blE, s_blM, s_blR, Nat.reduceEqDiff]
            refine sat_cond rfl (fun hb4 => ?_) (fun hb4 => ?_)
            · replace h := h.1 hb4
              refine sat_seq ?_
              refine sat_region fun K hK => ?_
              simp only [v1, v2, v3, v4, v5, v6, v7, v8, v9, tf1, tu, litOk, appOk, appS, growD, Nat.reduceEqDiff, Nat.reduceLT, Nat.reduceAdd, Nat.reduceLeDiff, Nat.reduceMul, Nat.reduceBEq, Nat.reduceSub, Int.reduceLE, Int.reduceToNat, Int.reduceLT, Int.reduceNeg, encSIDBalanceNonce, encSLIDAmountNonce, encSAccounts, encSKindIDAmount, List.map_append, List.length_append, List.length_map, List.map_take, List.map_drop, List.length_drop, List.length_take, Nat.le_refl, true_and]
              refine hK _ ?_
              clear hK K
              try simp only [s_thN, s_thE, s_thR, s_blN, s_blE, s_blM, s_blR, Nat.reduceEqDiff]
              subst h
              refine sat_ret (retN [] ?_)
              simp only [v1, v2, v3, v4, v5, v6, v7, v8, v9, tf1, tu, litOk, appOk, appS, growD, Nat.reduceEqDiff, Nat.reduceLT, Nat.reduceAdd, Nat.reduceLeDiff, Nat.reduceMul, Nat.reduceBEq, Nat.reduceSub, Int.reduceLE, Int.reduceToNat, Int.reduceLT, Int.reduceNeg, encSIDBalanceNonce, encSLIDAmountNonce, encSAccounts, encSKindIDAmount, vl, Try.results7, e_sp0, e_sp1, List.map_append, List.length_append, List.length_map, List.map_take, List.map_drop, List.length_drop, List.length_take, Nat.le_refl, true_and]
            · replace h := h.2 hb4
              refine sat_skip ?_
              try simp only [s_thN, s_thE, s_thR, s_blN, s_blE, s_blM, s_blR, Nat.reduceEqDiff]
              refine sat_join (ι := (List SIDBalanceNonce) × (List SIDBalanceNonce)) (fun x => ⟨[(3, .ptr 0 0), (4, .d (.slice 3 (List.map encSIDBalanceNonce x.1))), (20, .d (.slice 3 (List.map encSKindIDAmount p0))), (21, .d (.int .i64 ((List.length p0 : Nat) : Int))), (22, .d (.int .i64 j5))], [(0, .cells [.d (.slice 3 (List.map encSIDBalanceNonce x.2))])], 4⟩) (fun x => moidorelaw44_LedgerMatchesModel_J2 r0 nx1 j5 x.1 x.2) ?_ ?_
              · refine sat_seq ?_
                refine sat_region fun K hK => ?_
                simp only [v1, v2, v3, v4, v5, v6, v7, v8, v9, tf1, tu, litOk, appOk, appS, growD, Nat.reduceEqDiff, Nat.reduceLT, Nat.reduceAdd, Nat.reduceLeDiff, Nat.reduceMul, Nat.reduceBEq, Nat.reduceSub, Int.reduceLE, Int.reduceToNat, Int.reduceLT, Int.reduceNeg, encSIDBalanceNonce, encSLIDAmountNonce, encSAccounts, encSKindIDAmount, List.map_append, List.length_append, List.length_map, List.map_take, List.map_drop, List.length_drop, List.length_take, Nat.le_refl, true_and]
                refine hK _ ?_
                clear hK K
                try simp only [s_thN, s_thE, s_thR, s_blN, s_blE, s_blM, s_blR, Nat.reduceEqDiff]
                refine sat_cond rfl (fun hb5 => ?_) (fun hb5 => ?_)
                · replace h := h.1 hb5
                  refine sat_region fun K hK => ?_
                  simp only [v1, v2, v3, v4, v5, v6, v7, v8, v9, tf1, tu, litOk, appOk, appS, growD, Nat.reduceEqDiff, Nat.reduceLT, Nat.reduceAdd, Nat.reduceLeDiff, Nat.reduceMul, Nat.reduceBEq, Nat.reduceSub, Int.reduceLE, Int.reduceToNat, Int.reduceLT, Int.reduceNeg, encSIDBalanceNonce, encSLIDAmountNonce, encSAccounts, encSKindIDAmount, List.map_append, List.length_append, List.length_map, List.map_take, List.map_drop, List.length_drop, List.length_take, Nat.le_refl, true_and]
                  refine hK _ ?_
                  clear hK K
                  try simp only [s_thN, s_thE, s_thR, s_blN, s_blE, s_blM, s_blR, Nat.reduceEqDiff]
                  exact ⟨(j7, j10), h, by simp only [v1, v2, v3, v4, v5, v6, v7, v8, v9, tf1, tu, litOk, appOk, appS, growD, Nat.reduceEqDiff, Nat.reduceLT, Nat.reduceAdd, Nat.reduceLeDiff, Nat.reduceMul, Nat.reduceBEq, Nat.reduceSub, Int.reduceLE, Int.reduceToNat, Int.reduceLT, Int.reduceNeg, encSIDBalanceNonce, encSLIDAmountNonce, encSAccounts, encSKindIDAmount, vl, List.map_append, List.length_append, List.length_map, List.map_take, List.map_drop, List.length_drop, List.length_take, Nat.le_refl, true_and]⟩
                · replace h := h.2 hb5
                  refine sat_skip ?_
                  try simp only [s_thN, s_thE, s_thR, s_blN, s_blE, s_blM, s_blR, Nat.reduceEqDiff]
                  exact ⟨(j4, j6), h, by simp only [v1, v2, v3, v4, v5, v6, v7, v8, v9, tf1, tu, litOk, appOk, appS, growD, Nat.reduceEqDiff, Nat.reduceLT, Nat.reduceAdd, Nat.reduceLeDiff, Nat.reduceMul, Nat.reduceBEq, Nat.reduceSub, Int.reduceLE, Int.reduceToNat, Int.reduceLT, Int.reduceNeg, encSIDBalanceNonce, encSLIDAmountNonce, encSAccounts, encSKindIDAmount, vl, List.map_append, List.length_append, List.length_map, List.map_take, List.map_drop, List.length_drop, List.length_take, Nat.le_refl, true_and]⟩
              · rintro ⟨j11, j12⟩ h
                have h : moidorelaw44_LedgerMatchesModel_J2 r0 nx1 j5 j11 j12 := h
                show Sat _ _ _ _ _ _ ⟨[(3, .ptr 0 0), (4, .d (.slice 3 (List.map encSIDBalanceNonce j11))), (20, .d (.slice 3 (List.map encSKindIDAmount p0))), (21, .d (.int .i64 ((List.length p0 : Nat) : Int))), (22, .d (.int .i64 j5))], [(0, .cells [.d (.slice 3 (List.map encSIDBalanceNonce j12))])], 4⟩ _
                unfold moidorelaw44_LedgerMatchesModel_J2 at h
                refine sat_join (ι := Bool) (fun x => ⟨[(3, .ptr 0 0), (4, .d (.slice 3 (List.map encSIDBalanceNonce j11))), (20, .d (.slice 3 (List.map encSKindIDAmount p0))), (21, .d (.int .i64 ((List.length p0 : Nat) : Int))), (22, .d (.int .i64 j5)), (139, .d (.bool x))], [(0, .cells [.d (.slice 3 (List.map encSIDBalanceNonce j12))])], 4⟩) (fun x => moidorelaw44_LedgerMatchesModel_J1 r0 nx1 j5 j11 j12 x) ?_ ?_
                · obtain ⟨y4, hr4, y5, hr5, y6, hr6, h⟩ := h
                  refine sat_region fun K hK => ?_
                  simp only [v1, v2, v3, v4, v5, v6, v7, v8, v9, tf1, tu, litOk, appOk, appS, growD, Nat.reduceEqDiff, Nat.reduceLT, Nat.reduceAdd, Nat.reduceLeDiff, Nat.reduceMul, Nat.reduceBEq, Nat.reduceSub, Int.reduceLE, Int.reduceToNat, Int.reduceLT, Int.reduceNeg, encSIDBalanceNonce, encSLIDAmountNonce, encSAccounts, encSKindIDAmount, List.map_append, List.length_append, List.length_map, List.map_take, List.map_drop, List.length_drop, List.length_take, Nat.le_refl, true_and]
                  refine a_call [] (moidorelaw44_back_ok (SAccounts.mk j12) y4 hr4) bd17 (by simp only [v1, v2, v3, v4, v5, v6, v7, v8, v9, tf1, tu, litOk, appOk, appS, growD, Nat.reduceEqDiff, Nat.reduceLT, Nat.reduceAdd, Nat.reduceLeDiff, Nat.reduceMul, Nat.reduceBEq, Nat.reduceSub, Int.reduceLE, Int.reduceToNat, Int.reduceLT, Int.reduceNeg, encSIDBalanceNonce, encSLIDAmountNonce, encSAccounts, encSKindIDAmount, callOk, vl, List.map_append, List.length_append, List.length_map, List.map_take, List.map_drop, List.length_drop, List.length_take, Nat.le_refl, true_and]) ?_
                  simp only [v1, v2, v3, v4, v5, v6, v7, v8, v9, tf1, tu, litOk, appOk, appS, growD, Nat.reduceEqDiff, Nat.reduceLT, Nat.reduceAdd, Nat.reduceLeDiff, Nat.reduceMul, Nat.reduceBEq, Nat.reduceSub, Int.reduceLE, Int.reduceToNat, Int.reduceLT, Int.reduceNeg, encSIDBalanceNonce, encSLIDAmountNonce, encSAccounts, encSKindIDAmount, List.map_append, List.length_append, List.length_map, List.map_take, List.map_drop, List.length_drop, List.length_take, Nat.le_refl, true_and]
                  refine a_call [] (moidoreref44_Same_ok y4 j11 y5 hr5) bd16 (by simp only [v1, v2, v3, v4, v5, v6, v7, v8, v9, tf1, tu, litOk, appOk, appS, growD, Nat.reduceEqDiff, Nat.reduceLT, Nat.reduceAdd, Nat.reduceLeDiff, Nat.reduceMul, Nat.reduceBEq, Nat.reduceSub, Int.reduceLE, Int.reduceToNat, Int.reduceLT, Int.reduceNeg, encSIDBalanceNonce, encSLIDAmountNonce, encSAccounts, encSKindIDAmount, callOk, vl, List.map_append, List.length_append, List.length_map, List.map_take, List.map_drop, List.length_drop, List.length_take, Nat.le_refl, true_and]) ?_
                  simp only [v1, v2, v3, v4, v5, v6, v7, v8, v9, tf1, tu, litOk, appOk, appS, growD, Nat.reduceEqDiff, Nat.reduceLT, Nat.reduceAdd, Nat.reduceLeDiff, Nat.reduceMul, Nat.reduceBEq, Nat.reduceSub, Int.reduceLE, Int.reduceToNat, Int.reduceLT, Int.reduceNeg, encSIDBalanceNonce, encSLIDAmountNonce, encSAccounts, encSKindIDAmount, List.map_append, List.length_append, List.length_map, List.map_take, List.map_drop, List.length_drop, List.length_take, Nat.le_refl, true_and]
                  refine A_guard_split (by simp only [v1, v2, v3, v4, v5, v6, v7, v8, v9, tf1, tu, litOk, appOk, appS, growD, Nat.reduceEqDiff, Nat.reduceLT, Nat.reduceAdd, Nat.reduceLeDiff, Nat.reduceMul, Nat.reduceBEq, Nat.reduceSub, Int.reduceLE, Int.reduceToNat, Int.reduceLT, Int.reduceNeg, encSIDBalanceNonce, encSLIDAmountNonce, encSAccounts, encSKindIDAmount]; rfl) (fun hg1 => ?_) (fun hg1 => ?_)
                  · simp only [v1, v2, v3, v4, v5, v6, v7, v8, v9, tf1, tu, litOk, appOk, appS, growD, Nat.reduceEqDiff, Nat.reduceLT, Nat.reduceAdd, Nat.reduceLeDiff, Nat.reduceMul, Nat.reduceBEq, Nat.reduceSub, Int.reduceLE, Int.reduceToNat, Int.reduceLT, Int.reduceNeg, encSIDBalanceNonce, encSLIDAmountNonce, encSAccounts, encSKindIDAmount, hg1, List.map_append, List.length_append, List.length_map, List.map_take, List.map_drop, List.length_drop, List.length_take, Nat.le_refl, true_and]
                    refine hK _ ?_
                    clear hK K
                    try simp only [s_thN, s_thE, s_thR, s_blN, s_blE, s_blM, s_blR, Nat.reduceEqDiff]
                    exact ⟨(!y5) || (!y6), h, by simp only [v1, v2, v3, v4, v5, v6, v7, v8, v9, tf1, tu, litOk, appOk, appS, growD, Nat.reduceEqDiff, Nat.reduceLT, Nat.reduceAdd, Nat.reduceLeDiff, Nat.reduceMul, Nat.reduceBEq, Nat.reduceSub, Int.reduceLE, Int.reduceToNat, Int.reduceLT, Int.reduceNeg, encSIDBalanceNonce, encSLIDAmountNonce, encSAccounts, encSKindIDAmount, vl, hg1, List.map_append, List.length_append, List.length_map, List.map_take, List.map_drop, List.length_drop, List.length_take, Nat.le_refl, true_and]⟩
                  · simp only [v1, v2, v3, v4, v5, v6, v7, v8, v9, tf1, tu, litOk, appOk, appS, growD, Nat.reduceEqDiff, Nat.reduceLT, Nat.reduceAdd, Nat.reduceLeDiff, Nat.reduceMul, Nat.reduceBEq, Nat.reduceSub, Int.reduceLE, Int.reduceToNat, Int.reduceLT, Int.reduceNeg, encSIDBalanceNonce, encSLIDAmountNonce, encSAccounts, encSKindIDAmount, hg1, List.map_append, List.length_append, List.length_map, List.map_take, List.map_drop, List.length_drop, List.length_take, Nat.le_refl, true_and]
                    replace hr6 := hr6 (by simp only [v1, v2, v3, v4, v5, v6, v7, v8, v9, tf1, tu, litOk, appOk, appS, growD, Nat.reduceEqDiff, Nat.reduceLT, Nat.reduceAdd, Nat.reduceLeDiff, Nat.reduceMul, Nat.reduceBEq, Nat.reduceSub, Int.reduceLE, Int.reduceToNat, Int.reduceLT, Int.reduceNeg, encSIDBalanceNonce, encSLIDAmountNonce, encSAccounts, encSKindIDAmount, hg1])
                    refine a_call [] (ledger_Valid_ok (SAccounts.mk j12) y6 hr6) bd22 (by simp only [v1, v2, v3, v4, v5, v6, v7, v8, v9, tf1, tu, litOk, appOk, appS, growD, Nat.reduceEqDiff, Nat.reduceLT, Nat.reduceAdd, Nat.reduceLeDiff, Nat.reduceMul, Nat.reduceBEq, Nat.reduceSub, Int.reduceLE, Int.reduceToNat, Int.reduceLT, Int.reduceNeg, encSIDBalanceNonce, encSLIDAmountNonce, encSAccounts, encSKindIDAmount, callOk, vl, hg1, List.map_append, List.length_append, List.length_map, List.map_take, List.map_drop, List.length_drop, List.length_take, Nat.le_refl, true_and]) ?_
                    simp only [v1, v2, v3, v4, v5, v6, v7, v8, v9, tf1, tu, litOk, appOk, appS, growD, Nat.reduceEqDiff, Nat.reduceLT, Nat.reduceAdd, Nat.reduceLeDiff, Nat.reduceMul, Nat.reduceBEq, Nat.reduceSub, Int.reduceLE, Int.reduceToNat, Int.reduceLT, Int.reduceNeg, encSIDBalanceNonce, encSLIDAmountNonce, encSAccounts, encSKindIDAmount, hg1, List.map_append, List.length_append, List.length_map, List.map_take, List.map_drop, List.length_drop, List.length_take, Nat.le_refl, true_and]
                    refine hK _ ?_
                    clear hK K
                    try simp only [s_thN, s_thE, s_thR, s_blN, s_blE, s_blM, s_blR, Nat.reduceEqDiff]
                    exact ⟨(!y5) || (!y6), h, by simp only [v1, v2, v3, v4, v5, v6, v7, v8, v9, tf1, tu, litOk, appOk, appS, growD, Nat.reduceEqDiff, Nat.reduceLT, Nat.reduceAdd, Nat.reduceLeDiff, Nat.reduceMul, Nat.reduceBEq, Nat.reduceSub, Int.reduceLE, Int.reduceToNat, Int.reduceLT, Int.reduceNeg, encSIDBalanceNonce, encSLIDAmountNonce, encSAccounts, encSKindIDAmount, vl, hg1, List.map_append, List.length_append, List.length_map, List.map_take, List.map_drop, List.length_drop, List.length_take, Nat.le_refl, true_and]⟩
                · intro b2 h
                  have h : moidorelaw44_LedgerMatchesModel_J1 r0 nx1 j5 j11 j12 b2 := h
                  show Sat _ _ _ _ _ _ ⟨[(3, .ptr 0 0), (4, .d (.slice 3 (List.map encSIDBalanceNonce j11))), (20, .d (.slice 3 (List.map encSKindIDAmount p0))), (21, .d (.int .i64 ((List.length p0 : Nat) : Int))), (22, .d (.int .i64 j5)), (139, .d (.bool b2))], [(0, .cells [.d (.slice 3 (List.map encSIDBalanceNonce j12))])], 4⟩ _
                  unfold moidorelaw44_LedgerMatchesModel_J1 at h
                  refine sat_cond rfl (fun hb5 => ?_) (fun hb5 => ?_)
                  · replace h := h.1 hb5
                    refine sat_seq ?_
                    refine sat_region fun K hK => ?_
                    simp only [v1, v2, v3, v4, v5, v6, v7, v8, v9, tf1, tu, litOk, appOk, appS, growD, Nat.reduceEqDiff, Nat.reduceLT, Nat.reduceAdd, Nat.reduceLeDiff, Nat.reduceMul, Nat.reduceBEq, Nat.reduceSub, Int.reduceLE, Int.reduceToNat, Int.reduceLT, Int.reduceNeg, encSIDBalanceNonce, encSLIDAmountNonce, encSAccounts, encSKindIDAmount, List.map_append, List.length_append, List.length_map, List.map_take, List.map_drop, List.length_drop, List.length_take, Nat.le_refl, true_and]
                    refine hK _ ?_
                    clear hK K
                    try simp only [s_thN, s_thE, s_thR, s_blN, s_blE, s_blM, s_blR, Nat.reduceEqDiff]
                    subst h
                    refine sat_ret (retN [] ?_)
                    simp only [v1, v2, v3, v4, v5, v6, v7, v8, v9, tf1, tu, litOk, appOk, appS, growD, Nat.reduceEqDiff, Nat.reduceLT, Nat.reduceAdd, Nat.reduceLeDiff, Nat.reduceMul, Nat.reduceBEq, Nat.reduceSub, Int.reduceLE, Int.reduceToNat, Int.reduceLT, Int.reduceNeg, encSIDBalanceNonce, encSLIDAmountNonce, encSAccounts, encSKindIDAmount, vl, Try.results7, e_sp0, e_sp1, List.map_append, List.length_append, List.length_map, List.map_take, List.map_drop, List.length_drop, List.length_take, Nat.le_refl, true_and]
                  · replace h := h.2 hb5
                    refine sat_skip ?_
                    try simp only [s_thN, s_thE, s_thR, s_blN, s_blE, s_blM, s_blR, Nat.reduceEqDiff]
                    refine sat_region fun K hK => ?_
                    simp only [v1, v2, v3, v4, v5, v6, v7, v8, v9, tf1, tu, litOk, appOk, appS, growD, Nat.reduceEqDiff, Nat.reduceLT, Nat.reduceAdd, Nat.reduceLeDiff, Nat.reduceMul, Nat.reduceBEq, Nat.reduceSub, Int.reduceLE, Int.reduceToNat, Int.reduceLT, Int.reduceNeg, encSIDBalanceNonce, encSLIDAmountNonce, encSAccounts, encSKindIDAmount, List.map_append, List.length_append, List.length_map, List.map_take, List.map_drop, List.length_drop, List.length_take, Nat.le_refl, true_and]
                    refine hK _ ?_
                    clear hK K
                    try simp only [s_thN, s_thE, s_thR, s_blN, s_blE, s_blM, s_blR, Nat.reduceEqDiff]
                    rw [← hnx] at h
                    exact ⟨(j11, IntKind.i64.wrap (j5 + 1), j12), h.1, h.2, by simp only [v1, v2, v3, v4, v5, v6, v7, v8, v9, tf1, tu, litOk, appOk, appS, growD, Nat.reduceEqDiff, Nat.reduceLT, Nat.reduceAdd, Nat.reduceLeDiff, Nat.reduceMul, Nat.reduceBEq, Nat.reduceSub, Int.reduceLE, Int.reduceToNat, Int.reduceLT, Int.reduceNeg, encSIDBalanceNonce, encSLIDAmountNonce, encSAccounts, encSKindIDAmount, vl, List.map_append, List.length_append, List.length_map, List.map_take, List.map_drop, List.length_drop, List.length_take, Nat.le_refl, true_and]⟩
      · replace h := h.2 hb2
        refine sat_exit ?_
        try simp only [s_thN, s_thE, s_thR, s_blN, s_blE, s_blM, s_blR, Nat.reduceEqDiff]
        refine sat_seq ?_
        refine sat_region fun K hK => ?_
        simp only [v1, v2, v3, v4, v5, v6, v7, v8, v9, tf1, tu, litOk, appOk, appS, growD, Nat.reduceEqDiff, Nat.reduceLT, Nat.reduceAdd, Nat.reduceLeDiff, Nat.reduceMul, Nat.reduceBEq, Nat.reduceSub, Int.reduceLE, Int.reduceToNat, Int.reduceLT, Int.reduceNeg, encSIDBalanceNonce, encSLIDAmountNonce, encSAccounts, encSKindIDAmount, List.map_append, List.length_append, List.length_map, List.map_take, List.map_drop, List.length_drop, List.length_take, Nat.le_refl, true_and]
        refine hK _ ?_
        clear hK K
        try simp only [s_thN, s_thE, s_thR, s_blN, s_blE, s_blM, s_blR, Nat.reduceEqDiff]
        subst h
        refine sat_ret (retN [] ?_)
        simp only [v1, v2, v3, v4, v5, v6, v7, v8, v9, tf1, tu, litOk, appOk, appS, growD, Nat.reduceEqDiff, Nat.reduceLT, Nat.reduceAdd, Nat.reduceLeDiff, Nat.reduceMul, Nat.reduceBEq, Nat.reduceSub, Int.reduceLE, Int.reduceToNat, Int.reduceLT, Int.reduceNeg, encSIDBalanceNonce, encSLIDAmountNonce, encSAccounts, encSKindIDAmount, vl, Try.results7, e_sp0, e_sp1, List.map_append, List.length_append, List.length_map, List.map_take, List.map_drop, List.length_drop, List.length_take, Nat.le_refl, true_and]
theorem ledger_Total_ok (p0 : SAccounts) (r0 : Int) (r1 : Int) (h : ledger_Total_Ret p0 r0 r1) : SoundH Try.prog 26 [.agg [.d (.slice 3 (List.map encSIDBalanceNonce p0.Accounts))]] [] (.tup [.d (.int .u64 r0), .d (.int .i64 r1)]) [] := by
  refine sound_of Try.func26 rfl Try.ntmps26 (by simp) fun G0 w0 => ?_
  unfold ledger_Total_Ret at h
  refine sat_seq ?_
  refine sat_region fun K hK => ?_
  simp only [v1, v2, v3, v4, v5, v6, v7, v8, v9, tf1, tu, litOk, appOk, appS, growD, Nat.reduceEqDiff, Nat.reduceLT, Nat.reduceAdd, Nat.reduceLeDiff, Nat.reduceMul, Nat.reduceBEq, Nat.reduceSub, Int.reduceLE, Int.reduceToNat, Int.reduceLT, Int.reduceNeg, encSIDBalanceNonce, encSLIDAmountNonce, encSAccounts, encSKindIDAmount, List.map_append, List.length_append, List.length_map, List.map_take, List.map_drop, List.length_drop, List.length_take, Nat.le_refl, true_and]
  refine hK _ ?_
  clear hK K
  try simp only [s_thN, s_thE, s_thR, s_blN, s_blE, s_blM, s_blR, Nat.reduceEqDiff]
  refine sat_seq ?_
  refine sat_region fun K hK => ?_
  simp only [v1, v2, v3, v4, v5, v6, v7, v8, v9, tf1, tu, litOk, appOk, appS, growD, Nat.reduceEqDiff, Nat.reduceLT, Nat.reduceAdd, Nat.reduceLeDiff, Nat.reduceMul, Nat.reduceBEq, Nat.reduceSub, Int.reduceLE, Int.reduceToNat, Int.reduceLT, Int.reduceNeg, encSIDBalanceNonce, encSLIDAmountNonce, encSAccounts, encSKindIDAmount, List.map_append, List.length_append, List.length_map, List.map_take, List.map_drop, List.length_drop, List.length_take, Nat.le_refl, true_and]
  refine hK _ ?_
  clear hK K
  try simp only [s_thN, s_thE, s_thR, s_blN, s_blE, s_blM, s_blR, Nat.reduceEqDiff]
  refine sat_seq ?_
  refine sat_seq ?_
  refine sat_region fun K hK => ?_
  simp only [v1, v2, v3, v4, v5, v6, v7, v8, v9, tf1, tu, litOk, appOk, appS, growD, Nat.reduceEqDiff, Nat.reduceLT, Nat.reduceAdd, Nat.reduceLeDiff, Nat.reduceMul, Nat.reduceBEq, Nat.reduceSub, Int.reduceLE, Int.reduceToNat, Int.reduceLT, Int.reduceNeg, encSIDBalanceNonce, encSLIDAmountNonce, encSAccounts, encSKindIDAmount, List.map_append, List.length_append, List.length_map, List.map_take, List.map_drop, List.length_drop, List.length_take, Nat.le_refl, true_and]
  refine hK _ ?_
  clear hK K
  try simp only [s_thN, s_thE, s_thR, s_blN, s_blE, s_blM, s_blR, Nat.reduceEqDiff]
  refine sat_block ?_
  obtain ⟨inv, μ, h0, hs⟩ := h
  refine sat_loop (ι := Int × Int) (fun x => ⟨[(4, .d (.int .u64 x.1)), (10, .d (.slice 3 (List.map encSIDBalanceNonce p0.Accounts))), (11, .d (.int .i64 ((List.length p0.Accounts : Nat) : Int))), (12, .d (.int .i64 x.2))], [], 1⟩) inv μ (0, 0) h0 (by simp only [v1, v2, v3, v4, v5, v6, v7, v8, v9, tf1, tu, litOk, appOk, appS, growD, Nat.reduceEqDiff, Nat.reduceLT, Nat.reduceAdd, Nat.reduceLeDiff, Nat.reduceMul, Nat.reduceBEq, Nat.reduceSub, Int.reduceLE, Int.reduceToNat, Int.reduceLT, Int.reduceNeg, encSIDBalanceNonce, encSLIDAmountNonce, encSAccounts, encSKindIDAmount, vl, List.map_append, List.length_append, List.length_map, List.map_take, List.map_drop, List.length_drop, List.length_take, Nat.le_refl, true_and]) ?_
  rintro ⟨j3, j4⟩ hi
  have h : ledger_Total_L1 p0 r0 r1 _ j3 j4 := hs _ hi
  clear hs h0 hi
  generalize hnx : (fun s => inv s ∧ μ s < μ (j3, j4)) = nx1 at h
  show Sat _ _ _ _ _ _ ⟨[(4, .d (.int .u64 j3)), (10, .d (.slice 3 (List.map encSIDBalanceNonce p0.Accounts))), (11, .d (.int .i64 ((List.length p0.Accounts : Nat) : Int))), (12, .d (.int .i64 j4))], [], 1⟩ _
  unfold ledger_Total_L1 at h
  refine sat_seq ?_
  refine sat_region fun K hK => ?_
  simp only [v1, v2, v3, v4, v5, v6, v7, v8, v9, tf1, tu, litOk, appOk, appS, growD, Nat.reduceEqDiff, Nat.reduceLT, Nat.reduceAdd, Nat.reduceLeDiff, Nat.reduceMul, Nat.reduceBEq, Nat.reduceSub, Int.reduceLE, Int.reduceToNat, Int.reduceLT, Int.reduceNeg, encSIDBalanceNonce, encSLIDAmountNonce, encSAccounts, encSKindIDAmount, List.map_append, List.length_append, List.length_map, List.map_take, List.map_drop, List.length_drop, List.length_take, Nat.le_refl, true_and]
  refine hK _ ?_
  clear hK K
  try simp only [s_thN, s_thE, s_thR, s_blN, s_blE, s_blM, s_blR, Nat.reduceEqDiff]
  refine sat_seq ?_
  refine sat_cond rfl (fun hb1 => ?_) (fun hb1 => ?_)
  · replace h := h.1 hb1
    refine sat_skip ?_
    try simp only [s_thN, s_thE, s_thR, s_blN, s_blE, s_blM, s_blR, Nat.reduceEqDiff]
    refine sat_seq ?_
    refine sat_block ?_
    refine sat_seq ?_
    obtain ⟨c1, c2, h⟩ := h
    refine sat_region fun K hK => ?_
    simp only [v1, v2, v3, v4, v5, v6, v7, v8, v9, tf1, tu, litOk, appOk, appS, growD, Nat.reduceEqDiff, Nat.reduceLT, Nat.reduceAdd, Nat.reduceLeDiff, Nat.reduceMul, Nat.reduceBEq, Nat.reduceSub, Int.reduceLE, Int.reduceToNat, Int.reduceLT, Int.reduceNeg, encSIDBalanceNonce, encSLIDAmountNonce, encSAccounts, encSKindIDAmount, c1, c2, elt_ix encSIDBalanceNonce p0.Accounts j4 c1 c2, List.map_append, List.length_append, List.length_map, List.map_take, List.map_drop, List.length_drop, List.length_take, Nat.le_refl, true_and]
    refine hK _ ?_
    clear hK K
    try simp only [s_thN, s_thE, s_thR, s_blN, s_blE, s_blM, s_blR, Nat.reduceEqDiff]
    refine sat_seq ?_
    obtain ⟨c3, c4, h⟩ := h
    refine sat_region fun K hK => ?_
    simp only [v1, v2, v3, v4, v5, v6, v7, v8, v9, tf1, tu, litOk, appOk, appS, growD, Nat.reduceEqDiff, Nat.reduceLT, Nat.reduceAdd, Nat.reduceLeDiff, Nat.reduceMul, Nat.reduceBEq, Nat.reduceSub, Int.reduceLE, Int.reduceToNat, Int.reduceLT, Int.reduceNeg, encSIDBalanceNonce, encSLIDAmountNonce, encSAccounts, encSKindIDAmount, List.map_append, List.length_append, List.length_map, List.map_take, List.map_drop, List.length_drop, List.length_take, Nat.le_refl, true_and]
    refine A_ext _ _ _ _ _ _ _ _ _ _ (g := 32) (rv := .tup [.d (.int .u64 ((j3 + ((ix p0.Accounts j4).Balance) + 0) % 18446744073709551616)), .d (.int .u64 ((j3 + ((ix p0.Accounts j4).Balance) + 0) / 18446744073709551616))]) (by simp only [v1, v2, v3, v4, v5, v6, v7, v8, v9, tf1, tu, litOk, appOk, appS, growD, Nat.reduceEqDiff, Nat.reduceLT, Nat.reduceAdd, Nat.reduceLeDiff, Nat.reduceMul, Nat.reduceBEq, Nat.reduceSub, Int.reduceLE, Int.reduceToNat, Int.reduceLT, Int.reduceNeg, encSIDBalanceNonce, encSLIDAmountNonce, encSAccounts, encSKindIDAmount]) (by simp only [v1, v2, v3, v4, v5, v6, v7, v8, v9, tf1, tu, litOk, appOk, appS, growD, Nat.reduceEqDiff, Nat.reduceLT, Nat.reduceAdd, Nat.reduceLeDiff, Nat.reduceMul, Nat.reduceBEq, Nat.reduceSub, Int.reduceLE, Int.reduceToNat, Int.reduceLT, Int.reduceNeg, encSIDBalanceNonce, encSLIDAmountNonce, encSAccounts, encSKindIDAmount, List.map_cons, List.map_nil]; exact x32 j3 ((ix p0.Accounts j4).Balance) 0 c3 c4 (by decide) (by decide)) ?_
    simp only [v1, v2, v3, v4, v5, v6, v7, v8, v9, tf1, tu, litOk, appOk, appS, growD, Nat.reduceEqDiff, Nat.reduceLT, Nat.reduceAdd, Nat.reduceLeDiff, Nat.reduceMul, Nat.reduceBEq, Nat.reduceSub, Int.reduceLE, Int.reduceToNat, Int.reduceLT, Int.reduceNeg, encSIDBalanceNonce, encSLIDAmountNonce, encSAccounts, encSKindIDAmount, List.map_append, List.length_append, List.length_map, List.map_take, List.map_drop, List.length_drop, List.length_take, Nat.le_refl, true_and]
    refine hK _ ?_
    clear hK K
    try simp only [s_thN, s_thE, s_thR, s_blN, s_blE, s_blM, s_blR, Nat.reduceEqDiff]
    refine sat_seq ?_
    refine sat_seq ?_
    refine sat_region fun K hK => ?_
    simp only [v1, v2, v3, v4, v5, v6, v7, v8, v9, tf1, tu, litOk, appOk, appS, growD, Nat.reduceEqDiff, Nat.reduceLT, Nat.reduceAdd, Nat.reduceLeDiff, Nat.reduceMul, Nat.reduceBEq, Nat.reduceSub, Int.reduceLE, Int.reduceToNat, Int.reduceLT, Int.reduceNeg, encSIDBalanceNonce, encSLIDAmountNonce, encSAccounts, encSKindIDAmount, List.map_append, List.length_append, List.length_map, List.map_take, List.map_drop, List.length_drop, List.length_take, Nat.le_refl, true_and]
    refine hK _ ?_
    clear hK K
    try simp only [s_thN, s_thE, s_thR, s_blN, s_blE, s_blM, s_blR, Nat.reduceEqDiff]
    refine sat_cond rfl (fun hb2 => ?_) (fun hb2 => ?_)
    · replace h := h.1 hb2
      refine sat_seq ?_
      refine sat_region fun K hK => ?_
      simp only [v1, v2, v3, v4, v5, v6, v7, v8, v9, tf1, tu, litOk, appOk, appS, growD, Nat.reduceEqDiff, Nat.reduceLT, Nat.reduceAdd, Nat.reduceLeDiff, Nat.reduceMul, Nat.reduceBEq, Nat.reduceSub, Int.reduceLE, Int.reduceToNat, Int.reduceLT, Int.reduceNeg, encSIDBalanceNonce, encSLIDAmountNonce, encSAccounts, encSKindIDAmount, List.map_append, List.length_append, List.length_map, List.map_take, List.map_drop, List.length_drop, List.length_take, Nat.le_refl, true_and]
      refine hK _ ?_
      clear hK K
      try simp only [s_thN, s_thE, s_thR, s_blN, s_blE, s_blM, s_blR, Nat.reduceEqDiff]
      obtain ⟨rfl, rfl⟩ := h
      refine sat_ret (retN [] ?_)
      simp only [v1, v2, v3, v4, v5, v6, v7, v8, v9, tf1, tu, litOk, appOk, appS, growD, Nat.reduceEqDiff, Nat.reduceLT, Nat.reduceAdd, Nat.reduceLeDiff, Nat.reduceMul, Nat.reduceBEq, Nat.reduceSub, Int.reduceLE, Int.reduceToNat, Int.reduceLT, Int.reduceNeg, encSIDBalanceNonce, encSLIDAmountNonce, encSAccounts, encSKindIDAmount, vl, Try.results26, e_sp0, e_sp1, List.map_append, List.length_append, List.length_map, List.map_take, List.map_drop, List.length_drop, List.length_take, Nat.le_refl, true_and]
    · replace h := h.2 hb2
      refine sat_skip ?_
      try simp only [s_thN, s_thE, s_thR, s_blN, s_blE, s_blM, s_blR, Nat.reduceEqDiff]
      refine sat_region fun K hK => ?_
      simp only [v1, v2, v3, v4, v5, v6, v7, v8, v9, tf1, tu, litOk, appOk, appS, growD, Nat.reduceEqDiff, Nat.reduceLT, Nat.reduceAdd, Nat.reduceLeDiff, Nat.reduceMul, Nat.reduceBEq, Nat.reduceSub, Int.reduceLE, Int.reduceToNat, Int.reduceLT, Int.reduceNeg, encSIDBalanceNonce, encSLIDAmountNonce, encSAccounts, encSKindIDAmount, List.map_append, List.length_append, List.length_map, List.map_take, List.map_drop, List.length_drop, List.length_take, Nat.le_refl, true_and]
      refine hK _ ?_
      clear hK K
      try simp only [s_thN, s_thE, s_thR, s_blN, s_blE, s_blM, s_blR, Nat.reduceEqDiff]
      refine sat_region fun K hK => ?_
      simp only [v1, v2, v3, v4, v5, v6, v7, v8, v9, tf1, tu, litOk, appOk, appS, growD, Nat.reduceEqDiff, Nat.reduceLT, Nat.reduceAdd, Nat.reduceLeDiff, Nat.reduceMul, Nat.reduceBEq, Nat.reduceSub, Int.reduceLE, Int.reduceToNat, Int.reduceLT, Int.reduceNeg, encSIDBalanceNonce, encSLIDAmountNonce, encSAccounts, encSKindIDAmount, List.map_append, List.length_append, List.length_map, List.map_take, List.map_drop, List.length_drop, List.length_take, Nat.le_refl, true_and]
      refine hK _ ?_
      clear hK K
      try simp only [s_thN, s_thE, s_thR, s_blN, s_blE, s_blM, s_blR, Nat.reduceEqDiff]
      rw [← hnx] at h
      exact ⟨((j3 + ((ix p0.Accounts j4).Balance) + 0) % 18446744073709551616, IntKind.i64.wrap (j4 + 1)), h.1, h.2, by simp only [v1, v2, v3, v4, v5, v6, v7, v8, v9, tf1, tu, litOk, appOk, appS, growD, Nat.reduceEqDiff, Nat.reduceLT, Nat.reduceAdd, Nat.reduceLeDiff, Nat.reduceMul, Nat.reduceBEq, Nat.reduceSub, Int.reduceLE, Int.reduceToNat, Int.reduceLT, Int.reduceNeg, encSIDBalanceNonce, encSLIDAmountNonce, encSAccounts, encSKindIDAmount, vl, List.map_append, List.length_append, List.length_map, List.map_take, List.map_drop, List.length_drop, List.length_take, Nat.le_refl, true_and]⟩
  · replace h := h.2 hb1
    refine sat_exit ?_
    try simp only [s_thN, s_thE, s_thR, s_blN, s_blE, s_blM, s_blR, Nat.reduceEqDiff]
    refine sat_seq ?_
    refine sat_region fun K hK => ?_
    simp only [v1, v2, v3, v4, v5, v6, v7, v8, v9, tf1, tu, litOk, appOk, appS, growD, Nat.reduceEqDiff, Nat.reduceLT, Nat.reduceAdd, Nat.reduceLeDiff, Nat.reduceMul, Nat.reduceBEq, Nat.reduceSub, Int.reduceLE, Int.reduceToNat, Int.reduceLT, Int.reduceNeg, encSIDBalanceNonce, encSLIDAmountNonce, encSAccounts, encSKindIDAmount, List.map_append, List.length_append, List.length_map, List.map_take, List.map_drop, List.length_drop, List.length_take, Nat.le_refl, true_and]
    refine hK _ ?_
    clear hK K
    try simp only [s_thN, s_thE, s_thR, s_blN, s_blE, s_blM, s_blR, Nat.reduceEqDiff]
    obtain ⟨rfl, rfl⟩ := h
    refine sat_ret (retN [] ?_)
    simp only [v1, v2, v3, v4, v5, v6, v7, v8, v9, tf1, tu, litOk, appOk, appS, growD, Nat.reduceEqDiff, Nat.reduceLT, Nat.reduceAdd, Nat.reduceLeDiff, Nat.reduceMul, Nat.reduceBEq, Nat.reduceSub, Int.reduceLE, Int.reduceToNat, Int.reduceLT, Int.reduceNeg, encSIDBalanceNonce, encSLIDAmountNonce, encSAccounts, encSKindIDAmount, vl, Try.results26, e_sp0, e_sp1, List.map_append, List.length_append, List.length_map, List.map_take, List.map_drop, List.length_drop, List.length_take, Nat.le_refl, true_and]
theorem moidoreref44_Total_ok (p0 : List SIDBalanceNonce) (r0 : Int) (r1 : Int) (h : moidoreref44_Total_Ret p0 r0 r1) : SoundH Try.prog 27 [.d (.slice 3 (List.map encSIDBalanceNonce p0))] [] (.tup [.d (.int .u64 r0), .d (.int .i64 r1)]) [] := by
  refine sound_of Try.func27 rfl Try.ntmps27 (by simp) fun G0 w0 => ?_
  unfold moidoreref44_Total_Ret at h
  refine sat_seq ?_
  refine sat_region fun K hK => ?_
  simp only [v1, v2, v3, v4, v5, v6, v7, v8, v9, tf1, tu, litOk, appOk, appS, growD, Nat.reduceEqDiff, Nat.reduceLT, Nat.reduceAdd, Nat.reduceLeDiff, Nat.reduceMul, Nat.reduceBEq, Nat.reduceSub, Int.reduceLE, Int.reduceToNat, Int.reduceLT, Int.reduceNeg, encSIDBalanceNonce, encSLIDAmountNonce, encSAccounts, encSKindIDAmount, List.map_append, List.length_append, List.length_map, List.map_take, List.map_drop, List.length_drop, List.length_take, Nat.le_refl, true_and]
  refine hK _ ?_
  clear hK K
  try simp only [s_thN, s_thE, s_thR, s_blN, s_blE, s_blM, s_blR, Nat.reduceEqDiff]
  refine sat_seq ?_
  refine sat_region fun K hK => ?_
  simp only [v1, v2, v3, v4, v5, v6, v7, v8, v9, tf1, tu, litOk, appOk, appS, growD, Nat.reduceEqDiff, Nat.reduceLT, Nat.reduceAdd, Nat.reduceLeDiff, Nat.reduceMul, Nat.reduceBEq, Nat.reduceSub, Int.reduceLE, Int.reduceToNat, Int.reduceLT, Int.reduceNeg, encSIDBalanceNonce, encSLIDAmountNonce, encSAccounts, encSKindIDAmount, List.map_append, List.length_append, List.length_map, List.map_take, List.map_drop, List.length_drop, List.length_take, Nat.le_refl, true_and]
  refine hK _ ?_
  clear hK K
  try simp only [s_thN, s_thE, s_thR, s_blN, s_blE, s_blM, s_blR, Nat.reduceEqDiff]
  refine sat_seq ?_
  refine sat_seq ?_
  refine sat_region fun K hK => ?_
  simp only [v1, v2, v3, v4, v5, v6, v7, v8, v9, tf1, tu, litOk, appOk, appS, growD, Nat.reduceEqDiff, Nat.reduceLT, Nat.reduceAdd, Nat.reduceLeDiff, Nat.reduceMul, Nat.reduceBEq, Nat.reduceSub, Int.reduceLE, Int.reduceToNat, Int.reduceLT, Int.reduceNeg, encSIDBalanceNonce, encSLIDAmountNonce, encSAccounts, encSKindIDAmount, List.map_append, List.length_append, List.length_map, List.map_take, List.map_drop, List.length_drop, List.length_take, Nat.le_refl, true_and]
  refine hK _ ?_
  clear hK K
  try simp only [s_thN, s_thE, s_thR, s_blN, s_blE, s_blM, s_blR, Nat.reduceEqDiff]
  refine sat_block ?_
  obtain ⟨inv, μ, h0, hs⟩ := h
  refine sat_loop (ι := Int × Int) (fun x => ⟨[(0, .d (.slice 3 (List.map encSIDBalanceNonce p0))), (4, .d (.int .u64 x.1)), (5, .d (.int .i64 x.2))], [], 0⟩) inv μ (0, 0) h0 (by simp only [v1, v2, v3, v4, v5, v6, v7, v8, v9, tf1, tu, litOk, appOk, appS, growD, Nat.reduceEqDiff, Nat.reduceLT, Nat.reduceAdd, Nat.reduceLeDiff, Nat.reduceMul, Nat.reduceBEq, Nat.reduceSub, Int.reduceLE, Int.reduceToNat, Int.reduceLT, Int.reduceNeg, encSIDBalanceNonce, encSLIDAmountNonce, encSAccounts, encSKindIDAmount, vl, List.map_append, List.length_append, List.length_map, List.map_take, List.map_drop, List.length_drop, List.length_take, Nat.le_refl, true_and]) ?_
  rintro ⟨j3, j4⟩ hi
  have h : moidoreref44_Total_L1 p0 r0 r1 _ j3 j4 := hs _ hi
  clear hs h0 hi
  generalize hnx : (fun s => inv s ∧ μ s < μ (j3, j4)) = nx1 at h
  show Sat _ _ _ _ _ _ ⟨[(0, .d (.slice 3 (List.map encSIDBalanceNonce p0))), (4, .d (.int .u64 j3)), (5, .d (.int .i64 j4))], [], 0⟩ _
  unfold moidoreref44_Total_L1 at h
  refine sat_seq ?_
  refine sat_seq ?_
  refine sat_region fun K hK => ?_
  simp only [v1, v2, v3, v4, v5, v6, v7, v8, v9, tf1, tu, litOk, appOk, appS, growD, Nat.reduceEqDiff, Nat.reduceLT, Nat.reduceAdd, Nat.reduceLeDiff, Nat.reduceMul, Nat.reduceBEq, Nat.reduceSub, Int.reduceLE, Int.reduceToNat, Int.reduceLT, Int.reduceNeg, encSIDBalanceNonce, encSLIDAmountNonce, encSAccounts, encSKindIDAmount, List.map_append, List.length_append, List.length_map, List.map_take, List.map_drop, List.length_drop, List.length_take, Nat.le_refl, true_and]
  refine hK _ ?_
  clear hK K
  try simp only [s_thN, s_thE, s_thR, s_blN, s_blE, s_blM, s_blR, Nat.reduceEqDiff]
  refine sat_cond rfl (fun hb1 => ?_) (fun hb1 => ?_)
  · replace h := h.1 hb1
    refine sat_skip ?_
    try simp only [s_thN, s_thE, s_thR, s_blN, s_blE, s_blM, s_blR, Nat.reduceEqDiff]
    refine sat_seq ?_
    refine sat_block ?_
    refine sat_seq ?_
    refine sat_seq ?_
    obtain ⟨c1, c2, h⟩ := h
    refine sat_region fun K hK => ?_
    simp only [v1, v2, v3, v4, v5, v6, v7, v8, v9, tf1, tu, litOk, appOk, appS, growD, Nat.reduceEqDiff, Nat.reduceLT, Nat.reduceAdd, Nat.reduceLeDiff, Nat.reduceMul, Nat.reduceBEq, Nat.reduceSub, Int.reduceLE, Int.reduceToNat, Int.reduceLT, Int.reduceNeg, encSIDBalanceNonce, encSLIDAmountNonce, encSAccounts, encSKindIDAmount, c1, c2, elt_ix encSIDBalanceNonce p0 j4 c1 c2, List.map_append, List.length_append, List.length_map, List.map_take, List.map_drop, List.length_drop, List.length_take, Nat.le_refl, true_and]
    refine hK _ ?_
    clear hK K
    try simp only [s_thN, s_thE, s_thR, s_blN, s_blE, s_blM, s_blR, Nat.reduceEqDiff]
    refine sat_cond rfl (fun hb2 => ?_) (fun hb2 => ?_)
    · replace h := h.1 hb2
      refine sat_seq ?_
      refine sat_region fun K hK => ?_
      simp only [v1, v2, v3, v4, v5, v6, v7, v8, v9, tf1, tu, litOk, appOk, appS, growD, Nat.reduceEqDiff, Nat.reduceLT, Nat.reduceAdd, Nat.reduceLeDiff, Nat.reduceMul, Nat.reduceBEq, Nat.reduceSub, Int.reduceLE, Int.reduceToNat, Int.reduceLT, Int.reduceNeg, encSIDBalanceNonce, encSLIDAmountNonce, encSAccounts, encSKindIDAmount, List.map_append, List.length_append, List.length_map, List.map_take, List.map_drop, List.length_drop, List.length_take, Nat.le_refl, true_and]
      refine hK _ ?_
      clear hK K
      try simp only [s_thN, s_thE, s_thR, s_blN, s_blE, s_blM, s_blR, Nat.reduceEqDiff]
      obtain ⟨rfl, rfl⟩ := h
      refine sat_ret (retN [] ?_)
      simp only [v1, v2, v3, v4, v5, v6, v7, v8, v9, tf1, tu, litOk, appOk, appS, growD, Nat.reduceEqDiff, Nat.reduceLT, Nat.reduceAdd, Nat.reduceLeDiff, Nat.reduceMul, Nat.reduceBEq, Nat.reduceSub, Int.reduceLE, Int.reduceToNat, Int.reduceLT, Int.reduceNeg, encSIDBalanceNonce, encSLIDAmountNonce, encSAccounts, encSKindIDAmount, vl, Try.results27, e_sp0, e_sp1, List.map_append, List.length_append, List.length_map, List.map_take, List.map_drop, List.length_drop, List.length_take, Nat.le_refl, true_and]
    · replace h := h.2 hb2
      refine sat_skip ?_
      try simp only [s_thN, s_thE, s_thR, s_blN, s_blE, s_blM, s_blR, Nat.reduceEqDiff]
      obtain ⟨c3, c4, h⟩ := h
      refine sat_region fun K hK => ?_
      simp only [v1, v2, v3, v4, v5, v6, v7, v8, v9, tf1, tu, litOk, appOk, appS, growD, Nat.reduceEqDiff, Nat.reduceLT, Nat.reduceAdd, Nat.reduceLeDiff, Nat.reduceMul, Nat.reduceBEq, Nat.reduceSub, Int.reduceLE, Int.reduceToNat, Int.reduceLT, Int.reduceNeg, encSIDBalanceNonce, encSLIDAmountNonce, encSAccounts, encSKindIDAmount, c3, c4, elt_ix encSIDBalanceNonce p0 j4 c3 c4, List.map_append, List.length_append, List.length_map, List.map_take, List.map_drop, List.length_drop, List.length_take, Nat.le_refl, true_and]
      refine hK _ ?_
      clear hK K
      try simp only [s_thN, s_thE, s_thR, s_blN, s_blE, s_blM, s_blR, Nat.reduceEqDiff]
      refine sat_region fun K hK => ?_
      simp only [v1, v2, v3, v4, v5, v6, v7, v8, v9, tf1, tu, litOk, appOk, appS, growD, Nat.reduceEqDiff, Nat.reduceLT, Nat.reduceAdd, Nat.reduceLeDiff, Nat.reduceMul, Nat.reduceBEq, Nat.reduceSub, Int.reduceLE, Int.reduceToNat, Int.reduceLT, Int.reduceNeg, encSIDBalanceNonce, encSLIDAmountNonce, encSAccounts, encSKindIDAmount, List.map_append, List.length_append, List.length_map, List.map_take, List.map_drop, List.length_drop, List.length_take, Nat.le_refl, true_and]
      refine hK _ ?_
      clear hK K
      try simp only [s_thN, s_thE, s_thR, s_blN, s_blE, s_blM, s_blR, Nat.reduceEqDiff]
      rw [← hnx] at h
      exact ⟨(IntKind.u64.wrap (j3 + ((ix p0 j4).Balance)), IntKind.i64.wrap (j4 + 1)), h.1, h.2, by simp only [v1, v2, v3, v4, v5, v6, v7, v8, v9, tf1, tu, litOk, appOk, appS, growD, Nat.reduceEqDiff, Nat.reduceLT, Nat.reduceAdd, Nat.reduceLeDiff, Nat.reduceMul, Nat.reduceBEq, Nat.reduceSub, Int.reduceLE, Int.reduceToNat, Int.reduceLT, Int.reduceNeg, encSIDBalanceNonce, encSLIDAmountNonce, encSAccounts, encSKindIDAmount, vl, List.map_append, List.length_append, List.length_map, List.map_take, List.map_drop, List.length_drop, List.length_take, Nat.le_refl, true_and]⟩
  · replace h := h.2 hb1
    refine sat_exit ?_
    try simp only [s_thN, s_thE, s_thR, s_blN, s_blE, s_blM, s_blR, Nat.reduceEqDiff]
    refine sat_seq ?_
    refine sat_region fun K hK => ?_
    simp only [v1, v2, v3, v4, v5, v6, v7, v8, v9, tf1, tu, litOk, appOk, appS, growD, Nat.reduceEqDiff, Nat.reduceLT, Nat.reduceAdd, Nat.reduceLeDiff, Nat.reduceMul, Nat.reduceBEq, Nat.reduceSub, Int.reduceLE, Int.reduceToNat, Int.reduceLT, Int.reduceNeg, encSIDBalanceNonce, encSLIDAmountNonce, encSAccounts, encSKindIDAmount, List.map_append, List.length_append, List.length_map, List.map_take, List.map_drop, List.length_drop, List.length_take, Nat.le_refl, true_and]
    refine hK _ ?_
    clear hK K
    try simp only [s_thN, s_thE, s_thR, s_blN, s_blE, s_blM, s_blR, Nat.reduceEqDiff]
    obtain ⟨rfl, rfl⟩ := h
    refine sat_ret (retN [] ?_)
    simp only [v1, v2, v3, v4, v5, v6, v7, v8, v9, tf1, tu, litOk, appOk, appS, growD, Nat.reduceEqDiff, Nat.reduceLT, Nat.reduceAdd, Nat.reduceLeDiff, Nat.reduceMul, Nat.reduceBEq, Nat.reduceSub, Int.reduceLE, Int.reduceToNat, Int.reduceLT, Int.reduceNeg, encSIDBalanceNonce, encSLIDAmountNonce, encSAccounts, encSKindIDAmount, vl, Try.results27, e_sp0, e_sp1, List.map_append, List.length_append, List.length_map, List.map_take, List.map_drop, List.length_drop, List.length_take, Nat.le_refl, true_and]
theorem moidorelaw44_LedgerGet_ok (p0 : SLIDAmountNonce) (r0 : Bool) (h : moidorelaw44_LedgerGet_Ret p0 r0) : SoundH Try.prog 8 [.agg [.d (.slice 3 (List.map encSIDBalanceNonce p0.L)), .d (.int .u64 p0.ID), .d (.int .u64 p0.Amount), .d (.int .u64 p0.Nonce)]] [] (.d (.bool r0)) [] := by
  refine sound_of Try.func8 rfl Try.ntmps8 (by simp) fun G0 w0 => ?_
  unfold moidorelaw44_LedgerGet_Ret at h
  refine sat_seq ?_
  refine sat_region fun K hK => ?_
  simp only [v1, v2, v3, v4, v5, v6, v7, v8, v9, tf1, tu, litOk, appOk, appS, growD, Nat.reduceEqDiff, Nat.reduceLT, Nat.reduceAdd, Nat.reduceLeDiff, Nat.reduceMul, Nat.reduceBEq, Nat.reduceSub, Int.reduceLE, Int.reduceToNat, Int.reduceLT, Int.reduceNeg, encSIDBalanceNonce, encSLIDAmountNonce, encSAccounts, encSKindIDAmount, List.map_append, List.length_append, List.length_map, List.map_take, List.map_drop, List.length_drop, List.length_take, Nat.le_refl, true_and]
  refine hK _ ?_
  clear hK K
  try simp only [s_thN, s_thE, s_thR, s_blN, s_blE, s_blM, s_blR, Nat.reduceEqDiff]
  refine sat_seq ?_
  refine sat_join (ι := Bool) (fun x => ⟨[(1, .ptr 0 0), (16, .d (.bool x))], [(0, .cells [.d (.slice 3 (List.map encSIDBalanceNonce p0.L)), .d (.int .u64 p0.ID), .d (.int .u64 p0.Amount), .d (.int .u64 p0.Nonce)])], 1⟩) (fun x => moidorelaw44_LedgerGet_J2 p0 r0 x) ?_ ?_
  · obtain ⟨y1, hr1, y2, hr2, h⟩ := h
    refine sat_region fun K hK => ?_
    simp only [v1, v2, v3, v4, v5, v6, v7, v8, v9, tf1, tu, litOk, appOk, appS, growD, Nat.reduceEqDiff, Nat.reduceLT, Nat.reduceAdd, Nat.reduceLeDiff, Nat.reduceMul, Nat.reduceBEq, Nat.reduceSub, Int.reduceLE, Int.reduceToNat, Int.reduceLT, Int.reduceNeg, encSIDBalanceNonce, encSLIDAmountNonce, encSAccounts, encSKindIDAmount, List.map_append, List.length_append, List.length_map, List.map_take, List.map_drop, List.length_drop, List.length_take, Nat.le_refl, true_and]
    refine a_call [] (moidorelaw44_awake_ok  y1 hr1) bd9 (by simp only [v1, v2, v3, v4, v5, v6, v7, v8, v9, tf1, tu, litOk, appOk, appS, growD, Nat.reduceEqDiff, Nat.reduceLT, Nat.reduceAdd, Nat.reduceLeDiff, Nat.reduceMul, Nat.reduceBEq, Nat.reduceSub, Int.reduceLE, Int.reduceToNat, Int.reduceLT, Int.reduceNeg, encSIDBalanceNonce, encSLIDAmountNonce, encSAccounts, encSKindIDAmount, callOk, vl, List.map_append, List.length_append, List.length_map, List.map_take, List.map_drop, List.length_drop, List.length_take, Nat.le_refl, true_and]) ?_
    simp only [v1, v2, v3, v4, v5, v6, v7, v8, v9, tf1, tu, litOk, appOk, appS, growD, Nat.reduceEqDiff, Nat.reduceLT, Nat.reduceAdd, Nat.reduceLeDiff, Nat.reduceMul, Nat.reduceBEq, Nat.reduceSub, Int.reduceLE, Int.reduceToNat, Int.reduceLT, Int.reduceNeg, encSIDBalanceNonce, encSLIDAmountNonce, encSAccounts, encSKindIDAmount, List.map_append, List.length_append, List.length_map, List.map_take, List.map_drop, List.length_drop, List.length_take, Nat.le_refl, true_and]
    refine A_guard_split (by simp only [v1, v2, v3, v4, v5, v6, v7, v8, v9, tf1, tu, litOk, appOk, appS, growD, Nat.reduceEqDiff, Nat.reduceLT, Nat.reduceAdd, Nat.reduceLeDiff, Nat.reduceMul, Nat.reduceBEq, Nat.reduceSub, Int.reduceLE, Int.reduceToNat, Int.reduceLT, Int.reduceNeg, encSIDBalanceNonce, encSLIDAmountNonce, encSAccounts, encSKindIDAmount]; rfl) (fun hg4 => ?_) (fun hg4 => ?_)
    · simp only [v1, v2, v3, v4, v5, v6, v7, v8, v9, tf1, tu, litOk, appOk, appS, growD, Nat.reduceEqDiff, Nat.reduceLT, Nat.reduceAdd, Nat.reduceLeDiff, Nat.reduceMul, Nat.reduceBEq, Nat.reduceSub, Int.reduceLE, Int.reduceToNat, Int.reduceLT, Int.reduceNeg, encSIDBalanceNonce, encSLIDAmountNonce, encSAccounts, encSKindIDAmount, hg4, List.map_append, List.length_append, List.length_map, List.map_take, List.map_drop, List.length_drop, List.length_take, Nat.le_refl, true_and]
      refine hK _ ?_
      clear hK K
      try simp only [s_thN, s_thE, s_thR, s_blN, s_blE, s_blM, s_blR, Nat.reduceEqDiff]
      exact ⟨(!y1) || (!y2), h, by simp only [v1, v2, v3, v4, v5, v6, v7, v8, v9, tf1, tu, litOk, appOk, appS, growD, Nat.reduceEqDiff, Nat.reduceLT, Nat.reduceAdd, Nat.reduceLeDiff, Nat.reduceMul, Nat.reduceBEq, Nat.reduceSub, Int.reduceLE, Int.reduceToNat, Int.reduceLT, Int.reduceNeg, encSIDBalanceNonce, encSLIDAmountNonce, encSAccounts, encSKindIDAmount, vl, hg4, List.map_append, List.length_append, List.length_map, List.map_take, List.map_drop, List.length_drop, List.length_take, Nat.le_refl, true_and]⟩
    · simp only [v1, v2, v3, v4, v5, v6, v7, v8, v9, tf1, tu, litOk, appOk, appS, growD, Nat.reduceEqDiff, Nat.reduceLT, Nat.reduceAdd, Nat.reduceLeDiff, Nat.reduceMul, Nat.reduceBEq, Nat.reduceSub, Int.reduceLE, Int.reduceToNat, Int.reduceLT, Int.reduceNeg, encSIDBalanceNonce, encSLIDAmountNonce, encSAccounts, encSKindIDAmount, hg4, List.map_append, List.length_append, List.length_map, List.map_take, List.map_drop, List.length_drop, List.length_take, Nat.le_refl, true_and]
      replace hr2 := hr2 (by simp only [v1, v2, v3, v4, v5, v6, v7, v8, v9, tf1, tu, litOk, appOk, appS, growD, Nat.reduceEqDiff, Nat.reduceLT, Nat.reduceAdd, Nat.reduceLeDiff, Nat.reduceMul, Nat.reduceBEq, Nat.reduceSub, Int.reduceLE, Int.reduceToNat, Int.reduceLT, Int.reduceNeg, encSIDBalanceNonce, encSLIDAmountNonce, encSAccounts, encSKindIDAmount, hg4])
      refine a_call [] (moidorelaw44_Case_right_ok p0 y2 hr2) bd10 (by simp only [v1, v2, v3, v4, v5, v6, v7, v8, v9, tf1, tu, litOk, appOk, appS, growD, Nat.reduceEqDiff, Nat.reduceLT, Nat.reduceAdd, Nat.reduceLeDiff, Nat.reduceMul, Nat.reduceBEq, Nat.reduceSub, Int.reduceLE, Int.reduceToNat, Int.reduceLT, Int.reduceNeg, encSIDBalanceNonce, encSLIDAmountNonce, encSAccounts, encSKindIDAmount, callOk, vl, hg4, List.map_append, List.length_append, List.length_map, List.map_take, List.map_drop, List.length_drop, List.length_take, Nat.le_refl, true_and]) ?_
      simp only [v1, v2, v3, v4, v5, v6, v7, v8, v9, tf1, tu, litOk, appOk, appS, growD, Nat.reduceEqDiff, Nat.reduceLT, Nat.reduceAdd, Nat.reduceLeDiff, Nat.reduceMul, Nat.reduceBEq, Nat.reduceSub, Int.reduceLE, Int.reduceToNat, Int.reduceLT, Int.reduceNeg, encSIDBalanceNonce, encSLIDAmountNonce, encSAccounts, encSKindIDAmount, hg4, List.map_append, List.length_append, List.length_map, List.map_take, List.map_drop, List.length_drop, List.length_take, Nat.le_refl, true_and]
      refine hK _ ?_
      clear hK K
      try simp only [s_thN, s_thE, s_thR, s_blN, s_blE, s_blM, s_blR, Nat.reduceEqDiff]
      exact ⟨(!y1) || (!y2), h, by simp only [v1, v2, v3, v4, v5, v6, v7, v8, v9, tf1, tu, litOk, appOk, appS, growD, Nat.reduceEqDiff, Nat.reduceLT, Nat.reduceAdd, Nat.reduceLeDiff, Nat.reduceMul, Nat.reduceBEq, Nat.reduceSub, Int.reduceLE, Int.reduceToNat, Int.reduceLT, Int.reduceNeg, encSIDBalanceNonce, encSLIDAmountNonce, encSAccounts, encSKindIDAmount, vl, hg4, List.map_append, List.length_append, List.length_map, List.map_take, List.map_drop, List.length_drop, List.length_take, Nat.le_refl, true_and]⟩
  · intro b1 h
    have h : moidorelaw44_LedgerGet_J2 p0 r0 b1 := h
    show Sat _ _ _ _ _ _ ⟨[(1, .ptr 0 0), (16, .d (.bool b1))], [(0, .cells [.d (.slice 3 (List.map encSIDBalanceNonce p0.L)), .d (.int .u64 p0.ID), .d (.int .u64 p0.Amount), .d (.int .u64 p0.Nonce)])], 1⟩ _
    unfold moidorelaw44_LedgerGet_J2 at h
    refine sat_cond rfl (fun hb1 => ?_) (fun hb1 => ?_)
    · replace h := h.1 hb1
      refine sat_seq ?_
      obtain ⟨y3, hr3, h⟩ := h
      refine sat_region fun K hK => ?_
      simp only [v1, v2, v3, v4, v5, v6, v7, v8, v9, tf1, tu, litOk, appOk, appS, growD, Nat.reduceEqDiff, Nat.reduceLT, Nat.reduceAdd, Nat.reduceLeDiff, Nat.reduceMul, Nat.reduceBEq, Nat.reduceSub, Int.reduceLE, Int.reduceToNat, Int.reduceLT, Int.reduceNeg, encSIDBalanceNonce, encSLIDAmountNonce, encSAccounts, encSKindIDAmount, List.map_append, List.length_append, List.length_map, List.map_take, List.map_drop, List.length_drop, List.length_take, Nat.le_refl, true_and]
      refine a_call [] (moidorelaw44_awake_ok  y3 hr3) bd9 (by simp only [v1, v2, v3, v4, v5, v6, v7, v8, v9, tf1, tu, litOk, appOk, appS, growD, Nat.reduceEqDiff, Nat.reduceLT, Nat.reduceAdd, Nat.reduceLeDiff, Nat.reduceMul, Nat.reduceBEq, Nat.reduceSub, Int.reduceLE, Int.reduceToNat, Int.reduceLT, Int.reduceNeg, encSIDBalanceNonce, encSLIDAmountNonce, encSAccounts, encSKindIDAmount, callOk, vl, List.map_append, List.length_append, List.length_map, List.map_take, List.map_drop, List.length_drop, List.length_take, Nat.le_refl, true_and]) ?_
      simp only [v1, v2, v3, v4, v5, v6, v7, v8, v9, tf1, tu, litOk, appOk, appS, growD, Nat.reduceEqDiff, Nat.reduceLT, Nat.reduceAdd, Nat.reduceLeDiff, Nat.reduceMul, Nat.reduceBEq, Nat.reduceSub, Int.reduceLE, Int.reduceToNat, Int.reduceLT, Int.reduceNeg, encSIDBalanceNonce, encSLIDAmountNonce, encSAccounts, encSKindIDAmount, List.map_append, List.length_append, List.length_map, List.map_take, List.map_drop, List.length_drop, List.length_take, Nat.le_refl, true_and]
      refine hK _ ?_
      clear hK K
      try simp only [s_thN, s_thE, s_thR, s_blN, s_blE, s_blM, s_blR, Nat.reduceEqDiff]
      subst h
      refine sat_ret (retN [] ?_)
      simp only [v1, v2, v3, v4, v5, v6, v7, v8, v9, tf1, tu, litOk, appOk, appS, growD, Nat.reduceEqDiff, Nat.reduceLT, Nat.reduceAdd, Nat.reduceLeDiff, Nat.reduceMul, Nat.reduceBEq, Nat.reduceSub, Int.reduceLE, Int.reduceToNat, Int.reduceLT, Int.reduceNeg, encSIDBalanceNonce, encSLIDAmountNonce, encSAccounts, encSKindIDAmount, vl, Try.results8, e_sp0, e_sp1, List.map_append, List.length_append, List.length_map, List.map_take, List.map_drop, List.length_drop, List.length_take, Nat.le_refl, true_and]
    · replace h := h.2 hb1
      refine sat_skip ?_
      try simp only [s_thN, s_thE, s_thR, s_blN, s_blE, s_blM, s_blR, Nat.reduceEqDiff]
      refine sat_seq ?_
      obtain ⟨y4, hr4, y5, y6, hr5, h⟩ := h
      refine sat_drawn 1 mix (by kernel_rfl) fun K hK => ?_
      simp only [v1, v2, v3, v4, v5, v6, v7, v8, v9, tf1, tu, litOk, appOk, appS, growD, Nat.reduceEqDiff, Nat.reduceLT, Nat.reduceAdd, Nat.reduceLeDiff, Nat.reduceMul, Nat.reduceBEq, Nat.reduceSub, Int.reduceLE, Int.reduceToNat, Int.reduceLT, Int.reduceNeg, encSIDBalanceNonce, encSLIDAmountNonce, encSAccounts, encSKindIDAmount, List.map_append, List.length_append, List.length_map, List.map_take, List.map_drop, List.length_drop, List.length_take, Nat.le_refl, true_and]
      refine d_call [] (moidorelaw44_own_ok p0.L y4 hr4) bd12 (by simp only [v1, v2, v3, v4, v5, v6, v7, v8, v9, tf1, tu, litOk, appOk, appS, growD, Nat.reduceEqDiff, Nat.reduceLT, Nat.reduceAdd, Nat.reduceLeDiff, Nat.reduceMul, Nat.reduceBEq, Nat.reduceSub, Int.reduceLE, Int.reduceToNat, Int.reduceLT, Int.reduceNeg, encSIDBalanceNonce, encSLIDAmountNonce, encSAccounts, encSKindIDAmount, callOk, vl, List.map_append, List.length_append, List.length_map, List.map_take, List.map_drop, List.length_drop, List.length_take, Nat.le_refl, true_and]) ?_
      simp only [v1, v2, v3, v4, v5, v6, v7, v8, v9, tf1, tu, litOk, appOk, appS, growD, Nat.reduceEqDiff, Nat.reduceLT, Nat.reduceAdd, Nat.reduceLeDiff, Nat.reduceMul, Nat.reduceBEq, Nat.reduceSub, Int.reduceLE, Int.reduceToNat, Int.reduceLT, Int.reduceNeg, encSIDBalanceNonce, encSLIDAmountNonce, encSAccounts, encSKindIDAmount, List.map_append, List.length_append, List.length_map, List.map_take, List.map_drop, List.length_drop, List.length_take, Nat.le_refl, true_and]
      refine d_call [] (ledger_Get_ok y4 p0.ID y5 y6 hr5) bd25 (by simp only [v1, v2, v3, v4, v5, v6, v7, v8, v9, tf1, tu, litOk, appOk, appS, growD, Nat.reduceEqDiff, Nat.reduceLT, Nat.reduceAdd, Nat.reduceLeDiff, Nat.reduceMul, Nat.reduceBEq, Nat.reduceSub, Int.reduceLE, Int.reduceToNat, Int.reduceLT, Int.reduceNeg, encSIDBalanceNonce, encSLIDAmountNonce, encSAccounts, encSKindIDAmount, callOk, vl, List.map_append, List.length_append, List.length_map, List.map_take, List.map_drop, List.length_drop, List.length_take, Nat.le_refl, true_and]) ?_
      simp only [v1, v2, v3, v4, v5, v6, v7, v8, v9, tf1, tu, litOk, appOk, appS, growD, Nat.reduceEqDiff, Nat.reduceLT, Nat.reduceAdd, Nat.reduceLeDiff, Nat.reduceMul, Nat.reduceBEq, Nat.reduceSub, Int.reduceLE, Int.reduceToNat, Int.reduceLT, Int.reduceNeg, encSIDBalanceNonce, encSLIDAmountNonce, encSAccounts, encSKindIDAmount, List.map_append, List.length_append, List.length_map, List.map_take, List.map_drop, List.length_drop, List.length_take, Nat.le_refl, true_and]
      refine hK _ ?_
      clear hK K
      try simp only [s_thN, s_thE, s_thR, s_blN, s_blE, s_blM, s_blR, Nat.reduceEqDiff]
      refine sat_seq ?_
      obtain ⟨y7, hr6, y8, y9, hr7, h⟩ := h
      refine sat_region fun K hK => ?_
      simp only [v1, v2, v3, v4, v5, v6, v7, v8, v9, tf1, tu, litOk, appOk, appS, growD, Nat.reduceEqDiff, Nat.reduceLT, Nat.reduceAdd, Nat.reduceLeDiff, Nat.reduceMul, Nat.reduceBEq, Nat.reduceSub, Int.reduceLE, Int.reduceToNat, Int.reduceLT, Int.reduceNeg, encSIDBalanceNonce, encSLIDAmountNonce, encSAccounts, encSKindIDAmount, List.map_append, List.length_append, List.length_map, List.map_take, List.map_drop, List.length_drop, List.length_take, Nat.le_refl, true_and]
      refine a_call [] (moidorelaw44_own_ok p0.L y7 hr6) bd12 (by simp only [v1, v2, v3, v4, v5, v6, v7, v8, v9, tf1, tu, litOk, appOk, appS, growD, Nat.reduceEqDiff, Nat.reduceLT, Nat.reduceAdd, Nat.reduceLeDiff, Nat.reduceMul, Nat.reduceBEq, Nat.reduceSub, Int.reduceLE, Int.reduceToNat, Int.reduceLT, Int.reduceNeg, encSIDBalanceNonce, encSLIDAmountNonce, encSAccounts, encSKindIDAmount, callOk, vl, List.map_append, List.length_append, List.length_map, List.map_take, List.map_drop, List.length_drop, List.length_take, Nat.le_refl, true_and]) ?_
      simp only [v1, v2, v3, v4, v5, v6, v7, v8, v9, tf1, tu, litOk, appOk, appS, growD, Nat.reduceEqDiff, Nat.reduceLT, Nat.reduceAdd, Nat.reduceLeDiff, Nat.reduceMul, Nat.reduceBEq, Nat.reduceSub, Int.reduceLE, Int.reduceToNat, Int.reduceLT, Int.reduceNeg, encSIDBalanceNonce, encSLIDAmountNonce, encSAccounts, encSKindIDAmount, List.map_append, List.length_append, List.length_map, List.map_take, List.map_drop, List.length_drop, List.length_take, Nat.le_refl, true_and]
      refine a_call [] (ledger_Total_ok y7 y8 y9 hr7) bd26 (by simp only [v1, v2, v3, v4, v5, v6, v7, v8, v9, tf1, tu, litOk, appOk, appS, growD, Nat.reduceEqDiff, Nat.reduceLT, Nat.reduceAdd, Nat.reduceLeDiff, Nat.reduceMul, Nat.reduceBEq, Nat.reduceSub, Int.reduceLE, Int.reduceToNat, Int.reduceLT, Int.reduceNeg, encSIDBalanceNonce, encSLIDAmountNonce, encSAccounts, encSKindIDAmount, callOk, vl, List.map_append, List.length_append, List.length_map, List.map_take, List.map_drop, List.length_drop, List.length_take, Nat.le_refl, true_and]) ?_
      simp only [v1, v2, v3, v4, v5, v6, v7, v8, v9, tf1, tu, litOk, appOk, appS, growD, Nat.reduceEqDiff, Nat.reduceLT, Nat.reduceAdd, Nat.reduceLeDiff, Nat.reduceMul, Nat.reduceBEq, Nat.reduceSub, Int.reduceLE, Int.reduceToNat, Int.reduceLT, Int.reduceNeg, encSIDBalanceNonce, encSLIDAmountNonce, encSAccounts, encSKindIDAmount, List.map_append, List.length_append, List.length_map, List.map_take, List.map_drop, List.length_drop, List.length_take, Nat.le_refl, true_and]
      refine hK _ ?_
      clear hK K
      try simp only [s_thN, s_thE, s_thR, s_blN, s_blE, s_blM, s_blR, Nat.reduceEqDiff]
      refine sat_seq ?_
      obtain ⟨y10, y11, hr8, h⟩ := h
      refine sat_region fun K hK => ?_
      simp only [v1, v2, v3, v4, v5, v6, v7, v8, v9, tf1, tu, litOk, appOk, appS, growD, Nat.reduceEqDiff, Nat.reduceLT, Nat.reduceAdd, Nat.reduceLeDiff, Nat.reduceMul, Nat.reduceBEq, Nat.reduceSub, Int.reduceLE, Int.reduceToNat, Int.reduceLT, Int.reduceNeg, encSIDBalanceNonce, encSLIDAmountNonce, encSAccounts, encSKindIDAmount, List.map_append, List.length_append, List.length_map, List.map_take, List.map_drop, List.length_drop, List.length_take, Nat.le_refl, true_and]
      refine a_call [] (moidoreref44_Total_ok p0.L y10 y11 hr8) bd27 (by simp only [v1, v2, v3, v4, v5, v6, v7, v8, v9, tf1, tu, litOk, appOk, appS, growD, Nat.reduceEqDiff, Nat.reduceLT, Nat.reduceAdd, Nat.reduceLeDiff, Nat.reduceMul, Nat.reduceBEq, Nat.reduceSub, Int.reduceLE, Int.reduceToNat, Int.reduceLT, Int.reduceNeg, encSIDBalanceNonce, encSLIDAmountNonce, encSAccounts, encSKindIDAmount, callOk, vl, List.map_append, List.length_append, List.length_map, List.map_take, List.map_drop, List.length_drop, List.length_take, Nat.le_refl, true_and]) ?_
      simp only [v1, v2, v3, v4, v5, v6, v7, v8, v9, tf1, tu, litOk, appOk, appS, growD, Nat.reduceEqDiff, Nat.reduceLT, Nat.reduceAdd, Nat.reduceLeDiff, Nat.reduceMul, Nat.reduceBEq, Nat.reduceSub, Int.reduceLE, Int.reduceToNat, Int.reduceLT, Int.reduceNeg, encSIDBalanceNonce, encSLIDAmountNonce, encSAccounts, encSKindIDAmount, List.map_append, List.length_append, List.length_map, List.map_take, List.map_drop, List.length_drop, List.length_take, Nat.le_refl, true_and]
      refine hK _ ?_
      clear hK K
      try simp only [s_thN, s_thE, s_thR, s_blN, s_blE, s_blM, s_blR, Nat.reduceEqDiff]
      refine sat_seq ?_
      obtain ⟨y12, hr9, h⟩ := h
      refine sat_region fun K hK => ?_
      simp only [v1, v2, v3, v4, v5, v6, v7, v8, v9, tf1, tu, litOk, appOk, appS, growD, Nat.reduceEqDiff, Nat.reduceLT, Nat.reduceAdd, Nat.reduceLeDiff, Nat.reduceMul, Nat.reduceBEq, Nat.reduceSub, Int.reduceLE, Int.reduceToNat, Int.reduceLT, Int.reduceNeg, encSIDBalanceNonce, encSLIDAmountNonce, encSAccounts, encSKindIDAmount, List.map_append, List.length_append, List.length_map, List.map_take, List.map_drop, List.length_drop, List.length_take, Nat.le_refl, true_and]
      refine a_call [] (moidoreref44_Get_ok p0.L p0.ID y12 hr9) bd24 (by simp only [v1, v2, v3, v4, v5, v6, v7, v8, v9, tf1, tu, litOk, appOk, appS, growD, Nat.reduceEqDiff, Nat.reduceLT, Nat.reduceAdd, Nat.reduceLeDiff, Nat.reduceMul, Nat.reduceBEq, Nat.reduceSub, Int.reduceLE, Int.reduceToNat, Int.reduceLT, Int.reduceNeg, encSIDBalanceNonce, encSLIDAmountNonce, encSAccounts, encSKindIDAmount, callOk, vl, List.map_append, List.length_append, List.length_map, List.map_take, List.map_drop, List.length_drop, List.length_take, Nat.le_refl, true_and]) ?_
      simp only [v1, v2, v3, v4, v5, v6, v7, v8, v9, tf1, tu, litOk, appOk, appS, growD, Nat.reduceEqDiff, Nat.reduceLT, Nat.reduceAdd, Nat.reduceLeDiff, Nat.reduceMul, Nat.reduceBEq, Nat.reduceSub, Int.reduceLE, Int.reduceToNat, Int.reduceLT, Int.reduceNeg, encSIDBalanceNonce, encSLIDAmountNonce, encSAccounts, encSKindIDAmount, List.map_append, List.length_append, List.length_map, List.map_take, List.map_drop, List.length_drop, List.length_take, Nat.le_refl, true_and]
      refine hK _ ?_
      clear hK K
      try simp only [s_thN, s_thE, s_thR, s_blN, s_blE, s_blM, s_blR, Nat.reduceEqDiff]
      refine sat_join (ι := Bool) (fun x => ⟨[(2, .d (.bool x))], [], 13⟩) (fun x => moidorelaw44_LedgerGet_J1 r0 x) ?_ ?_
      · refine sat_region fun K hK => ?_
        simp only [v1, v2, v3, v4, v5, v6, v7, v8, v9, tf1, tu, litOk, appOk, appS, growD, Nat.reduceEqDiff, Nat.reduceLT, Nat.reduceAdd, Nat.reduceLeDiff, Nat.reduceMul, Nat.reduceBEq, Nat.reduceSub, Int.reduceLE, Int.reduceToNat, Int.reduceLT, Int.reduceNeg, encSIDBalanceNonce, encSLIDAmountNonce, encSAccounts, encSKindIDAmount, List.map_append, List.length_append, List.length_map, List.map_take, List.map_drop, List.length_drop, List.length_take, Nat.le_refl, true_and]
        refine A_guard_split (by simp only [v1, v2, v3, v4, v5, v6, v7, v8, v9, tf1, tu, litOk, appOk, appS, growD, Nat.reduceEqDiff, Nat.reduceLT, Nat.reduceAdd, Nat.reduceLeDiff, Nat.reduceMul, Nat.reduceBEq, Nat.reduceSub, Int.reduceLE, Int.reduceToNat, Int.reduceLT, Int.reduceNeg, encSIDBalanceNonce, encSLIDAmountNonce, encSAccounts, encSKindIDAmount]; rfl) (fun hg1 => ?_) (fun hg1 => ?_)
        · simp only [v1, v2, v3, v4, v5, v6, v7, v8, v9, tf1, tu, litOk, appOk, appS, growD, Nat.reduceEqDiff, Nat.reduceLT, Nat.reduceAdd, Nat.reduceLeDiff, Nat.reduceMul, Nat.reduceBEq, Nat.reduceSub, Int.reduceLE, Int.reduceToNat, Int.reduceLT, Int.reduceNeg, encSIDBalanceNonce, encSLIDAmountNonce, encSAccounts, encSKindIDAmount, hg1, List.map_append, List.length_append, List.length_map, List.map_take, List.map_drop, List.length_drop, List.length_take, Nat.le_refl, true_and]
          refine A_guard_split (by simp only [v1, v2, v3, v4, v5, v6, v7, v8, v9, tf1, tu, litOk, appOk, appS, growD, Nat.reduceEqDiff, Nat.reduceLT, Nat.reduceAdd, Nat.reduceLeDiff, Nat.reduceMul, Nat.reduceBEq, Nat.reduceSub, Int.reduceLE, Int.reduceToNat, Int.reduceLT, Int.reduceNeg, encSIDBalanceNonce, encSLIDAmountNonce, encSAccounts, encSKindIDAmount, hg1]; rfl) (fun hg2 => ?_) (fun hg2 => ?_)
          · simp only [v1, v2, v3, v4, v5, v6, v7, v8, v9, tf1, tu, litOk, appOk, appS, growD, Nat.reduceEqDiff, Nat.reduceLT, Nat.reduceAdd, Nat.reduceLeDiff, Nat.reduceMul, Nat.reduceBEq, Nat.reduceSub, Int.reduceLE, Int.reduceToNat, Int.reduceLT, Int.reduceNeg, encSIDBalanceNonce, encSLIDAmountNonce, encSAccounts, encSKindIDAmount, hg1, hg2, List.map_append, List.length_append, List.length_map, List.map_take, List.map_drop, List.length_drop, List.length_take, Nat.le_refl, true_and]
            refine A_guard_split (by simp only [v1, v2, v3, v4, v5, v6, v7, v8, v9, tf1, tu, litOk, appOk, appS, growD, Nat.reduceEqDiff, Nat.reduceLT, Nat.reduceAdd, Nat.reduceLeDiff, Nat.reduceMul, Nat.reduceBEq, Nat.reduceSub, Int.reduceLE, Int.reduceToNat, Int.reduceLT, Int.reduceNeg, encSIDBalanceNonce, encSLIDAmountNonce, encSAccounts, encSKindIDAmount, hg1, hg2]; rfl) (fun hg3 => ?_) (fun hg3 => ?_)
            · simp only [v1, v2, v3, v4, v5, v6, v7, v8, v9, tf1, tu, litOk, appOk, appS, growD, Nat.reduceEqDiff, Nat.reduceLT, Nat.reduceAdd, Nat.reduceLeDiff, Nat.reduceMul, Nat.reduceBEq, Nat.reduceSub, Int.reduceLE, Int.reduceToNat, Int.reduceLT, Int.reduceNeg, encSIDBalanceNonce, encSLIDAmountNonce, encSAccounts, encSKindIDAmount, hg1, hg2, hg3, List.map_append, List.length_append, List.length_map, List.map_take, List.map_drop, List.length_drop, List.length_take, Nat.le_refl, true_and]
              refine hK _ ?_
              clear hK K
              try simp only [s_thN, s_thE, s_thR, s_blN, s_blE, s_blM, s_blR, Nat.reduceEqDiff]
              exact ⟨(((y5 == y12.Balance) && (y6 == y12.Nonce)) && (y8 == y10)) && (y9 == y11), h, by simp only [v1, v2, v3, v4, v5, v6, v7, v8, v9, tf1, tu, litOk, appOk, appS, growD, Nat.reduceEqDiff, Nat.reduceLT, Nat.reduceAdd, Nat.reduceLeDiff, Nat.reduceMul, Nat.reduceBEq, Nat.reduceSub, Int.reduceLE, Int.reduceToNat, Int.reduceLT, Int.reduceNeg, encSIDBalanceNonce, encSLIDAmountNonce, encSAccounts, encSKindIDAmount, vl, hg1, hg2, hg3, List.map_append, List.length_append, List.length_map, List.map_take, List.map_drop, List.length_drop, List.length_take, Nat.le_refl, true_and]⟩
            · simp only [v1, v2, v3, v4, v5, v6, v7, v8, v9, tf1, tu, litOk, appOk, appS, growD, Nat.reduceEqDiff, Nat.reduceLT, Nat.reduceAdd, Nat.reduceLeDiff, Nat.reduceMul, Nat.reduceBEq, Nat.reduceSub, Int.reduceLE, Int.reduceToNat, Int.reduceLT, Int.reduceNeg, encSIDBalanceNonce, encSLIDAmountNonce, encSAccounts, encSKindIDAmount, hg1, hg2, hg3, List.map_append, List.length_append, List.length_map, List.map_take, List.map_drop, List.length_drop, List.length_take, Nat.le_refl, true_and]
              refine hK _ ?_
              clear hK K
              try simp only [s_thN, s_thE, s_thR, s_blN, s_blE, s_blM, s_blR, Nat.reduceEqDiff]
              exact ⟨(((y5 == y12.Balance) && (y6 == y12.Nonce)) && (y8 == y10)) && (y9 == y11), h, by simp only [v1, v2, v3, v4, v5, v6, v7, v8, v9, tf1, tu, litOk, appOk, appS, growD, Nat.reduceEqDiff, Nat.reduceLT, Nat.reduceAdd, Nat.reduceLeDiff, Nat.reduceMul, Nat.reduceBEq, Nat.reduceSub, Int.reduceLE, Int.reduceToNat, Int.reduceLT, Int.reduceNeg, encSIDBalanceNonce, encSLIDAmountNonce, encSAccounts, encSKindIDAmount, vl, hg1, hg2, hg3, List.map_append, List.length_append, List.length_map, List.map_take, List.map_drop, List.length_drop, List.length_take, Nat.le_refl, true_and]⟩
          · simp only [v1, v2, v3, v4, v5, v6, v7, v8, v9, tf1, tu, litOk, appOk, appS, growD, Nat.reduceEqDiff, Nat.reduceLT, Nat.reduceAdd, Nat.reduceLeDiff, Nat.reduceMul, Nat.reduceBEq, Nat.reduceSub, Int.reduceLE, Int.reduceToNat, Int.reduceLT, Int.reduceNeg, encSIDBalanceNonce, encSLIDAmountNonce, encSAccounts, encSKindIDAmount, hg1, hg2, List.map_append, List.length_append, List.length_map, List.map_take, List.map_drop, List.length_drop, List.length_take, Nat.le_refl, true_and]
            refine hK _ ?_
            clear hK K
            try simp only [s_thN, s_thE, s_thR, s_blN, s_blE, s_blM, s_blR, Nat.reduceEqDiff]
            exact ⟨(((y5 == y12.Balance) && (y6 == y12.Nonce)) && (y8 == y10)) && (y9 == y11), h, by simp only [v1, v2, v3, v4, v5, v6, v7, v8, v9, tf1, tu, litOk, appOk, appS, growD, Nat.reduceEqDiff, Nat.reduceLT, Nat.reduceAdd, Nat.reduceLeDiff, Nat.reduceMul, Nat.reduceBEq, Nat.reduceSub, Int.reduceLE, Int.reduceToNat, Int.reduceLT, Int.reduceNeg, encSIDBalanceNonce, encSLIDAmountNonce, encSAccounts, encSKindIDAmount, vl, hg1, hg2, List.map_append, List.length_append, List.length_map, List.map_take, List.map_drop, List.length_drop, List.length_take, Nat.le_refl, true_and]⟩
        · simp only [v1, v2, v3, v4, v5, v6, v7, v8, v9, tf1, tu, litOk, appOk, appS, growD, Nat.reduceEqDiff, Nat.reduceLT, Nat.reduceAdd, Nat.reduceLeDiff, Nat.reduceMul, Nat.reduceBEq, Nat.reduceSub, Int.reduceLE, Int.reduceToNat, Int.reduceLT, Int.reduceNeg, encSIDBalanceNonce, encSLIDAmountNonce, encSAccounts, encSKindIDAmount, hg1, List.map_append, List.length_append, List.length_map, List.map_take, List.map_drop, List.length_drop, List.length_take, Nat.le_refl, true_and]
          refine hK _ ?_
          clear hK K
          try simp only [s_thN, s_thE, s_thR, s_blN, s_blE, s_blM, s_blR, Nat.reduceEqDiff]
          exact ⟨(((y5 == y12.Balance) && (y6 == y12.Nonce)) && (y8 == y10)) && (y9 == y11), h, by simp only [v1, v2, v3, v4, v5, v6, v7, v8, v9, tf1, tu, litOk, appOk, appS, growD, Nat.reduceEqDiff, Nat.reduceLT, Nat.reduceAdd, Nat.reduceLeDiff, Nat.reduceMul, Nat.reduceBEq, Nat.reduceSub, Int.reduceLE, Int.reduceToNat, Int.reduceLT, Int.reduceNeg, encSIDBalanceNonce, encSLIDAmountNonce, encSAccounts, encSKindIDAmount, vl, hg1, List.map_append, List.length_append, List.length_map, List.map_take, List.map_drop, List.length_drop, List.length_take, Nat.le_refl, true_and]⟩
      · intro b2 h
        have h : moidorelaw44_LedgerGet_J1 r0 b2 := h
        show Sat _ _ _ _ _ _ ⟨[(2, .d (.bool b2))], [], 13⟩ _
        unfold moidorelaw44_LedgerGet_J1 at h
        subst h
        refine sat_ret (retN [] ?_)
        simp only [v1, v2, v3, v4, v5, v6, v7, v8, v9, tf1, tu, litOk, appOk, appS, growD, Nat.reduceEqDiff, Nat.reduceLT, Nat.reduceAdd, Nat.reduceLeDiff, Nat.reduceMul, Nat.reduceBEq, Nat.reduceSub, Int.reduceLE, Int.reduceToNat, Int.reduceLT, Int.reduceNeg, encSIDBalanceNonce, encSLIDAmountNonce, encSAccounts, encSKindIDAmount, vl, Try.results8, e_sp0, e_sp1, List.map_append, List.length_append, List.length_map, List.map_take, List.map_drop, List.length_drop, List.length_take, Nat.le_refl, true_and]
end Go.Proofs.Ytjaignojekmfgaa
